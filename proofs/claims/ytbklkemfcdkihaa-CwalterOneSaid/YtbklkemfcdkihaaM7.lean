/- Joined texts: Sparse2, Sparse4, Cwalter3, TrieRef, Texts, CwAwake, OccRef. -/
import Derived.Test.YtbklkemfcdkihaaM4
import Derived.ScopeJumps
import Derived.Test.YtbklkemfcdkihaaM6
import Derived.Test.YtbklkemfcdkihaaM3
import Derived.Test.YtbklkemfcdkihaaM2
import Derived.Test.YtbklkemfcdkihaaRefx
import Derived.Lib.SlBytesConst
section
/- The walks of package sparse: a state's path, a step. -/
set_option linter.unusedVariables false
set_option linter.unusedSimpArgs false
namespace Go.Proofs.Ytbklkemfcdkihaa
open Go.RowKit Go.Maps Seine.Trie Seine.Links Seine.Sparse
attribute [local go_sem high] max_two' max2_i
def Cn.looked (c : Cn) (n : Nat) : Cn := { c with l := c.l + (n : Int) }
theorem Cn.looked_zero (c : Cn) : c.looked 0 = c := by unfold Cn.looked; simp
theorem Cn.looked_one (c : Cn) : { c with l := c.l + 1 } = c.looked 1 := rfl
/-- Where a step stands: a shorter state, from which it ends where the first one does. -/
def StepAt (w0 : World) (g : Nat) (P l : List Txt) (mo : Option Nat) (cn : Cn) (s : Txt) (c : UInt8) (s' : Txt) (w : World) : Prop :=
  s' ∈ P ∧ lng P (s' ++ [c]) = lng P (s ++ [c]) ∧ ∃ d, looks1 P s c = d + looks1 P s' c ∧ Mo w mo (cn.looked d) ∧ Keeps (OnlyM mo) w0 w
theorem place_getD {P : List Txt} {s : Txt} (h : s ∈ P) : P.getD (place P s).toNat [] = s := by
  rw [List.getD_eq_getElem?_getD, place_get h]; rfl
theorem Cn.looked_looked (c : Cn) (a b : Nat) : (c.looked a).looked b = c.looked (a + b) := by
  unfold Cn.looked; simp only [Cn.mk.injEq, true_and, and_true]; push_cast; omega
set_option maxRecDepth 100000 in
set_option maxHeartbeats 3200000 in
theorem sstep_calls (w : World) (g eb : Nat) (P l : List Txt) (h : AutoAt w g P l) (mo : Option Nat) (ht : TabS w eb mo P) (cn : Cn) (hm : Mo w mo cn) (hT : Tree P) (hl : P.length ≤ 1000000) (s : Txt) (hs : s ∈ P) (c : UInt8)
    (hok : (cn.looked (looks1 P s c)).ok ∧ cn.ok) :
    Calls Try.prog 46 #[.pointer (some ⟨g, 0, none⟩), .pointer (some ⟨eb, 0, none⟩), .int .i64 (place P s), .int .u8 (c.toNat : Int)] w fun e w' =>
      e = .returned (.int .i64 (place P (lng P (s ++ [c])))) ∧ Mo w' mo (cn.looked (looks1 P s c)) ∧ Keeps (OnlyM mo) w w' := by
  have HA := As.mk h
  have HTab := As.mk ht
  have HM := As.mk hm
  have hTr := As.mk hT
  have hst0 : As (StepAt w g P l mo cn s c s w) := ⟨hs, rfl, 0, by omega, by unfold Cn.looked; simpa using hm, Keeps.refl _ _⟩
  clear h ht hm hT
  go_enter Try.func46, Try.ntmps46
  go_wp2_with fail
  refine wp_scope_jumps 0 (fun a' w' => ∃ (s' : Txt) (u9 u10 u11 u12 u13 u14 u15 u16 u17 u18 u19 u20 u21 u22 u23 u24 u25 u26 u27 : Value), a' = { tmps := #[.pointer (some ⟨g, 0, none⟩), .pointer (some ⟨eb, 0, none⟩), .int .i64 (place P s'), .int .u8 (c.toNat : Int), undef, undef, undef, undef, .int .i64 0, u9, u10, u11, u12, u13, u14, u15, u16, u17, u18, u19, u20, u21, u22, u23, u24, u25, u26, u27], defers := [] } ∧ As (StepAt w g P l mo cn s c s' w')) (fun a' _ => (P.getD (intOf (a'.tmps.getD 2 undef)).toNat []).length) rfl ?_ ?_
  · go_wp2_with fail
    go_step3
    obtain ⟨sp, hspe⟩ : ∃ x, x = s := ⟨_, rfl⟩
    subst hspe
    have hst := hst0
    obtain ⟨hsP, hlng, dl, hdl, hmo, hkp⟩ := hst.out
    obtain ⟨a, ea, ha⟩ := place_nat' hsP
    have hga : P.getD a [] = sp := by rw [List.getD_eq_getElem?_getD, ha]; rfl
    have hal := (List.getElem?_eq_some_iff.1 ha).1
    have hTb' := HTab.out.keep HM.out hkp
    have hAu' := HA.out.keepM HM.out hkp
    obtain ⟨B, h1, h2, h3, h4⟩ := hAu'
    have hlk := As.mk (mlook_calls _ eb mo P hTb' (cn.looked dl) hmo (by have := hok; have := looks1_pos P sp c; unfold Cn.ok Cn.looked at *; simp only at *; omega) a hal hl c)
    rw [hga] at hlk
    rw [ea]
    have hc1 : w.cell? ⟨g, 1, none⟩ = some (.pointer (some ⟨B.lg, 0, none⟩)) := cell_of_blk h1 1
    by_cases hq : sp ++ [c] ∈ P
    · obtain ⟨r, er, _⟩ := place_nat' hq
      have hres := As.mk (show place P (lng P (sp ++ [c])) = (r : Int) by rw [← hlng, step_hit hTr.out hq, er])
      have hlo := looks1_hit hq
      rw [er] at hlk
      have hn1 : decide ((r : Int) < 0) = false := decide_eq_false (by omega)
      have hmx : max (r : Int) 0 = (r : Int) := by omega
      have hdd := As.mk (show looks1 P sp c = dl + 1 by rw [hdl, hlo])
      replace hkp := As.mk hkp
      clear hst h1 h2 h3 h4 hTb' hlng hlo hq hmo
      go_wp2_with (go_at_call 74; refine Calls.mono hlk.out ?_; rintro e w4 ⟨rfl, hm4, hk4⟩; replace hm4 := As.mk hm4; replace hk4 := As.mk hk4)
      simp only [Exit.jump]
      go_ret
      exact ⟨ret_int hres.out.symm, by have hm5 := hm4.out; rw [Cn.looked_one, Cn.looked_looked] at hm5; rw [hdd.out]; exact hm5, hkp.out.trans hk4.out⟩
    · by_cases hs0 : sp = []
      · subst hs0
        have hres := As.mk (show place P (lng P ([] ++ [c])) = 0 by rw [← hlng, List.nil_append, step_root hTr.out (by simpa using hq), place_at hTr.out.nodup hTr.out.root]; rfl)
        have ha0 : a = 0 := by rw [place_at hTr.out.nodup hTr.out.root] at ea; omega
        subst ha0
        rw [place_none hq] at hlk
        have hdd := As.mk (show looks1 P [] c = dl + 1 by rw [hdl, looks1_root])
        replace hkp := As.mk hkp
        clear hst h1 h2 h3 h4 hTb' hlng hq hmo
        go_wp2_with (go_at_call 74; refine Calls.mono hlk.out ?_; rintro e w4 ⟨rfl, hm4, hk4⟩; replace hm4 := As.mk hm4; replace hk4 := As.mk hk4)
        simp only [Exit.jump]
        go_ret
        exact ⟨ret_int hres.out.symm, by have hm5 := hm4.out; rw [Cn.looked_one, Cn.looked_looked] at hm5; rw [hdd.out]; exact hm5, hkp.out.trans hk4.out⟩
      · obtain ⟨m, hf⟩ := fail_some hTr.out hs0
        obtain ⟨f1, f2, f3, f4⟩ := failN_some hf
        have hfall := looks1_fall hq hf
        have hlf := step_fall hTr.out hq hf
        have ha0 : 0 < a := by
          rcases Nat.eq_zero_or_pos a with z | z
          · subst z; rw [hTr.out.root] at ha; injection ha with ha; exact absurd ha.symm hs0
          · exact z
        have hff : failF P sp = place P (sp.drop m) := by unfold failF; rw [hf]
        have ha1 : decide (0 < (a : Int)) = true := decide_eq_true (by omega)
        rw [place_none hq] at hlk
        have hlen := As.mk (show (sp.drop m).length < sp.length by rw [List.length_drop]; omega)
        have hnxt := As.mk (fun w4 (hm4 : Mo w4 mo { cn.looked dl with l := (cn.looked dl).l + 1 }) (hk4 : Keeps (OnlyM mo) w w4) => (⟨f3, by rw [← hlf, hlng], dl + 1, by rw [hdl, hfall]; omega, by rw [Cn.looked_one, Cn.looked_looked] at hm4; exact hm4, hkp.trans hk4⟩ : StepAt w g P l mo cn sp c (sp.drop m) w4))
        have hfc := As.mk (fun w4 (hk4 : Keeps (OnlyM mo) w w4) => (by have := lfail_calls w4 B.lb B.lg P _ _ _ _ (LinksAt.keepM h3 hmo hk4) (a : Int); unfold askF at this; rw [if_pos (by omega), Int.toNat_natCast, hga, hff] at this; exact this : Calls Try.prog 75 #[.pointer (some ⟨B.lg, 0, none⟩), .int .i64 (a : Int)] w4 fun e w' => e = .returned (.int .i64 (place P (sp.drop m))) ∧ w4 = w'))
        have hgk := As.mk (fun w4 (hk4 : Keeps (OnlyM mo) w w4) => (blk_keep h1 hk4 (hmo.far h1 (.inl (by simp)))))
        generalize sp.drop m = s2 at *
        clear hst h1 h2 h3 h4 hTb' hlng hq hmo hf f4 hfall hlf hff
        go_wp2_with (first
          | (go_at_call 74; refine Calls.mono hlk.out ?_; rintro e w4 ⟨rfl, hm4, hk4⟩; have hg4 := cell_of_blk (hgk.out w4 hk4) 1; simp only [List.getElem?_toArray, List.getElem?_cons_succ, List.getElem?_cons_zero] at hg4)
          | (go_at_call 75; refine Calls.mono (hfc.out _ hk4) ?_; rintro e w5 ⟨rfl, rfl⟩))
        go_step3
        exact ⟨rfl, s2, _, _, _, _, _, _, _, _, _, _, _, _, _, _, _, _, _, _, _, rfl, ⟨hnxt.out _ hm4 hk4⟩⟩
  · rintro a' wr ⟨sp, u9, u10, u11, u12, u13, u14, u15, u16, u17, u18, u19, u20, u21, u22, u23, u24, u25, u26, u27, rfl, hst⟩
    obtain ⟨hsP, hlng, dl, hdl, hmo, hkp⟩ := hst.out
    obtain ⟨a, ea, ha⟩ := place_nat' hsP
    have hga : P.getD a [] = sp := by rw [List.getD_eq_getElem?_getD, ha]; rfl
    have hal := (List.getElem?_eq_some_iff.1 ha).1
    have hTb' := HTab.out.keep HM.out hkp
    have hAu' := HA.out.keepM HM.out hkp
    obtain ⟨B, h1, h2, h3, h4⟩ := hAu'
    have hlk := As.mk (mlook_calls _ eb mo P hTb' (cn.looked dl) hmo (by have := hok; have := looks1_pos P sp c; unfold Cn.ok Cn.looked at *; simp only at *; omega) a hal hl c)
    rw [hga] at hlk
    rw [ea]
    have hc1 : wr.cell? ⟨g, 1, none⟩ = some (.pointer (some ⟨B.lg, 0, none⟩)) := cell_of_blk h1 1
    by_cases hq : sp ++ [c] ∈ P
    · obtain ⟨r, er, _⟩ := place_nat' hq
      have hres := As.mk (show place P (lng P (s ++ [c])) = (r : Int) by rw [← hlng, step_hit hTr.out hq, er])
      have hlo := looks1_hit hq
      rw [er] at hlk
      have hn1 : decide ((r : Int) < 0) = false := decide_eq_false (by omega)
      have hmx : max (r : Int) 0 = (r : Int) := by omega
      have hdd := As.mk (show looks1 P s c = dl + 1 by rw [hdl, hlo])
      replace hkp := As.mk hkp
      clear hst h1 h2 h3 h4 hTb' hlng hlo hq hmo
      go_wp2_with (go_at_call 74; refine Calls.mono hlk.out ?_; rintro e w4 ⟨rfl, hm4, hk4⟩; replace hm4 := As.mk hm4; replace hk4 := As.mk hk4)
      simp only [Exit.jump]
      go_ret
      exact ⟨ret_int hres.out.symm, by have hm5 := hm4.out; rw [Cn.looked_one, Cn.looked_looked] at hm5; rw [hdd.out]; exact hm5, hkp.out.trans hk4.out⟩
    · by_cases hs0 : sp = []
      · subst hs0
        have hres := As.mk (show place P (lng P (s ++ [c])) = 0 by rw [← hlng, List.nil_append, step_root hTr.out (by simpa using hq), place_at hTr.out.nodup hTr.out.root]; rfl)
        have ha0 : a = 0 := by rw [place_at hTr.out.nodup hTr.out.root] at ea; omega
        subst ha0
        rw [place_none hq] at hlk
        have hdd := As.mk (show looks1 P s c = dl + 1 by rw [hdl, looks1_root])
        replace hkp := As.mk hkp
        clear hst h1 h2 h3 h4 hTb' hlng hq hmo
        go_wp2_with (go_at_call 74; refine Calls.mono hlk.out ?_; rintro e w4 ⟨rfl, hm4, hk4⟩; replace hm4 := As.mk hm4; replace hk4 := As.mk hk4)
        simp only [Exit.jump]
        go_ret
        exact ⟨ret_int hres.out.symm, by have hm5 := hm4.out; rw [Cn.looked_one, Cn.looked_looked] at hm5; rw [hdd.out]; exact hm5, hkp.out.trans hk4.out⟩
      · obtain ⟨m, hf⟩ := fail_some hTr.out hs0
        obtain ⟨f1, f2, f3, f4⟩ := failN_some hf
        have hfall := looks1_fall hq hf
        have hlf := step_fall hTr.out hq hf
        have ha0 : 0 < a := by
          rcases Nat.eq_zero_or_pos a with z | z
          · subst z; rw [hTr.out.root] at ha; injection ha with ha; exact absurd ha.symm hs0
          · exact z
        have hff : failF P sp = place P (sp.drop m) := by unfold failF; rw [hf]
        have ha1 : decide (0 < (a : Int)) = true := decide_eq_true (by omega)
        rw [place_none hq] at hlk
        have hlen := As.mk (show (sp.drop m).length < sp.length by rw [List.length_drop]; omega)
        have hnxt := As.mk (fun w4 (hm4 : Mo w4 mo { cn.looked dl with l := (cn.looked dl).l + 1 }) (hk4 : Keeps (OnlyM mo) wr w4) => (⟨f3, by rw [← hlf, hlng], dl + 1, by rw [hdl, hfall]; omega, by rw [Cn.looked_one, Cn.looked_looked] at hm4; exact hm4, hkp.trans hk4⟩ : StepAt w g P l mo cn s c (sp.drop m) w4))
        have hfc := As.mk (fun w4 (hk4 : Keeps (OnlyM mo) wr w4) => (by have := lfail_calls w4 B.lb B.lg P _ _ _ _ (LinksAt.keepM h3 hmo hk4) (a : Int); unfold askF at this; rw [if_pos (by omega), Int.toNat_natCast, hga, hff] at this; exact this : Calls Try.prog 75 #[.pointer (some ⟨B.lg, 0, none⟩), .int .i64 (a : Int)] w4 fun e w' => e = .returned (.int .i64 (place P (sp.drop m))) ∧ w4 = w'))
        have hgk := As.mk (fun w4 (hk4 : Keeps (OnlyM mo) wr w4) => (blk_keep h1 hk4 (hmo.far h1 (.inl (by simp)))))
        generalize sp.drop m = s2 at *
        clear hst h1 h2 h3 h4 hTb' hlng hq hmo hf f4 hfall hlf hff
        go_wp2_with (first
          | (go_at_call 74; refine Calls.mono hlk.out ?_; rintro e w4 ⟨rfl, hm4, hk4⟩; have hg4 := cell_of_blk (hgk.out w4 hk4) 1; simp only [List.getElem?_toArray, List.getElem?_cons_succ, List.getElem?_cons_zero] at hg4)
          | (go_at_call 75; refine Calls.mono (hfc.out _ hk4) ?_; rintro e w5 ⟨rfl, rfl⟩))
        go_step3
        exact ⟨rfl, ⟨s2, _, _, _, _, _, _, _, _, _, _, _, _, _, _, _, _, _, _, _, rfl, ⟨hnxt.out _ hm4 hk4⟩⟩, by show (P.getD (place P s2).toNat []).length < (P.getD ((a : Int)).toNat []).length; rw [Int.toNat_natCast, hga, place_getD f3]; exact hlen.out⟩
end Go.Proofs.Ytbklkemfcdkihaa
end
section
/- The walk of sparse.Scan. -/
set_option linter.unusedVariables false
set_option linter.unusedSimpArgs false
namespace Go.Proofs.Ytbklkemfcdkihaa
open Go.RowKit Go.Maps Seine.Trie Seine.Links Seine.Sparse
open Seine.Sort (sortP sortP_len)
/-- A counting that has room. -/
def Cn.room (c : Cn) : Prop := 0 ≤ c.s ∧ c.s ≤ 100000000000 ∧ 0 ≤ c.l ∧ c.l ≤ 100000000000 ∧ 0 ≤ c.h ∧ c.h ≤ 100000000000 ∧ 0 ≤ c.m ∧ c.m ≤ 100000000000
def Cn.more (c : Cn) (i k : Nat) : Cn := ⟨c.s + (i : Int), c.l + (k : Int), c.h, c.m⟩
theorem Cn.more_zero (c : Cn) : c.more 0 0 = c := by unfold Cn.more; simp
theorem Cn.more_ok {c : Cn} (h : c.room) {i k : Nat} (hi : i ≤ 1000000) (hk : k ≤ 2000000) : (c.more i k).ok := by unfold Cn.room at h; unfold Cn.more Cn.ok; simp only; omega
theorem Keeps.transBelow {S : Nat → Prop} {w0 wr w4 : World} (h : Keeps S w0 wr) (k : Below w0.heap.size wr w4) : Keeps S w0 w4 :=
  ⟨k.os.trans h.os, k.tape.trans h.tape, k.output.trans h.output, Nat.le_trans h.size k.size, fun i hi hn => (k.block i hi).trans (h.block i hi hn)⟩
theorem Mo.belowAt {w w' : World} {mo : Option Nat} {c : Cn} {base : Nat} (h : Mo w mo c) (hlt : ∀ g, mo = some g → g < base) (hb : Below base w w') : Mo w' mo c := fun g e => (hb.block g (hlt g e)).trans (h g e)
theorem OwnPrs.row2 {w : World} {base : Nat} {v : Value} {xs : List Pr} (h : OwnPrs w base v xs) : ∃ A c, v = .slice A xs.length c ∧ xs.length ≤ c ∧ c ≤ maxLen ∧ Prs w A xs := by
  obtain ⟨A, c, rfl, hc, hr⟩ := OwnPrs.row h
  refine ⟨A, c, rfl, hc, ?_, hr⟩
  rcases h.2 with ⟨hv, _⟩ | ⟨g, cap, cur, hv, _, _, _, hcm, _⟩
  · injection hv with _ _ h; omega
  · injection hv with _ _ h; omega
/-- Pairs in new memory; all that was there stays, but for what counts. -/
def RetPrsM (w : World) (mo : Option Nat) (xs : List Pr) (cn : Cn) (e : Ending) (w' : World) : Prop := ∃ v, e = .returned v ∧ OwnPrs w' w.heap.size v xs ∧ Mo w' mo cn ∧ Keeps (OnlyM mo) w w'
theorem RetPrsM.out {w w' : World} {mo : Option Nat} {xs : List Pr} {cn : Cn} {e : Ending} (h : RetPrsM w mo xs cn e w') : ∃ A c, e = .returned (.slice A xs.length c) ∧ xs.length ≤ c ∧ c ≤ maxLen ∧ Prs w' A xs ∧ Mo w' mo cn ∧ Keeps (OnlyM mo) w w' ∧ OwnPrs w' w.heap.size (.slice A xs.length c) xs := by
  obtain ⟨v, rfl, ho, hm, hk⟩ := h
  obtain ⟨A, c, rfl, hc, hcm, hr⟩ := OwnPrs.row2 ho
  exact ⟨A, c, rfl, hc, hcm, hr, hm, hk, ho⟩
/-- What a scan hands from byte to byte. -/
structure ScanAt (w wr : World) (P l : List Txt) (L : Txt) (mo : Option Nat) (cn : Cn) (i : Nat) (v : Value) : Prop where
  own : OwnPrs wr w.heap.size v (hitsTo P l L i)
  mt : Mo wr mo (cn.more i (looksTo P L i))
  keep : Keeps (OnlyM mo) w wr
theorem sscan_none (w : World) (mv lv : Value) : Calls Try.prog 22 #[.pointer none, mv, lv] w fun e w' => e = .returned (.slice none 0 0) ∧ w = w' := by
  go_enter Try.func22, Try.ntmps22
  go_wp2
  go_ret
  exact ⟨rfl, rfl⟩
theorem RetInts.out {w w' : World} {xs : List Int} {e : Ending} (h : RetInts w xs e w') : ∃ v, e = .returned v ∧ OwnInts w' w.heap.size v xs ∧ Below w.heap.size w w' := h
theorem endsAt_eq {P l : List Txt} (hT : Tree P) (t : Txt) : endsAt P l (place P (lng P t)) = endsF l (lng P t) := by
  obtain ⟨a, ea, ha⟩ := place_nat' (lng_mem hT t)
  rw [ea]; exact endsAt_place hT ha
theorem endsF_range {l : List Txt} {s : Txt} {n : Int} (h : n ∈ endsF l s) : 1 ≤ n ∧ n ≤ s.length := by
  obtain ⟨k, h1, _, rfl⟩ := mem_endsF.1 h; omega
set_option maxRecDepth 100000 in
set_option maxHeartbeats 3200000 in
theorem sscan_calls (w : World) (g : Nat) (P l : List Txt) (h : AutoAt w g P l) (mo : Option Nat) (cn : Cn) (hm : Mo w mo cn) (hok : cn.room) (hT : Tree P) (hlP : ∀ x, x ∈ l → x ∈ P) (m : Nat) (hpm : ∀ p ∈ P, p.length ≤ m) (hm1 : m ≤ 100000) (hl : P.length ≤ 1000000)
    (A : Option Addr) (c : Nat) (L : Txt) (hx : Byt w A L) (hL : L.length ≤ 1000000) (hLm : L.length * m ≤ 1000000) :
    Calls Try.prog 22 #[.pointer (some ⟨g, 0, none⟩), .pointer (madr mo), .slice A L.length c] w (RetPrsM w mo (sortP (hitsTo P l L L.length)) (cn.more L.length (looksTo P L L.length))) := by
  have HA := As.mk h
  have HM := As.mk hm
  have hTr := As.mk hT
  have ctx := As.mk (fun v (hv : Below w.heap.size w v) => mtext_calls v mo cn (HM.out.below hv) A c L (Row.below hx hv) hL)
  obtain ⟨B, h1, h2, h3, h4⟩ := h
  obtain ⟨Av, cv, hv, hcv⟩ := own_slice h4
  have hrow := Row.of_own (by rw [hv] at h4; exact h4)
  have csp := As.mk (fun v (hb : Below w.heap.size w v) => msparse_calls v mo Av cv (P.length - 1) P hT hl (Row.below hrow hb) rfl)
  have hc2 := As.mk (fun v (hb : Below w.heap.size w v) => (show v.cell? ⟨g, 2, none⟩ = some (.slice Av (P.length - 1) cv) by rw [← hv]; exact cell_of_blk (blkBelow hb h1) 2))
  have d0 := hc2.out _ ((Below.refl _ _).drew)
  obtain ⟨n, hn⟩ : ∃ k, L.length = k := ⟨_, rfl⟩
  obtain ⟨pl, hpl⟩ : ∃ k, P.length - 1 = k := ⟨_, rfl⟩
  rw [hn] at ctx hL hLm ⊢
  rw [hpl] at csp hc2 d0
  have hn' := As.mk hn
  have hpm' := As.mk hpm
  have hlP' := As.mk hlP
  have hpl' := As.mk hpl
  clear h1 h2 h3 h4 hv hrow hm hT hx hn hpm hlP hpl
  go_enter Try.func22, Try.ntmps22
  go_wp2_with fail
  go_cut [7, 8] (fun v7 v8 wx => ∃ tb eb, v7 = .pointer (some ⟨tb, 0, none⟩) ∧ v8 = .pointer (some ⟨eb, 0, none⟩) ∧ As (TextAt wx tb mo L) ∧ As (TabS wx eb mo P) ∧ As (Below w.heap.size w wx))
  case first =>
    have hwd : Below w.heap.size w w.drew := (Below.refl _ _).drew
    go_region_with (first
      | (go_at_call 43; with_reducible refine Calls.mono (ctx.out _ ?hv) ?_; (case hv => with_reducible assumption); rintro e w1 ⟨tb, rfl, ht1, hb1⟩; have hw1 : Below w.heap.size w w1 := belowNext (by with_reducible assumption) hb1; have d1 := hc2.out _ hw1)
      | (go_at_call 44; with_reducible refine Calls.mono (csp.out _ ?hv) ?_; (case hv => with_reducible assumption); rintro e w2 ⟨eb, rfl, ht2, hb2⟩; have hw2 : Below w.heap.size w w2 := belowNext (by with_reducible assumption) hb2))
    all_goals
      go_wp2_with fail
      go_meet
      case rel => first
        | exact ⟨tb, eb, rfl, rfl, ⟨ht1.below hb2⟩, ⟨ht2⟩, ⟨hw2⟩⟩
        | exact ⟨tb, eb, rfl, rfl, ⟨ht1⟩, ⟨ht2.below hb1⟩, ⟨hw1⟩⟩
  case rest =>
    obtain ⟨tb, eb, rfl, rfl, hTx, hTab, hbw⟩ := hcut
    obtain ⟨W0, hW0⟩ : ∃ W, wc = W := ⟨_, rfl⟩
    rw [hW0] at hTx hTab hbw ⊢
    clear hW0 ctx csp hc2 d0
    have hA0 := As.mk (HA.out.below hbw.out)
    have hM0 := As.mk (HM.out.below hbw.out)
    have hglt := As.mk (fun g (e : mo = some g) => (block_lt (hM0.out g e) : g < W0.heap.size))
    have clen := As.mk (mlen_calls W0 tb mo L hTx.out)
    rw [hn'.out] at clen
    have hS0 : As (ScanAt W0 W0 P l L mo cn 0 (.slice none 0 0)) := ⟨⟨World.ownsRow_nil _ _ _ _, by rw [show looksTo P L 0 = 0 from rfl, Cn.more_zero]; exact hM0.out, Keeps.refl _ _⟩⟩
    have hp0 : place P (lng P (L.take 0)) = 0 := by rw [List.take_zero, lng_nil, place_at hTr.out.nodup hTr.out.root]; rfl
    go_wp2_with (go_at_call 45; refine Calls.mono clen.out ?_; rintro e w' ⟨rfl, rfl⟩)
    go_loopg [9, 10, 27] (n + 1) (fun gk v9 v10 v27 wr => ∃ (i : Nat) (u : Value), u = v9 ∧ As (n + 1 ≤ gk + i) ∧ i ≤ n ∧ v27 = .int .i64 i ∧ v10 = .int .i64 (place P (lng P (L.take i))) ∧ As (ScanAt W0 wr P l L mo cn i u))
    case atStart => exact ⟨0, _, rfl, ⟨by omega⟩, Nat.zero_le _, rfl, by rw [hp0], hS0⟩
    case round =>
      obtain ⟨i, u, rfl, hgk, hi, rfl, rfl, hS⟩ := hrel
      by_cases hlt : i < n
      · obtain ⟨gp, rfl⟩ : ∃ gp, gk = gp + 1 := ⟨gk - 1, by have := hgk.out; omega⟩
        have hlook := looksTo_cost hTr.out L (i + 1) (by rw [hn'.out]; omega)
        have hlook0 := looksTo_cost hTr.out L i (by rw [hn'.out]; omega)
        have cat := As.mk (mat_calls wr tb mo L (hTx.out.keep hM0.out hS.out.keep) _ hS.out.mt (Cn.more_ok hok (by omega) (by omega)) i (by rw [hn'.out]; exact hlt))
        have hsm := lng_mem hTr.out (L.take i)
        have hsx : looksTo P L (i + 1) = looksTo P L i + looks1 P (lng P (L.take i)) (L.getD i 0) := rfl
        have hnx : lng P (lng P (L.take i) ++ [L.getD i 0]) = lng P (L.take (i + 1)) := by rw [take_snoc' L i (by rw [hn'.out]; exact hlt), ← lng_step hTr.out]
        have cst := As.mk (fun v (hk : Keeps (OnlyM mo) W0 v) (hmv : Mo v mo (cn.more (i + 1) (looksTo P L i))) => sstep_calls v g eb P l (hA0.out.keepM hM0.out hk) mo (hTab.out.keep hM0.out hk) _ hmv hTr.out hl _ hsm (L.getD i 0) ⟨by
          have h1 : (cn.more (i + 1) (looksTo P L i)).looked (looks1 P (lng P (L.take i)) (L.getD i 0)) = cn.more (i + 1) (looksTo P L (i + 1)) := by rw [hsx]; unfold Cn.more Cn.looked; simp only [Cn.mk.injEq, true_and, and_true]; push_cast; omega
          rw [h1]; exact Cn.more_ok hok (by omega) (by omega), Cn.more_ok hok (by omega) (by omega)⟩)
        have hlk : (cn.more (i + 1) (looksTo P L i)).looked (looks1 P (lng P (L.take i)) (L.getD i 0)) = cn.more (i + 1) (looksTo P L (i + 1)) := by rw [hsx]; unfold Cn.more Cn.looked; simp only [Cn.mk.injEq, true_and, and_true]; push_cast; omega
        rw [hnx, hlk] at cst
        have hmS : { cn.more i (looksTo P L i) with s := (cn.more i (looksTo P L i)).s + 1 } = cn.more (i + 1) (looksTo P L i) := by unfold Cn.more; simp only [Cn.mk.injEq, true_and, and_true]; push_cast; omega
        rw [hmS] at cat
        have hendE := endsAt_eq (l := l) hTr.out (L.take (i + 1))
        have hEl := endsF_len l (lng P (L.take (i + 1)))
        have hEm := hpm'.out _ (lng_mem hTr.out (L.take (i + 1)))
        have hEr := As.mk (fun z (hz : z ∈ endsF l (lng P (L.take (i + 1)))) => endsF_range hz)
        have hh : hitsTo P l L (i + 1) = hitsTo P l L i ++ (endsF l (lng P (L.take (i + 1)))).map fun z => (((i + 1 : Nat) : Int) - z, ((i + 1 : Nat) : Int)) := rfl
        have hhl := hitsTo_len (l := l) hTr.out L m hpm'.out i
        have hll := lng_len hTr.out (L.take (i + 1))
        rw [List.length_take, hn'.out] at hll
        have cen := As.mk (fun v (hk : Keeps (OnlyM mo) W0 v) => (by
          obtain ⟨B, h1, h2, h3, h4⟩ := hA0.out.keepM hM0.out hk
          have := lends_calls v B.lb B.lg P l hTr.out hlP'.out (fun p hp => Nat.le_trans (hpm'.out p hp) hm1) h3 (place P (lng P (L.take (i + 1))))
          rw [hendE] at this
          exact ⟨_, cell_of_blk h1 1, this⟩ : ∃ lg, v.cell? ⟨g, 1, none⟩ = some (.pointer (some ⟨lg, 0, none⟩)) ∧ Calls Try.prog 48 #[.pointer (some ⟨lg, 0, none⟩), .int .i64 (place P (lng P (L.take (i + 1))))] v (RetInts v (endsF l (lng P (L.take (i + 1)))))))
        generalize endsF l (lng P (L.take (i + 1))) = E at *
        obtain ⟨st2, hst2⟩ : ∃ x, place P (lng P (L.take (i + 1))) = x := ⟨_, rfl⟩
        rw [hst2] at cst hendE cen
        replace hst2 := As.mk hst2
        generalize place P (lng P (L.take i)) = st1 at *
        generalize L.getD i 0 = x at *
        have hwx : IntKind.u8.wrap (x.toNat : Int) = (x.toNat : Int) := by have := x.toNat_lt; simp only [IntKind.wrap, IntKind.signed, IntKind.bits]; simp; omega
        replace hh := As.mk hh
        clear hsx hnx hlk hmS hendE hsm hlook hlook0
        go_wp2_with (first
          | (go_at_call 47; refine Calls.mono cat.out ?_; rintro e w4 ⟨rfl, hm4, hk4⟩; have hk4' := hS.out.keep.trans hk4)
          | (go_at_call 46; refine Calls.mono (cst.out _ hk4' hm4) ?_; rintro e w5 ⟨rfl, hm5, hk5⟩; have hk5' := hk4'.trans hk5; obtain ⟨lg, hlg, cE⟩ := cen.out _ hk5')
          | (go_at_call 48; refine Calls.mono cE ?_; intro e w6 h6; obtain ⟨vE, heE, hoE, hb6⟩ := h6.out; subst heE; obtain ⟨AE, cE', rfl, hcE⟩ := own_slice hoE))
        obtain ⟨H, hH⟩ : ∃ H, hitsTo P l L i = H := ⟨_, rfl⟩
        obtain ⟨hSo, hSm, hSk⟩ := hS.out
        rw [hH] at hSo hh hhl
        obtain ⟨el, hel⟩ : ∃ k, E.length = k := ⟨_, rfl⟩
        have hown6 : OwnPrs w6 W0.heap.size u H := own_below (own_keep (own_keep hSo hk4 (fun b c' _ hb _ => hSm.far hb (.inr (by decide)))) hk5 (fun b c' _ hb _ => hm4.far hb (.inr (by decide)))) hb6
        have hin : As (OwnPrs w6 W0.heap.size u (H ++ (E.take 0).map fun z => (((i + 1 : Nat) : Int) - z, ((i + 1 : Nat) : Int)))) := ⟨by rw [List.take_zero, List.map_nil, List.append_nil]; exact hown6⟩
        have hmo6 := As.mk (hm5.below hb6)
        have hkp6 := As.mk (hk5'.trans (Keeps.of_below hb6 _))
        have hoE' := As.mk hoE
        have hW5 := hk5'.size
        rw [hel] at hcE ⊢
        have hHl : As (H.length + el ≤ 1000000) := ⟨by
          have : (i + 1) * m ≤ n * m := Nat.mul_le_mul_right _ (by omega)
          rw [Nat.succ_mul] at this
          omega⟩
        have hel6 : el ≤ 1000000 := by have := hHl.out; omega
        replace hel := As.mk hel
        replace hH := As.mk hH
        clear cat cst cen cE hm4 hk4 hk4' hm5 hk5 hk5' hb6 h6 hoE hown6 hS hSo hSm hSk hhl hlg
        go_loopg [9, 45] (el + 1) (fun g2 v9 v45 wq => ∃ (j : Nat) (u2 : Value), u2 = v9 ∧ As (el + 1 ≤ g2 + j) ∧ j ≤ el ∧ v45 = .int .i64 j ∧ As (OwnPrs wq W0.heap.size u2 (H ++ (E.take j).map fun z => (((i + 1 : Nat) : Int) - z, ((i + 1 : Nat) : Int)))) ∧ As (Mo wq mo (cn.more (i + 1) (looksTo P L (i + 1)))) ∧ As (Keeps (OnlyM mo) W0 wq) ∧ As (wq.ownsRow w5.heap.size 3 1 (.slice AE el cE') el (intVals E)))
        case atStart => exact ⟨0, _, rfl, ⟨by omega⟩, Nat.zero_le _, rfl, hin, hmo6, hkp6, ⟨by rw [← hel.out]; exact hoE'.out⟩⟩
        case round =>
          obtain ⟨j, u2, rfl, hgk2, hj, rfl, hown, hmq, hkq, hoq⟩ := hrel
          by_cases hjl : j < el
          · obtain ⟨gq, rfl⟩ : ∃ gq, gk = gq + 1 := ⟨gk - 1, by have := hgk2.out; omega⟩
            obtain ⟨ad, rfl, hc0⟩ := Ints.at_ (Row.of_own hoq.out) (i := j) (by rw [hel.out]; exact hjl)
            have hjE : j < E.length := by rw [hel.out]; exact hjl
            have hzz := hEr.out (E.getD j 0) (by rw [List.getD_eq_getElem?_getD, List.getElem?_eq_getElem hjE]; exact List.getElem_mem hjE)
            have htk : (E.take (j + 1)).map (fun z => (((i + 1 : Nat) : Int) - z, ((i + 1 : Nat) : Int))) = (E.take j).map (fun z => (((i + 1 : Nat) : Int) - z, ((i + 1 : Nat) : Int))) ++ [(((i + 1 : Nat) : Int) - E.getD j 0, ((i + 1 : Nat) : Int))] := by
              rw [List.take_succ_eq_append_getElem hjE, List.map_append, List.getD_eq_getElem?_getD, List.getElem?_eq_getElem hjE]; rfl
            have hql : (H ++ (E.take j).map fun z => (((i + 1 : Nat) : Int) - z, ((i + 1 : Nat) : Int))).length + 1 ≤ 1000000 := by
              rw [List.length_append, List.length_map, List.length_take]
              have := hHl.out; omega
            generalize (E.take j).map (fun z => (((i + 1 : Nat) : Int) - z, ((i + 1 : Nat) : Int))) = Q at *
            generalize E.getD j 0 = z at *
            obtain ⟨ql, hqq⟩ : ∃ k, (H ++ Q).length = k := ⟨_, rfl⟩
            rw [hqq] at hql
            have hown' : wr.ownsRow W0.heap.size 41 2 u2 ql (prCells (H ++ Q)) := by have := hown.out; unfold OwnPrs at this; rwa [hqq] at this
            have hz0 := hzz.1
            have hz1 := hzz.2
            have hsq := hkq.out.size
            have hwz : IntKind.i64.wrap ((i : Int) + 1 - z) = (i : Int) + 1 - z := by simp only [IntKind.wrap, IntKind.signed, IntKind.bits]; simp; omega
            replace hown' := As.mk hown'
            replace hqq := As.mk hqq
            replace htk := As.mk htk
            clear hjE hzz hown
            go_wp2_with (at_builtin
                         (refine wpList_app1 wr rfl (.tmp 49) (.tmp 57) 30 rfl W0.heap.size 41 _ 2 16 Try.underlying30 info_pr rfl (by decide) u2 ql (prCells (H ++ Q)) rfl hown'.out [.int .i64 ((i : Int) + 1 - z), .int .i64 ((i : Int) + 1)] rfl (by simp [Value.oneCell']) _ rfl (by simp) (by omega) (by decide) hsq ?_)
                         intro v8 w8 ho8 hk8 _ hb8)
            have hoq8 := own_keep hoq.out hk8 (fun b c' _ hb _ hS => own_not_type hown'.out hb (by decide) hS)
            have hkq8 := hkq.out.transBelow hb8
            have hmq8 := hmq.out.belowAt hglt.out hb8
            go_roundg gq
            case rel =>
              refine ⟨j + 1, _, rfl, ⟨by have := hgk2.out; omega⟩, by omega, (by first | rfl | go_num | (congr 1; omega)), ⟨?_⟩, ⟨hmq8⟩, ⟨hkq8⟩, ⟨hoq8⟩⟩
              rw [htk.out, ← List.append_assoc]
              unfold OwnPrs
              rw [List.length_append, hqq.out, List.length_singleton, prCells_snoc]
              push_cast
              exact ho8
            case measure => omega
          · obtain rfl : el = j := by omega
            have hfin : As (ScanAt W0 wr P l L mo cn (i + 1) u2) := ⟨⟨by rw [hh.out]; have := hown.out; rw [List.take_of_length_le (by rw [hel.out]; exact Nat.le_refl _)] at this; exact this, hmq.out, hkq.out⟩⟩
            go_wp2
            go_roundg gp
            case rel => exact ⟨i + 1, _, rfl, ⟨by have := hgk.out; omega⟩, by omega, (by first | rfl | go_num | (congr 1; omega)), congrArg _ hst2.out.symm, hfin⟩
            case measure => omega
      · obtain rfl : n = i := by omega
        have hhl := hitsTo_len (l := l) hTr.out L m hpm'.out n
        have hso : RetPrsM w mo (sortP (hitsTo P l L n)) (cn.more n (looksTo P L n)) = RetPrsM w mo (sortP (hitsTo P l L n)) (cn.more n (looksTo P L n)) := rfl
        have hSo := hS.out.own
        have hSm := As.mk hS.out.mt
        have hSk := As.mk hS.out.keep
        obtain ⟨Ao, co, rfl, hco, hcm, hro⟩ := OwnPrs.row2 hSo
        have cso := As.mk (sort_calls _ Ao co (hitsTo P l L n) wr (Nat.le_refl _) hro hco hcm (by omega))
        have hss := hS.out.keep.size
        clear hSo hro hS hso
        generalize sortP (hitsTo P l L n) = R at *
        go_wp2_with (go_at_call 26; refine Calls.mono cso.out ?_; intro e w9 h9; obtain ⟨v9, he, ho9, hb9⟩ := h9.out; subst he)
        go_ret
        have hs0 := hbw.out.size
        exact ⟨v9, rfl, own_base ho9 (by omega), hSm.out.below hb9, ((Keeps.of_below hbw.out _).trans hSk.out).trans (Keeps.of_below hb9 _)⟩
end Go.Proofs.Ytbklkemfcdkihaa
end
section
/- The walks of package cwalter: a scan, where the windows end. -/
set_option linter.unusedVariables false
set_option linter.unusedSimpArgs false
namespace Go.Proofs.Ytbklkemfcdkihaa
open Go.RowKit Seine.Trie Seine.Links Seine.Cw
open Seine.Sort (sortP occ)
theorem RetPI.open_ {w w' : World} {xs : List Pr} {ys : List Int} {e : Ending} (h : RetPI w xs ys e w') : ∃ v u, e = .returned (.tuple #[v, u]) ∧ OwnPrs w' w.heap.size v xs ∧ OwnInts w' w.heap.size u ys ∧ Below w.heap.size w w' := h
set_option maxRecDepth 100000 in
theorem cwalk_void (w : World) (g : Nat) (h : WalkAt w g []) (A : Option Addr) (c : Nat) (L : Txt) :
    Calls Try.prog 25 #[.pointer (some ⟨g, 0, none⟩), .slice A L.length c] w (RetPI w [] []) := by
  obtain ⟨gb, gs, g1, g2, g3⟩ := h
  have c0 : w.cell? ⟨g, 0, none⟩ = some (.pointer (some ⟨gb, 0, none⟩)) := cell_of_blk g1 0
  have cl := As.mk (bleast_calls w gb [] g2)
  rw [show least [] = 0 from rfl] at cl
  generalize L.length = n at *
  clear g1 g2 g3
  go_enter Try.func25, Try.ntmps25
  go_wp2
  go_step3
  go_wp2_with (go_at_call 51; refine Calls.mono cl.out ?_; rintro e w' ⟨rfl, rfl⟩)
  try rw [Exit.noGoto_ret]
  go_ret2
  exact ⟨_, _, rfl, World.ownsRow_nil _ _ _ _, World.ownsRow_nil _ _ _ _, Below.refl _ _⟩
theorem endsFrom_len (T : List Txt) (L : Txt) : ∀ f e, (endsFrom T L f e).length ≤ f
  | 0, e => Nat.le_refl _
  | f + 1, e => by
    have := endsFrom_len T L f (e + farAt T L e)
    unfold endsFrom
    split
    · simp; omega
    · simp
theorem hits_len (T : List Txt) (L : Txt) : ∀ E : List Nat, (∀ e ∈ E, e ≤ L.length) → (hitsOf T L E).length ≤ E.length * L.length
  | [], _ => by simp [hitsOf]
  | e :: E, h => by
    have h1 := hits_len T L E (fun x hx => h x (List.mem_cons_of_mem _ hx))
    have h2 := wins_len T L e (fit (paths T) L e).length
    have h3 := fit_len (paths_tree T) (h e (by simp))
    have h4 := h e (by simp)
    have : hitsOf T L (e :: E) = wins T L e (fit (paths T) L e).length ++ hitsOf T L E := rfl
    rw [this, List.length_append, List.length_cons, Nat.add_mul]
    omega
theorem short_turn {l : List Txt} (h : ∀ x ∈ l, x.length ≤ 40) : (∀ p ∈ paths (turnT l), p.length ≤ 40) := fun p hp => by
  rcases mem_paths.1 hp with rfl | ⟨b, hb, k, hk, rfl⟩
  · simp
  · have := turnT_of l h b hb; rw [List.length_take]; omega
theorem short_tot' : ∀ (l : List Txt), (∀ x ∈ l, x.length ≤ 60) → tot l ≤ 60 * l.length
  | [], _ => by simp [tot]
  | x :: l, h => by
    have h1 := h x (by simp)
    have h2 := short_tot' l fun y hy => h y (by simp [hy])
    simp only [tot, List.map_cons, List.sum_cons, List.length_cons] at h2 ⊢
    omega
theorem least_small {T : List Txt} {n : Nat} (h : ∀ x ∈ T, x.length ≤ n) (hT : ∀ t ∈ T, t ≠ []) : least T ≤ n := by
  by_cases hne : T = []
  · subst hne; exact Nat.zero_le _
  · obtain ⟨_, _, t, ht, e⟩ := least_spec hT hne
    rw [e]; exact h t ht
/-- A walk over a short line, whatever the texts. -/
theorem cwalkl_calls (w : World) (g : Nat) (l : List Txt) (h : WalkAt w g (turnT l)) (hs : ∀ x ∈ l, x.length ≤ 60) (hl : l.length ≤ 1000) (A : Option Addr) (c : Nat) (L : Txt) (hx : Byt w A L) (hL : L.length ≤ 900) :
    Calls Try.prog 25 #[.pointer (some ⟨g, 0, none⟩), .slice A L.length c] w (RetPI w (hitsOf (turnT l) L (ends (turnT l) L)) (natI (ends (turnT l) L))) := by
  have hT := turnT_ne l
  have hpn := paths_len (turnT l)
  have htt := turnT_tot l
  have hst := short_tot' l hs
  by_cases hne : turnT l = []
  · rw [hne] at h ⊢
    exact cwalk_void w g h A c L
  · refine cwalk_calls w g (turnT l) (paths (turnT l)) ⟨rfl⟩ hT hne h (Nat.le_trans (least_small (n := 60) (fun x hx => ?_) hT) (by omega)) (path_tot (l := turnT l) (by omega)) (by omega) A c L hx hL
    obtain ⟨y, hy, rfl⟩ := List.mem_map.1 hx
    rw [List.length_reverse]; exact hs y (List.mem_filter.1 hy).1
set_option maxRecDepth 100000 in
theorem cscan_calls (w : World) (g : Nat) (l : List Txt) (h : WalkAt w g (turnT l)) (hs : ∀ x ∈ l, x.length ≤ 60) (hl : l.length ≤ 1000) (A : Option Addr) (c : Nat) (L : Txt) (hx : Byt w A L) (hL : L.length ≤ 900) :
    Calls Try.prog 14 #[.pointer (some ⟨g, 0, none⟩), .slice A L.length c] w (RetPrs w (occ l L)) := by
  have cw := As.mk (cwalkl_calls w g l h hs hl A c L hx hL)
  have hocc := hits_occ (turnT_mem l) (turnT_ne l) L
  rw [← hocc]
  have hlen : (hitsOf (turnT l) L (ends (turnT l) L)).length ≤ 1000000 := by
    have h1 := hits_len (turnT l) L (ends (turnT l) L) (fun e he => by
      unfold ends at he
      split at he
      · simp at he
      · rename_i hne; exact (ends_le (turnT_ne l) hne L _ _ _ he).2)
    have h2 : (ends (turnT l) L).length ≤ L.length + 1 := by
      unfold ends
      split
      · simp
      · exact endsFrom_len _ _ _ _
    have h3 : (ends (turnT l) L).length * L.length ≤ 901 * 900 := Nat.mul_le_mul (by omega) hL
    omega
  obtain ⟨xs, hxs⟩ : ∃ xs, hitsOf (turnT l) L (ends (turnT l) L) = xs := ⟨_, rfl⟩
  rw [hxs] at cw hlen ⊢
  generalize natI (ends (turnT l) L) = ys at *
  generalize L.length = n at *
  clear h hx hocc hxs
  go_enter Try.func14, Try.ntmps14
  go_wp2_with (first
    | (go_at_call 25; refine Calls.mono cw.out ?_; intro e w1 h1; obtain ⟨v, u, he, hov, hou, hb1⟩ := h1.open_; subst he; obtain ⟨Av, cv, rfl, hcv, hcm, hrow⟩ := OwnPrs.row2 hov)
    | (go_at_call 26; refine Calls.mono (sort_calls _ Av cv xs _ (Nat.le_refl _) hrow hcv hcm hlen) ?_; intro e w2 h2; obtain ⟨v2, he2, ho2, hb2⟩ := h2.out; subst he2))
  go_ret
  exact ⟨_, rfl, own_base ho2 hb1.size, belowNext hb1 hb2⟩
set_option maxRecDepth 100000 in
theorem cends_calls (w : World) (g : Nat) (l : List Txt) (h : WalkAt w g (turnT l)) (hs : ∀ x ∈ l, x.length ≤ 60) (hl : l.length ≤ 1000) (A : Option Addr) (c : Nat) (L : Txt) (hx : Byt w A L) (hL : L.length ≤ 900) :
    Calls Try.prog 17 #[.pointer (some ⟨g, 0, none⟩), .slice A L.length c] w (RetInts w (natI (ends (turnT l) L))) := by
  have cw := As.mk (cwalkl_calls w g l h hs hl A c L hx hL)
  generalize hitsOf (turnT l) L (ends (turnT l) L) = xs at *
  generalize natI (ends (turnT l) L) = ys at *
  generalize L.length = n at *
  clear h hx
  go_enter Try.func17, Try.ntmps17
  go_wp2_with (go_at_call 25; refine Calls.mono cw.out ?_; intro e w1 h1; obtain ⟨v, u, he, hov, hou, hb1⟩ := h1.open_; subst he)
  go_ret
  exact ⟨_, rfl, hou, hb1⟩
theorem cscan_none (w : World) (A : Option Addr) (n c : Nat) : Calls Try.prog 14 #[.pointer none, .slice A n c] w (RetPrs w []) := by
  have cw := As.mk (cwalk_none w (.slice A n c))
  go_enter Try.func14, Try.ntmps14
  go_wp2_with (first
    | (go_at_call 25; refine Calls.mono cw.out ?_; intro e w1 h1; obtain ⟨v, u, he, hov, hou, hb1⟩ := h1.open_; subst he; obtain ⟨Av, cv, rfl, hcv, hcm, hrow⟩ := OwnPrs.row2 hov)
    | (go_at_call 26; refine Calls.mono (sort_calls _ Av cv [] _ (Nat.le_refl _) hrow hcv hcm (by simp)) ?_; intro e w2 h2; obtain ⟨v2, he2, ho2, hb2⟩ := h2.out; subst he2))
  go_ret
  exact ⟨_, rfl, own_base ho2 hb1.size, belowNext hb1 hb2⟩
theorem cends_none (w : World) (A : Option Addr) (n c : Nat) : Calls Try.prog 17 #[.pointer none, .slice A n c] w (RetInts w []) := by
  have cw := As.mk (cwalk_none w (.slice A n c))
  go_enter Try.func17, Try.ntmps17
  go_wp2_with (go_at_call 25; refine Calls.mono cw.out ?_; intro e w1 h1; obtain ⟨v, u, he, hov, hou, hb1⟩ := h1.open_; subst he)
  go_ret
  exact ⟨_, rfl, hou, hb1⟩
end Go.Proofs.Ytbklkemfcdkihaa
end
section
/- The references on trees (seineref06), as the printer tells them, are the plain laws'. -/
set_option linter.unusedVariables false
set_option linter.unusedSimpArgs false
namespace Go.Proofs.Ytbklkemfcdkihaa
open Go.RowKit Seine.Trie Seine.Links Go.Proofs.YtbklkemfcdkihaaW.PrintWords Go.Proofs.Ytbklkemfcdkihaa.Ref

theorem kdTxts {w : World} {A : Option Addr} {l : List Txt} (h : Txts w A l) (hl : l.length ≤ 9223372036854775807) (ht : ∀ x ∈ l, x.length ≤ 9223372036854775807) : Kd.C (Kd.slice 5 (Kd.int .u8)) w A l.length (l.map nb) := by
  refine ⟨by simp, hl, fun h0 => ?_⟩
  obtain ⟨ad0, A0, c0, e0, _⟩ := h.at_ h0
  refine ⟨ad0, e0, fun j p hp => ?_⟩
  have hj : j < l.length := by
    have := (List.getElem?_eq_some_iff.1 hp).1
    simpa using this
  obtain ⟨ad, A', c', e1, h1, h2, h3⟩ := h.at_ hj
  rw [e0] at e1; injection e1 with e1; subst e1
  have hp' : p = nb (l.getD j []) := by
    rw [List.getElem?_map, List.getElem?_eq_getElem hj] at hp
    injection hp with hp
    rw [← hp]; simp [List.getD_eq_getElem?_getD, hj]
  subst hp'
  have hlen : (l.getD j []).length ≤ 9223372036854775807 := ht _ (by rw [List.getD_eq_getElem?_getD, List.getElem?_eq_getElem hj]; exact List.getElem_mem _)
  refine ⟨[.slice A' (nb (l.getD j [])).length c'], rfl, ⟨A', c', rfl, by rw [nb_length]; exact h2, by rw [nb_length]; exact kdU8 h3 hlen⟩, fun i u hu => ?_⟩
  have hi : i = 0 := by
    have := (List.getElem?_eq_some_iff.1 hu).1
    simpa using this
  subst hi
  injection hu with hu
  subst hu
  have e : (Kd.slice 5 (Kd.int .u8)).sz = 1 := rfl
  rw [e, Nat.mul_one, Nat.add_zero, nb_length]
  exact h1

/-- A row of texts, as strings. -/
structure KdS (w : World) (A : Option Addr) (l : List Txt) : Prop where
  row : Kd.C Kd.string w A (l.map bb).length (l.map bb)
theorem KdS.below {w w' : World} {A : Option Addr} {l : List Txt} (h : KdS w A l) (hb : Below w.heap.size w w') : KdS w' A l := ⟨Kd.C_below h.row hb⟩
theorem KdS.at_ {w : World} {A : Option Addr} {l : List Txt} (h : KdS w A l) {i : Nat} (hi : i < l.length) : ∃ ad, A = some ad ∧ w.cell? (ad.add i) = some (.string (bb (l.getD i []))) := by
  obtain ⟨ad, e, hc⟩ := Kd.at_string h.row (i : Int) (by omega) (by rw [List.length_map]; omega)
  rw [rdOf_bb l i hi, Int.toNat_natCast] at hc
  exact ⟨ad, e, hc⟩
theorem KdS.of_R {w : World} {base e : Nat} {ok : Nat → Prop} {v : Value} {l : List Txt} (h : Kd.R Kd.string e w base ok v (l.map bb)) : ∃ A c, v = .slice A l.length c ∧ l.length ≤ c ∧ KdS w A l := by
  obtain ⟨A, c, hv, hc, hr⟩ := Kd.R_reads h
  rw [List.length_map] at hv hc
  exact ⟨A, c, hv, hc, ⟨hr⟩⟩
/-! ### Place -/
theorem place_drop {l : List Txt} {s : Txt} {i : Nat} (h : i < l.length) (hne : l.getD i [] ≠ s) : place (l.drop i) s = if place (l.drop (i + 1)) s < 0 then -1 else place (l.drop (i + 1)) s + 1 := by
  have e : l.drop i = l.getD i [] :: l.drop (i + 1) := by
    rw [List.drop_eq_getElem_cons h]; simp [List.getD_eq_getElem?_getD, h]
  rw [e, place, if_neg hne]
theorem refPlace_from (l : List Txt) (s : Txt) (hl : l.length ≤ 1000000000) : ∀ (d i : Nat), i + d = l.length → Evl (fun k => seineref06_Place.l0 k (l.map bb) (bb s) (i : Int)) (if place (l.drop i) s < 0 then -1 else i + place (l.drop i) s)
  | 0, i, h => by
    refine ⟨1, fun k hk => ?_⟩
    obtain ⟨m, rfl⟩ : ∃ m, k = m + 1 := ⟨k - 1, by omega⟩
    have hd : l.drop i = [] := List.drop_eq_nil_of_le (by omega)
    simp only [seineref06_Place.l0, List.length_map]
    rw [if_neg (by omega), hd, if_pos (by simp [place])]
  | d + 1, i, h => by
    have hi : i < l.length := by omega
    have ih := refPlace_from l s hl d (i + 1) (by omega)
    by_cases he : l.getD i [] = s
    · refine ⟨1, fun k hk => ?_⟩
      obtain ⟨m, rfl⟩ : ∃ m, k = m + 1 := ⟨k - 1, by omega⟩
      have e : l.drop i = l.getD i [] :: l.drop (i + 1) := by
        rw [List.drop_eq_getElem_cons hi]; simp [List.getD_eq_getElem?_getD, hi]
      simp only [seineref06_Place.l0, List.length_map]
      rw [if_pos (by omega), if_pos (by omega), rdOf_bb l i hi, bb_toList, bb_toList, if_pos he, e, place, if_pos he]
      simp
    · have e : (if place (l.drop i) s < 0 then -1 else i + place (l.drop i) s) = (if place (l.drop (i + 1)) s < 0 then -1 else ((i + 1 : Nat) : Int) + place (l.drop (i + 1)) s) := by
        rw [place_drop hi he]
        have := (place_range (l.drop (i + 1)) s).1
        by_cases h0 : place (l.drop (i + 1)) s < 0
        · rw [if_pos h0, if_pos h0, if_pos (by decide)]
        · rw [if_neg h0, if_neg h0, if_neg (by omega)]; push_cast; omega
      rw [e]
      refine ih.step fun k => ?_
      simp only [seineref06_Place.l0, List.length_map]
      rw [if_pos (by omega), if_pos (by omega), rdOf_bb l i hi, bb_toList, bb_toList, if_neg he, w64 (by omega) (by omega)]
      rfl
theorem refPlace (l : List Txt) (s : Txt) (hl : l.length ≤ 1000000000) : Evl (fun k => seineref06_Place.f k (l.map bb) (bb s)) (place l s) := by
  have := refPlace_from l s hl l.length 0 (by omega)
  have e : (if place (l.drop 0) s < 0 then -1 else ((0 : Nat) : Int) + place (l.drop 0) s) = place l s := by
    rw [List.drop_zero]
    have := (place_range l s).1
    split <;> omega
  rw [e] at this
  exact this

/-! ### Paths -/
theorem bb_nil : (⟨#[]⟩ : ByteArray) = bb [] := rfl
theorem refPaths_in (l : List Txt) (j : Nat) (hj : j < l.length) (hl : l.length ≤ 1000000) (ht : tot l ≤ 1000000) (R : List ByteArray)
    (hend : Evl (fun k => seineref06_Paths.l0 k (l.map bb) ((addText (paths (l.take j)) (l.getD j [])).map bb) ((j + 1 : Nat) : Int)) R) :
    ∀ (d n : Nat), n + d = (l.getD j []).length → Evl (fun k => seineref06_Paths.l1 k (l.map bb) ((addTo (paths (l.take j)) (l.getD j []) n).map bb) (j : Int) ((n + 1 : Nat) : Int)) R
  | 0, n, h => by
    obtain ⟨N, hN⟩ := hend
    refine ⟨N + 1, fun k hk => ?_⟩
    obtain ⟨m, rfl⟩ : ∃ m, k = m + 1 := ⟨k - 1, by omega⟩
    simp only [seineref06_Paths.l1, List.length_map]
    rw [if_pos (by omega), if_pos (by omega), rdOf_bb l j hj, bb_size, if_neg (by omega), w64 (by omega) (by omega)]
    have := hN m (by omega)
    rw [show addText (paths (l.take j)) (l.getD j []) = addTo (paths (l.take j)) (l.getD j []) n by unfold addText; rw [← h]; rfl] at this
    exact_mod_cast this
  | d + 1, n, h => by
    obtain ⟨N, ih⟩ := refPaths_in l j hj hl ht R hend d (n + 1) (by omega)
    have hb := tot_take l j hj
    have hlen := addTo_len (paths (l.take j)) (l.getD j []) n
    have hpl := paths_len (l.take j)
    have hnl : n < (l.getD j []).length := by omega
    generalize hP : addTo (paths (l.take j)) (l.getD j []) n = P at *
    have hPl : P.length ≤ 1000000000 := by omega
    obtain ⟨M, hM⟩ := refPlace P ((l.getD j []).take (n + 1)) hPl
    have hnext : addTo (paths (l.take j)) (l.getD j []) (n + 1) = addPath P ((l.getD j []).take (n + 1)) := by rw [addTo, hP]
    refine ⟨max N M + 1, fun k hk => ?_⟩
    obtain ⟨m, rfl⟩ : ∃ m, k = m + 1 := ⟨k - 1, by omega⟩
    have ihm := ih m (by omega)
    rw [hnext] at ihm
    have hMm : seineref06_Place.f m (P.map bb) (bb ((l.getD j []).take (n + 1))) = some (place P ((l.getD j []).take (n + 1))) := hM m (by omega)
    simp only [seineref06_Paths.l1, List.length_map]
    rw [if_pos (by omega), if_pos (by omega), rdOf_bb l j hj, bb_size, if_pos (by omega), if_pos (by omega), bb_to, show (((n + 1 : Nat) : Int)).toNat = n + 1 from rfl, hMm]
    simp only [Option.bind_some]
    by_cases h0 : place P ((l.getD j []).take (n + 1)) < 0
    · rw [if_pos h0, if_pos (by omega), w64s (n + 1) (by omega)]
      rw [addPath, if_neg (place_neg.1 h0), List.map_append] at ihm
      exact ihm
    · rw [if_neg h0, w64s (n + 1) (by omega)]
      rw [addPath, if_pos (place_mem.1 (by omega))] at ihm
      exact ihm
theorem refPaths_from (l : List Txt) (hl : l.length ≤ 1000000) (ht : tot l ≤ 1000000) : ∀ (d j : Nat), j + d = l.length → Evl (fun k => seineref06_Paths.l0 k (l.map bb) ((paths (l.take j)).map bb) (j : Int)) ((paths l).map bb)
  | 0, j, h => by
    refine ⟨1, fun k hk => ?_⟩
    obtain ⟨m, rfl⟩ : ∃ m, k = m + 1 := ⟨k - 1, by omega⟩
    simp only [seineref06_Paths.l0, List.length_map]
    rw [if_neg (by omega), List.take_of_length_le (by omega)]
  | d + 1, j, h => by
    have hj : j < l.length := by omega
    have ih := refPaths_from l hl ht d (j + 1) (by omega)
    have hs : paths (l.take (j + 1)) = addText (paths (l.take j)) (l.getD j []) := by rw [take_snoc_txt l j hj, paths_snoc]
    rw [hs] at ih
    have := refPaths_in l j hj hl ht _ ih (l.getD j []).length 0 (by omega)
    refine this.step fun k => ?_
    simp only [seineref06_Paths.l0, List.length_map]
    rw [if_pos (by omega)]
    rfl
theorem refPaths (l : List Txt) (hl : l.length ≤ 1000000) (ht : tot l ≤ 1000000) : Evl (fun k => seineref06_Paths.f k (l.map bb)) ((paths l).map bb) := by
  have := refPaths_from l hl ht l.length 0 (by omega)
  exact this
end Go.Proofs.Ytbklkemfcdkihaa
end
section
/- The law's 'texts', 'few', and the references on paths, by their contracts. -/
set_option linter.unusedVariables false
set_option linter.unusedSimpArgs false
namespace Go.Proofs.Ytbklkemfcdkihaa
open Go.RowKit Seine.Trie Go.Proofs.YtbklkemfcdkihaaW.PrintWords Go.Proofs.Ytbklkemfcdkihaa.Ref
theorem refTexts (l : List Txt) (hl : l.length ≤ 6000000000000) : Evl (fun k => seinelaw16_texts.f k (l.map nb)) (if ∀ x ∈ l, x.length ≤ 40 then (l.map bb, decide (l.length ≤ 12)) else ([], false)) := by
  have key : ∀ (d i : Nat), i + d = l.length → Evl (fun k => seinelaw16_texts.l0 k (l.map nb) ((l.take i).map bb) (i : Int)) (if ∀ x ∈ l.drop i, x.length ≤ 40 then (l.map bb, decide (l.length ≤ 12)) else ([], false)) := by
    intro d
    induction d with
    | zero =>
      intro i h
      refine ⟨1, fun k hk => ?_⟩
      obtain ⟨q, rfl⟩ : ∃ q, k = q + 1 := ⟨k - 1, by omega⟩
      simp only [seinelaw16_texts.l0, List.length_map]
      rw [if_neg (by omega), List.drop_eq_nil_of_le (by omega), if_pos (by simp), List.take_of_length_le (by omega)]
      congr 2
      rw [decide_eq_decide]; omega
    | succ d ih =>
      intro i h
      have hi : i < l.length := by omega
      have hdr : l.drop i = l.getD i [] :: l.drop (i + 1) := by
        rw [List.drop_eq_getElem_cons hi]; simp [List.getD_eq_getElem?_getD, hi]
      have hrd : (l.map nb).getD (i : Int).toNat [] = nb (l.getD i []) := by
        rw [Int.toNat_natCast]; simp [List.getD_eq_getElem?_getD, hi]
      by_cases h40 : (l.getD i []).length ≤ 40
      · have hc : (∀ x ∈ l.drop i, x.length ≤ 40) ↔ ∀ x ∈ l.drop (i + 1), x.length ≤ 40 := by
          rw [hdr]; simp only [List.mem_cons, forall_eq_or_imp]
          exact ⟨fun h => h.2, fun h => ⟨h40, h⟩⟩
        simp only [hc]
        refine (ih (i + 1) (by omega)).step fun k => ?_
        simp only [seinelaw16_texts.l0, List.length_map]
        rw [if_pos (by omega), if_pos (by omega), if_neg (by show ¬ ((((l.map nb).getD (i : Int).toNat []).length : Nat) : Int) > 40; rw [hrd, nb_length]; omega), if_pos (by rw [List.length_take]; omega), w64 (by omega) (by omega)]
        show seinelaw16_texts.l0 k _ (_ ++ [strOfNums ((l.map nb).getD (i : Int).toNat [])]) _ = _
        rw [hrd, bb_nums, take_snoc_txt l i hi, List.map_append]
        rfl
      · have hc : ¬ ∀ x ∈ l.drop i, x.length ≤ 40 := by
          rw [hdr]; intro hx; exact h40 (hx _ (by simp))
        rw [if_neg hc]
        refine ⟨1, fun k hk => ?_⟩
        obtain ⟨q, rfl⟩ : ∃ q, k = q + 1 := ⟨k - 1, by omega⟩
        simp only [seinelaw16_texts.l0, List.length_map]
        rw [if_pos (by omega), if_pos (by omega), if_pos (by show ((((l.map nb).getD (i : Int).toNat []).length : Nat) : Int) > 40; rw [hrd, nb_length]; omega)]
  have := key l.length 0 (by omega)
  rw [List.drop_zero] at this
  exact this
theorem texts_calls (w : World) (A : Option Addr) (c : Nat) (l : List Txt) (hx : Txts w A l) (hc : l.length ≤ c) (hr : c * 24 ≤ 140737488351232) (hm : ∀ x ∈ l, x.length ≤ maxLen) :
    Calls Try.prog 10 #[.slice A l.length c] w fun e w' => (∃ A' c' b, e = .returned (.tuple #[.slice A' (if b then l.length else 0) c', .bool (b && decide (l.length ≤ 12))]) ∧ (b = decide (∀ x ∈ l, x.length ≤ 40)) ∧ (b = true → l.length ≤ c' ∧ KdS w' A' l)) ∧ Below w.heap.size w w' := by
  obtain ⟨k, hk⟩ := (refTexts l (by omega)).get
  have hkd := kdTxts hx (by omega) (fun x h => by have := hm x h; unfold maxLen at this; omega)
  by_cases h40 : ∀ x ∈ l, x.length ≤ 40
  · rw [if_pos h40] at hk
    have := seinelaw16_texts.calls k A c (l.map nb) (l.map bb) (decide (l.length ≤ 12)) w (by rw [List.length_map]; exact hkd) (by rw [List.length_map]; exact hc) hk
    rw [List.length_map] at this
    refine this.mono ?_
    rintro e w' ⟨v, rfl, hR, hb⟩
    obtain ⟨A', c', rfl, hc', hS⟩ := KdS.of_R hR
    exact ⟨⟨A', c', true, by simp, (decide_eq_true h40).symm, fun _ => ⟨hc', hS⟩⟩, hb⟩
  · rw [if_neg h40] at hk
    have := seinelaw16_texts.calls k A c (l.map nb) [] false w (by rw [List.length_map]; exact hkd) (by rw [List.length_map]; exact hc) hk
    rw [List.length_map] at this
    refine this.mono ?_
    rintro e w' ⟨v, rfl, hR, hb⟩
    obtain ⟨A', c', rfl, hc', hS⟩ := KdS.of_R (l := []) hR
    exact ⟨⟨A', c', false, by simp, (decide_eq_false h40).symm, fun h => by cases h⟩, hb⟩
theorem lfew_calls (w : World) (A : Option Addr) (c : Nat) (b : Txt) (hb : Byt w A b) (hc : b.length ≤ c) (hl : b.length ≤ 9223372036854775807) :
    Calls Try.prog 11 #[.slice A b.length c] w fun e w' => e = .returned (.bool (decide (b.length ≤ 120))) ∧ Below w.heap.size w w' := by
  have := seinelaw16_few.calls A c (nb b) (decide (b.length ≤ 120)) w (by rw [nb_length]; exact kdU8 hb hl) (by rw [nb_length]; exact hc) (by simp only [seinelaw16_few.f, nb_length, Option.some.injEq, decide_eq_decide]; omega)
  rw [nb_length] at this
  exact this.mono fun e w' h => ⟨h.1, h.2.below⟩
theorem rpaths_calls (w : World) (A : Option Addr) (c : Nat) (l : List Txt) (h : KdS w A l) (hc : l.length ≤ c) (hl : l.length ≤ 1000000) (ht : tot l ≤ 1000000) :
    Calls Try.prog 28 #[.slice A l.length c] w fun e w' => ∃ A' c', e = .returned (.slice A' (paths l).length c') ∧ (paths l).length ≤ c' ∧ KdS w' A' (paths l) ∧ Below w.heap.size w w' := by
  obtain ⟨k, hk⟩ := (refPaths l hl ht).get
  have := seineref06_Paths.calls k A c (l.map bb) ((paths l).map bb) w h.row (by rw [List.length_map]; exact hc) hk
  rw [List.length_map] at this
  refine this.mono ?_
  rintro e w' ⟨v, rfl, hR, hb⟩
  obtain ⟨A', c', rfl, hc', hS⟩ := KdS.of_R hR
  exact ⟨A', c', rfl, hc', hS, hb⟩
theorem rplace_calls (w : World) (A : Option Addr) (c : Nat) (P : List Txt) (h : KdS w A P) (hc : P.length ≤ c) (hl : P.length ≤ 1000000) (s : Txt) :
    Calls Try.prog 58 #[.slice A P.length c, .string (bb s)] w fun e w' => e = .returned (.int .i64 (place P s)) ∧ Below w.heap.size w w' := by
  obtain ⟨k, hk⟩ := (refPlace P s (by omega)).get
  have := seineref06_Place.calls k A c (P.map bb) (bb s) _ w h.row (by rw [List.length_map]; exact hc) hk
  rw [List.length_map] at this
  exact this.mono fun e w' h => ⟨h.1, h.2.below⟩
/-- Of few short texts. -/
structure Few (l : List Txt) : Prop where
  len : l.length ≤ 12
  short : ∀ x ∈ l, x.length ≤ 40
theorem Few.tot {l : List Txt} (h : Few l) : tot l ≤ 480 := by
  have : ∀ l : List Txt, (∀ x ∈ l, x.length ≤ 40) → Go.Proofs.Ytbklkemfcdkihaa.tot l ≤ 40 * l.length := by
    intro l
    induction l with
    | nil => intro _; simp [Go.Proofs.Ytbklkemfcdkihaa.tot]
    | cons x l ih =>
      intro h
      have h1 := h x (by simp)
      have h2 := ih fun y hy => h y (by simp [hy])
      simp only [Go.Proofs.Ytbklkemfcdkihaa.tot, List.map_cons, List.sum_cons, List.length_cons] at h2 ⊢
      omega
  have h1 := this l h.short
  have h2 := h.len
  omega
theorem Few.paths_len {l : List Txt} (h : Few l) : (paths l).length ≤ 481 := by have := Go.Proofs.Ytbklkemfcdkihaa.paths_len l; have := h.tot; omega
theorem Few.path_short {l : List Txt} (h : Few l) : ∀ p ∈ paths l, p.length ≤ 40 := fun p hp => by
  rcases ((paths_spec l).2 p).1 hp with rfl | ⟨b, hb, k, hk, rfl⟩
  · simp
  · have := h.short b hb; rw [List.length_take]; omega
theorem text_path {l : List Txt} : ∀ x, x ∈ l → x ∈ paths l := fun x hx => ((paths_spec l).2 x).2 (.inr ⟨x, hx, x.length, Nat.le_refl _, by simp⟩)
theorem Byt.take {w : World} {A : Option Addr} {b : Txt} (h : Byt w A b) (k : Nat) : Byt w A (b.take k) := by
  rcases h with h | ⟨ad, e, hlt, hc⟩
  · have : b = [] := by have := congrArg List.length h; rw [byCells_length] at this; exact List.eq_nil_of_length_eq_zero this
    subst this
    exact .inl (by simp [byCells])
  · refine .inr ⟨ad, e, hlt, fun j u hu => hc j u ?_⟩
    unfold byCells at hu ⊢
    rw [List.map_take, List.getElem?_take] at hu
    split at hu
    · exact hu
    · cases hu
end Go.Proofs.Ytbklkemfcdkihaa
end
section
/- The walk of the laws' 'awake' on texts from their ends. -/
set_option linter.unusedVariables false
set_option linter.unusedSimpArgs false
namespace Go.Proofs.Ytbklkemfcdkihaa
open Go.RowKit Go.Maps Seine.Trie Seine.Links Seine.Cw
open Seine.Sort (sortP occ)
theorem txtsOfC {w : World} {b t : Nat} {vs : List Value} {l : List Txt} {fr : Nat × Nat} (h : w.heap[b]? = some (.cells vs.toArray t fr)) (hl : vs.length = l.length) (hv : ∀ i, i < l.length → ∃ A' c', vs[i]? = some (.slice A' (l.getD i []).length c') ∧ (l.getD i []).length ≤ c' ∧ Byt w A' (l.getD i [])) : Txts w (some ⟨b, 0, none⟩) l := ⟨vs, hl, rowOfBlk h, hv⟩
def cwT : List Txt := [[97, 98, 99], [98, 99]]
def cwL : Txt := [120, 97, 98, 99, 120]
theorem cw_occ : occ cwT cwL = [(1, 4), (2, 4)] := by decide +kernel
theorem cw_ends : natI (ends (turnT cwT) cwL) = [2, 4] := by decide +kernel
set_option maxRecDepth 100000 in
set_option maxHeartbeats 3200000 in
theorem awake_calls (w : World) : Calls Try.prog 9 #[] w fun e w' => e = .returned (.bool true) ∧ Below w.heap.size w w' := by
  have kc : ∀ (W : World) (C : Array Value) (n c b : Nat), b = W.heap.size → (convert 23 23 (.slice (some ⟨b, 0, none⟩) n c)).run Try.prog (W.alloc (.cells C 5)) = .ok (.slice (some ⟨b, 0, none⟩) n c) (W.alloc (.cells C 5 (C.size, C.size + 1))) := fun W C n c b h => by
    subst h; exact Lib.run_convert_bytes_const (P := Try.prog) W 23 5 C n c Try.underlying23 Try.underlying5
  have hw0 := Below.refl w.heap.size w
  go_enter Try.func9, Try.ntmps9
  go_wp2_with fail
  refine Calls.mono (cnew_calls _ _ 2 cwT ?tx (by decide) (by decide)) ?_
  case tx =>
    refine txtsOfC (vs := [.slice (some ⟨w.heap.size, 0, none⟩) 3 3, .slice (some ⟨w.heap.size + 1, 0, none⟩) 2 2]) (by (repeat (first | (with_reducible assumption) | (with_reducible exact heap_alloc_new _ _) | (exact heapNewAt (by (first | omega | (simp only [World.size_alloc, World.size_drew]; done) | (simp only [World.size_alloc, World.size_drew]; omega)))) | (with_reducible refine blkDrew ?_) | (with_reducible refine blk_old ?_) | (refine blkBelow (by with_reducible assumption) ?_)))) rfl (fun i hi => ?_)
    match i, hi with
    | 0, _ => exact ⟨_, 3, rfl, by decide, litByt [97, 98, 99] [.int .u8 97, .int .u8 98, .int .u8 99] rfl (by (repeat (first | (with_reducible assumption) | (with_reducible exact heap_alloc_new _ _) | (exact heapNewAt (by (first | omega | (simp only [World.size_alloc, World.size_drew]; done) | (simp only [World.size_alloc, World.size_drew]; omega)))) | (with_reducible refine blkDrew ?_) | (with_reducible refine blk_old ?_) | (refine blkBelow (by with_reducible assumption) ?_))))⟩
    | 1, _ => exact ⟨_, 2, rfl, by decide, litByt [98, 99] [.int .u8 98, .int .u8 99] rfl (by (repeat (first | (with_reducible assumption) | (with_reducible exact heap_alloc_new _ _) | (exact heapNewAt (by (first | omega | (simp only [World.size_alloc, World.size_drew]; done) | (simp only [World.size_alloc, World.size_drew]; omega)))) | (with_reducible refine blkDrew ?_) | (with_reducible refine blk_old ?_) | (refine blkBelow (by with_reducible assumption) ?_))))⟩
  rintro e w1 ⟨g, rfl, hA, hb1⟩
  have hw1 : Below w.heap.size w w1 := by (repeat (first | (with_reducible assumption) | (with_reducible exact Below.refl _ _) | (with_reducible refine Below.drew ?_) | (with_reducible refine below_drewN ?_ _) | (with_reducible refine Below.alloc ?_ (by (first | omega | (simp only [World.size_alloc, World.size_drew]; done) | (simp only [World.size_alloc, World.size_drew]; omega))) _) | (refine Below.trans ?_ (Below.mono (by with_reducible assumption) (by (first | omega | (simp only [World.size_alloc, World.size_drew]; done) | (simp only [World.size_alloc, World.size_drew]; omega)))))))
  have s1 := hw1.size
  go_wp2_with fail
  refine Calls.mono (cscan_calls _ g cwT ?a3 (by decide) (by decide) _ 5 cwL ?x3 (by decide)) ?_
  case a3 => exact hA.below (by (repeat (first | (with_reducible assumption) | (with_reducible exact Below.refl _ _) | (with_reducible refine Below.drew ?_) | (with_reducible refine below_drewN ?_ _) | (with_reducible refine Below.alloc ?_ (by (first | omega | (simp only [World.size_alloc, World.size_drew]; done) | (simp only [World.size_alloc, World.size_drew]; omega))) _) | (refine Below.trans ?_ (Below.mono (by with_reducible assumption) (by (first | omega | (simp only [World.size_alloc, World.size_drew]; done) | (simp only [World.size_alloc, World.size_drew]; omega))))))))
  case x3 => exact litByt cwL [.int .u8 120, .int .u8 97, .int .u8 98, .int .u8 99, .int .u8 120] rfl (by (repeat (first | (with_reducible assumption) | (with_reducible exact heap_alloc_new _ _) | (exact heapNewAt (by (first | omega | (simp only [World.size_alloc, World.size_drew]; done) | (simp only [World.size_alloc, World.size_drew]; omega)))) | (with_reducible refine blkDrew ?_) | (with_reducible refine blk_old ?_) | (refine blkBelow (by with_reducible assumption) ?_))))
  rw [cw_occ]
  intro e w2 h2
  obtain ⟨A2, c2, he, hc2, _, hr2, hb2⟩ := h2.row2
  rw [show List.length [((1 : Int), (4 : Int)), (2, 4)] = 2 from rfl] at he hc2
  subst he
  clear h2
  have hw2 : Below w1.heap.size w1 w2 := by (repeat (first | (with_reducible assumption) | (with_reducible exact Below.refl _ _) | (with_reducible refine Below.drew ?_) | (with_reducible refine below_drewN ?_ _) | (with_reducible refine Below.alloc ?_ (by (first | omega | (simp only [World.size_alloc, World.size_drew]; done) | (simp only [World.size_alloc, World.size_drew]; omega))) _) | (refine Below.trans ?_ (Below.mono (by with_reducible assumption) (by (first | omega | (simp only [World.size_alloc, World.size_drew]; done) | (simp only [World.size_alloc, World.size_drew]; omega)))))))
  have hA2 := hA.below hw2
  have hB2 := belowNext hw1 hw2
  have s2 := hB2.size
  clear hb1 hb2 hA hw1
  go_wp2_with fail
  refine Calls.mono (cends_calls _ g cwT ?a4 (by decide) (by decide) _ 5 cwL ?x4 (by decide)) ?_
  case a4 => exact hA2.below (by (repeat (first | (with_reducible assumption) | (with_reducible exact Below.refl _ _) | (with_reducible refine Below.drew ?_) | (with_reducible refine below_drewN ?_ _) | (with_reducible refine Below.alloc ?_ (by (first | omega | (simp only [World.size_alloc, World.size_drew]; done) | (simp only [World.size_alloc, World.size_drew]; omega))) _) | (refine Below.trans ?_ (Below.mono (by with_reducible assumption) (by (first | omega | (simp only [World.size_alloc, World.size_drew]; done) | (simp only [World.size_alloc, World.size_drew]; omega))))))))
  case x4 => exact litByt cwL [.int .u8 120, .int .u8 97, .int .u8 98, .int .u8 99, .int .u8 120] rfl (by (repeat (first | (with_reducible assumption) | (with_reducible exact heap_alloc_new _ _) | (exact heapNewAt (by (first | omega | (simp only [World.size_alloc, World.size_drew]; done) | (simp only [World.size_alloc, World.size_drew]; omega)))) | (with_reducible refine blkDrew ?_) | (with_reducible refine blk_old ?_) | (refine blkBelow (by with_reducible assumption) ?_))))
  rw [cw_ends]
  intro e w3 h3
  obtain ⟨A3, c3, he, hc3, hr3, hb3⟩ := h3.row
  rw [show List.length [(2 : Int), 4] = 2 from rfl] at he hc3
  subst he
  clear h3
  have hw3 : Below w2.heap.size w2 w3 := by (repeat (first | (with_reducible assumption) | (with_reducible exact Below.refl _ _) | (with_reducible refine Below.drew ?_) | (with_reducible refine below_drewN ?_ _) | (with_reducible refine Below.alloc ?_ (by (first | omega | (simp only [World.size_alloc, World.size_drew]; done) | (simp only [World.size_alloc, World.size_drew]; omega))) _) | (refine Below.trans ?_ (Below.mono (by with_reducible assumption) (by (first | omega | (simp only [World.size_alloc, World.size_drew]; done) | (simp only [World.size_alloc, World.size_drew]; omega)))))))
  have hB3 := belowNext hB2 hw3
  have hr23 := Row.below hr2 hw3
  obtain ⟨ad, rfl, q0⟩ := Ints.at_ hr3 (i := 0) (by simp)
  rw [show List.getD [(2 : Int), 4] 0 0 = 2 from rfl] at q0
  clear hb3 hw3 hA2 hr2 hw2 hB2
  go_wp2_with fail
  refine Calls.mono (same_calls _ _ _ _ [(1, 4), (2, 4)] [(1, 4), (2, 4)] _ ?p1 ?p2 (by decide) (by decide)) ?_
  case p1 => exact Row.below hr23 (by (repeat (first | (with_reducible assumption) | (with_reducible exact Below.refl _ _) | (with_reducible refine Below.drew ?_) | (with_reducible refine below_drewN ?_ _) | (with_reducible refine Below.alloc ?_ (by (first | omega | (simp only [World.size_alloc, World.size_drew]; done) | (simp only [World.size_alloc, World.size_drew]; omega))) _) | (refine Below.trans ?_ (Below.mono (by with_reducible assumption) (by (first | omega | (simp only [World.size_alloc, World.size_drew]; done) | (simp only [World.size_alloc, World.size_drew]; omega))))))))
  case p2 => exact rowOfBlk (by (repeat (first | (with_reducible assumption) | (with_reducible exact heap_alloc_new _ _) | (exact heapNewAt (by (first | omega | (simp only [World.size_alloc, World.size_drew]; done) | (simp only [World.size_alloc, World.size_drew]; omega)))) | (with_reducible refine blkDrew ?_) | (with_reducible refine blk_old ?_) | (refine blkBelow (by with_reducible assumption) ?_))))
  rintro e w4 ⟨rfl, n1, rfl⟩
  rw [show decide ([((1 : Int), (4 : Int)), (2, 4)] = [(1, 4), (2, 4)]) = true by decide]
  have hb34 : Below w3.heap.size w3 ((w3.alloc (.cells #[.int .i64 1, .int .i64 4, .int .i64 2, .int .i64 4] 41)).drewN n1) := by (repeat (first | (with_reducible assumption) | (with_reducible exact Below.refl _ _) | (with_reducible refine Below.drew ?_) | (with_reducible refine below_drewN ?_ _) | (with_reducible refine Below.alloc ?_ (by (first | omega | (simp only [World.size_alloc, World.size_drew]; done) | (simp only [World.size_alloc, World.size_drew]; omega))) _) | (refine Below.trans ?_ (Below.mono (by with_reducible assumption) (by (first | omega | (simp only [World.size_alloc, World.size_drew]; done) | (simp only [World.size_alloc, World.size_drew]; omega)))))))
  have q4 := (hb34.cell (p := ad.add 0) (World.block_lt_of_cell? w3 _ q0)).trans q0
  have hB4 := belowNext hB3 hb34
  generalize (w3.alloc (.cells #[.int .i64 1, .int .i64 4, .int .i64 2, .int .i64 4] 41)).drewN n1 = w4 at *
  have q5 := q4
  rw [show ad.add 0 = ad by unfold Addr.add; simp] at q5
  clear hb34 q0 hr23 hr3
  go_wp2_with fail
  go_ret
  exact ⟨rfl, hB4⟩
end Go.Proofs.Ytbklkemfcdkihaa
end
section
/- The reference on what stands in a line (seineref03.Occ), as the printer tells it, is the plain law's. -/
set_option linter.unusedVariables false
set_option linter.unusedSimpArgs false
namespace Go.Proofs.Ytbklkemfcdkihaa
open Go.RowKit Seine.Trie Go.Proofs.YtbklkemfcdkihaaW.PrintWords Go.Proofs.Ytbklkemfcdkihaa.Ref
open Seine.Sort (occ occTo occRow occTo_len occTo_succ occRow_len)
def toS (p : Pr) : S41 := ⟨p.1, p.2⟩
theorem prs_of_C {w : World} {A : Option Addr} {xs : List Pr} (h : Kd.C k41 w A xs.length (xs.map toS)) : Prs w A xs := by
  rcases Nat.eq_zero_or_pos xs.length with h0 | h0
  · exact .inl (by rw [List.eq_nil_of_length_eq_zero h0]; rfl)
  · have key : ∀ i, i < xs.length → ∃ ad, A = some ad ∧ w.cell? (ad.add (i * 2)) = some (.int .i64 (xs.getD i (0, 0)).1) ∧ w.cell? ⟨(ad.add (i * 2)).block, (ad.add (i * 2)).off + 1, none⟩ = some (.int .i64 (xs.getD i (0, 0)).2) := fun i hi => by
      have := at_T41 h (i : Int) (by omega) (by omega)
      have e : rd_T41 (xs.map toS) (i : Int) = toS (xs.getD i (0, 0)) := by
        unfold rd_T41
        rw [Int.toNat_natCast, List.getD_eq_getElem?_getD, List.getElem?_map, List.getD_eq_getElem?_getD, List.getElem?_eq_getElem hi]; rfl
      rw [e, Int.toNat_natCast] at this
      exact this
    obtain ⟨ad, rfl, c0, _⟩ := key 0 h0
    refine .inr ⟨ad, rfl, ?_, fun j u hu => ?_⟩
    · have := World.block_lt_of_cell? w _ c0
      rwa [Addr.block_add] at this
    · have hj : j < xs.length * 2 := by rw [← prCells_length]; exact (List.getElem?_eq_some_iff.1 hu).1
      obtain ⟨ad', e, d0, d1⟩ := key (j / 2) (by omega)
      injection e with e
      subst e
      obtain ⟨p0, p1⟩ := prCells_at xs (j / 2) (by omega)
      rcases Nat.mod_two_eq_zero_or_one j with hm | hm
      · rw [show j / 2 * 2 = j by omega] at d0 p0
        rw [hu] at p0
        injection p0 with p0
        rw [d0, p0]
      · rw [show j / 2 * 2 + 1 = j by omega] at p1
        rw [← Addr.add_field _ _ _ (by omega), show j / 2 * 2 + 1 = j by omega] at d1
        rw [hu] at p1
        injection p1 with p1
        rw [d1, p1]
theorem bbeq (a b : Txt) : ((bb a).toList == (bb b).toList) = decide (a = b) := by
  rw [bb_toList, bb_toList]
  by_cases h : a = b <;> simp [h]
theorem refOcc_l2 (T : List Txt) (L : Txt) (hT : T.length ≤ 1000000) (hL : L.length ≤ 1000000) (out : List Pr) (i j : Nat) (hij : i < j) (hj : j ≤ L.length) (ho : out.length ≤ 2000000000000) (R : List S41) :
    ∀ (d k : Nat) (b : Bool), k + d = T.length → Evl (fun q => seineref03_Occ.l1 q (bb L) (T.map bb) ((out ++ if b = true ∨ (L.drop i).take (j - i) ∈ T.drop k then [((i : Int), (j : Int))] else []).map toS) (i : Int) ((j + 1 : Nat) : Int)) R →
      Evl (fun q => seineref03_Occ.l2 q (bb L) (T.map bb) (out.map toS) (i : Int) (j : Int) b (k : Int)) R := by
  have hpush : ∀ (b : Bool) (k : Nat), (b = true ∨ (L.drop i).take (j - i) ∈ T.drop k) → (out ++ if b = true ∨ (L.drop i).take (j - i) ∈ T.drop k then [((i : Int), (j : Int))] else []).map toS = out.map toS ++ [(⟨(i : Int), (j : Int)⟩ : S41)] := fun b k h => by rw [if_pos h, List.map_append]; rfl
  have hnone : ∀ (b : Bool) (k : Nat), ¬ (b = true ∨ (L.drop i).take (j - i) ∈ T.drop k) → (out ++ if b = true ∨ (L.drop i).take (j - i) ∈ T.drop k then [((i : Int), (j : Int))] else []).map toS = out.map toS := fun b k h => by rw [if_neg h, List.append_nil]
  intro d
  induction d with
  | zero =>
    intro k b hk h
    have hdr : T.drop k = [] := List.drop_eq_nil_of_le (by omega)
    rw [hdr] at h
    refine h.step fun q => ?_
    simp only [seineref03_Occ.l2, List.length_map]
    rw [if_neg (by omega), w64 (by omega) (by omega)]
    by_cases hb : b = true
    · rw [if_pos hb, if_pos (by omega)]
      have := hpush b k (.inl hb)
      rw [hdr] at this
      rw [this]; push_cast; rfl
    · rw [if_neg hb]
      have := hnone b k (by rw [hdr]; simp [hb])
      rw [hdr] at this
      rw [this]; push_cast; rfl
  | succ d ih =>
    intro k b hk h
    have hkl : k < T.length := by omega
    have hdr : T.drop k = T.getD k [] :: T.drop (k + 1) := by rw [List.drop_eq_getElem_cons hkl]; simp [List.getD_eq_getElem?_getD, hkl]
    by_cases hb : b = true
    · rw [hpush b k (.inl hb)] at h
      refine h.step fun q => ?_
      simp only [seineref03_Occ.l2, List.length_map]
      rw [if_pos (by omega), if_pos hb, if_pos (by omega), w64 (by omega) (by omega)]
      push_cast; rfl
    · obtain rfl : b = false := by simpa using hb
      have hpl : ((L.drop i).take (j - i)).length = j - i := by rw [List.length_take, List.length_drop]; omega
      by_cases hlen : (T.getD k []).length = j - i
      · refine (ih (k + 1) (decide ((L.drop i).take (j - i) = T.getD k [])) (by omega) ?_).step fun q => ?_
        · have : (decide ((L.drop i).take (j - i) = T.getD k []) = true ∨ (L.drop i).take (j - i) ∈ T.drop (k + 1)) ↔ (false = true ∨ (L.drop i).take (j - i) ∈ T.drop k) := by
            rw [hdr, List.mem_cons, decide_eq_true_eq]; simp
          simp only [this]; exact h
        · simp only [seineref03_Occ.l2, List.length_map]
          rw [rdOf_bb T k hkl, bb_size, bb_size, w64 (by omega) (by omega), w64 (by omega) (by omega), if_pos (by omega), if_neg (by simp), if_pos (by omega), if_pos (by omega), if_pos (by omega), if_pos (by omega), if_pos (by omega), Int.toNat_natCast, Int.toNat_natCast, bb_extract, bbeq, w64s k (by omega)]
      · refine (ih (k + 1) false (by omega) ?_).step fun q => ?_
        · have : (false = true ∨ (L.drop i).take (j - i) ∈ T.drop (k + 1)) ↔ (false = true ∨ (L.drop i).take (j - i) ∈ T.drop k) := by
            rw [hdr, List.mem_cons]
            constructor
            · rintro (h | h)
              · exact .inl h
              · exact .inr (.inr h)
            · rintro (h | h | h)
              · exact .inl h
              · exact absurd (by rw [← h, hpl]) hlen
              · exact .inr h
          simp only [this]; exact h
        · simp only [seineref03_Occ.l2, List.length_map]
          rw [rdOf_bb T k hkl, bb_size, w64 (by omega) (by omega), w64 (by omega) (by omega), if_pos (by omega), if_neg (by simp), if_pos (by omega), if_neg (by omega), w64s k (by omega)]
/-- What begins at a place and ends from another one on. -/
def rowFrom (T : List Txt) (L : Txt) (i j : Nat) : List Pr := ((List.range' j (L.length + 1 - j)).filter fun j => decide ((L.drop i).take (j - i) ∈ T)).map fun (j : Nat) => ((i : Int), (j : Int))
theorem rowFrom_step (T : List Txt) (L : Txt) (i j : Nat) (hj : j ≤ L.length) : rowFrom T L i j = (if (L.drop i).take (j - i) ∈ T then [((i : Int), (j : Int))] else []) ++ rowFrom T L i (j + 1) := by
  unfold rowFrom
  rw [show L.length + 1 - j = (L.length + 1 - (j + 1)) + 1 by omega, List.range'_succ, List.filter_cons]
  by_cases h : (L.drop i).take (j - i) ∈ T
  · rw [if_pos h, if_pos (decide_eq_true h)]; rfl
  · rw [if_neg h, if_neg (by simpa using h)]; rfl
theorem rowFrom_end (T : List Txt) (L : Txt) (i j : Nat) (hj : L.length < j) : rowFrom T L i j = [] := by
  unfold rowFrom
  rw [show L.length + 1 - j = 0 by omega]; rfl
theorem rowFrom_len (T : List Txt) (L : Txt) (i j : Nat) : (rowFrom T L i j).length ≤ L.length + 1 := by
  unfold rowFrom
  rw [List.length_map]
  exact Nat.le_trans (List.length_filter_le _ _) (by simp)
theorem refOcc_l1 (T : List Txt) (L : Txt) (hT : T.length ≤ 1000000) (hL : L.length ≤ 1000000) (i : Nat) (R : List S41) :
    ∀ (d j : Nat) (out : List Pr), j + d = L.length + 1 → i < j → out.length + d ≤ 2000000000000 → Evl (fun q => seineref03_Occ.l0 q (bb L) (T.map bb) ((out ++ rowFrom T L i j).map toS) ((i + 1 : Nat) : Int)) R →
      Evl (fun q => seineref03_Occ.l1 q (bb L) (T.map bb) (out.map toS) (i : Int) (j : Int)) R := by
  intro d
  induction d with
  | zero =>
    intro j out hj hij ho h
    rw [rowFrom_end T L i j (by omega), List.append_nil] at h
    refine h.step fun q => ?_
    simp only [seineref03_Occ.l1, bb_size]
    rw [if_neg (by omega), w64 (by omega) (by omega)]
    push_cast; rfl
  | succ d ih =>
    intro j out hj hij ho h
    rw [rowFrom_step T L i j (by omega), ← List.append_assoc] at h
    have h1 := ih (j + 1) (out ++ if (L.drop i).take (j - i) ∈ T then [((i : Int), (j : Int))] else []) (by omega) (by omega) (by rw [List.length_append]; split <;> simp <;> omega) h
    have h2 := refOcc_l2 T L hT hL out i j hij (by omega) (by omega) R T.length 0 false (by omega) (by simpa using h1)
    refine h2.step fun q => ?_
    simp only [seineref03_Occ.l1, bb_size]
    rw [if_pos (by omega)]; rfl
theorem refOcc (T : List Txt) (L : Txt) (hT : T.length ≤ 1000000) (hL : L.length ≤ 1000000) : Evl (fun q => seineref03_Occ.f q (bb L) (T.map bb)) ((occ T L).map toS) := by
  have key : ∀ (d i : Nat), i + d = L.length → Evl (fun q => seineref03_Occ.l0 q (bb L) (T.map bb) ((occTo T L i).map toS) (i : Int)) ((occ T L).map toS) := by
    intro d
    induction d with
    | zero =>
      intro i hi
      obtain rfl : i = L.length := by omega
      refine ⟨1, fun q hq => ?_⟩
      obtain ⟨m, rfl⟩ : ∃ m, q = m + 1 := ⟨q - 1, by omega⟩
      simp only [seineref03_Occ.l0, bb_size]
      rw [if_neg (by omega)]; rfl
    | succ d ih =>
      intro i hi
      have hol := occTo_len T L i
      have hol2 : i * L.length ≤ 1000000 * 1000000 := Nat.mul_le_mul (by omega) hL
      have h := ih (i + 1) (by omega)
      rw [occTo_succ] at h
      have hrow : occRow T L i (L.length - i) = rowFrom T L i (i + 1) := by unfold occRow rowFrom; rw [show L.length + 1 - (i + 1) = L.length - i by omega]
      rw [hrow] at h
      have h1 := refOcc_l1 T L hT hL i _ (L.length - i) (i + 1) (occTo T L i) (by omega) (by omega) (by omega) h
      refine h1.step fun q => ?_
      simp only [seineref03_Occ.l0, bb_size]
      rw [if_pos (by omega), w64 (by omega) (by omega)]
      push_cast; rfl
  have := key L.length 0 (by omega)
  exact this
theorem rocc_calls (w : World) (A : Option Addr) (c : Nat) (T : List Txt) (h : KdS w A T) (hc : T.length ≤ c) (hT : T.length ≤ 1000000) (L : Txt) (hL : L.length ≤ 1000000) :
    Calls Try.prog 15 #[.string (bb L), .slice A T.length c] w fun e w' => ∃ A' c', e = .returned (.slice A' (occ T L).length c') ∧ (occ T L).length ≤ c' ∧ Prs w' A' (occ T L) ∧ Below w.heap.size w w' := by
  obtain ⟨k, hk⟩ := (refOcc T L hT hL).get
  have := seineref03_Occ.calls k (bb L) A c (T.map bb) _ w h.row (by rw [List.length_map]; exact hc) hk
  rw [List.length_map] at this
  refine this.mono ?_
  rintro e w' ⟨v, rfl, hR, hb⟩
  obtain ⟨A', c', rfl, hc', hC⟩ := Kd.R_reads hR
  rw [List.length_map] at hc' hC ⊢
  exact ⟨A', c', rfl, hc', prs_of_C hC, hb⟩
end Go.Proofs.Ytbklkemfcdkihaa
end
