/- Joined texts: Sparse2, Pairs, SortWalk, SortWalk2, Sparse4, DfaPure. -/
import Derived.Test.YtdiljmhikajjiaaGreatM4
import Derived.ScopeJumps
import Derived.Test.YtdiljmhikajjiaaGreatProg
import Derived.Test.YtdiljmhikajjiaaGreatM1
import Derived.Deep.QuietTactic
import Derived.BigQuiet
import Derived.Deep.DeepCutAuto
import Derived.Laws.StructEq
import Derived.WalkMore
import Derived.Test.YtdiljmhikajjiaaGreatM2
import Derived.RegionTactic
import Derived.BigRegion
import Derived.Deep.RegionWith
import Derived.Deep.LoopGhost
import Derived.WalkSpells
import Derived.StillTailTactics
section
set_option linter.unusedVariables false
set_option linter.unusedSimpArgs false
namespace Go.Proofs.YtdiljmhikajjiaaGreat
open Go.RowKit Go.Maps Seine.Trie Seine.Links Seine.Sparse
attribute [local go_sem high] max_two' max2_i
def Cn.looked (c : Cn) (n : Nat) : Cn := { c with l := c.l + (n : Int) }
theorem Cn.looked_one (c : Cn) : { c with l := c.l + 1 } = c.looked 1 := rfl
/-- Where a step stands: a shorter state, from which it ends where the first one does. -/
def StepAt (w0 : World) (g : Nat) (P l : List Txt) (mo : Option Nat) (cn : Cn) (s : Txt) (c : UInt8) (s' : Txt) (w : World) : Prop :=
  s' ∈ P ∧ lng P (s' ++ [c]) = lng P (s ++ [c]) ∧ ∃ d, looks1 P s c = d + looks1 P s' c ∧ Mo w mo (cn.looked d) ∧ Keeps (OnlyM mo) w0 w
theorem place_getD {P : List Txt} {s : Txt} (h : s ∈ P) : P.getD (place P s).toNat [] = s := by
  rw [List.getD_eq_getElem?_getD, place_get h]; rfl
theorem Cn.looked_looked (c : Cn) (a b : Nat) : (c.looked a).looked b = c.looked (a + b) := by
  unfold Cn.looked; simp only [Cn.mk.injEq, true_and, and_true]; push_cast; omega
set_option maxRecDepth 100000 in
set_option maxHeartbeats 3200000 in
theorem sstep_calls (w : World) (g eb : Nat) (P l : List Txt) (h : AutoAt w g P l) (mo : Option Nat) (ht : TabS w eb mo P) (cn : Cn) (hm : Mo w mo cn) (hT : Tree P) (hl : P.length ≤ 1000000) (s : Txt) (hs : s ∈ P) (c : UInt8)
    (hok : (cn.looked (looks1 P s c)).ok ∧ cn.ok) :
    Calls Tryz.prog 127 #[.pointer (some ⟨g, 0, none⟩), .pointer (some ⟨eb, 0, none⟩), .int .i64 (place P s), .int .u8 (c.toNat : Int)] w fun e w' =>
      e = .returned (.int .i64 (place P (lng P (s ++ [c])))) ∧ Mo w' mo (cn.looked (looks1 P s c)) ∧ Keeps (OnlyM mo) w w' := by
  have HA := As.mk h
  have HTab := As.mk ht
  have HM := As.mk hm
  have hTr := As.mk hT
  have hst0 : As (StepAt w g P l mo cn s c s w) := ⟨hs, rfl, 0, by omega, by unfold Cn.looked; simpa using hm, Keeps.refl _ _⟩
  clear h ht hm hT
  go_enter Tryz.func127, Tryz.ntmps127
  go_wp2_with fail
  refine wp_scope_jumps 0 (fun a' w' => ∃ (s' : Txt) (u9 u10 u11 u12 u13 u14 u15 u16 u17 u18 u19 u20 u21 u22 u23 u24 u25 u26 u27 : Value), a' = { tmps := #[.pointer (some ⟨g, 0, none⟩), .pointer (some ⟨eb, 0, none⟩), .int .i64 (place P s'), .int .u8 (c.toNat : Int), undef, undef, undef, undef, .int .i64 0, u9, u10, u11, u12, u13, u14, u15, u16, u17, u18, u19, u20, u21, u22, u23, u24, u25, u26, u27], defers := [] } ∧ As (StepAt w g P l mo cn s c s' w')) (fun a' _ => (P.getD (intOf (a'.tmps.getD 2 undef)).toNat []).length) rfl ?_ ?_
  · go_wp2_with fail
    go_step3
    obtain ⟨sp, hspe⟩ : ∃ x, x = s := ⟨_, rfl⟩
    subst hspe
    have hst := hst0
    obtain ⟨hsP, hlng, dl, hdl, hmo, hkp⟩ := hst.out
    obtain ⟨a, ea, ha⟩ := place_nat' hsP
    have hga : P.getD a [] = sp := by rw [List.getD_eq_getElem?_getD, ha]; rfl
    have hal := (List.getElem?_eq_some_iff.1 ha).1
    have hTb' := HTab.out.keep HM.out hkp
    have hAu' := HA.out.keepM HM.out hkp
    obtain ⟨B, h1, h2, h3, h4⟩ := hAu'
    have hlk := As.mk (mlook_calls _ eb mo P hTb' (cn.looked dl) hmo (by have := hok; have := looks1_pos P sp c; unfold Cn.ok Cn.looked at *; simp only at *; omega) a hal hl c)
    rw [hga] at hlk
    rw [ea]
    have hc1 : w.cell? ⟨g, 1, none⟩ = some (.pointer (some ⟨B.lg, 0, none⟩)) := cell_of_blk h1 1
    by_cases hq : sp ++ [c] ∈ P
    · obtain ⟨r, er, _⟩ := place_nat' hq
      have hres := As.mk (show place P (lng P (sp ++ [c])) = (r : Int) by rw [← hlng, step_hit hTr.out hq, er])
      have hlo := looks1_hit hq
      rw [er] at hlk
      have hn1 : decide ((r : Int) < 0) = false := decide_eq_false (by omega)
      have hmx : max (r : Int) 0 = (r : Int) := by omega
      have hdd := As.mk (show looks1 P sp c = dl + 1 by rw [hdl, hlo])
      replace hkp := As.mk hkp
      clear hst h1 h2 h3 h4 hTb' hlng hlo hq hmo
      go_wp2_with (go_at_call 131; refine Calls.mono hlk.out ?_; rintro e w4 ⟨rfl, hm4, hk4⟩; replace hm4 := As.mk hm4; replace hk4 := As.mk hk4)
      simp only [Exit.jump]
      go_ret
      exact ⟨ret_int hres.out.symm, by have hm5 := hm4.out; rw [Cn.looked_one, Cn.looked_looked] at hm5; rw [hdd.out]; exact hm5, hkp.out.trans hk4.out⟩
    · by_cases hs0 : sp = []
      · subst hs0
        have hres := As.mk (show place P (lng P ([] ++ [c])) = 0 by rw [← hlng, List.nil_append, step_root hTr.out (by simpa using hq), place_at hTr.out.nodup hTr.out.root]; rfl)
        have ha0 : a = 0 := by rw [place_at hTr.out.nodup hTr.out.root] at ea; omega
        subst ha0
        rw [place_none hq] at hlk
        have hdd := As.mk (show looks1 P [] c = dl + 1 by rw [hdl, looks1_root])
        replace hkp := As.mk hkp
        clear hst h1 h2 h3 h4 hTb' hlng hq hmo
        go_wp2_with (go_at_call 131; refine Calls.mono hlk.out ?_; rintro e w4 ⟨rfl, hm4, hk4⟩; replace hm4 := As.mk hm4; replace hk4 := As.mk hk4)
        simp only [Exit.jump]
        go_ret
        exact ⟨ret_int hres.out.symm, by have hm5 := hm4.out; rw [Cn.looked_one, Cn.looked_looked] at hm5; rw [hdd.out]; exact hm5, hkp.out.trans hk4.out⟩
      · obtain ⟨m, hf⟩ := fail_some hTr.out hs0
        obtain ⟨f1, f2, f3, f4⟩ := failN_some hf
        have hfall := looks1_fall hq hf
        have hlf := step_fall hTr.out hq hf
        have ha0 : 0 < a := by
          rcases Nat.eq_zero_or_pos a with z | z
          · subst z; rw [hTr.out.root] at ha; injection ha with ha; exact absurd ha.symm hs0
          · exact z
        have hff : failF P sp = place P (sp.drop m) := by unfold failF; rw [hf]
        have ha1 : decide (0 < (a : Int)) = true := decide_eq_true (by omega)
        rw [place_none hq] at hlk
        have hlen := As.mk (show (sp.drop m).length < sp.length by rw [List.length_drop]; omega)
        have hnxt := As.mk (fun w4 (hm4 : Mo w4 mo { cn.looked dl with l := (cn.looked dl).l + 1 }) (hk4 : Keeps (OnlyM mo) w w4) => (⟨f3, by rw [← hlf, hlng], dl + 1, by rw [hdl, hfall]; omega, by rw [Cn.looked_one, Cn.looked_looked] at hm4; exact hm4, hkp.trans hk4⟩ : StepAt w g P l mo cn sp c (sp.drop m) w4))
        have hfc := As.mk (fun w4 (hk4 : Keeps (OnlyM mo) w w4) => (by have := lfail_calls w4 B.lb B.lg P _ _ _ _ (LinksAt.keepM h3 hmo hk4) (a : Int); unfold askF at this; rw [if_pos (by omega), Int.toNat_natCast, hga, hff] at this; exact this : Calls Tryz.prog 74 #[.pointer (some ⟨B.lg, 0, none⟩), .int .i64 (a : Int)] w4 fun e w' => e = .returned (.int .i64 (place P (sp.drop m))) ∧ w4 = w'))
        have hgk := As.mk (fun w4 (hk4 : Keeps (OnlyM mo) w w4) => (blk_keep h1 hk4 (hmo.far h1 (.inl (by simp)))))
        generalize sp.drop m = s2 at *
        clear hst h1 h2 h3 h4 hTb' hlng hq hmo hf f4 hfall hlf hff
        go_wp2_with (first
          | (go_at_call 131; refine Calls.mono hlk.out ?_; rintro e w4 ⟨rfl, hm4, hk4⟩; have hg4 := cell_of_blk (hgk.out w4 hk4) 1; simp only [List.getElem?_toArray, List.getElem?_cons_succ, List.getElem?_cons_zero] at hg4)
          | (go_at_call 74; refine Calls.mono (hfc.out _ hk4) ?_; rintro e w5 ⟨rfl, rfl⟩))
        go_step3
        exact ⟨rfl, s2, _, _, _, _, _, _, _, _, _, _, _, _, _, _, _, _, _, _, _, rfl, ⟨hnxt.out _ hm4 hk4⟩⟩
  · rintro a' wr ⟨sp, u9, u10, u11, u12, u13, u14, u15, u16, u17, u18, u19, u20, u21, u22, u23, u24, u25, u26, u27, rfl, hst⟩
    obtain ⟨hsP, hlng, dl, hdl, hmo, hkp⟩ := hst.out
    obtain ⟨a, ea, ha⟩ := place_nat' hsP
    have hga : P.getD a [] = sp := by rw [List.getD_eq_getElem?_getD, ha]; rfl
    have hal := (List.getElem?_eq_some_iff.1 ha).1
    have hTb' := HTab.out.keep HM.out hkp
    have hAu' := HA.out.keepM HM.out hkp
    obtain ⟨B, h1, h2, h3, h4⟩ := hAu'
    have hlk := As.mk (mlook_calls _ eb mo P hTb' (cn.looked dl) hmo (by have := hok; have := looks1_pos P sp c; unfold Cn.ok Cn.looked at *; simp only at *; omega) a hal hl c)
    rw [hga] at hlk
    rw [ea]
    have hc1 : wr.cell? ⟨g, 1, none⟩ = some (.pointer (some ⟨B.lg, 0, none⟩)) := cell_of_blk h1 1
    by_cases hq : sp ++ [c] ∈ P
    · obtain ⟨r, er, _⟩ := place_nat' hq
      have hres := As.mk (show place P (lng P (s ++ [c])) = (r : Int) by rw [← hlng, step_hit hTr.out hq, er])
      have hlo := looks1_hit hq
      rw [er] at hlk
      have hn1 : decide ((r : Int) < 0) = false := decide_eq_false (by omega)
      have hmx : max (r : Int) 0 = (r : Int) := by omega
      have hdd := As.mk (show looks1 P s c = dl + 1 by rw [hdl, hlo])
      replace hkp := As.mk hkp
      clear hst h1 h2 h3 h4 hTb' hlng hlo hq hmo
      go_wp2_with (go_at_call 131; refine Calls.mono hlk.out ?_; rintro e w4 ⟨rfl, hm4, hk4⟩; replace hm4 := As.mk hm4; replace hk4 := As.mk hk4)
      simp only [Exit.jump]
      go_ret
      exact ⟨ret_int hres.out.symm, by have hm5 := hm4.out; rw [Cn.looked_one, Cn.looked_looked] at hm5; rw [hdd.out]; exact hm5, hkp.out.trans hk4.out⟩
    · by_cases hs0 : sp = []
      · subst hs0
        have hres := As.mk (show place P (lng P (s ++ [c])) = 0 by rw [← hlng, List.nil_append, step_root hTr.out (by simpa using hq), place_at hTr.out.nodup hTr.out.root]; rfl)
        have ha0 : a = 0 := by rw [place_at hTr.out.nodup hTr.out.root] at ea; omega
        subst ha0
        rw [place_none hq] at hlk
        have hdd := As.mk (show looks1 P s c = dl + 1 by rw [hdl, looks1_root])
        replace hkp := As.mk hkp
        clear hst h1 h2 h3 h4 hTb' hlng hq hmo
        go_wp2_with (go_at_call 131; refine Calls.mono hlk.out ?_; rintro e w4 ⟨rfl, hm4, hk4⟩; replace hm4 := As.mk hm4; replace hk4 := As.mk hk4)
        simp only [Exit.jump]
        go_ret
        exact ⟨ret_int hres.out.symm, by have hm5 := hm4.out; rw [Cn.looked_one, Cn.looked_looked] at hm5; rw [hdd.out]; exact hm5, hkp.out.trans hk4.out⟩
      · obtain ⟨m, hf⟩ := fail_some hTr.out hs0
        obtain ⟨f1, f2, f3, f4⟩ := failN_some hf
        have hfall := looks1_fall hq hf
        have hlf := step_fall hTr.out hq hf
        have ha0 : 0 < a := by
          rcases Nat.eq_zero_or_pos a with z | z
          · subst z; rw [hTr.out.root] at ha; injection ha with ha; exact absurd ha.symm hs0
          · exact z
        have hff : failF P sp = place P (sp.drop m) := by unfold failF; rw [hf]
        have ha1 : decide (0 < (a : Int)) = true := decide_eq_true (by omega)
        rw [place_none hq] at hlk
        have hlen := As.mk (show (sp.drop m).length < sp.length by rw [List.length_drop]; omega)
        have hnxt := As.mk (fun w4 (hm4 : Mo w4 mo { cn.looked dl with l := (cn.looked dl).l + 1 }) (hk4 : Keeps (OnlyM mo) wr w4) => (⟨f3, by rw [← hlf, hlng], dl + 1, by rw [hdl, hfall]; omega, by rw [Cn.looked_one, Cn.looked_looked] at hm4; exact hm4, hkp.trans hk4⟩ : StepAt w g P l mo cn s c (sp.drop m) w4))
        have hfc := As.mk (fun w4 (hk4 : Keeps (OnlyM mo) wr w4) => (by have := lfail_calls w4 B.lb B.lg P _ _ _ _ (LinksAt.keepM h3 hmo hk4) (a : Int); unfold askF at this; rw [if_pos (by omega), Int.toNat_natCast, hga, hff] at this; exact this : Calls Tryz.prog 74 #[.pointer (some ⟨B.lg, 0, none⟩), .int .i64 (a : Int)] w4 fun e w' => e = .returned (.int .i64 (place P (sp.drop m))) ∧ w4 = w'))
        have hgk := As.mk (fun w4 (hk4 : Keeps (OnlyM mo) wr w4) => (blk_keep h1 hk4 (hmo.far h1 (.inl (by simp)))))
        generalize sp.drop m = s2 at *
        clear hst h1 h2 h3 h4 hTb' hlng hq hmo hf f4 hfall hlf hff
        go_wp2_with (first
          | (go_at_call 131; refine Calls.mono hlk.out ?_; rintro e w4 ⟨rfl, hm4, hk4⟩; have hg4 := cell_of_blk (hgk.out w4 hk4) 1; simp only [List.getElem?_toArray, List.getElem?_cons_succ, List.getElem?_cons_zero] at hg4)
          | (go_at_call 74; refine Calls.mono (hfc.out _ hk4) ?_; rintro e w5 ⟨rfl, rfl⟩))
        go_step3
        exact ⟨rfl, ⟨s2, _, _, _, _, _, _, _, _, _, _, _, _, _, _, _, _, _, _, _, rfl, ⟨hnxt.out _ hm4 hk4⟩⟩, by show (P.getD (place P s2).toNat []).length < (P.getD ((a : Int)).toNat []).length; rw [Int.toNat_natCast, hga, place_getD f3]; exact hlen.out⟩
end Go.Proofs.YtdiljmhikajjiaaGreat
end
section
set_option linter.unusedVariables false
set_option linter.unusedSimpArgs false
namespace Go.Proofs.YtdiljmhikajjiaaGreat
open Go.RowKit
abbrev Pr := Int × Int
theorem info_pr : (Tryz.prog.info? 57).map (fun i => (i.zero, i.size, i.bytes)) = some (some (.agg #[(.int .i64 0), (.int .i64 0)]), 2, 16) := by kernel_rfl
def prCells (xs : List Pr) : List Value := xs.flatMap fun p => [.int .i64 p.1, .int .i64 p.2]
theorem prCells_length (xs : List Pr) : (prCells xs).length = xs.length * 2 := by
  induction xs with
  | nil => rfl
  | cons x xs ih => exact (congrArg (· + 2) ih).trans (by show _ = (xs.length + 1) * 2; omega)
theorem prCells_snoc (xs : List Pr) (p : Pr) : prCells (xs ++ [p]) = prCells xs ++ [.int .i64 p.1, .int .i64 p.2] := by simp [prCells]
theorem prCells_at (xs : List Pr) (i : Nat) (h : i < xs.length) : (prCells xs)[i * 2]? = some (.int .i64 (xs.getD i (0, 0)).1) ∧ (prCells xs)[i * 2 + 1]? = some (.int .i64 (xs.getD i (0, 0)).2) := by
  induction xs generalizing i with
  | nil => simp at h
  | cons x xs ih =>
    cases i with
    | zero => simp [prCells]
    | succ i =>
      have := ih i (by simpa using h)
      have e1 : (i + 1) * 2 = i * 2 + 2 := by omega
      have e2 : prCells (x :: xs) = .int .i64 x.1 :: .int .i64 x.2 :: prCells xs := rfl
      rw [e1, e2]
      simpa using this
/-- A slice of pairs. -/
abbrev Prs (w : World) (A : Option Addr) (xs : List Pr) : Prop := Row w A (prCells xs)
abbrev OwnPrs (w : World) (base : Nat) (v : Value) (xs : List Pr) : Prop := w.ownsRow base 57 2 v xs.length (prCells xs)
theorem Prs.at_ {w : World} {A : Option Addr} {xs : List Pr} (h : Prs w A xs) {i : Nat} (hi : i < xs.length) : ∃ ad, A = some ad ∧
    w.cell? (ad.add (i * 2)) = some (.int .i64 (xs.getD i (0, 0)).1) ∧ w.cell? ⟨(ad.add (i * 2)).block, (ad.add (i * 2)).off + 1, none⟩ = some (.int .i64 (xs.getD i (0, 0)).2) := by
  obtain ⟨h1, h2⟩ := prCells_at xs i hi
  rcases h with h | ⟨ad, hA, _, hc⟩
  · rw [h] at h1; simp at h1
  · exact ⟨ad, hA, hc _ _ h1, by rw [← Addr.add_field _ _ _ (by omega)]; exact hc _ _ h2⟩
theorem eqPr (d : Nat) (w : World) (x0 y0 : Int) (x1 y1 : Int) :
    (Op.equalIn (d + 2) 57 (.agg #[.int .i64 x0, .int .i64 x1]) (.agg #[.int .i64 y0, .int .i64 y1])).run Tryz.prog w = .ok (x0 == y0 && (x1 == y1)) w := by
  have h := field_eq (P := Tryz.prog) (d := d + 1) (w := w) (xs := #[.int .i64 x0, .int .i64 x1]) (ys := #[.int .i64 y0, .int .i64 y1]) (f := ⟨"Start", 3, 0, false, "", "", 0⟩) (by decide) (by go_simp; rfl) (by go_simp; rfl) (by go_simp; rfl)
    (field_eq (f := ⟨"End", 3, 1, false, "", "", 8⟩) (by decide) (by go_simp; rfl) (by go_simp; rfl) (by go_simp; rfl) fields_none)
  rw [Bool.and_true] at h
  exact struct_eq Tryz.underlying57 (by kernel_rfl) h
attribute [local go_sem high] eqPr
set_option maxHeartbeats 400000 in
theorem same_calls (A B : Option Addr) (c d : Nat) (xs ys : List Pr) (w : World) (hx : Prs w A xs) (hy : Prs w B ys) (hl : xs.length ≤ 1000000000) (hk : ys.length ≤ 1000000000) :
    Calls Tryz.prog 12 #[.slice A xs.length c, .slice B ys.length d] w fun e w' => e = .returned (.bool (decide (xs = ys))) ∧ ∃ n, w' = w.drewN n := by
  have hu25 := Tryz.underlying57
  have HX := As.mk hx
  have HY := As.mk hy
  clear hx hy
  obtain ⟨r, hr⟩ : ∃ r, decide (xs = ys) = r := ⟨_, rfl⟩
  rw [hr]
  have HR := As.mk hr
  clear hr
  by_cases hn : xs.length = ys.length
  · have h1 : ((xs.length : Int) != (ys.length : Int)) = false := by simp [hn]
    have hf := As.mk hn
    clear hn
    go_enter Tryz.func12, Tryz.ntmps12
    go_wp2
    go_loopw [5] (fun v wr => ∃ (k : Nat) (n : Nat), k ≤ xs.length ∧ v = .int .i64 k ∧ As (xs.take k = ys.take k) ∧ wr = w.drewN n) (fun v _ => xs.length - (intOf v).toNat)
    case atStart => exact ⟨0, 0, Nat.zero_le _, rfl, ⟨rfl⟩, rfl⟩
    case round =>
      obtain ⟨k, n, hk, rfl, ht, rfl⟩ := hrel
      by_cases hlt : k < xs.length
      · obtain ⟨ad, rfl, a1, a2⟩ := Prs.at_ HX.out hlt
        have hlt2 : k < ys.length := by have := hf.out; omega
        obtain ⟨bd, rfl, b1, b2⟩ := Prs.at_ HY.out hlt2
        have hts := As.mk (show xs.take (k + 1) = xs.take k ++ [xs.getD k (0, 0)] by rw [List.take_succ_eq_append_getElem hlt]; simp [hlt])
        have hty := As.mk (show ys.take (k + 1) = ys.take k ++ [ys.getD k (0, 0)] by rw [List.take_succ_eq_append_getElem hlt2]; simp [hlt2])
        by_cases heq : xs.getD k (0, 0) = ys.getD k (0, 0)
        · have e1 : (!((xs.getD k (0, 0)).1 == (ys.getD k (0, 0)).1) || !((xs.getD k (0, 0)).2 == (ys.getD k (0, 0)).2)) = false := by rw [heq]; simp
          have he := As.mk heq
          clear heq
          generalize xs.getD k (0, 0) = p at *
          generalize ys.getD k (0, 0) = q at *
          go_wp2
          go_quiet (fail)
          go_wp2
          go_roundw
          case rel => exact ⟨k + 1, _, by omega, by go_num, ⟨by rw [hts.out, hty.out, ht.out, he.out]⟩, rfl⟩
          case measure => simp [intOf]; omega
        · have e1 : (!((xs.getD k (0, 0)).1 == (ys.getD k (0, 0)).1) || !((xs.getD k (0, 0)).2 == (ys.getD k (0, 0)).2)) = true := by
            have := heq
            rw [Prod.ext_iff] at this
            simp only [Bool.or_eq_true, Bool.not_eq_true', beq_eq_false_iff_ne]
            omega
          have hne : As (decide (xs = ys) = false) := ⟨by simp only [decide_eq_false_iff_not]; rintro rfl; exact heq rfl⟩
          clear heq hts hty ht
          generalize xs.getD k (0, 0) = p at *
          generalize ys.getD k (0, 0) = q at *
          go_wp2
          go_quiet (fail)
          go_wp2
          go_ret
          exact ⟨ret_bool (hne.out.symm.trans HR.out), _, World.drewN_drewN ..⟩
      · have hfin : As (decide (xs = ys) = true) := ⟨by
          have h1 := ht.out; have h2 := hf.out
          rw [List.take_of_length_le (by omega), List.take_of_length_le (by omega)] at h1
          simpa using h1⟩
        go_wp2
        go_ret
        exact ⟨ret_bool (hfin.out.symm.trans HR.out), _, rfl⟩
  · have h1 : ((xs.length : Int) != (ys.length : Int)) = true := by simp; omega
    have h2 : decide (xs = ys) = false := by simp; rintro rfl; exact hn rfl
    obtain rfl : r = false := by rw [← HR.out, h2]
    clear hn h2
    go_enter Tryz.func12, Tryz.ntmps12
    go_wp2
    go_ret
    exact ⟨rfl, 0, rfl⟩
theorem OwnPrs.row {w : World} {base : Nat} {v : Value} {xs : List Pr} (h : OwnPrs w base v xs) : ∃ A c, v = .slice A xs.length c ∧ xs.length ≤ c ∧ Prs w A xs := by
  obtain ⟨A, c, rfl, hc⟩ := own_slice h
  exact ⟨A, c, rfl, hc, Row.of_own h⟩
theorem ownPrs_snoc {w : World} {base : Nat} {v : Value} {xs : List Pr} {s e : Int} (h : w.ownsRow base 57 2 v (xs.length + 1) (prCells xs ++ [.int .i64 s, .int .i64 e])) : OwnPrs w base v (xs ++ [(s, e)]) := by
  unfold OwnPrs
  rw [List.length_append, prCells_snoc]
  exact h
/-- Pairs in new memory. -/
def RetPrs (w : World) (xs : List Pr) (e : Ending) (w' : World) : Prop := ∃ v, e = .returned v ∧ OwnPrs w' w.heap.size v xs ∧ Below w.heap.size w w'
theorem RetPrs.row {w w' : World} {xs : List Pr} {e : Ending} (h : RetPrs w xs e w') : ∃ A c, e = .returned (.slice A xs.length c) ∧ xs.length ≤ c ∧ Prs w' A xs ∧ Below w.heap.size w w' := by
  obtain ⟨v, rfl, ho, hb⟩ := h
  obtain ⟨A, c, rfl, hc, hr⟩ := OwnPrs.row ho
  exact ⟨A, c, rfl, hc, hr, hb⟩
end Go.Proofs.YtdiljmhikajjiaaGreat
end
section
set_option linter.unusedVariables false
set_option linter.unusedSimpArgs false
namespace Go.Proofs.YtdiljmhikajjiaaGreat
open Go.RowKit Seine.Sort
attribute [local go_sem high] eqPr
theorem pless_calls (w : World) (a1 a2 b1 b2 : Int) (r : Bool) (hr : r = decide (lt (a1, a2) (b1, b2))) :
    Calls Tryz.prog 57 #[.agg #[.int .i64 a1, .int .i64 a2], .agg #[.int .i64 b1, .int .i64 b2]] w fun e w' => e = .returned (.bool r) ∧ Below w.heap.size w w' := by
  have hb : ∀ o o', Below w.heap.size w ((w.alloc o).alloc o') := fun o o' => ((Below.refl _ _).alloc (Nat.le_refl _) _).alloc (by simp) _
  by_cases h : a1 = b1
  · have hr2 : r = decide (a2 < b2) := by rw [hr, decide_eq_decide]; unfold lt; simp; omega
    have hx : (!(a1 == b1)) = false := by simp [h]
    clear hr
    go_enter Tryz.func57, Tryz.ntmps57
    go_wp2
    go_ret
    exact ⟨ret_bool hr2.symm, hb _ _⟩
  · have hr2 : r = decide (a1 < b1) := by rw [hr, decide_eq_decide]; unfold lt; simp; omega
    have hx : (!(a1 == b1)) = true := by simp [h]
    clear hr
    go_enter Tryz.func57, Tryz.ntmps57
    go_wp2
    go_ret
    exact ⟨ret_bool hr2.symm, hb _ _⟩
theorem Prs.tail {w : World} {ad : Addr} {x : Pr} {xs : List Pr} (h : Prs w (some ad) (x :: xs)) : Prs w (some (ad.add 2)) xs := by
  rcases h with h | ⟨ad', e, hlt, hc⟩
  · simp [prCells] at h
  · injection e with e
    subst e
    refine .inr ⟨_, rfl, by rw [Addr.block_add]; exact hlt, fun j u hu => ?_⟩
    rw [Addr.add_add', Nat.add_comm 2 j]
    exact hc _ u (by simpa [prCells] using hu)
theorem Prs.head {w : World} {A : Option Addr} {x : Pr} {xs : List Pr} (h : Prs w A (x :: xs)) : ∃ ad, A = some ad ∧ w.cell? ad = some (.int .i64 x.1) ∧ w.cell? ⟨ad.block, ad.off + 1, none⟩ = some (.int .i64 x.2) := by
  obtain ⟨ad, e, h1, h2⟩ := Prs.at_ h (i := 0) (by simp)
  have h0 : ad.add 0 = ad := by simp [Addr.add]
  rw [Nat.zero_mul, h0] at h1 h2
  exact ⟨ad, e, h1, h2⟩
theorem prLast {w : World} {base : Nat} {v : Value} {out : List Pr} {x : Pr} (h : OwnPrs w base v (out ++ [x])) : ∃ b c, v = .slice (some ⟨b, 0, none⟩) (out.length + 1) c ∧ out.length + 1 ≤ c ∧ w.cell? ⟨b, out.length * 2, none⟩ = some (.int .i64 x.1) ∧ w.cell? ⟨b, out.length * 2 + 1, none⟩ = some (.int .i64 x.2) ∧ b < w.heap.size := by
  obtain ⟨A, c, e, hc, hr⟩ := OwnPrs.row h
  rw [List.length_append, List.length_singleton] at e hc
  rcases h.2 with ⟨_, h0⟩ | ⟨b, cap, cur, hv, _, hh, _⟩
  · simp at h0
  · rw [hv] at e
    injection e with e1 _ e3
    subst e1
    obtain ⟨ad, e4, h1, h2⟩ := Prs.at_ hr (i := out.length) (by simp)
    injection e4 with e4
    subst e4
    have hg : (out ++ [x]).getD out.length (0, 0) = x := by simp [List.getD_eq_getElem?_getD]
    rw [hg] at h1 h2
    have hadd : (⟨b, 0, none⟩ : Addr).add (out.length * 2) = ⟨b, out.length * 2, none⟩ := by unfold Addr.add; split <;> simp_all
    rw [hadd] at h1 h2
    exact ⟨b, c, by rw [hv, e3, List.length_append, List.length_singleton], hc, h1, h2, block_lt hh⟩
/-- Where two rows are put together: what is left of each, and what is out. -/
def JRel (w : World) (a b : List Pr) (n1 n2 gk : Nat) (v1 v2 v3 : Value) (wr : World) : Prop :=
  ∃ (A' B' : Option Addr) (m1 c' m2 d' : Nat) (a' b' out : List Pr) (u : Value), v1 = .slice A' m1 c' ∧ v2 = .slice B' m2 d' ∧ v3 = u ∧ As (a'.length = m1) ∧ As (b'.length = m2) ∧ As (m1 + m2 + 1 ≤ gk) ∧ m1 ≤ c' ∧ m2 ≤ d' ∧ c' ≤ 9223372036854775807 ∧ d' ≤ 9223372036854775807 ∧ As (out.length + m1 + m2 ≤ n1 + n2) ∧
    As (Prs w A' a') ∧ As (Prs w B' b') ∧ As (Join a b a' b' out) ∧ As (OwnPrs wr w.heap.size u out) ∧ As (Below w.heap.size w wr)
theorem JRel.nextA {w wr : World} {a b a' b' out : List Pr} {n1 n2 gk m1 m2 c' d' : Nat} {x : Pr} {B' : Option Addr} (hm1 : (x :: a').length = m1) (hm2 : b'.length = m2) (hgk : m1 + m2 + 1 ≤ gk + 1) (hmc : m1 ≤ c') (hmd : m2 ≤ d') (hc' : c' ≤ 9223372036854775807) (hd' : d' ≤ 9223372036854775807)
    (hout : out.length + m1 + m2 ≤ n1 + n2) (hJ : Join a b a' b' (push out x)) (hRB : Prs w B' b') (A'' : Option Addr) (hRA : Prs w A'' a') :
    ∀ v4 w4, OwnPrs w4 w.heap.size v4 (push out x) → Below w.heap.size w w4 → JRel w a b n1 n2 gk (.slice A'' (m1 - 1) (c' - 1)) (.slice B' m2 d') v4 w4 := fun v4 w4 ho4 hb4 => by
  have := push_len out x
  rw [List.length_cons] at hm1
  exact ⟨_, _, m1 - 1, c' - 1, m2, d', a', b', _, _, rfl, rfl, rfl, ⟨by omega⟩, ⟨hm2⟩, ⟨by omega⟩, by omega, hmd, by omega, hd', ⟨by omega⟩, ⟨hRA⟩, ⟨hRB⟩, ⟨hJ⟩, ⟨ho4⟩, ⟨hb4⟩⟩
theorem JRel.nextB {w wr : World} {a b a' b' out : List Pr} {n1 n2 gk m1 m2 c' d' : Nat} {x : Pr} {A' : Option Addr} (hm1 : a'.length = m1) (hm2 : (x :: b').length = m2) (hgk : m1 + m2 + 1 ≤ gk + 1) (hmc : m1 ≤ c') (hmd : m2 ≤ d') (hc' : c' ≤ 9223372036854775807) (hd' : d' ≤ 9223372036854775807)
    (hout : out.length + m1 + m2 ≤ n1 + n2) (hJ : Join a b a' b' (push out x)) (hRA : Prs w A' a') (B'' : Option Addr) (hRB : Prs w B'' b') :
    ∀ v4 w4, OwnPrs w4 w.heap.size v4 (push out x) → Below w.heap.size w w4 → JRel w a b n1 n2 gk (.slice A' m1 c') (.slice B'' (m2 - 1) (d' - 1)) v4 w4 := fun v4 w4 ho4 hb4 => by
  have := push_len out x
  rw [List.length_cons] at hm2
  exact ⟨_, _, m1, c', m2 - 1, d' - 1, a', b', _, _, rfl, rfl, rfl, ⟨hm1⟩, ⟨by omega⟩, ⟨by omega⟩, hmc, by omega, hc', by omega, ⟨by omega⟩, ⟨hRA⟩, ⟨hRB⟩, ⟨hJ⟩, ⟨ho4⟩, ⟨hb4⟩⟩
theorem zero_len {α : Type} {x : α} {l : List α} {m : Nat} (h : (x :: l).length = m) (h1 : m ≤ 1) : l = [] := by
  rw [List.length_cons] at h
  exact List.eq_nil_of_length_eq_zero (by omega)
theorem keepsTwo {wr W1 : World} (h : Below wr.heap.size wr W1) (x1 x2 : Value) : Keeps (fun k => k = wr.heap.size) wr ((W1.setCell ⟨wr.heap.size, 0, none⟩ x1).setCell ⟨wr.heap.size, 1, none⟩ x2).drew :=
  Keeps.drew (((Keeps.of_below h (fun k => k = wr.heap.size)).trans (keepsSt W1 ⟨wr.heap.size, 0, none⟩ x1)).trans (keepsSt (W1.setCell ⟨wr.heap.size, 0, none⟩ x1) ⟨wr.heap.size, 1, none⟩ x2))
theorem nil_or_snoc : ∀ (out : List Pr), out = [] ∨ ∃ pre z, out = pre ++ [z]
  | [] => .inl rfl
  | x :: l => .inr ⟨(x :: l).dropLast, (x :: l).getLast (by simp), (List.dropLast_concat_getLast (by simp)).symm⟩
theorem push_new {out : List Pr} {x : Pr} (h : out.getLast? ≠ some x) : push out x = out ++ [x] := if_neg h
theorem push_old {out : List Pr} {x : Pr} (h : out.getLast? = some x) : push out x = out := if_pos h
def Pick (t : Bool) (a b : List Pr) : Prop := (t = true → ∃ x a2, a = x :: a2 ∧ ∀ y ∈ b, lt x y ∨ x = y) ∧ (t = false → ∃ y b2, b = y :: b2 ∧ ∀ x ∈ a, lt y x ∨ y = x)
theorem Pick.left {x : Pr} {a b : List Pr} (h : ∀ y ∈ b, lt x y ∨ x = y) : Pick true (x :: a) b := ⟨fun _ => ⟨x, a, rfl, h⟩, fun h => by cases h⟩
theorem Pick.right {y : Pr} {a b : List Pr} (h : ∀ x ∈ a, lt y x ∨ y = x) : Pick false a (y :: b) := ⟨fun h => (by cases h), fun _ => ⟨y, b, rfl, h⟩⟩
abbrev zeroPair : Obj := .cells #[.int .i64 0, .int .i64 0] 57
set_option maxRecDepth 100000 in
set_option maxHeartbeats 1600000 in
theorem joined_calls (A : Option Addr) (c : Nat) (a : List Pr) (B : Option Addr) (d : Nat) (b : List Pr) (w : World) (ha : Prs w A a) (hb : Prs w B b) (hac : a.length ≤ c) (hbd : b.length ≤ d) (hcm : c ≤ maxLen) (hdm : d ≤ maxLen) (ra : Rise a) (rb : Rise b) (hl : a.length + b.length ≤ 100000000) :
    Calls Tryz.prog 56 #[.slice A a.length c, .slice B b.length d, .func (.func 57) #[] #[]] w (RetPrs w (sortP (a ++ b))) := by
  have hu25 := Tryz.underlying57
  unfold maxLen at hcm hdm
  obtain ⟨R, hR⟩ : ∃ R, sortP (a ++ b) = R := ⟨_, rfl⟩
  rw [hR]
  replace hR := As.mk hR
  obtain ⟨n1, hn1⟩ : ∃ n, a.length = n := ⟨_, rfl⟩
  obtain ⟨n2, hn2⟩ : ∃ n, b.length = n := ⟨_, rfl⟩
  rw [hn1] at hac hl ⊢
  rw [hn2] at hbd hl ⊢
  have hstart : As (JRel w a b n1 n2 (n1 + n2 + 1) (.slice A n1 c) (.slice B n2 d) (.slice none 0 0) w) :=
    ⟨⟨A, B, n1, c, n2, d, a, b, [], _, rfl, rfl, rfl, ⟨hn1⟩, ⟨hn2⟩, ⟨by omega⟩, hac, hbd, by omega, by omega, ⟨by simp⟩, ⟨ha⟩, ⟨hb⟩, ⟨Join.start ra rb⟩, ⟨World.ownsRow_nil _ _ _ _⟩, ⟨Below.refl _ _⟩⟩⟩
  clear ha hb ra rb
  go_enter Tryz.func56, Tryz.ntmps56
  go_wp2
  go_loopg [0, 1, 7] (n1 + n2 + 1) (fun gk v1 v2 v3 wr => JRel w a b n1 n2 gk v1 v2 v3 wr)
  case atStart => exact hstart.out
  case round =>
    obtain ⟨A', B', m1, c', m2, d', a', b', out, v3, rfl, rfl, rfl, hm1, hm2, hgk, hmc, hmd, hc', hd', hout, hRA, hRB, hJ, hown, hbel⟩ := hrel
    by_cases hend : m1 = 0 ∧ m2 = 0
    · obtain ⟨rfl, rfl⟩ := hend
      obtain rfl := List.eq_nil_of_length_eq_zero hm1.out
      obtain rfl := List.eq_nil_of_length_eq_zero hm2.out
      go_wp2
      go_ret
      exact ⟨_, rfl, by rw [← hR.out, ← hJ.out.done]; exact hown.out, hbel.out⟩
    · obtain ⟨gp, rfl⟩ : ∃ gp, gk = gp + 1 := ⟨gk - 1, by have := hgk.out; omega⟩
      go_upto_region 2 with fail
      go_cut [16] from 9 to 62 (fun v16 wx => v16 = .bool true ∧ wr = wx)
      case first =>
        by_cases h1 : 0 < m1
        · have hz1 : decide (0 < (m1 : Int)) = true := decide_eq_true (by omega)
          go_wp2_with fail
          go_meet
          case rel => exact ⟨rfl, rfl⟩
        · obtain rfl : m1 = 0 := by omega
          have h2 : 0 < m2 := by omega
          have hz2 : decide (0 < (m2 : Int)) = true := decide_eq_true (by omega)
          go_wp2_with fail
          go_meet
          case rel => exact ⟨rfl, rfl⟩
      case rest =>
        obtain ⟨rfl, rfl⟩ := hcut
        go_upto_region 4 with fail
        have hW0 := As.mk ((Below.refl wr.heap.size wr).alloc (Nat.le_refl _) zeroPair)
        have hq0 := As.mk (show (wr.alloc zeroPair).heap[wr.heap.size]? = some (.cells #[.int .i64 0, .int .i64 0] 57 (0, 0)) from heap_alloc_new _ _)
        obtain ⟨W0, hWe⟩ : ∃ W, wr.alloc (.cells #[.int .i64 0, .int .i64 0] 57) = W := ⟨_, rfl⟩
        unfold zeroPair at hW0 hq0
        rw [hWe] at hW0 hq0 ⊢
        clear hWe
        have hB0 := As.mk (hbel.out.trans (hW0.out.mono hbel.out.size))
        go_cut [35] from 9 to 62 (fun v35 wx => ∃ t : Bool, v35 = .bool t ∧ As (Below wr.heap.size wr wx) ∧ As (wx.heap[wr.heap.size]? = some (.cells #[.int .i64 0, .int .i64 0] 57 (0, 0))) ∧ As (Pick t a' b'))
        case first =>
          cases b' with
          | nil =>
            obtain rfl : m2 = 0 := hm2.out.symm
            cases a' with
            | nil => exact absurd ⟨hm1.out.symm, rfl⟩ hend
            | cons x a' =>
              have hP := As.mk (Pick.left (a := a') (b := []) (x := x) (by simp))
              go_region
              go_wp2_with fail
              go_meet
              case rel => exact ⟨_, rfl, ⟨hW0.out.drew⟩, hq0, hP⟩
          | cons y b' =>
            have hp2 : 0 < m2 := by have := hm2.out; simp at this; omega
            have hz3 : ((m2 : Int) == 0) = false := by simp; omega
            cases a' with
            | nil =>
              obtain rfl : m1 = 0 := hm1.out.symm
              have hP := As.mk (Pick.right (a := []) (b := b') (y := y) (by simp))
              go_region
              go_wp2_with fail
              go_meet
              case rel => exact ⟨_, rfl, ⟨hW0.out.drew⟩, hq0, hP⟩
            | cons x a' =>
              have hp1 : 0 < m1 := by have := hm1.out; simp at this; omega
              have hz1 : decide (0 < (m1 : Int)) = true := decide_eq_true (by omega)
              have hP : As (Pick (!decide (lt y x)) (x :: a') (y :: b')) := ⟨by
                by_cases hlt : lt y x
                · rw [decide_eq_true hlt]; exact Pick.right (rise_head hJ.out.ra (.inl hlt))
                · rw [decide_eq_false hlt]
                  refine Pick.left (rise_head hJ.out.rb ?_)
                  rcases lt_tri x y with h | h | h
                  · exact .inl h
                  · exact .inr h
                  · exact absurd h hlt⟩
              have hc1 := Prs.head (Row.below hRA.out hB0.out)
              have hc2 := Prs.head (Row.below hRB.out hB0.out)
              have cl := As.mk (fun v => pless_calls v y.1 y.2 x.1 x.2 (decide (lt y x)) rfl)
              generalize decide (lt y x) = t at *
              obtain ⟨o1, o2⟩ := x
              obtain ⟨o3, o4⟩ := y
              obtain ⟨ad, rfl, p1, p2⟩ := hc1
              obtain ⟨bd, rfl, p3, p4⟩ := hc2
              simp only at p1 p2 p3 p4 cl
              go_still_tail 15, (by kernel_rfl)
              change wpList _ _ _ _ _ W0.drew
              go_wp2_with (go_at_call 57; refine Calls.mono (cl.out _) ?_; rintro e W1 ⟨rfl, hb⟩)
              go_meet
              case rel => exact ⟨_, rfl, ⟨belowNext (Below.drew hW0.out) hb⟩, ⟨blkBelow hb hq0.out⟩, hP⟩
        case rest =>
          obtain ⟨t, rfl, hW, hq1, hp⟩ := hcut
          obtain ⟨W1, hWc⟩ : ∃ W, wc = W := ⟨_, rfl⟩
          rw [hWc] at hW hq1 ⊢
          clear hWc hW0 hq0 hB0
          have hB1 := As.mk (hbel.out.trans (hW.out.mono hbel.out.size))
          go_upto_if 35 with fail
          go_cut [0, 1] from 9 to 62 (fun v0 v1 wx => ∃ x1 x2, As (wx.heap[wr.heap.size]? = some (.cells #[.int .i64 x1, .int .i64 x2] 57 (0, 0))) ∧ As (Keeps (fun k => k = wr.heap.size) wr wx) ∧ As (∀ v4 w4, OwnPrs w4 w.heap.size v4 (push out (x1, x2)) → Below w.heap.size w w4 → JRel w a b n1 n2 gp v0 v1 v4 w4))
          case first =>
            cases t with
            | true =>
              obtain ⟨⟨x1, x2⟩, a2, rfl, hmin⟩ := hp.out.1 rfl
              have hJ2 := As.mk (hJ.out.takeA hmin)
              have hp1 : 0 < m1 := by have := hm1.out; simp at this; omega
              clear hmin hp
              have k0 : W1.cell? ⟨wr.heap.size, 0, none⟩ = some (.int .i64 0) := cell_of_blk hq1.out 0
              have k1 : W1.cell? ⟨wr.heap.size, 1, none⟩ = some (.int .i64 0) := cell_of_blk hq1.out 1
              have f0 : W1.frozen? ⟨wr.heap.size, 0, none⟩ = false := free_of_blk hq1.out 0
              have f1 : W1.frozen? ⟨wr.heap.size, 1, none⟩ = false := free_of_blk hq1.out 1
              obtain ⟨ad, rfl, a1, a2⟩ := Prs.head (Row.below hRA.out hB1.out)
              by_cases hcl : c' = 1
              · subst hcl
                obtain rfl : m1 = 1 := by omega
                have ha0 := zero_len hm1.out (Nat.le_refl _)
                have hfin := As.mk (JRel.nextA (x := (x1, x2)) (n1 := n1) (n2 := n2) (out := out) (wr := wr) hm1.out hm2.out hgk.out hmc hmd hc' hd' hout.out hJ2.out hRB.out (some ad) (.inl (by rw [ha0]; rfl)))
                have hK2 : Keeps (fun k => k = wr.heap.size) wr ((W1.setCell ⟨wr.heap.size, 0, none⟩ (.int .i64 x1)).setCell ⟨wr.heap.size, 1, none⟩ (.int .i64 x2)).drew := keepsTwo hW.out _ _
                have hq2 : ((W1.setCell ⟨wr.heap.size, 0, none⟩ (.int .i64 x1)).setCell ⟨wr.heap.size, 1, none⟩ (.int .i64 x2)).drew.heap[wr.heap.size]? = some (.cells #[.int .i64 x1, .int .i64 x2] 57 (0, 0)) := by
                  have := blk_set (blk_set hq1.out 0 (.int .i64 x1)) 1 (.int .i64 x2)
                  simp only [List.setIfInBounds_toArray, List.set_cons_zero, List.set_cons_succ] at this
                  exact this
                go_wp2
                go_region
                all_goals
                  go_wp2_with fail
                  go_meet
                  case rel => exact ⟨x1, x2, ⟨hq2⟩, ⟨hK2⟩, hfin⟩
              · have hfin := As.mk (JRel.nextA (x := (x1, x2)) (n1 := n1) (n2 := n2) (out := out) (wr := wr) hm1.out hm2.out hgk.out hmc hmd hc' hd' hout.out hJ2.out hRB.out (some ⟨ad.block, ad.off + 2, none⟩) (Prs.tail hRA.out))
                have hK2 : Keeps (fun k => k = wr.heap.size) wr ((W1.setCell ⟨wr.heap.size, 0, none⟩ (.int .i64 x1)).setCell ⟨wr.heap.size, 1, none⟩ (.int .i64 x2)).drew := keepsTwo hW.out _ _
                have hq2 : ((W1.setCell ⟨wr.heap.size, 0, none⟩ (.int .i64 x1)).setCell ⟨wr.heap.size, 1, none⟩ (.int .i64 x2)).drew.heap[wr.heap.size]? = some (.cells #[.int .i64 x1, .int .i64 x2] 57 (0, 0)) := by
                  have := blk_set (blk_set hq1.out 0 (.int .i64 x1)) 1 (.int .i64 x2)
                  simp only [List.setIfInBounds_toArray, List.set_cons_zero, List.set_cons_succ] at this
                  exact this
                go_wp2
                go_region
                all_goals
                  go_wp2_with fail
                  go_meet
                  case rel => exact ⟨x1, x2, ⟨hq2⟩, ⟨hK2⟩, hfin⟩
            | false =>
              obtain ⟨⟨x1, x2⟩, b2, rfl, hmin⟩ := hp.out.2 rfl
              have hJ2 := As.mk (hJ.out.takeB hmin)
              have hp1 : 0 < m2 := by have := hm2.out; simp at this; omega
              clear hmin hp
              have k0 : W1.cell? ⟨wr.heap.size, 0, none⟩ = some (.int .i64 0) := cell_of_blk hq1.out 0
              have k1 : W1.cell? ⟨wr.heap.size, 1, none⟩ = some (.int .i64 0) := cell_of_blk hq1.out 1
              have f0 : W1.frozen? ⟨wr.heap.size, 0, none⟩ = false := free_of_blk hq1.out 0
              have f1 : W1.frozen? ⟨wr.heap.size, 1, none⟩ = false := free_of_blk hq1.out 1
              obtain ⟨ad, rfl, a1, a2⟩ := Prs.head (Row.below hRB.out hB1.out)
              by_cases hcl : d' = 1
              · subst hcl
                obtain rfl : m2 = 1 := by omega
                have ha0 := zero_len hm2.out (Nat.le_refl _)
                have hfin := As.mk (JRel.nextB (x := (x1, x2)) (n1 := n1) (n2 := n2) (out := out) (wr := wr) hm1.out hm2.out hgk.out hmc hmd hc' hd' hout.out hJ2.out hRA.out (some ad) (.inl (by rw [ha0]; rfl)))
                have hK2 : Keeps (fun k => k = wr.heap.size) wr ((W1.setCell ⟨wr.heap.size, 0, none⟩ (.int .i64 x1)).setCell ⟨wr.heap.size, 1, none⟩ (.int .i64 x2)).drew := keepsTwo hW.out _ _
                have hq2 : ((W1.setCell ⟨wr.heap.size, 0, none⟩ (.int .i64 x1)).setCell ⟨wr.heap.size, 1, none⟩ (.int .i64 x2)).drew.heap[wr.heap.size]? = some (.cells #[.int .i64 x1, .int .i64 x2] 57 (0, 0)) := by
                  have := blk_set (blk_set hq1.out 0 (.int .i64 x1)) 1 (.int .i64 x2)
                  simp only [List.setIfInBounds_toArray, List.set_cons_zero, List.set_cons_succ] at this
                  exact this
                go_wp2
                go_region
                all_goals
                  go_wp2_with fail
                  go_meet
                  case rel => exact ⟨x1, x2, ⟨hq2⟩, ⟨hK2⟩, hfin⟩
              · have hfin := As.mk (JRel.nextB (x := (x1, x2)) (n1 := n1) (n2 := n2) (out := out) (wr := wr) hm1.out hm2.out hgk.out hmc hmd hc' hd' hout.out hJ2.out hRA.out (some ⟨ad.block, ad.off + 2, none⟩) (Prs.tail hRB.out))
                have hK2 : Keeps (fun k => k = wr.heap.size) wr ((W1.setCell ⟨wr.heap.size, 0, none⟩ (.int .i64 x1)).setCell ⟨wr.heap.size, 1, none⟩ (.int .i64 x2)).drew := keepsTwo hW.out _ _
                have hq2 : ((W1.setCell ⟨wr.heap.size, 0, none⟩ (.int .i64 x1)).setCell ⟨wr.heap.size, 1, none⟩ (.int .i64 x2)).drew.heap[wr.heap.size]? = some (.cells #[.int .i64 x1, .int .i64 x2] 57 (0, 0)) := by
                  have := blk_set (blk_set hq1.out 0 (.int .i64 x1)) 1 (.int .i64 x2)
                  simp only [List.setIfInBounds_toArray, List.set_cons_zero, List.set_cons_succ] at this
                  exact this
                go_wp2
                go_region
                all_goals
                  go_wp2_with fail
                  go_meet
                  case rel => exact ⟨x1, x2, ⟨hq2⟩, ⟨hK2⟩, hfin⟩
          case rest =>
            obtain ⟨x1, x2, hq2, hK2, hfin⟩ := hcut
            obtain ⟨W2, hWc2⟩ : ∃ W, wc = W := ⟨_, rfl⟩
            rw [hWc2] at hq2 hK2 ⊢
            clear hWc2
            have hown2 := As.mk (own_keep hown.out hK2.out (fun q c _ hq _ => Nat.ne_of_lt (block_lt hq)))
            have hB2 := As.mk (hbel.out.trans (hK2.out.below (B := w.heap.size) (fun k hk hk2 => by have := hbel.out.size; omega) hbel.out.size))
            have y0 : W2.cell? ⟨wr.heap.size, 0, none⟩ = some (.int .i64 x1) := cell_of_blk hq2.out 0
            have y1 : W2.cell? ⟨wr.heap.size, 1, none⟩ = some (.int .i64 x2) := cell_of_blk hq2.out 1
            have s2 := hB2.out.size
            clear hq2 hK2 hW hq1 hp
            rcases nil_or_snoc out with rfl | ⟨pre, z, rfl⟩
            · obtain ⟨Ao, co, rfl, hco⟩ := own_slice hown2.out
              have hpu := As.mk (push_new (out := []) (x := (x1, x2)) (by simp))
              go_wp2
              go_region
              obtain ⟨W3, hW3⟩ : ∃ W, W2.drew = W := ⟨_, rfl⟩
              have hown3 := (show OwnPrs W2.drew w.heap.size _ _ from hown2.out)
              rw [hW3] at hown3
              replace hown3 := As.mk hown3
              have hB3 := As.mk (show Below w.heap.size w W3 by rw [← hW3]; exact hB2.out.drew)
              have y0 : W3.cell? ⟨wr.heap.size, 0, none⟩ = some (.int .i64 x1) := by rw [← hW3]; exact y0
              have y1 : W3.cell? ⟨wr.heap.size, 1, none⟩ = some (.int .i64 x2) := by rw [← hW3]; exact y1
              have s3 := hB3.out.size
              rw [hW3]
              clear hW3
              go_wp2_with (at_builtin
                           refine wpList_app1 _ rfl (.tmp 59) (.tmp 61) 37 rfl w.heap.size 57 _ 2 16 Tryz.underlying37 info_pr rfl (by decide) _ 0 (prCells []) rfl hown3.out [.int .i64 x1, .int .i64 x2] rfl (by simp [Value.oneCell']) _ rfl (by simp) (by omega) (by decide) s3 ?_
                           intro v4 w4 ho4 hk4 _ hb4)
              go_roundg gp
              case rel => exact hfin.out _ _ (by rw [hpu.out]; exact ho4) (hB3.out.trans hb4)
              case measure => omega
            · have hpl : (pre ++ [z]).length = pre.length + 1 := by simp
              obtain ⟨bo, co, rfl, hco, z1, z2, _⟩ := prLast hown2.out
              obtain ⟨z1', z2'⟩ := z
              obtain ⟨pl, hpl2⟩ : ∃ k, pre.length = k := ⟨_, rfl⟩
              rw [hpl2] at hpl hco z1 z2 ⊢
              have hob := hout.out
              rw [hpl] at hob
              have hpl3 := As.mk hpl2
              have hpl4 := As.mk hpl
              clear hpl hpl2
              by_cases hzx : z1' = x1 ∧ z2' = x2
              · obtain ⟨e1, e2⟩ := hzx
                subst e1
                subst e2
                have hpu := As.mk (push_old (out := pre ++ [(z1', z2')]) (x := (z1', z2')) (by simp))
                have hne0 : (((pl : Int) + 1) == 0) = false := by simp; omega
                go_wp2
                go_region
                go_wp2
                go_roundg gp
                case rel => exact hfin.out _ _ (by rw [hpu.out, ← hpl3.out]; exact hown2.out) hB2.out.drew
                case measure => omega
              · have hne0 : (((pl : Int) + 1) == 0) = false := by simp; omega
                have e1 : (!(z1' == x1) || !(z2' == x2)) = true := by
                  simp only [Bool.or_eq_true, Bool.not_eq_true', beq_eq_false_iff_ne]; omega
                have hpu := As.mk (push_new (out := pre ++ [(z1', z2')]) (x := (x1, x2)) (by simp; omega))
                clear hzx
                go_wp2
                go_region
                obtain ⟨W3, hW3⟩ : ∃ W, W2.drew = W := ⟨_, rfl⟩
                have hown3 := (show OwnPrs W2.drew w.heap.size _ _ from hown2.out)
                rw [hW3] at hown3
                replace hown3 := As.mk hown3
                have hB3 := As.mk (show Below w.heap.size w W3 by rw [← hW3]; exact hB2.out.drew)
                have y0 : W3.cell? ⟨wr.heap.size, 0, none⟩ = some (.int .i64 x1) := by rw [← hW3]; exact y0
                have y1 : W3.cell? ⟨wr.heap.size, 1, none⟩ = some (.int .i64 x2) := by rw [← hW3]; exact y1
                have s3 := hB3.out.size
                rw [hW3]
                clear hW3
                have hown4 : W3.ownsRow w.heap.size 57 2 (.slice (some ⟨bo, 0, none⟩) (pl + 1) co) (pl + 1) (prCells (pre ++ [(z1', z2')])) := by have := hown3.out; unfold OwnPrs at this; rwa [hpl4.out, hpl3.out] at this
                replace hown4 := As.mk hown4
                go_wp2_with (at_builtin
                             refine wpList_app1 _ rfl (.tmp 59) (.tmp 61) 37 rfl w.heap.size 57 _ 2 16 Tryz.underlying37 info_pr rfl (by decide) _ (pl + 1) (prCells (pre ++ [(z1', z2')])) rfl hown4.out [.int .i64 x1, .int .i64 x2] rfl (by simp [Value.oneCell']) _ rfl (by simp) (by omega) (by decide) s3 ?_
                             intro v4 w4 ho4 hk4 _ hb4)
                go_roundg gp
                case rel => exact hfin.out _ _ (by rw [hpu.out]; unfold OwnPrs; rw [List.length_append, List.length_append, List.length_singleton, hpl3.out, prCells_snoc]; exact ho4) (hB3.out.trans hb4)
                case measure => omega
end Go.Proofs.YtdiljmhikajjiaaGreat
end
section
set_option linter.unusedVariables false
set_option linter.unusedSimpArgs false
namespace Go.Proofs.YtdiljmhikajjiaaGreat
open Go.RowKit Seine.Sort
theorem prs_one {b : List Pr} : ∀ u ∈ prCells b, u.oneCell' = true := fun u hu => by
  obtain ⟨x, _, hx⟩ := List.mem_flatMap.1 hu
  rcases List.mem_cons.1 hx with rfl | hx
  · rfl
  · rw [List.mem_singleton] at hx; subst hx; rfl
set_option maxRecDepth 100000 in
set_option maxHeartbeats 400000 in
theorem clonePrs_calls (A : Option Addr) (c : Nat) (l : List Pr) (w : World) (h : Prs w A l) (hl : l.length ≤ 1000000) :
    Calls Tryz.prog 85 #[.slice A l.length c] w (RetPrs w l) := by
  obtain ⟨n, hn⟩ : ∃ n, l.length = n := ⟨_, rfl⟩
  rw [hn] at hl ⊢
  replace hn := As.mk hn
  have H := As.mk h
  clear h
  cases A with
  | none =>
    have hl0 : l = [] := by
      rcases H.out with h | ⟨ad, e, _⟩
      · have := congrArg List.length h; rw [prCells_length] at this; exact List.eq_nil_of_length_eq_zero (by rw [List.length_nil] at this; omega)
      · cases e
    subst hl0
    have hnil : ∀ (w : World) (n c : Nat), (binOp .eql 37 (.slice none n c) (.slice none 0 0)).run Tryz.prog w = .ok (.bool true) w := fun w n c => Lib.run_eql_slice_nil w _ _ none n c 0 0 Tryz.underlying37
    go_enter Tryz.func85, Tryz.ntmps85
    go_wp2
    go_ret
    exact ⟨_, rfl, World.ownsRow_nil _ _ _ _, Below.refl _ _⟩
  | some ad =>
    have hown : As ((w.alloc (.cells #[] 57)).ownsRow w.heap.size 57 2 (.slice (some ⟨w.heap.size, 0, none⟩) 0 0) 0 []) := ⟨⟨rfl, .inr ⟨_, 0, #[], rfl, Nat.le_refl _, heap_alloc_new w _, Nat.le_refl _, Nat.zero_le _, rfl, rfl⟩⟩⟩
    have hrow := As.mk (Row.alloc H.out (.cells #[] 57))
    have hnl : As ((prCells l).length = n * 2) := ⟨by rw [prCells_length, hn.out]⟩
    have hnil : ∀ (w : World) (a : Addr) (n c : Nat), (binOp .eql 37 (.slice (some a) n c) (.slice none 0 0)).run Tryz.prog w = .ok (.bool false) w := fun w a n c => Lib.run_eql_slice_nil w _ _ (some a) n c 0 0 Tryz.underlying37
    go_enter Tryz.func85, Tryz.ntmps85
    go_wp2_with (at_builtin
                 refine wpList_apps _ rfl (.tmp 5) (.tmp 6) 37 rfl w.heap.size 57 _ 2 16 Tryz.underlying37 info_pr rfl (by decide) _ 0 [] rfl hown.out (some ad) n c (prCells l) hrow.out hnl.out prs_one rfl (by omega) (by decide) (by simp) ?_
                 intro v' w' h2 h3)
    go_ret
    exact ⟨v', rfl, by unfold OwnPrs; rw [hn.out]; simpa using h2, ((Below.refl _ _).alloc (Nat.le_refl _) _).trans h3⟩
theorem Prs.take_ {w : World} {A : Option Addr} {l : List Pr} (h : Prs w A l) (m : Nat) : Prs w A (l.take m) := by
  rcases h with h | ⟨ad, e, hlt, hc⟩
  · have h0 : l = [] := by have := congrArg List.length h; rw [prCells_length] at this; exact List.eq_nil_of_length_eq_zero (by rw [List.length_nil] at this; omega)
    subst h0
    exact .inl (by simp [prCells])
  · refine .inr ⟨ad, e, hlt, fun j u hu => hc j u ?_⟩
    have : prCells l = prCells (l.take m) ++ prCells (l.drop m) := by unfold prCells; rw [← List.flatMap_append, List.take_append_drop]
    rw [this, List.getElem?_append_left (List.getElem?_eq_some_iff.1 hu).1]; exact hu
theorem Prs.drop_ {w : World} {ad : Addr} {l : List Pr} (h : Prs w (some ad) l) (m : Nat) (hm : m ≤ l.length) : Prs w (some (ad.add (m * 2))) (l.drop m) := by
  rcases h with h | ⟨ad', e, hlt, hc⟩
  · have h0 : l = [] := by have := congrArg List.length h; rw [prCells_length] at this; exact List.eq_nil_of_length_eq_zero (by rw [List.length_nil] at this; omega)
    subst h0
    exact .inl (by simp [prCells])
  · injection e with e
    subst e
    refine .inr ⟨_, rfl, by rw [Addr.block_add]; exact hlt, fun j u hu => ?_⟩
    rw [Addr.add_add']
    refine hc _ u ?_
    have : prCells l = prCells (l.take m) ++ prCells (l.drop m) := by unfold prCells; rw [← List.flatMap_append, List.take_append_drop]
    rw [this, List.getElem?_append_right (by rw [prCells_length, List.length_take]; omega), prCells_length, List.length_take, Nat.min_eq_left hm, Nat.add_sub_cancel_left]; exact hu
theorem RetPrs.out {w w' : World} {xs : List Pr} {e : Ending} (h : RetPrs w xs e w') : ∃ v, e = .returned v ∧ OwnPrs w' w.heap.size v xs ∧ Below w.heap.size w w' := h
theorem RetPrs.row2 {w w' : World} {xs : List Pr} {e : Ending} (h : RetPrs w xs e w') : ∃ A c, e = .returned (.slice A xs.length c) ∧ xs.length ≤ c ∧ c ≤ maxLen ∧ Prs w' A xs ∧ Below w.heap.size w w' := by
  obtain ⟨v, rfl, ho, hb⟩ := h
  obtain ⟨A, c, rfl, hc, hr⟩ := OwnPrs.row ho
  refine ⟨A, c, rfl, hc, ?_, hr, hb⟩
  rcases ho.2 with ⟨hv, _⟩ | ⟨g, cap, cur, hv, _, _, _, hcm, _⟩
  · injection hv with _ _ h; omega
  · injection hv with _ _ h; omega
set_option maxRecDepth 100000 in
set_option maxHeartbeats 1600000 in
theorem sort_calls (k : Nat) : ∀ (A : Option Addr) (c : Nat) (l : List Pr) (w : World), l.length ≤ k → Prs w A l → l.length ≤ c → c ≤ maxLen → l.length ≤ 1000000 →
    Calls Tryz.prog 55 #[.slice A l.length c] w (RetPrs w (sortP l)) := by
  induction k with
  | zero =>
    intro A c l w hk h hc hcm hl
    obtain rfl : l = [] := List.eq_nil_of_length_eq_zero (by omega)
    have cc := As.mk (clonePrs_calls A c [] w h (by simp))
    rw [List.length_nil] at cc ⊢
    clear h
    go_enter Tryz.func55, Tryz.ntmps55
    go_wp2_with (go_at_call 85; refine Calls.mono cc.out ?_; rintro e w1 ⟨v, rfl, ho, hb⟩)
    go_ret
    exact ⟨v, rfl, ho, hb⟩
  | succ k ih =>
    intro A c l w hk h hc hcm hl
    unfold maxLen at hcm
    by_cases h2 : l.length < 2
    · have hs := As.mk (sortP_short h2)
      have cc := As.mk (clonePrs_calls A c l w h hl)
      obtain ⟨n, hn⟩ : ∃ n, l.length = n := ⟨_, rfl⟩
      rw [hn] at h2 cc ⊢
      rw [hs.out]
      clear h hn
      go_enter Tryz.func55, Tryz.ntmps55
      go_wp2_with (go_at_call 85; refine Calls.mono cc.out ?_; rintro e w1 ⟨v, rfl, ho, hb⟩)
      go_ret
      exact ⟨v, rfl, ho, hb⟩
    · obtain ⟨ad, rfl, _, _⟩ := Prs.at_ h (i := 0) (by omega)
      have HX := As.mk h
      obtain ⟨n, hn⟩ : ∃ n, l.length = n := ⟨_, rfl⟩
      obtain ⟨m, hm⟩ : ∃ m, n / 2 = m := ⟨_, rfl⟩
      have ct := As.mk (fun v (hv : Below w.heap.size w v) => (by have := ih (some ad) c (l.take m) v (by rw [List.length_take]; omega) ((Prs.take_ HX.out m).below hv) (by rw [List.length_take]; omega) (by unfold maxLen; omega) (by rw [List.length_take]; omega); rw [List.length_take, Nat.min_eq_left (by omega)] at this; exact this : Calls Tryz.prog 55 #[.slice (some ad) m c] v (RetPrs v (sortP (l.take m)))))
      have cd := As.mk (fun v (hv : Below w.heap.size w v) => (by have := ih (some (ad.add (m * 2))) (c - m) (l.drop m) v (by rw [List.length_drop]; omega) ((Prs.drop_ HX.out m (by omega)).below hv) (by rw [List.length_drop]; omega) (by unfold maxLen; omega) (by rw [List.length_drop]; omega); rw [List.length_drop, hn] at this; exact this : Calls Tryz.prog 55 #[.slice (some (ad.add (m * 2))) (n - m) (c - m)] v (RetPrs v (sortP (l.drop m)))))
      have hlt := As.mk (show (sortP (l.take m)).length ≤ 1000000 by have := sortP_len (l.take m); rw [List.length_take] at this; omega)
      have hld := As.mk (show (sortP (l.drop m)).length ≤ 1000000 by have := sortP_len (l.drop m); rw [List.length_drop] at this; omega)
      have hrt := As.mk (rise_sortP (l.take m))
      have hrd := As.mk (rise_sortP (l.drop m))
      rw [← sortP_split l m]
      rw [hn] at hk hc hl h2 ⊢
      replace hn := As.mk hn
      generalize sortP (l.take m) = S1 at *
      generalize sortP (l.drop m) = S2 at *
      have hm1 : m < n := by omega
      have hm2 : 1 ≤ m := by omega
      have hmc : ¬ c = m := by omega
      have hmc1 : m ≤ c := by omega
      have hmn : m ≤ n := by omega
      have hq : (n : Int) / 2 = (m : Int) := by omega
      replace hm := As.mk hm
      clear h ih
      go_enter Tryz.func55, Tryz.ntmps55
      go_wp2_with fail
      go_region_with (first
        | (go_at_call 55; with_reducible refine Calls.mono (ct.out _ ?hb) ?_; (case hb => (repeat (first | (with_reducible assumption) | (with_reducible exact Below.refl _ _) | (with_reducible refine Below.drew ?_) | (with_reducible refine below_drewN ?_ _) | (with_reducible refine Below.alloc ?_ (by (first | omega | (simp only [World.size_alloc, World.size_drew]; done) | (simp only [World.size_alloc, World.size_drew]; omega))) _) | (refine Below.trans ?_ (Below.mono (by with_reducible assumption) (by (first | omega | (simp only [World.size_alloc, World.size_drew]; done) | (simp only [World.size_alloc, World.size_drew]; omega)))))))); intro e w1 h1; obtain ⟨A1, c1, he, hc1, hm1', hr1, hb1⟩ := h1.row2; subst he; clear h1)
        | (go_at_call 55; with_reducible refine Calls.mono (cd.out _ ?hb) ?_; (case hb => (repeat (first | (with_reducible assumption) | (with_reducible exact Below.refl _ _) | (with_reducible refine Below.drew ?_) | (with_reducible refine below_drewN ?_ _) | (with_reducible refine Below.alloc ?_ (by (first | omega | (simp only [World.size_alloc, World.size_drew]; done) | (simp only [World.size_alloc, World.size_drew]; omega))) _) | (refine Below.trans ?_ (Below.mono (by with_reducible assumption) (by (first | omega | (simp only [World.size_alloc, World.size_drew]; done) | (simp only [World.size_alloc, World.size_drew]; omega)))))))); intro e w2 h2; obtain ⟨A2, c2, he, hc2, hm2', hr2, hb2⟩ := h2.row2; subst he; clear h2)
        | (go_at_call 56; with_reducible refine Calls.mono (joined_calls A1 c1 S1 A2 c2 S2 _ ?p1 ?p2 hc1 hc2 hm1' hm2' hrt.out hrd.out ?p3) ?_; (case p1 => first | exact hr1 | exact Row.below hr1 hb2); (case p2 => first | exact hr2 | exact Row.below hr2 hb1); (case p3 => have := hlt.out; have := hld.out; omega); intro e w3 h3; obtain ⟨v3, he, ho3, hb3⟩ := h3.out; subst he))
      all_goals
        go_wp2_with fail
        go_ret
        have e1 := hb1.size
        have e2 := hb2.size
        simp only [World.size_drew] at e1 e2
        refine ⟨v3, rfl, own_base ho3 (by omega), ?_⟩
        (repeat (first | (with_reducible assumption) | (with_reducible exact Below.refl _ _) | (with_reducible refine Below.drew ?_) | (with_reducible refine below_drewN ?_ _) | (with_reducible refine Below.alloc ?_ (by (first | omega | (simp only [World.size_alloc, World.size_drew]; done) | (simp only [World.size_alloc, World.size_drew]; omega))) _) | (refine Below.trans ?_ (Below.mono (by with_reducible assumption) (by (first | omega | (simp only [World.size_alloc, World.size_drew]; done) | (simp only [World.size_alloc, World.size_drew]; omega)))))))
end Go.Proofs.YtdiljmhikajjiaaGreat
end
section
set_option linter.unusedVariables false
set_option linter.unusedSimpArgs false
namespace Go.Proofs.YtdiljmhikajjiaaGreat
open Go.RowKit Go.Maps Seine.Trie Seine.Links Seine.Sparse
open Seine.Sort (sortP sortP_len)
/-- A counting that has room. -/
def Cn.room (c : Cn) : Prop := 0 ≤ c.s ∧ c.s ≤ 100000000000 ∧ 0 ≤ c.l ∧ c.l ≤ 100000000000 ∧ 0 ≤ c.h ∧ c.h ≤ 100000000000 ∧ 0 ≤ c.m ∧ c.m ≤ 100000000000
def Cn.more (c : Cn) (i k : Nat) : Cn := ⟨c.s + (i : Int), c.l + (k : Int), c.h, c.m⟩
theorem Cn.more_zero (c : Cn) : c.more 0 0 = c := by unfold Cn.more; simp
theorem Cn.more_ok {c : Cn} (h : c.room) {i k : Nat} (hi : i ≤ 1000000) (hk : k ≤ 2000000) : (c.more i k).ok := by unfold Cn.room at h; unfold Cn.more Cn.ok; simp only; omega
theorem Keeps.transBelow {S : Nat → Prop} {w0 wr w4 : World} (h : Keeps S w0 wr) (k : Below w0.heap.size wr w4) : Keeps S w0 w4 :=
  ⟨k.os.trans h.os, k.tape.trans h.tape, k.output.trans h.output, Nat.le_trans h.size k.size, fun i hi hn => (k.block i hi).trans (h.block i hi hn)⟩
theorem Mo.belowAt {w w' : World} {mo : Option Nat} {c : Cn} {base : Nat} (h : Mo w mo c) (hlt : ∀ g, mo = some g → g < base) (hb : Below base w w') : Mo w' mo c := fun g e => (hb.block g (hlt g e)).trans (h g e)
theorem OwnPrs.row2 {w : World} {base : Nat} {v : Value} {xs : List Pr} (h : OwnPrs w base v xs) : ∃ A c, v = .slice A xs.length c ∧ xs.length ≤ c ∧ c ≤ maxLen ∧ Prs w A xs := by
  obtain ⟨A, c, rfl, hc, hr⟩ := OwnPrs.row h
  refine ⟨A, c, rfl, hc, ?_, hr⟩
  rcases h.2 with ⟨hv, _⟩ | ⟨g, cap, cur, hv, _, _, _, hcm, _⟩
  · injection hv with _ _ h; omega
  · injection hv with _ _ h; omega
/-- Pairs in new memory; all that was there stays, but for what counts. -/
def RetPrsM (w : World) (mo : Option Nat) (xs : List Pr) (cn : Cn) (e : Ending) (w' : World) : Prop := ∃ v, e = .returned v ∧ OwnPrs w' w.heap.size v xs ∧ Mo w' mo cn ∧ Keeps (OnlyM mo) w w'
theorem RetPrsM.out {w w' : World} {mo : Option Nat} {xs : List Pr} {cn : Cn} {e : Ending} (h : RetPrsM w mo xs cn e w') : ∃ A c, e = .returned (.slice A xs.length c) ∧ xs.length ≤ c ∧ c ≤ maxLen ∧ Prs w' A xs ∧ Mo w' mo cn ∧ Keeps (OnlyM mo) w w' ∧ OwnPrs w' w.heap.size (.slice A xs.length c) xs := by
  obtain ⟨v, rfl, ho, hm, hk⟩ := h
  obtain ⟨A, c, rfl, hc, hcm, hr⟩ := OwnPrs.row2 ho
  exact ⟨A, c, rfl, hc, hcm, hr, hm, hk, ho⟩
/-- What a scan hands from byte to byte. -/
structure ScanAt (w wr : World) (P l : List Txt) (L : Txt) (mo : Option Nat) (cn : Cn) (i : Nat) (v : Value) : Prop where
  own : OwnPrs wr w.heap.size v (hitsTo P l L i)
  mt : Mo wr mo (cn.more i (looksTo P L i))
  keep : Keeps (OnlyM mo) w wr
theorem RetInts.out {w w' : World} {xs : List Int} {e : Ending} (h : RetInts w xs e w') : ∃ v, e = .returned v ∧ OwnInts w' w.heap.size v xs ∧ Below w.heap.size w w' := h
theorem endsAt_eq {P l : List Txt} (hT : Tree P) (t : Txt) : endsAt P l (place P (lng P t)) = endsF l (lng P t) := by
  obtain ⟨a, ea, ha⟩ := place_nat' (lng_mem hT t)
  rw [ea]; exact endsAt_place hT ha
theorem endsF_range {l : List Txt} {s : Txt} {n : Int} (h : n ∈ endsF l s) : 1 ≤ n ∧ n ≤ s.length := by
  obtain ⟨k, h1, _, rfl⟩ := mem_endsF.1 h; omega
set_option maxRecDepth 100000 in
set_option maxHeartbeats 3200000 in
theorem sscan_calls (w : World) (g : Nat) (P l : List Txt) (h : AutoAt w g P l) (mo : Option Nat) (cn : Cn) (hm : Mo w mo cn) (hok : cn.room) (hT : Tree P) (hlP : ∀ x, x ∈ l → x ∈ P) (m : Nat) (hpm : ∀ p ∈ P, p.length ≤ m) (hm1 : m ≤ 100000) (hl : P.length ≤ 1000000)
    (A : Option Addr) (c : Nat) (L : Txt) (hx : Byt w A L) (hL : L.length ≤ 1000000) (hLm : L.length * m ≤ 1000000) :
    Calls Tryz.prog 122 #[.pointer (some ⟨g, 0, none⟩), .pointer (madr mo), .slice A L.length c] w (RetPrsM w mo (sortP (hitsTo P l L L.length)) (cn.more L.length (looksTo P L L.length))) := by
  have HA := As.mk h
  have HM := As.mk hm
  have hTr := As.mk hT
  have ctx := As.mk (fun v (hv : Below w.heap.size w v) => mtext_calls v mo cn (HM.out.below hv) A c L (Row.below hx hv) hL)
  obtain ⟨B, h1, h2, h3, h4⟩ := h
  obtain ⟨Av, cv, hv, hcv⟩ := own_slice h4
  have hrow := Row.of_own (by rw [hv] at h4; exact h4)
  have csp := As.mk (fun v (hb : Below w.heap.size w v) => msparse_calls v mo Av cv (P.length - 1) P hT hl (Row.below hrow hb) rfl)
  have hc2 := As.mk (fun v (hb : Below w.heap.size w v) => (show v.cell? ⟨g, 2, none⟩ = some (.slice Av (P.length - 1) cv) by rw [← hv]; exact cell_of_blk (blkBelow hb h1) 2))
  have d0 := hc2.out _ ((Below.refl _ _).drew)
  obtain ⟨n, hn⟩ : ∃ k, L.length = k := ⟨_, rfl⟩
  obtain ⟨pl, hpl⟩ : ∃ k, P.length - 1 = k := ⟨_, rfl⟩
  rw [hn] at ctx hL hLm ⊢
  rw [hpl] at csp hc2 d0
  have hn' := As.mk hn
  have hpm' := As.mk hpm
  have hlP' := As.mk hlP
  have hpl' := As.mk hpl
  clear h1 h2 h3 h4 hv hrow hm hT hx hn hpm hlP hpl
  go_enter Tryz.func122, Tryz.ntmps122
  go_wp2_with fail
  go_cut [7, 8] (fun v7 v8 wx => ∃ tb eb, v7 = .pointer (some ⟨tb, 0, none⟩) ∧ v8 = .pointer (some ⟨eb, 0, none⟩) ∧ As (TextAt wx tb mo L) ∧ As (TabS wx eb mo P) ∧ As (Below w.heap.size w wx))
  case first =>
    have hwd : Below w.heap.size w w.drew := (Below.refl _ _).drew
    go_region_with (first
      | (go_at_call 124; with_reducible refine Calls.mono (ctx.out _ ?hv) ?_; (case hv => with_reducible assumption); rintro e w1 ⟨tb, rfl, ht1, hb1⟩; have hw1 : Below w.heap.size w w1 := belowNext (by with_reducible assumption) hb1; have d1 := hc2.out _ hw1)
      | (go_at_call 125; with_reducible refine Calls.mono (csp.out _ ?hv) ?_; (case hv => with_reducible assumption); rintro e w2 ⟨eb, rfl, ht2, hb2⟩; have hw2 : Below w.heap.size w w2 := belowNext (by with_reducible assumption) hb2))
    all_goals
      go_wp2_with fail
      go_meet
      case rel => first
        | exact ⟨tb, eb, rfl, rfl, ⟨ht1.below hb2⟩, ⟨ht2⟩, ⟨hw2⟩⟩
        | exact ⟨tb, eb, rfl, rfl, ⟨ht1⟩, ⟨ht2.below hb1⟩, ⟨hw1⟩⟩
  case rest =>
    obtain ⟨tb, eb, rfl, rfl, hTx, hTab, hbw⟩ := hcut
    obtain ⟨W0, hW0⟩ : ∃ W, wc = W := ⟨_, rfl⟩
    rw [hW0] at hTx hTab hbw ⊢
    clear hW0 ctx csp hc2 d0
    have hA0 := As.mk (HA.out.below hbw.out)
    have hM0 := As.mk (HM.out.below hbw.out)
    have hglt := As.mk (fun g (e : mo = some g) => (block_lt (hM0.out g e) : g < W0.heap.size))
    have clen := As.mk (mlen_calls W0 tb mo L hTx.out)
    rw [hn'.out] at clen
    have hS0 : As (ScanAt W0 W0 P l L mo cn 0 (.slice none 0 0)) := ⟨⟨World.ownsRow_nil _ _ _ _, by rw [show looksTo P L 0 = 0 from rfl, Cn.more_zero]; exact hM0.out, Keeps.refl _ _⟩⟩
    have hp0 : place P (lng P (L.take 0)) = 0 := by rw [List.take_zero, lng_nil, place_at hTr.out.nodup hTr.out.root]; rfl
    go_wp2_with (go_at_call 126; refine Calls.mono clen.out ?_; rintro e w' ⟨rfl, rfl⟩)
    go_loopg [9, 10, 27] (n + 1) (fun gk v9 v10 v27 wr => ∃ (i : Nat) (u : Value), u = v9 ∧ As (n + 1 ≤ gk + i) ∧ i ≤ n ∧ v27 = .int .i64 i ∧ v10 = .int .i64 (place P (lng P (L.take i))) ∧ As (ScanAt W0 wr P l L mo cn i u))
    case atStart => exact ⟨0, _, rfl, ⟨by omega⟩, Nat.zero_le _, rfl, by rw [hp0], hS0⟩
    case round =>
      obtain ⟨i, u, rfl, hgk, hi, rfl, rfl, hS⟩ := hrel
      by_cases hlt : i < n
      · obtain ⟨gp, rfl⟩ : ∃ gp, gk = gp + 1 := ⟨gk - 1, by have := hgk.out; omega⟩
        have hlook := looksTo_cost hTr.out L (i + 1) (by rw [hn'.out]; omega)
        have hlook0 := looksTo_cost hTr.out L i (by rw [hn'.out]; omega)
        have cat := As.mk (mat_calls wr tb mo L (hTx.out.keep hM0.out hS.out.keep) _ hS.out.mt (Cn.more_ok hok (by omega) (by omega)) i (by rw [hn'.out]; exact hlt))
        have hsm := lng_mem hTr.out (L.take i)
        have hsx : looksTo P L (i + 1) = looksTo P L i + looks1 P (lng P (L.take i)) (L.getD i 0) := rfl
        have hnx : lng P (lng P (L.take i) ++ [L.getD i 0]) = lng P (L.take (i + 1)) := by rw [take_snoc' L i (by rw [hn'.out]; exact hlt), ← lng_step hTr.out]
        have cst := As.mk (fun v (hk : Keeps (OnlyM mo) W0 v) (hmv : Mo v mo (cn.more (i + 1) (looksTo P L i))) => sstep_calls v g eb P l (hA0.out.keepM hM0.out hk) mo (hTab.out.keep hM0.out hk) _ hmv hTr.out hl _ hsm (L.getD i 0) ⟨by
          have h1 : (cn.more (i + 1) (looksTo P L i)).looked (looks1 P (lng P (L.take i)) (L.getD i 0)) = cn.more (i + 1) (looksTo P L (i + 1)) := by rw [hsx]; unfold Cn.more Cn.looked; simp only [Cn.mk.injEq, true_and, and_true]; push_cast; omega
          rw [h1]; exact Cn.more_ok hok (by omega) (by omega), Cn.more_ok hok (by omega) (by omega)⟩)
        have hlk : (cn.more (i + 1) (looksTo P L i)).looked (looks1 P (lng P (L.take i)) (L.getD i 0)) = cn.more (i + 1) (looksTo P L (i + 1)) := by rw [hsx]; unfold Cn.more Cn.looked; simp only [Cn.mk.injEq, true_and, and_true]; push_cast; omega
        rw [hnx, hlk] at cst
        have hmS : { cn.more i (looksTo P L i) with s := (cn.more i (looksTo P L i)).s + 1 } = cn.more (i + 1) (looksTo P L i) := by unfold Cn.more; simp only [Cn.mk.injEq, true_and, and_true]; push_cast; omega
        rw [hmS] at cat
        have hendE := endsAt_eq (l := l) hTr.out (L.take (i + 1))
        have hEl := endsF_len l (lng P (L.take (i + 1)))
        have hEm := hpm'.out _ (lng_mem hTr.out (L.take (i + 1)))
        have hEr := As.mk (fun z (hz : z ∈ endsF l (lng P (L.take (i + 1)))) => endsF_range hz)
        have hh : hitsTo P l L (i + 1) = hitsTo P l L i ++ (endsF l (lng P (L.take (i + 1)))).map fun z => (((i + 1 : Nat) : Int) - z, ((i + 1 : Nat) : Int)) := rfl
        have hhl := hitsTo_len (l := l) hTr.out L m hpm'.out i
        have hll := lng_len hTr.out (L.take (i + 1))
        rw [List.length_take, hn'.out] at hll
        have cen := As.mk (fun v (hk : Keeps (OnlyM mo) W0 v) => (by
          obtain ⟨B, h1, h2, h3, h4⟩ := hA0.out.keepM hM0.out hk
          have := lends_calls v B.lb B.lg P l hTr.out hlP'.out (fun p hp => Nat.le_trans (hpm'.out p hp) hm1) h3 (place P (lng P (L.take (i + 1))))
          rw [hendE] at this
          exact ⟨_, cell_of_blk h1 1, this⟩ : ∃ lg, v.cell? ⟨g, 1, none⟩ = some (.pointer (some ⟨lg, 0, none⟩)) ∧ Calls Tryz.prog 129 #[.pointer (some ⟨lg, 0, none⟩), .int .i64 (place P (lng P (L.take (i + 1))))] v (RetInts v (endsF l (lng P (L.take (i + 1)))))))
        generalize endsF l (lng P (L.take (i + 1))) = E at *
        obtain ⟨st2, hst2⟩ : ∃ x, place P (lng P (L.take (i + 1))) = x := ⟨_, rfl⟩
        rw [hst2] at cst hendE cen
        replace hst2 := As.mk hst2
        generalize place P (lng P (L.take i)) = st1 at *
        generalize L.getD i 0 = x at *
        have hwx : IntKind.u8.wrap (x.toNat : Int) = (x.toNat : Int) := by have := x.toNat_lt; simp only [IntKind.wrap, IntKind.signed, IntKind.bits]; simp; omega
        replace hh := As.mk hh
        clear hsx hnx hlk hmS hendE hsm hlook hlook0
        go_wp2_with (first
          | (go_at_call 128; refine Calls.mono cat.out ?_; rintro e w4 ⟨rfl, hm4, hk4⟩; have hk4' := hS.out.keep.trans hk4)
          | (go_at_call 127; refine Calls.mono (cst.out _ hk4' hm4) ?_; rintro e w5 ⟨rfl, hm5, hk5⟩; have hk5' := hk4'.trans hk5; obtain ⟨lg, hlg, cE⟩ := cen.out _ hk5')
          | (go_at_call 129; refine Calls.mono cE ?_; intro e w6 h6; obtain ⟨vE, heE, hoE, hb6⟩ := h6.out; subst heE; obtain ⟨AE, cE', rfl, hcE⟩ := own_slice hoE))
        obtain ⟨H, hH⟩ : ∃ H, hitsTo P l L i = H := ⟨_, rfl⟩
        obtain ⟨hSo, hSm, hSk⟩ := hS.out
        rw [hH] at hSo hh hhl
        obtain ⟨el, hel⟩ : ∃ k, E.length = k := ⟨_, rfl⟩
        have hown6 : OwnPrs w6 W0.heap.size u H := own_below (own_keep (own_keep hSo hk4 (fun b c' _ hb _ => hSm.far hb (.inr (by decide)))) hk5 (fun b c' _ hb _ => hm4.far hb (.inr (by decide)))) hb6
        have hin : As (OwnPrs w6 W0.heap.size u (H ++ (E.take 0).map fun z => (((i + 1 : Nat) : Int) - z, ((i + 1 : Nat) : Int)))) := ⟨by rw [List.take_zero, List.map_nil, List.append_nil]; exact hown6⟩
        have hmo6 := As.mk (hm5.below hb6)
        have hkp6 := As.mk (hk5'.trans (Keeps.of_below hb6 _))
        have hoE' := As.mk hoE
        have hW5 := hk5'.size
        rw [hel] at hcE ⊢
        have hHl : As (H.length + el ≤ 1000000) := ⟨by
          have : (i + 1) * m ≤ n * m := Nat.mul_le_mul_right _ (by omega)
          rw [Nat.succ_mul] at this
          omega⟩
        have hel6 : el ≤ 1000000 := by have := hHl.out; omega
        replace hel := As.mk hel
        replace hH := As.mk hH
        clear cat cst cen cE hm4 hk4 hk4' hm5 hk5 hk5' hb6 h6 hoE hown6 hS hSo hSm hSk hhl hlg
        go_loopg [9, 45] (el + 1) (fun g2 v9 v45 wq => ∃ (j : Nat) (u2 : Value), u2 = v9 ∧ As (el + 1 ≤ g2 + j) ∧ j ≤ el ∧ v45 = .int .i64 j ∧ As (OwnPrs wq W0.heap.size u2 (H ++ (E.take j).map fun z => (((i + 1 : Nat) : Int) - z, ((i + 1 : Nat) : Int)))) ∧ As (Mo wq mo (cn.more (i + 1) (looksTo P L (i + 1)))) ∧ As (Keeps (OnlyM mo) W0 wq) ∧ As (wq.ownsRow w5.heap.size 3 1 (.slice AE el cE') el (intVals E)))
        case atStart => exact ⟨0, _, rfl, ⟨by omega⟩, Nat.zero_le _, rfl, hin, hmo6, hkp6, ⟨by rw [← hel.out]; exact hoE'.out⟩⟩
        case round =>
          obtain ⟨j, u2, rfl, hgk2, hj, rfl, hown, hmq, hkq, hoq⟩ := hrel
          by_cases hjl : j < el
          · obtain ⟨gq, rfl⟩ : ∃ gq, gk = gq + 1 := ⟨gk - 1, by have := hgk2.out; omega⟩
            obtain ⟨ad, rfl, hc0⟩ := Ints.at_ (Row.of_own hoq.out) (i := j) (by rw [hel.out]; exact hjl)
            have hjE : j < E.length := by rw [hel.out]; exact hjl
            have hzz := hEr.out (E.getD j 0) (by rw [List.getD_eq_getElem?_getD, List.getElem?_eq_getElem hjE]; exact List.getElem_mem hjE)
            have htk : (E.take (j + 1)).map (fun z => (((i + 1 : Nat) : Int) - z, ((i + 1 : Nat) : Int))) = (E.take j).map (fun z => (((i + 1 : Nat) : Int) - z, ((i + 1 : Nat) : Int))) ++ [(((i + 1 : Nat) : Int) - E.getD j 0, ((i + 1 : Nat) : Int))] := by
              rw [List.take_succ_eq_append_getElem hjE, List.map_append, List.getD_eq_getElem?_getD, List.getElem?_eq_getElem hjE]; rfl
            have hql : (H ++ (E.take j).map fun z => (((i + 1 : Nat) : Int) - z, ((i + 1 : Nat) : Int))).length + 1 ≤ 1000000 := by
              rw [List.length_append, List.length_map, List.length_take]
              have := hHl.out; omega
            generalize (E.take j).map (fun z => (((i + 1 : Nat) : Int) - z, ((i + 1 : Nat) : Int))) = Q at *
            generalize E.getD j 0 = z at *
            obtain ⟨ql, hqq⟩ : ∃ k, (H ++ Q).length = k := ⟨_, rfl⟩
            rw [hqq] at hql
            have hown' : wr.ownsRow W0.heap.size 57 2 u2 ql (prCells (H ++ Q)) := by have := hown.out; unfold OwnPrs at this; rwa [hqq] at this
            have hz0 := hzz.1
            have hz1 := hzz.2
            have hsq := hkq.out.size
            have hwz : IntKind.i64.wrap ((i : Int) + 1 - z) = (i : Int) + 1 - z := by simp only [IntKind.wrap, IntKind.signed, IntKind.bits]; simp; omega
            replace hown' := As.mk hown'
            replace hqq := As.mk hqq
            replace htk := As.mk htk
            clear hjE hzz hown
            go_wp2_with (at_builtin
                         (refine wpList_app1 wr rfl (.tmp 49) (.tmp 57) 37 rfl W0.heap.size 57 _ 2 16 Tryz.underlying37 info_pr rfl (by decide) u2 ql (prCells (H ++ Q)) rfl hown'.out [.int .i64 ((i : Int) + 1 - z), .int .i64 ((i : Int) + 1)] rfl (by simp [Value.oneCell']) _ rfl (by simp) (by omega) (by decide) hsq ?_)
                         intro v8 w8 ho8 hk8 _ hb8)
            have hoq8 := own_keep hoq.out hk8 (fun b c' _ hb _ hS => own_not_type hown'.out hb (by decide) hS)
            have hkq8 := hkq.out.transBelow hb8
            have hmq8 := hmq.out.belowAt hglt.out hb8
            go_roundg gq
            case rel =>
              refine ⟨j + 1, _, rfl, ⟨by have := hgk2.out; omega⟩, by omega, (by first | rfl | go_num | (congr 1; omega)), ⟨?_⟩, ⟨hmq8⟩, ⟨hkq8⟩, ⟨hoq8⟩⟩
              rw [htk.out, ← List.append_assoc]
              unfold OwnPrs
              rw [List.length_append, hqq.out, List.length_singleton, prCells_snoc]
              push_cast
              exact ho8
            case measure => omega
          · obtain rfl : el = j := by omega
            have hfin : As (ScanAt W0 wr P l L mo cn (i + 1) u2) := ⟨⟨by rw [hh.out]; have := hown.out; rw [List.take_of_length_le (by rw [hel.out]; exact Nat.le_refl _)] at this; exact this, hmq.out, hkq.out⟩⟩
            go_wp2
            go_roundg gp
            case rel => exact ⟨i + 1, _, rfl, ⟨by have := hgk.out; omega⟩, by omega, (by first | rfl | go_num | (congr 1; omega)), congrArg _ hst2.out.symm, hfin⟩
            case measure => omega
      · obtain rfl : n = i := by omega
        have hhl := hitsTo_len (l := l) hTr.out L m hpm'.out n
        have hso : RetPrsM w mo (sortP (hitsTo P l L n)) (cn.more n (looksTo P L n)) = RetPrsM w mo (sortP (hitsTo P l L n)) (cn.more n (looksTo P L n)) := rfl
        have hSo := hS.out.own
        have hSm := As.mk hS.out.mt
        have hSk := As.mk hS.out.keep
        obtain ⟨Ao, co, rfl, hco, hcm, hro⟩ := OwnPrs.row2 hSo
        have cso := As.mk (sort_calls _ Ao co (hitsTo P l L n) wr (Nat.le_refl _) hro hco hcm (by omega))
        have hss := hS.out.keep.size
        clear hSo hro hS hso
        generalize sortP (hitsTo P l L n) = R at *
        go_wp2_with (go_at_call 55; refine Calls.mono cso.out ?_; intro e w9 h9; obtain ⟨v9, he, ho9, hb9⟩ := h9.out; subst he)
        go_ret
        have hs0 := hbw.out.size
        exact ⟨v9, rfl, own_base ho9 (by omega), hSm.out.below hb9, ((Keeps.of_below hbw.out _).trans hSk.out).trans (Keeps.of_below hb9 _)⟩
end Go.Proofs.YtdiljmhikajjiaaGreat
end
section
set_option linter.unusedVariables false
namespace Seine.Dfa
open Seine.Trie Seine.Links Seine.Sparse
def stands (l : List Txt) (c : UInt8) : Bool := l.any fun t => decide (c ∈ t)
theorem stands_iff {l : List Txt} {c : UInt8} : stands l c = true ↔ ∃ t ∈ l, c ∈ t := by
  unfold stands
  rw [List.any_eq_true]
  constructor
  · rintro ⟨t, h1, h2⟩; exact ⟨t, h1, of_decide_eq_true h2⟩
  · rintro ⟨t, h1, h2⟩; exact ⟨t, h1, decide_eq_true h2⟩
theorem stands_snoc (l : List Txt) (t : Txt) (c : UInt8) : stands (l ++ [t]) c = (stands l c || decide (c ∈ t)) := by unfold stands; rw [List.any_append]; simp
/-- Those of a set below k, rising. -/
def listTo (q : UInt8 → Bool) (k : Nat) : Txt := ((List.range k).map UInt8.ofNat).filter q
theorem listTo_succ (q : UInt8 → Bool) (k : Nat) : listTo q (k + 1) = listTo q k ++ if q (UInt8.ofNat k) = true then [UInt8.ofNat k] else [] := by
  unfold listTo
  rw [List.range_succ, List.map_append, List.filter_append]
  congr 1
  by_cases h : q (UInt8.ofNat k) = true <;> simp [h]
theorem listTo_len (q : UInt8 → Bool) (k : Nat) : (listTo q k).length ≤ k := by
  unfold listTo
  exact Nat.le_trans (List.length_filter_le _ _) (by simp)
/-- A byte's class: how many of those that stand are no greater; 0: it doesn't stand. -/
def clsF (l : List Txt) (c : UInt8) : Nat := if stands l c = true then (listTo (stands l) (c.toNat + 1)).length else 0
def widthF (l : List Txt) : Nat := (listTo (stands l) 256).length + 1
theorem listTo_mono (q : UInt8 → Bool) {a b : Nat} (h : a ≤ b) : (listTo q a).length ≤ (listTo q b).length := by
  obtain ⟨m, rfl⟩ : ∃ m, b = a + m := ⟨b - a, by omega⟩
  induction m with
  | zero => exact Nat.le_refl _
  | succ m ih =>
    have := ih (by omega)
    rw [← Nat.add_assoc, listTo_succ, List.length_append]; omega
theorem listTo_hit (q : UInt8 → Bool) (c : UInt8) (h : q c = true) : (listTo q (c.toNat + 1)).length = (listTo q c.toNat).length + 1 := by
  rw [listTo_succ, List.length_append, if_pos (by simpa using h)]; rfl
theorem clsF_pos {l : List Txt} {c : UInt8} (h : stands l c = true) : 0 < clsF l c := by
  unfold clsF
  rw [if_pos h, listTo_hit _ _ h]; omega
theorem clsF_zero {l : List Txt} {c : UInt8} (h : ¬ stands l c = true) : clsF l c = 0 := if_neg h
theorem clsF_lt (l : List Txt) (c : UInt8) : clsF l c < widthF l := by
  unfold clsF widthF
  split
  · have := listTo_mono (stands l) (a := c.toNat + 1) (b := 256) (by have := c.toNat_lt; omega)
    omega
  · omega
theorem clsF_inj {l : List Txt} {c d : UInt8} (hc : stands l c = true) (hd : stands l d = true) (h : clsF l c = clsF l d) : c = d := by
  have key : ∀ {c d : UInt8}, stands l c = true → stands l d = true → c.toNat < d.toNat → clsF l c < clsF l d := by
    intro c d hc hd hlt
    unfold clsF
    rw [if_pos hc, if_pos hd, listTo_hit _ d hd]
    have := listTo_mono (stands l) (a := c.toNat + 1) (b := d.toNat) (by omega)
    omega
  rcases Nat.lt_trichotomy c.toNat d.toNat with e | e | e
  · have := key hc hd e; omega
  · exact UInt8.toNat_inj.1 e
  · have := key hd hc e; omega
/-- What stands at the k-th place of those that stand. -/
theorem listTo_get (q : UInt8 → Bool) (n : Nat) (hn : n ≤ 256) (i : Nat) (hi : i < (listTo q n).length) : ∃ c : UInt8, (listTo q n)[i]? = some c ∧ q c = true ∧ c.toNat < n ∧ (listTo q (c.toNat + 1)).length = i + 1 := by
  induction n with
  | zero => simp [listTo] at hi
  | succ n ih =>
    rw [listTo_succ] at hi ⊢
    by_cases h : i < (listTo q n).length
    · obtain ⟨c, h1, h2, h3, h4⟩ := ih (by omega) h
      exact ⟨c, by rw [List.getElem?_append_left h]; exact h1, h2, by omega, h4⟩
    · rw [List.length_append] at hi
      by_cases hq : q (UInt8.ofNat n) = true
      · rw [if_pos hq] at hi ⊢
        have hi2 : i = (listTo q n).length := by simp at hi; omega
        have hc : (UInt8.ofNat n).toNat = n := by simp; omega
        exact ⟨UInt8.ofNat n, by rw [hi2, List.getElem?_append_right (Nat.le_refl _)]; simp, hq, by omega, by rw [hc, listTo_succ, if_pos hq, hi2]; simp⟩
      · rw [if_neg hq] at hi; simp at hi; omega
/-- Classes of the first i of those that stand. -/
def clsTo (l : List Txt) (i : Nat) (c : UInt8) : Nat := if c ∈ (listTo (stands l) 256).take i then clsF l c else 0
theorem mem_listTo {q : UInt8 → Bool} {c : UInt8} : c ∈ listTo q 256 ↔ q c = true := by
  unfold listTo
  rw [List.mem_filter, List.mem_map]
  constructor
  · exact fun h => h.2
  · intro h
    exact ⟨⟨c.toNat, List.mem_range.2 c.toNat_lt, by simp⟩, h⟩
theorem clsTo_zero (l : List Txt) (c : UInt8) : clsTo l 0 c = 0 := by unfold clsTo; simp
theorem clsTo_all (l : List Txt) (c : UInt8) : clsTo l (listTo (stands l) 256).length c = clsF l c := by
  unfold clsTo
  rw [List.take_length]
  by_cases h : stands l c = true
  · rw [if_pos (mem_listTo.2 h)]
  · rw [if_neg (fun e => h (mem_listTo.1 e)), clsF_zero h]
theorem clsTo_step (l : List Txt) (i : Nat) (b : UInt8) (hi : (listTo (stands l) 256)[i]? = some b) (c : UInt8) : clsTo l (i + 1) c = if c = b then i + 1 else clsTo l i c := by
  have hil := (List.getElem?_eq_some_iff.1 hi).1
  obtain ⟨b', h1, h2, _, h4⟩ := listTo_get (stands l) 256 (Nat.le_refl _) i hil
  rw [hi] at h1
  injection h1 with h1
  subst h1
  have htk : (listTo (stands l) 256).take (i + 1) = (listTo (stands l) 256).take i ++ [b] := by
    rw [List.take_succ_eq_append_getElem hil]; congr 2; exact (List.getElem?_eq_some_iff.1 hi).2
  unfold clsTo
  rw [htk]
  by_cases h : c = b
  · subst h
    rw [if_pos (by simp), if_pos rfl]
    unfold clsF
    rw [if_pos h2, h4]
  · rw [if_neg h]
    by_cases hc : c ∈ (listTo (stands l) 256).take i
    · rw [if_pos (List.mem_append_left _ hc), if_pos hc]
    · rw [if_neg (by simp [hc, h]), if_neg hc]
/-- The byte of a class. -/
def byteOf (l : List Txt) (k : Nat) : Option UInt8 := if k = 0 then none else (listTo (stands l) 256)[k - 1]?
theorem byteOf_cls {l : List Txt} {c : UInt8} (h : stands l c = true) : byteOf l (clsF l c) = some c := by
  unfold byteOf
  rw [if_neg (by have := clsF_pos h; omega)]
  have h1 := clsF_lt l c
  have h0 := clsF_pos h
  unfold widthF at h1
  obtain ⟨d, a1, a2, _, a4⟩ := listTo_get (stands l) 256 (Nat.le_refl _) (clsF l c - 1) (by omega)
  rw [a1]
  congr 1
  refine clsF_inj a2 h ?_
  have : clsF l d = (listTo (stands l) (d.toNat + 1)).length := by unfold clsF; rw [if_pos a2]
  rw [this, a4]; omega
theorem byteOf_stands {l : List Txt} {k : Nat} {c : UInt8} (h : byteOf l k = some c) : stands l c = true ∧ clsF l c = k := by
  unfold byteOf at h
  split at h
  · cases h
  · rename_i hk
    have hl := (List.getElem?_eq_some_iff.1 h).1
    obtain ⟨d, a1, a2, _, a4⟩ := listTo_get (stands l) 256 (Nat.le_refl _) (k - 1) hl
    rw [h] at a1
    injection a1 with a1
    subst a1
    refine ⟨a2, ?_⟩
    unfold clsF
    rw [if_pos a2, a4]; omega
/-- A state's row: where it goes by the bytes of a class. -/
def rowF (P l : List Txt) (s : Txt) (k : Nat) : Int := match byteOf l k with | some c => place P (lng P (s ++ [c])) | none => 0
theorem stands_path {l : List Txt} {s : Txt} {c : UInt8} (h : s ++ [c] ∈ paths l) : stands l c = true := by
  rcases mem_paths.1 h with e | ⟨b, hb, k, hk, e⟩
  · simp at e
  · refine stands_iff.2 ⟨b, hb, ?_⟩
    have : c ∈ b.take k := by rw [← e]; simp
    exact List.mem_of_mem_take this
theorem lng_foreign {l : List Txt} (s : Txt) {c : UInt8} (h : ¬ stands l c = true) : lng (paths l) (s ++ [c]) = [] := by
  obtain ⟨n, h1, h2, h3, _⟩ := lng_spec (paths_tree l) (s ++ [c])
  rw [h2]
  by_cases hn : n ≤ s.length
  · rw [snoc_drop hn] at h3
    exact absurd (stands_path h3) h
  · rw [List.length_append, List.length_singleton] at h1
    exact List.drop_eq_nil_of_le (by simp; omega)
/-- The table is the step. -/
theorem rowF_cls (l : List Txt) (s : Txt) (c : UInt8) : rowF (paths l) l s (clsF l c) = place (paths l) (lng (paths l) (s ++ [c])) := by
  by_cases h : stands l c = true
  · unfold rowF; rw [byteOf_cls h]
  · rw [clsF_zero h, lng_foreign s h, place_at (paths_tree l).nodup (paths_tree l).root]
    rfl
/-- A row that is being made: base's, but for the first j bytes that lead on. -/
def rowK (P l : List Txt) (s : Txt) (base : Nat → Int) (j k : Nat) : Int := match byteOf l k with | some c => if c ∈ (kids P s).take j then place P (s ++ [c]) else base k | none => base k
theorem mem_kids {P : List Txt} {s : Txt} {c : UInt8} : c ∈ kids P s ↔ s ++ [c] ∈ P := by
  unfold kids
  rw [List.mem_filter, List.mem_map, decide_eq_true_eq]
  constructor
  · exact fun h => h.2
  · intro h; exact ⟨⟨c.toNat, List.mem_range.2 c.toNat_lt, by simp⟩, h⟩
theorem rowK_zero (P l : List Txt) (s : Txt) (base : Nat → Int) (k : Nat) : rowK P l s base 0 k = base k := by unfold rowK; split <;> simp
theorem rowK_step (l : List Txt) (s : Txt) (base : Nat → Int) (j : Nat) (c : UInt8) (hj : (kids (paths l) s)[j]? = some c) (k : Nat) :
    rowK (paths l) l s base (j + 1) k = if k = clsF l c then place (paths l) (s ++ [c]) else rowK (paths l) l s base j k := by
  have hjl := (List.getElem?_eq_some_iff.1 hj).1
  have hc := stands_path (mem_kids.1 (List.mem_of_getElem? hj))
  have htk : (kids (paths l) s).take (j + 1) = (kids (paths l) s).take j ++ [c] := by
    rw [List.take_succ_eq_append_getElem hjl]; congr 2; exact (List.getElem?_eq_some_iff.1 hj).2
  by_cases hk : k = clsF l c
  · subst hk
    rw [if_pos rfl]
    unfold rowK
    rw [byteOf_cls hc, htk]
    simp
  · rw [if_neg hk]
    unfold rowK
    split
    · rename_i d hd
      have hdc : d ≠ c := fun e => hk (by rw [← e]; exact (byteOf_stands hd).2.symm)
      rw [htk]
      simp [hdc]
    · rfl
/-- Where all that lead on have been: the row of a state, out of that of where it falls to. -/
theorem rowK_done (l : List Txt) (s : Txt) (m : Nat) (hf : failN (paths l) s = some m) (k : Nat) : rowK (paths l) l s (rowF (paths l) l (s.drop m)) (kids (paths l) s).length k = rowF (paths l) l s k := by
  unfold rowK rowF
  rw [List.take_length]
  split
  · rename_i c hc
    by_cases h : c ∈ kids (paths l) s
    · rw [if_pos h, step_hit (paths_tree l) (mem_kids.1 h)]
    · rw [if_neg h, step_fall (paths_tree l) (fun e => h (mem_kids.2 e)) hf]
  · rfl
theorem rowK_root (l : List Txt) (k : Nat) : rowK (paths l) l [] (fun _ => 0) (kids (paths l) []).length k = rowF (paths l) l [] k := by
  unfold rowK rowF
  rw [List.take_length]
  split
  · rename_i c hc
    by_cases h : c ∈ kids (paths l) []
    · rw [if_pos h, step_hit (paths_tree l) (mem_kids.1 h)]
    · have hn : [c] ∉ paths l := fun e => h (mem_kids.2 e)
      rw [if_neg h, List.nil_append, step_root (paths_tree l) hn, place_at (paths_tree l).nodup (paths_tree l).root]
      rfl
  · rfl
/-- c stands in the set. -/
def memS (ws : Nat → Nat) (c : UInt8) : Bool := (ws (c.toNat / 64)).testBit (c.toNat % 64)
theorem bit_or_shift {x i j : Nat} : (x ||| 1 <<< i).testBit j = (x.testBit j || decide (j = i)) := by
  rw [Nat.testBit_or, Nat.one_shiftLeft, Nat.testBit_two_pow]
  congr 1
  rw [decide_eq_decide]
  exact eq_comm
theorem memS_with (ws : Nat → Nat) (c d : UInt8) : memS (fun i => if i = c.toNat / 64 then ws i ||| 1 <<< (c.toNat % 64) else ws i) d = (memS ws d || decide (d = c)) := by
  unfold memS
  by_cases h : d.toNat / 64 = c.toNat / 64
  · simp only [h, if_pos]
    rw [bit_or_shift]
    congr 1
    rw [decide_eq_decide]
    constructor
    · intro e; apply UInt8.toNat_inj.1; omega
    · rintro rfl; rfl
  · simp only [if_neg h]
    have : decide (d = c) = false := decide_eq_false (fun e => h (by rw [e]))
    rw [this, Bool.or_false]
theorem memS_union (ws vs : Nat → Nat) (d : UInt8) : memS (fun i => ws i ||| vs i) d = (memS ws d || memS vs d) := by
  unfold memS; rw [Nat.testBit_or]
theorem memS_none (d : UInt8) : memS (fun _ => 0) d = false := by unfold memS; simp
end Seine.Dfa
end
