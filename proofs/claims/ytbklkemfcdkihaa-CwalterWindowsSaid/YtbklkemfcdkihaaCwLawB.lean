/- The walk of the law CwalterWindows. -/
import Derived.Test.YtbklkemfcdkihaaCwLawA
import Derived.Deep.QuietTactic
import Derived.BigQuiet
set_option linter.unusedVariables false
set_option linter.unusedSimpArgs false
namespace Go.Proofs.Ytbklkemfcdkihaa
open Go.RowKit Go.Maps Seine.Trie Seine.Links Seine.Cw
open Seine.Sort (occ occTo_len sortP)

section
variable {T : List Txt} (hT : ∀ t ∈ T, t ≠ []) (hne : T ≠ [])
include hT hne
theorem endsFrom_props (L : Txt) : ∀ (f e : Nat), L.length + 1 ≤ f + e → e ≤ L.length →
    (0 < (endsFrom T L f e).length ∧ (endsFrom T L f e).getD 0 0 = e) ∧ (∀ i, i + 1 < (endsFrom T L f e).length → (endsFrom T L f e).getD i 0 < (endsFrom T L f e).getD (i + 1) 0 ∧ (endsFrom T L f e).getD (i + 1) 0 ≤ (endsFrom T L f e).getD i 0 + least T) ∧
    (endsFrom T L f e).getD ((endsFrom T L f e).length - 1) 0 ≤ L.length ∧ L.length < (endsFrom T L f e).getD ((endsFrom T L f e).length - 1) 0 + least T
  | 0, e, h, k => by omega
  | f + 1, e, h, k => by
    obtain ⟨f1, f2⟩ := farAt_spec hT hne L e
    have hd : endsFrom T L (f + 1) e = e :: endsFrom T L f (e + farAt T L e) := by rw [endsFrom, if_pos k]
    rw [hd]
    by_cases hle : e + farAt T L e ≤ L.length
    · obtain ⟨⟨a1, a2⟩, a3, a4, a5⟩ := endsFrom_props L f (e + farAt T L e) (by omega) hle
      refine ⟨⟨by simp, rfl⟩, fun i hi => ?_, ?_⟩
      · rw [List.length_cons] at hi
        cases i with
        | zero =>
          rw [List.getD_cons_succ, List.getD_cons_zero, a2]
          omega
        | succ i =>
          rw [List.getD_cons_succ, List.getD_cons_succ]
          exact a3 i (by omega)
      · rw [List.length_cons, Nat.add_sub_cancel]
        obtain ⟨m, hm⟩ : ∃ m, (endsFrom T L f (e + farAt T L e)).length = m + 1 := ⟨_, (Nat.sub_add_cancel a1).symm⟩
        rw [hm] at a4 a5 ⊢
        rw [List.getD_cons_succ]
        exact ⟨a4, a5⟩
    · have hnil : endsFrom T L f (e + farAt T L e) = [] := by
        cases f with
        | zero => rfl
        | succ f => rw [endsFrom, if_neg hle]
      rw [hnil]
      exact ⟨⟨by simp, rfl⟩, fun i hi => by simp at hi, by simpa using k, by simp; omega⟩
end
theorem occ_ends {l : List Txt} {L : Txt} {p : Pr} (hp : p ∈ occ l L) : ∃ j, j < (ends (turnT l) L).length ∧ (((ends (turnT l) L).getD j 0 : Nat) : Int) = p.2 := by
  rw [← hits_occ (turnT_mem l) (turnT_ne l) L] at hp
  rw [Seine.Sort.mem_sortP] at hp
  unfold hitsOf at hp
  obtain ⟨e, he, hm⟩ := List.mem_flatMap.1 hp
  obtain ⟨k, _, _, rfl, _⟩ := mem_wins.1 hm
  obtain ⟨j, hj, hj2⟩ := List.getElem_of_mem he
  exact ⟨j, hj, by rw [List.getD_eq_getElem?_getD, List.getElem?_eq_getElem hj, hj2]; rfl⟩
theorem natI_get (E : List Nat) (i : Nat) (h : i < E.length) : (natI E).getD i 0 = ((E.getD i 0 : Nat) : Int) := by
  simp [natI, List.getD_eq_getElem?_getD, h]
theorem ends_small {l : List Txt} {L : Txt} (h : least (turnT l) = 0 ∨ L.length < least (turnT l)) : ends (turnT l) L = [] ∧ occ l L = [] := by
  have h1 : ends (turnT l) L = [] := by
    unfold ends
    split
    · rfl
    · rename_i hne
      have := (least_spec (turnT_ne l) hne).1
      exact endsFrom_stop (turnT_ne l) hne L (by omega)
  refine ⟨h1, ?_⟩
  rw [← hits_occ (turnT_mem l) (turnT_ne l) L, h1]
  rfl
theorem least_step (l : List Txt) (t : Txt) : least (turnT (l ++ [t])) = if t.length = 0 then least (turnT l) else if least (turnT l) = 0 then t.length else min (least (turnT l)) t.length := by
  rw [turnT_snoc]
  cases t with
  | nil => simp
  | cons a t => rw [if_neg (List.cons_ne_nil a t), least_snoc, List.length_reverse, if_neg (by simp : ¬ (a :: t).length = 0)]
theorem Addr.add_succ (a : Addr) (m : Nat) : a.add (m + 1) = ⟨a.block, a.off + (m + 1), none⟩ := by unfold Addr.add; rw [if_neg (by omega)]
set_option maxRecDepth 100000 in
set_option maxHeartbeats 3200000 in
theorem windows_walk (A : Option Addr) (c : Nat) (l : List Txt) (B : Option Addr) (d : Nat) (L : Txt) (w : World) (hx : Txts w A l) (hc : l.length ≤ c) (hr : c * 24 ≤ 140737488351232) (hm : ∀ x ∈ l, x.length ≤ maxLen)
    (h1 : Byt w B L) (hd : L.length ≤ d) (hdm : d ≤ maxLen) :
    Calls Try.prog 5 #[.slice A l.length c, .slice B L.length d] w fun e w' => e = .returned (.bool true) ∧ Below w.heap.size w w' := by
  have HL := As.mk h1
  clear h1
  unfold maxLen at hdm
  by_cases hf : Few l
  · --
    have hB := As.mk (Below.refl w.heap.size w)
    have HX := As.mk hx
    have HM := As.mk hm
    clear hx hm
    go_enter Try.func5, Try.ntmps5
    go_wp2_with fail
    refine Calls.mono (awake_calls _) ?_
    rintro e w1 ⟨rfl, hb⟩
    have hs := hb.size
    (try simp only [World.size_alloc, World.size_drew] at hs)
    replace hB := As.mk (belowNext hB.out (by (repeat (first | (with_reducible assumption) | (with_reducible exact Below.refl _ _) | (with_reducible refine Below.drew ?_) | (with_reducible refine below_drewN ?_ _) | (with_reducible refine Below.alloc ?_ (by (first | omega | (simp only [World.size_alloc, World.size_drew]; done) | (simp only [World.size_alloc, World.size_drew]; omega))) _) | (refine Below.trans ?_ (Below.mono (by with_reducible assumption) (by (first | omega | (simp only [World.size_alloc, World.size_drew]; done) | (simp only [World.size_alloc, World.size_drew]; omega))))))) : Below _ _ w1))
    replace HX := As.mk (HX.out.below (by (repeat (first | (with_reducible assumption) | (with_reducible exact Below.refl _ _) | (with_reducible refine Below.drew ?_) | (with_reducible refine below_drewN ?_ _) | (with_reducible refine Below.alloc ?_ (by (first | omega | (simp only [World.size_alloc, World.size_drew]; done) | (simp only [World.size_alloc, World.size_drew]; omega))) _) | (refine Below.trans ?_ (Below.mono (by with_reducible assumption) (by (first | omega | (simp only [World.size_alloc, World.size_drew]; done) | (simp only [World.size_alloc, World.size_drew]; omega))))))) : Below _ _ w1))
    replace HL := As.mk (HL.out.below (by (repeat (first | (with_reducible assumption) | (with_reducible exact Below.refl _ _) | (with_reducible refine Below.drew ?_) | (with_reducible refine below_drewN ?_ _) | (with_reducible refine Below.alloc ?_ (by (first | omega | (simp only [World.size_alloc, World.size_drew]; done) | (simp only [World.size_alloc, World.size_drew]; omega))) _) | (refine Below.trans ?_ (Below.mono (by with_reducible assumption) (by (first | omega | (simp only [World.size_alloc, World.size_drew]; done) | (simp only [World.size_alloc, World.size_drew]; omega))))))) : Below _ _ w1))
    replace hb := As.mk hb
    go_wp2_with fail
    refine Calls.mono (texts_calls _ A c l HX.out hc hr HM.out) ?_
    rintro e w2 ⟨⟨A2, c2, b, he, hb0, hS⟩, hb⟩; clear hr
    have hs := hb.size
    (try simp only [World.size_alloc, World.size_drew] at hs)
    replace hB := As.mk (belowNext hB.out (by (repeat (first | (with_reducible assumption) | (with_reducible exact Below.refl _ _) | (with_reducible refine Below.drew ?_) | (with_reducible refine below_drewN ?_ _) | (with_reducible refine Below.alloc ?_ (by (first | omega | (simp only [World.size_alloc, World.size_drew]; done) | (simp only [World.size_alloc, World.size_drew]; omega))) _) | (refine Below.trans ?_ (Below.mono (by with_reducible assumption) (by (first | omega | (simp only [World.size_alloc, World.size_drew]; done) | (simp only [World.size_alloc, World.size_drew]; omega))))))) : Below _ _ w2))
    replace HX := As.mk (HX.out.below (by (repeat (first | (with_reducible assumption) | (with_reducible exact Below.refl _ _) | (with_reducible refine Below.drew ?_) | (with_reducible refine below_drewN ?_ _) | (with_reducible refine Below.alloc ?_ (by (first | omega | (simp only [World.size_alloc, World.size_drew]; done) | (simp only [World.size_alloc, World.size_drew]; omega))) _) | (refine Below.trans ?_ (Below.mono (by with_reducible assumption) (by (first | omega | (simp only [World.size_alloc, World.size_drew]; done) | (simp only [World.size_alloc, World.size_drew]; omega))))))) : Below _ _ w2))
    replace HL := As.mk (HL.out.below (by (repeat (first | (with_reducible assumption) | (with_reducible exact Below.refl _ _) | (with_reducible refine Below.drew ?_) | (with_reducible refine below_drewN ?_ _) | (with_reducible refine Below.alloc ?_ (by (first | omega | (simp only [World.size_alloc, World.size_drew]; done) | (simp only [World.size_alloc, World.size_drew]; omega))) _) | (refine Below.trans ?_ (Below.mono (by with_reducible assumption) (by (first | omega | (simp only [World.size_alloc, World.size_drew]; done) | (simp only [World.size_alloc, World.size_drew]; omega))))))) : Below _ _ w2))
    replace hb := As.mk hb
    obtain rfl : b = true := by rw [hb0]; exact decide_eq_true hf.short
    have hd12 : decide (l.length ≤ 12) = true := decide_eq_true hf.len
    rw [Bool.true_and, hd12, if_pos rfl] at he
    subst he
    obtain ⟨hc2, hS2⟩ := hS rfl
    clear hS
    have hS := As.mk hS2
    clear hS2 hb0 hd12
    have htot := As.mk hf.tot
    have hl12 := hf.len
    have hF := As.mk hf
    clear hf
    by_cases hg : L.length ≤ 300
    · have hg1 : decide ((300 : Int) < (L.length : Int)) = false := decide_eq_false (by omega)
      have hst := As.mk (fun k h => take_snoc_txt l k h)
      have hF' := hF
      have hrl := occ_few l L (by omega)
      obtain ⟨n, hn⟩ : ∃ n, l.length = n := ⟨_, rfl⟩
      obtain ⟨nl, hnl⟩ : ∃ n, L.length = n := ⟨_, rfl⟩
      have hn' := As.mk hn
      have hnl' := As.mk hnl
      have hl0 : As ((0 : Int) = (least (turnT (l.take 0)) : Int)) := ⟨by rw [List.take_zero]; rfl⟩
      rw [hn] at hl12 hst ⊢
      rw [hnl] at hg hd hg1 ⊢
      clear hS htot HM hn hnl
      go_wp2_with fail
      go_loopw [8, 9] (fun v8 v9 wr => ∃ k : Nat, k ≤ n ∧ v9 = .int .i64 k ∧ v8 = .int .i64 (least (turnT (l.take k)) : Int) ∧ As (Below w2.heap.size w2 wr)) (fun _ v9 _ => n - (intOf v9).toNat)
      case atStart => exact ⟨0, Nat.zero_le _, rfl, by rw [← hl0.out], ⟨Below.refl _ _⟩⟩
      case round =>
        obtain ⟨k, hk, rfl, rfl, hbel⟩ := hrel
        by_cases hlt : k < n
        · obtain ⟨ad, A', c', rfl, a1, hc', hbyt⟩ := (HX.out.below hbel.out).at_ (i := k) (by rw [hn'.out]; exact hlt)
          obtain ⟨t, ht⟩ : ∃ t, l.getD k [] = t := ⟨_, rfl⟩
          rw [ht] at a1 hc' hbyt
          have htk : l.take (k + 1) = l.take k ++ [t] := by rw [hst.out k hlt, ht]
          have hstep := least_step (l.take k) t
          rw [← htk] at hstep
          have hts : t.length ≤ 40 := by rw [← ht]; exact hF.out.short _ (by rw [List.getD_eq_getElem?_getD, List.getElem?_eq_getElem (by rw [hn'.out]; exact hlt)]; exact List.getElem_mem _)
          obtain ⟨Lk, hLk⟩ : ∃ x, least (turnT (l.take k)) = x := ⟨_, rfl⟩
          obtain ⟨Ln, hLn⟩ : ∃ x, least (turnT (l.take (k + 1))) = x := ⟨_, rfl⟩
          obtain ⟨m, hm⟩ : ∃ x, t.length = x := ⟨_, rfl⟩
          rw [hLk, hLn, hm] at hstep
          rw [hm] at a1 hts hc'
          rw [hLk]
          have hLn' := As.mk hLn
          clear hLk hLn hm htk ht hbyt
          by_cases hm0 : m = 0
          · subst hm0
            rw [if_pos rfl] at hstep
            subst hstep
            go_wp2
            go_roundw
            case rel => exact ⟨k + 1, by omega, (by first | rfl | go_num | (congr 1; omega)), by rw [hLn'.out], hbel⟩
            case measure => simp [intOf]; omega
          · rw [if_neg hm0] at hstep
            have d1 : decide (0 < (m : Int)) = true := decide_eq_true (by omega)
            have d1' : decide (0 < m) = true := decide_eq_true (by omega)
            by_cases hz : Lk = 0
            · subst hz
              rw [if_pos rfl] at hstep
              subst hstep
              go_wp2
              go_roundw
              case rel => exact ⟨k + 1, by omega, (by first | rfl | go_num | (congr 1; omega)), by rw [hLn'.out], hbel⟩
              case measure => simp [intOf]; omega
            · rw [if_neg hz] at hstep
              have d2 : ((Lk : Int) == 0) = false := by simp; omega
              by_cases hml : m < Lk
              · have d3 : decide ((m : Int) < (Lk : Int)) = true := decide_eq_true (by omega)
                have d3' : decide (m < Lk) = true := decide_eq_true hml
                obtain rfl : Ln = m := by omega
                clear hstep
                go_wp2
                go_roundw
                case rel => exact ⟨k + 1, by omega, (by first | rfl | go_num | (congr 1; omega)), by rw [hLn'.out], hbel⟩
                case measure => simp [intOf]; omega
              · have d3 : decide ((m : Int) < (Lk : Int)) = false := decide_eq_false (by omega)
                have d3' : decide (m < Lk) = false := decide_eq_false hml
                obtain rfl : Ln = Lk := by omega
                clear hstep
                go_wp2
                go_roundw
                case rel => exact ⟨k + 1, by omega, (by first | rfl | go_num | (congr 1; omega)), by rw [hLn'.out], hbel⟩
                case measure => simp [intOf]; omega
        · obtain rfl : k = n := by omega
          have hlk : l.take k = l := by rw [← hn'.out, List.take_length]
          rw [hlk]
          have hBr := As.mk (belowNext hB.out hbel.out)
          have cN := As.mk (fnew_calls wr A c l (HX.out.below hbel.out) hF.out)
          rw [hn'.out] at cN
          have HLr := As.mk (Row.below HL.out hbel.out)
          have hsm := ends_small (l := l) (L := L)
          have hpr := As.mk (fun (hne : turnT l ≠ []) (h : least (turnT l) ≤ L.length) => endsFrom_props (turnT_ne l) hne L (L.length + 1) (least (turnT l)) (by omega) h)
          have hl0 := As.mk (fun (h : least (turnT l) ≠ 0) => (show turnT l ≠ [] from fun e => h (by rw [e]; rfl)))
          have hends := As.mk (fun (h : turnT l ≠ []) => (show ends (turnT l) L = endsFrom (turnT l) L (L.length + 1) (least (turnT l)) by unfold ends; rw [if_neg h]))
          have hle40 := least_small (n := 40) (fun x hx => turnT_of l hF.out.short x hx) (turnT_ne l)
          have hoe := As.mk (fun p hp => occ_ends (l := l) (L := L) (p := p) hp)
          have csc := As.mk (fun (v : World) (g : Nat) (h : WalkAt v g (turnT l)) (hv : Below wr.heap.size wr v) => cscan_calls v g l h hF.out.short60 (by have := hn'.out; omega) B d L (Row.below HLr.out hv) (by have := hnl'.out; omega))
          have cen := As.mk (fun (v : World) (g : Nat) (h : WalkAt v g (turnT l)) (hv : Below wr.heap.size wr v) => cends_calls v g l h hF.out.short60 (by have := hn'.out; omega) B d L (Row.below HLr.out hv) (by have := hnl'.out; omega))
          obtain ⟨T, hT⟩ : ∃ T, turnT l = T := ⟨_, rfl⟩
          have hT2 := As.mk hT
          rw [hT] at cN hsm hpr hl0 hends hle40 csc cen hoe ⊢
          obtain ⟨M, hM⟩ : ∃ x, least T = x := ⟨_, rfl⟩
          rw [hM] at hsm hpr hl0 hends hle40 ⊢
          rw [hnl'.out] at csc cen
          rw [hnl'.out] at hsm hpr hends
          clear hT hlk HX HL hM hbel hB hst hF hF'
          obtain ⟨W0, hW0⟩ : ∃ W, wr = W := ⟨_, rfl⟩
          rw [hW0] at hBr cN HLr csc cen ⊢
          clear hW0
          by_cases hcase : M = 0 ∨ nl < M
          · obtain ⟨he0, ho0⟩ := hsm hcase
            rw [he0] at cen
            rw [ho0] at csc
            clear hsm he0 ho0 hpr hl0 hends hoe
            rcases (show M = 0 ∨ (M ≠ 0 ∧ nl < M) by omega) with h | ⟨h, h'⟩
            · subst h
              go_wp2_with (first
                | (go_at_call 13; refine Calls.mono cN.out ?_; rintro e w3 ⟨g, rfl, hA, hb⟩; have hbb := hb; replace hb := As.mk hb)
                | (go_at_call 17; refine Calls.mono (cen.out _ g hA hbb) ?_; intro e w4 h4; obtain ⟨Ae, ce, he, hce, hre, hb4⟩ := h4.row; subst he; have hA4 := hA.below hb4; have hbb4 := belowNext hbb hb4; rw [show (natI []).length = 0 from rfl]; clear h4)
                | (go_at_call 14; refine Calls.mono (csc.out _ g hA4 hbb4) ?_; intro e w5 h5; obtain ⟨As, cs, he, hcs, hcms, hrs, hb5⟩ := h5.row2; subst he; rw [show (List.length ([] : List Pr)) = 0 from rfl]; clear h5))
              go_ret
              exact ⟨rfl, belowNext hBr.out (belowNext hbb4 hb5)⟩
            · have z1 : ((M : Int) == 0) = false := by simp; omega
              have z2 : decide ((nl : Int) < (M : Int)) = true := decide_eq_true (by omega)
              have z2' : decide (nl < M) = true := decide_eq_true h'
              go_wp2_with (first
                | (go_at_call 13; refine Calls.mono cN.out ?_; rintro e w3 ⟨g, rfl, hA, hb⟩; have hbb := hb; replace hb := As.mk hb)
                | (go_at_call 17; refine Calls.mono (cen.out _ g hA hbb) ?_; intro e w4 h4; obtain ⟨Ae, ce, he, hce, hre, hb4⟩ := h4.row; subst he; have hA4 := hA.below hb4; have hbb4 := belowNext hbb hb4; rw [show (natI []).length = 0 from rfl]; clear h4)
                | (go_at_call 14; refine Calls.mono (csc.out _ g hA4 hbb4) ?_; intro e w5 h5; obtain ⟨As, cs, he, hcs, hcms, hrs, hb5⟩ := h5.row2; subst he; rw [show (List.length ([] : List Pr)) = 0 from rfl]; clear h5))
              go_ret
              exact ⟨rfl, belowNext hBr.out (belowNext hbb4 hb5)⟩
          · have z1 : ((M : Int) == 0) = false := by simp; omega
            have z2 : decide ((nl : Int) < (M : Int)) = false := decide_eq_false (by omega)
            have z2' : decide (nl < M) = false := decide_eq_false (by omega)
            have hne := hl0.out (by omega)
            obtain ⟨⟨p1, p2⟩, p3, p4, p5⟩ := hpr.out hne (by omega)
            rw [← hends.out hne] at p1 p2 p3 p4 p5
            clear hsm hpr hl0 hends
            obtain ⟨E, hE⟩ : ∃ E, ends T L = E := ⟨_, rfl⟩
            rw [hE] at p1 p2 p3 p4 p5 cen hoe
            obtain ⟨R, hR⟩ : ∃ R, occ l L = R := ⟨_, rfl⟩
            rw [hR] at hoe csc hrl
            obtain ⟨el, hel⟩ : ∃ k, E.length = k := ⟨_, rfl⟩
            rw [hel] at p1 p3 p4 p5
            have hIl : (natI E).length = el := by rw [natI_length, hel]
            have hgI := As.mk (fun i h => natI_get E i h)
            rw [hel] at hgI
            have hEb : As (∀ i, i < el → E.getD i 0 ≤ nl) := ⟨fun i hi => by
              have hm : E.getD i 0 ∈ ends T L := by rw [hE, List.getD_eq_getElem?_getD, List.getElem?_eq_getElem (by rw [hel]; exact hi)]; exact List.getElem_mem _
              unfold ends at hm
              rw [if_neg hne] at hm
              have := (ends_le (by rw [← hT2.out]; exact turnT_ne l) hne L _ _ _ hm).2
              rw [hnl'.out] at this; exact this⟩
            have hElen : el ≤ 1000 := by
              rw [← hel, ← hE]
              unfold ends
              split
              · simp
              · exact Nat.le_trans (endsFrom_len _ _ _ _) (by rw [hnl'.out]; omega)
            obtain ⟨em, hem⟩ : ∃ x, E.getD (el - 1) 0 = x := ⟨_, rfl⟩
            rw [hem] at p4 p5
            have y1 : decide ((nl : Int) < (em : Int)) = false := decide_eq_false (by omega)
            have y1' : decide (nl < em) = false := decide_eq_false (by omega)
            have y2 : decide ((em : Int) + (M : Int) ≤ (nl : Int)) = false := decide_eq_false (by omega)
            have y2' : decide (em + M ≤ nl) = false := decide_eq_false (by omega)
            have y3 : ((el : Int) == 0) = false := by simp; omega
            have y4 : IntKind.i64.wrap ((el : Int) - 1) = ((el - 1 : Nat) : Int) := by rw [IntWalk.i64_in _ (by omega)]; omega
            have y5 : el - 1 < el := by omega
            replace hel := As.mk hel
            replace hem := As.mk hem
            replace hIl := As.mk hIl
            have p3 := As.mk p3
            have hoe := As.mk hoe.out
            rw [hel.out] at hoe
            clear hE hR hne hcase
            go_wp2_with (first
              | (go_at_call 13; refine Calls.mono cN.out ?_; rintro e w3 ⟨g, rfl, hA, hb⟩; have hbb := hb; replace hb := As.mk hb)
              | (go_at_call 17; refine Calls.mono (cen.out _ g hA hbb) ?_; intro e w4 h4; obtain ⟨Ae, ce, he, hce, hre, hb4⟩ := h4.row; subst he; rw [hIl.out] at hce ⊢; obtain ⟨ade, rfl, q0⟩ := Ints.at_ hre (i := 0) (by rw [hIl.out]; exact p1); obtain ⟨ade', e', q1⟩ := Ints.at_ hre (i := el - 1) (by rw [hIl.out]; omega); injection e' with e'; subst e'; rw [hgI.out 0 p1, p2] at q0; rw [hgI.out (el - 1) (by omega), hem.out] at q1; have q0' := q0; rw [show ade.add 0 = ade by unfold Addr.add; simp] at q0'; clear h4))
            have hre4 := As.mk hre
            have hA4 := As.mk (hA.below hb4)
            have hbb4 := As.mk (belowNext hbb hb4)
            clear q0 q0' q1 hre hA hbb hb hb4 cen cN y1 y1' y2 y2' y3 y4 y5
            go_loopw [12] (fun v wr => ∃ m : Nat, m + 1 ≤ el ∧ v = .int .i64 ((m + 1 : Nat) : Int) ∧ As (Below w4.heap.size w4 wr)) (fun v _ => el - (intOf v).toNat)
            case atStart => exact ⟨0, by omega, rfl, ⟨Below.refl _ _⟩⟩
            case round =>
              obtain ⟨m, hm, rfl, hbel⟩ := hrel
              by_cases hlt : m + 1 < el
              · obtain ⟨x1, x2⟩ := p3.out m hlt
                have hrr := Row.below hre4.out hbel.out
                obtain ⟨_, e', q0⟩ := Ints.at_ hrr (i := m) (by rw [hIl.out]; omega)
                injection e' with e'
                subst e'
                obtain ⟨_, e', q1⟩ := Ints.at_ hrr (i := m + 1) (by rw [hIl.out]; omega)
                injection e' with e'
                subst e'
                rw [hgI.out m (by omega)] at q0
                rw [hgI.out (m + 1) (by omega)] at q1
                rw [Addr.add_succ] at q1
                obtain ⟨a0, ha0⟩ : ∃ a, E.getD m 0 = a := ⟨_, rfl⟩
                obtain ⟨b0, hb0⟩ : ∃ a, E.getD (m + 1) 0 = a := ⟨_, rfl⟩
                rw [ha0] at x1 x2 q0
                rw [hb0] at x1 x2 q1
                have u1 : decide ((b0 : Int) ≤ (a0 : Int)) = false := decide_eq_false (by omega)
                have u1' : decide (b0 ≤ a0) = false := decide_eq_false (by omega)
                have u2 : decide ((a0 : Int) + (M : Int) < (b0 : Int)) = false := decide_eq_false (by omega)
                have u2' : decide (a0 + M < b0) = false := decide_eq_false (by omega)
                have u3 : IntKind.i64.wrap ((a0 : Int) + (M : Int)) = (a0 : Int) + (M : Int) := IntWalk.i64_in _ (by have := hEb.out m (by omega); rw [ha0] at this; omega)
                have u4 : m < el := by omega
                have u4' : (m : Int) < (el : Int) := by omega
                have u5 : (m : Int) + 1 < (el : Int) := by omega
                have u6 : 0 ≤ (m : Int) + 1 := by omega
                have u7 : ((m : Int) + 1).toNat = m + 1 := by omega
                clear hrr ha0 hb0
                go_wp2
                go_quiet (fail)
                go_wp2
                go_roundw
                case rel => exact ⟨m + 1, by omega, (by first | rfl | go_num | (congr 1; omega)), ⟨below_drewN hbel.out _⟩⟩
                case measure => simp [intOf]; omega
              · obtain rfl : el = m + 1 := by omega
                obtain ⟨W5, hW5⟩ : ∃ W, wr = W := ⟨_, rfl⟩
                rw [hW5] at hbel ⊢
                clear hW5
                have hbb5 := As.mk (hbb4.out.trans (hbel.out.mono hbb4.out.size))
                have hre5 := As.mk (Row.below hre4.out hbel.out)
                have csc2 := As.mk (csc.out W5 g (hA4.out.below hbel.out) hbb5.out)
                obtain ⟨rl, hrl2⟩ : ∃ q, R.length = q := ⟨_, rfl⟩
                rw [hrl2] at hrl
                replace hrl2 := As.mk hrl2
                clear hre4 hA4 hbel csc
                go_wp2_with (go_at_call 14; refine Calls.mono csc2.out ?_; intro e w6 h6; obtain ⟨Ar, cr, he, hcr, hcmr, hrr, hb6⟩ := h6.row2; subst he; rw [hrl2.out] at hcr ⊢; clear h6; replace hrr := As.mk hrr; have hre6 := As.mk (Row.below hre5.out hb6); have hB6 := As.mk (belowNext hBr.out (belowNext hbb5.out hb6)))
                clear hb6 csc2 hre5
                go_loopw [14] (fun v wr => ∃ i : Nat, i ≤ rl ∧ v = .int .i64 i ∧ As (Below w6.heap.size w6 wr)) (fun v _ => rl - (intOf v).toNat)
                case atStart => exact ⟨0, Nat.zero_le _, rfl, ⟨Below.refl _ _⟩⟩
                case round =>
                  obtain ⟨i, hi, rfl, hbel⟩ := hrel
                  by_cases hlr : i < rl
                  · obtain ⟨y, hy⟩ : ∃ y, (R.getD i (0, 0)).2 = y := ⟨_, rfl⟩
                    obtain ⟨jy, hjy, hjy2⟩ := hoe.out (R.getD i (0, 0)) (by rw [List.getD_eq_getElem?_getD, List.getElem?_eq_getElem (by rw [hrl2.out]; exact hlr)]; exact List.getElem_mem _)
                    rw [hy] at hjy2
                    obtain ⟨wo, rfl⟩ : ∃ wo : World, wo = wr := ⟨_, rfl⟩
                    have hjy := As.mk hjy
                    have hjy2 := As.mk hjy2
                    have hyA := As.mk hy
                    clear hy
                    go_wp2
                    go_loopw [15, 16] (fun v15 v16 wr2 => ∃ (q : Nat) (b : Bool), q ≤ m + 1 ∧ v16 = .int .i64 q ∧ v15 = .bool b ∧ As (b = true ↔ ∃ j, j < q ∧ ((E.getD j 0 : Nat) : Int) = y) ∧ As (Below w6.heap.size w6 wr2)) (fun _ v16 _ => m + 1 - (intOf v16).toNat)
                    case atStart => exact ⟨0, false, Nat.zero_le _, rfl, rfl, ⟨by simp⟩, hbel⟩
                    case round =>
                      obtain ⟨q, b, hq, rfl, rfl, hbq, hbel2⟩ := hrel
                      by_cases hlq : q < m + 1
                      · have hEr := Row.below hre6.out hbel2.out
                        obtain ⟨_, e', q1⟩ := Ints.at_ hEr (i := q) (by rw [hIl.out]; exact hlq)
                        injection e' with e'
                        subst e'
                        rw [hgI.out q hlq] at q1
                        obtain ⟨adr, rfl, _, q2⟩ := Prs.at_ (Row.below hrr.out hbel2.out) (i := i) (by rw [hrl2.out]; exact hlr)
                        rw [hyA.out] at q2
                        obtain ⟨a0, ha0⟩ : ∃ a, E.getD q 0 = a := ⟨_, rfl⟩
                        rw [ha0] at q1
                        have hnx : As (∀ b' : Bool, (b' = true ↔ b = true ∨ (a0 : Int) = y) → (b' = true ↔ ∃ j, j < q + 1 ∧ ((E.getD j 0 : Nat) : Int) = y)) := ⟨fun b' h => by
                          rw [h, hbq.out]
                          constructor
                          · rintro (⟨j, h1, h2⟩ | h1)
                            · exact ⟨j, by omega, h2⟩
                            · exact ⟨q, by omega, by rw [ha0]; exact h1⟩
                          · rintro ⟨j, h1, h2⟩
                            by_cases e : j = q
                            · subst e; rw [ha0] at h2; exact .inr h2
                            · exact .inl ⟨j, by omega, h2⟩⟩
                        have u1 : (q : Int) < ((m : Int) + 1) := by omega
                        have u2 : (i : Int) < (rl : Int) := by omega
                        clear hEr ha0
                        cases b with
                        | true =>
                          go_wp2
                          go_quiet (fail)
                          go_wp2
                          go_roundw
                          case rel => exact ⟨q + 1, true, by omega, (by first | rfl | go_num | (congr 1; omega)), rfl, ⟨hnx.out true (by simp)⟩, ⟨below_drewN hbel2.out _⟩⟩
                          case measure => simp [intOf]; omega
                        | false =>
                          have hbv : As (((a0 : Int) == y) = true ↔ false = true ∨ (a0 : Int) = y) := ⟨by simp⟩
                          go_wp2
                          go_quiet (fail)
                          go_wp2
                          go_roundw
                          case rel => exact ⟨q + 1, _, by omega, (by first | rfl | go_num | (congr 1; omega)), rfl, ⟨hnx.out _ hbv.out⟩, ⟨below_drewN hbel2.out _⟩⟩
                          case measure => simp [intOf]; omega
                      · obtain rfl : q = m + 1 := by omega
                        obtain rfl : b = true := hbq.out.2 ⟨jy, hjy.out, hjy2.out⟩
                        go_wp2
                        go_roundw
                        case rel => exact ⟨i + 1, by omega, (by first | rfl | go_num | (congr 1; omega)), hbel2⟩
                        case measure => simp [intOf]; omega
                  · obtain rfl : i = rl := by omega
                    go_wp2
                    go_ret
                    exact ⟨rfl, belowNext hB6.out hbel.out⟩
    · have hg1 : decide ((300 : Int) < (L.length : Int)) = true := decide_eq_true (by omega)
      go_wp2
      go_ret
      exact ⟨rfl, hB.out⟩
  · --
    have hB := As.mk (Below.refl w.heap.size w)
    have HX := As.mk hx
    have HM := As.mk hm
    clear hx hm
    go_enter Try.func5, Try.ntmps5
    go_wp2_with fail
    refine Calls.mono (awake_calls _) ?_
    rintro e w1 ⟨rfl, hb⟩
    have hs := hb.size
    (try simp only [World.size_alloc, World.size_drew] at hs)
    replace hB := As.mk (belowNext hB.out (by (repeat (first | (with_reducible assumption) | (with_reducible exact Below.refl _ _) | (with_reducible refine Below.drew ?_) | (with_reducible refine below_drewN ?_ _) | (with_reducible refine Below.alloc ?_ (by (first | omega | (simp only [World.size_alloc, World.size_drew]; done) | (simp only [World.size_alloc, World.size_drew]; omega))) _) | (refine Below.trans ?_ (Below.mono (by with_reducible assumption) (by (first | omega | (simp only [World.size_alloc, World.size_drew]; done) | (simp only [World.size_alloc, World.size_drew]; omega))))))) : Below _ _ w1))
    replace HX := As.mk (HX.out.below (by (repeat (first | (with_reducible assumption) | (with_reducible exact Below.refl _ _) | (with_reducible refine Below.drew ?_) | (with_reducible refine below_drewN ?_ _) | (with_reducible refine Below.alloc ?_ (by (first | omega | (simp only [World.size_alloc, World.size_drew]; done) | (simp only [World.size_alloc, World.size_drew]; omega))) _) | (refine Below.trans ?_ (Below.mono (by with_reducible assumption) (by (first | omega | (simp only [World.size_alloc, World.size_drew]; done) | (simp only [World.size_alloc, World.size_drew]; omega))))))) : Below _ _ w1))
    replace HL := As.mk (HL.out.below (by (repeat (first | (with_reducible assumption) | (with_reducible exact Below.refl _ _) | (with_reducible refine Below.drew ?_) | (with_reducible refine below_drewN ?_ _) | (with_reducible refine Below.alloc ?_ (by (first | omega | (simp only [World.size_alloc, World.size_drew]; done) | (simp only [World.size_alloc, World.size_drew]; omega))) _) | (refine Below.trans ?_ (Below.mono (by with_reducible assumption) (by (first | omega | (simp only [World.size_alloc, World.size_drew]; done) | (simp only [World.size_alloc, World.size_drew]; omega))))))) : Below _ _ w1))
    replace hb := As.mk hb
    go_wp2_with fail
    refine Calls.mono (texts_calls _ A c l HX.out hc hr HM.out) ?_
    rintro e w2 ⟨⟨A2, c2, b, he, hb0, hS⟩, hb⟩; clear hr
    have hs := hb.size
    (try simp only [World.size_alloc, World.size_drew] at hs)
    replace hB := As.mk (belowNext hB.out (by (repeat (first | (with_reducible assumption) | (with_reducible exact Below.refl _ _) | (with_reducible refine Below.drew ?_) | (with_reducible refine below_drewN ?_ _) | (with_reducible refine Below.alloc ?_ (by (first | omega | (simp only [World.size_alloc, World.size_drew]; done) | (simp only [World.size_alloc, World.size_drew]; omega))) _) | (refine Below.trans ?_ (Below.mono (by with_reducible assumption) (by (first | omega | (simp only [World.size_alloc, World.size_drew]; done) | (simp only [World.size_alloc, World.size_drew]; omega))))))) : Below _ _ w2))
    replace HX := As.mk (HX.out.below (by (repeat (first | (with_reducible assumption) | (with_reducible exact Below.refl _ _) | (with_reducible refine Below.drew ?_) | (with_reducible refine below_drewN ?_ _) | (with_reducible refine Below.alloc ?_ (by (first | omega | (simp only [World.size_alloc, World.size_drew]; done) | (simp only [World.size_alloc, World.size_drew]; omega))) _) | (refine Below.trans ?_ (Below.mono (by with_reducible assumption) (by (first | omega | (simp only [World.size_alloc, World.size_drew]; done) | (simp only [World.size_alloc, World.size_drew]; omega))))))) : Below _ _ w2))
    replace HL := As.mk (HL.out.below (by (repeat (first | (with_reducible assumption) | (with_reducible exact Below.refl _ _) | (with_reducible refine Below.drew ?_) | (with_reducible refine below_drewN ?_ _) | (with_reducible refine Below.alloc ?_ (by (first | omega | (simp only [World.size_alloc, World.size_drew]; done) | (simp only [World.size_alloc, World.size_drew]; omega))) _) | (refine Below.trans ?_ (Below.mono (by with_reducible assumption) (by (first | omega | (simp only [World.size_alloc, World.size_drew]; done) | (simp only [World.size_alloc, World.size_drew]; omega))))))) : Below _ _ w2))
    replace hb := As.mk hb
    have hbf : (b && decide (l.length ≤ 12)) = false := by
      cases b with
      | false => rfl
      | true =>
        have h40 := of_decide_eq_true hb0.symm
        simp only [Bool.true_and, decide_eq_false_iff_not]
        exact fun h12 => hf ⟨h12, h40⟩
    obtain ⟨m, hm2⟩ : ∃ m, (if b = true then l.length else 0) = m := ⟨_, rfl⟩
    rw [hbf, hm2] at he
    subst he
    clear hS hb0 hbf hm2
    go_wp2
    go_ret
    exact ⟨rfl, hB.out⟩
end Go.Proofs.Ytbklkemfcdkihaa
