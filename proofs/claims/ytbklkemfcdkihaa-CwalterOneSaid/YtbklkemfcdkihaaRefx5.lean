-- PRINTED by print.py (a twelfth state) out of the translation. Not trusted: Lean checks it.
import Derived.Test.YtbklkemfcdkihaaRefx0
import Derived.Test.YtbklkemfcdkihaaRefx2
import Derived.Test.YtbklkemfcdkihaaRefx3
import Derived.Test.YtbklkemfcdkihaaRefx4
namespace Go.Proofs.Ytbklkemfcdkihaa.Ref
open Go.RowKit Go.Proofs.YtbklkemfcdkihaaW.PrintWords Go.Proofs.YtbklkemfcdkihaaW.PrintLast Go.Proofs.YtbklkemfcdkihaaW.PrintMore
attribute [local go_sem] max2_int min2_int max_two min_two max_three min_three max_four min_four   -- for this text's walks alone
set_option linter.unusedVariables false
set_option linter.unusedSimpArgs false

/-! ### seineref16_Ends: function 18 -/
mutual
def seineref16_Ends.l0 : Nat → ByteArray → List ByteArray → List ByteArray → List Int → Int → Option (List Int)
  | 0, _, _, _, _, _ => none
  | k + 1, x1, x5, x6, x7, x8 => if (x5.length : Int) > 0 then (seineref16_Ends.j1 k x1 x5 x6 x7 x8 (decide (x8 ≤ (x1.size : Int)))) else (seineref16_Ends.j1 k x1 x5 x6 x7 x8 false)
def seineref16_Ends.j1 : Nat → ByteArray → List ByteArray → List ByteArray → List Int → Int → Bool → Option (List Int)
  | 0, _, _, _, _, _, _ => none
  | k + 1, x1, x5, x6, x7, x8, x24 => if x24 = true then (if x7.length < 17592186044416 then ((some (x7 ++ [x8] : List Int)).bind fun y158 => ((seineref16_Fits.f k x6 x1 x8).bind fun t161 => (if (t161.size : Int) < x8 then (if 0 ≤ (wrap64 ((wrap64 (x8 - 1)) - (t161.size : Int))) then (if (wrap64 ((wrap64 (x8 - 1)) - (t161.size : Int))) < (x1.size : Int) then ((seineref15_Far.f k x5 x6 t161 (bt x1 (wrap64 ((wrap64 (x8 - 1)) - (t161.size : Int))))).bind fun t162 => (seineref16_Ends.l0 k x1 x5 x6 y158 (wrap64 (x8 + t162)))) else (none)) else (none)) else ((seineref15_Second.f k x5 t161).bind fun t163 => (seineref16_Ends.l0 k x1 x5 x6 y158 (wrap64 (x8 + t163))))))) else (none)) else (some x7)
end
def seineref16_Ends.f (k : Nat) (l0 : List ByteArray) (a1 : ByteArray) : Option (List Int) := (seineref14_Turned.f k l0).bind fun t151 => ((seineref06_Paths.f k t151).bind fun t154 => ((seineref14_Least.f k t151).bind fun t157 => (seineref16_Ends.l0 k a1 t151 t154 ([] : List Int) t157)))
theorem seineref16_Ends.mono_l : ∀ k, (∀ y0 y1 y2 y3 y4, LeO (seineref16_Ends.l0 k y0 y1 y2 y3 y4) (seineref16_Ends.l0 (k + 1) y0 y1 y2 y3 y4)) ∧ (∀ y0 y1 y2 y3 y4 y5, LeO (seineref16_Ends.j1 k y0 y1 y2 y3 y4 y5) (seineref16_Ends.j1 (k + 1) y0 y1 y2 y3 y4 y5))
  | 0 => ⟨fun _ _ _ _ _ r h => by simp [seineref16_Ends.l0] at h, fun _ _ _ _ _ _ r h => by simp [seineref16_Ends.j1] at h⟩
  | k + 1 => by
    obtain ⟨ih0, ih1⟩ := seineref16_Ends.mono_l k
    refine ⟨?_, ?_⟩
    · intro y0 y1 y2 y3 y4
      unfold seineref16_Ends.l0
      repeat' first
      | (with_reducible exact ih0 _ _ _ _ _)
      | (with_reducible exact ih1 _ _ _ _ _ _)
      | (with_reducible exact seineref06_Paths.mono _ _)
      | (with_reducible exact seineref14_Least.mono _ _)
      | (with_reducible exact seineref14_Turned.mono _ _)
      | (with_reducible exact seineref15_Far.mono _ _ _ _ _)
      | (with_reducible exact seineref15_Second.mono _ _ _)
      | (with_reducible exact seineref16_Fits.mono _ _ _ _)
      | (with_reducible exact LeO.refl _)
      | (with_reducible exact LeO.none _)
      | (with_reducible refine LeO.ite ?_ ?_)
      | (with_reducible refine LeO.bind ?_ (fun _ => ?_))
      | exact ih0 _ _ _ _ _
      | exact ih1 _ _ _ _ _ _
      | exact seineref06_Paths.mono _ _
      | exact seineref14_Least.mono _ _
      | exact seineref14_Turned.mono _ _
      | exact seineref15_Far.mono _ _ _ _ _
      | exact seineref15_Second.mono _ _ _
      | exact seineref16_Fits.mono _ _ _ _
      | exact LeO.none _
      | refine LeO.ite ?_ ?_
      | refine LeO.bind ?_ (fun _ => ?_)
    · intro y0 y1 y2 y3 y4 y5
      unfold seineref16_Ends.j1
      repeat' first
      | (with_reducible exact ih0 _ _ _ _ _)
      | (with_reducible exact ih1 _ _ _ _ _ _)
      | (with_reducible exact seineref06_Paths.mono _ _)
      | (with_reducible exact seineref14_Least.mono _ _)
      | (with_reducible exact seineref14_Turned.mono _ _)
      | (with_reducible exact seineref15_Far.mono _ _ _ _ _)
      | (with_reducible exact seineref15_Second.mono _ _ _)
      | (with_reducible exact seineref16_Fits.mono _ _ _ _)
      | (with_reducible exact LeO.refl _)
      | (with_reducible exact LeO.none _)
      | (with_reducible refine LeO.ite ?_ ?_)
      | (with_reducible refine LeO.bind ?_ (fun _ => ?_))
      | exact ih0 _ _ _ _ _
      | exact ih1 _ _ _ _ _ _
      | exact seineref06_Paths.mono _ _
      | exact seineref14_Least.mono _ _
      | exact seineref14_Turned.mono _ _
      | exact seineref15_Far.mono _ _ _ _ _
      | exact seineref15_Second.mono _ _ _
      | exact seineref16_Fits.mono _ _ _ _
      | exact LeO.none _
      | refine LeO.ite ?_ ?_
      | refine LeO.bind ?_ (fun _ => ?_)
theorem seineref16_Ends.mono : ∀ a0 a1 k, LeO (seineref16_Ends.f k a0 a1) (seineref16_Ends.f (k + 1) a0 a1) := by
  intro a0 a1 k
  obtain ⟨ih0, ih1⟩ := seineref16_Ends.mono_l k
  unfold seineref16_Ends.f
  repeat' first
      | (with_reducible exact ih0 _ _ _ _ _)
      | (with_reducible exact ih1 _ _ _ _ _ _)
      | (with_reducible exact seineref06_Paths.mono _ _)
      | (with_reducible exact seineref14_Least.mono _ _)
      | (with_reducible exact seineref14_Turned.mono _ _)
      | (with_reducible exact seineref15_Far.mono _ _ _ _ _)
      | (with_reducible exact seineref15_Second.mono _ _ _)
      | (with_reducible exact seineref16_Fits.mono _ _ _ _)
      | (with_reducible exact LeO.refl _)
      | (with_reducible exact LeO.none _)
      | (with_reducible refine LeO.ite ?_ ?_)
      | (with_reducible refine LeO.bind ?_ (fun _ => ?_))
      | exact ih0 _ _ _ _ _
      | exact ih1 _ _ _ _ _ _
      | exact seineref06_Paths.mono _ _
      | exact seineref14_Least.mono _ _
      | exact seineref14_Turned.mono _ _
      | exact seineref15_Far.mono _ _ _ _ _
      | exact seineref15_Second.mono _ _ _
      | exact seineref16_Fits.mono _ _ _ _
      | exact LeO.none _
      | refine LeO.ite ?_ ?_
      | refine LeO.bind ?_ (fun _ => ?_)
set_option maxHeartbeats 8000000 in
set_option maxRecDepth 100000 in
theorem seineref16_Ends.calls (k : Nat) (A0 : Option Addr) (c0 : Nat) (l0 : List ByteArray) (a1 : ByteArray) (r : List Int) (w : World) (hr0 : Kd.C Kd.string w A0 l0.length l0) (hc0 : l0.length ≤ c0) (h : seineref16_Ends.f k l0 a1 = some r) :
    Calls Try.prog 18 #[.slice A0 l0.length c0, .string a1] w fun e w' => ∃ v0_ : Value, e = .returned (v0_) ∧ Kd.R (Kd.int .i64) 3 w' w.heap.size (fun _ => True) v0_ r ∧ Below w.heap.size w w' := by
  have HR0 := Aside0.mk hr0
  have HC0 := Aside0.mk hc0
  clear hr0 hc0
  have HB := Aside0.mk (Below.refl w.heap.size w)
  have H : ((seineref14_Turned.f k l0).bind fun t151 => ((seineref06_Paths.f k t151).bind fun t154 => ((seineref14_Least.f k t151).bind fun t157 => (seineref16_Ends.l0 k a1 t151 t154 ([] : List Int) t157)))) = some r := h
  clear h
  replace H := Option.bind_eq_some_iff.mp H
  obtain ⟨t151, A30, H⟩ := H
  replace H : ((seineref06_Paths.f k t151).bind fun t154 => ((seineref14_Least.f k t151).bind fun t157 => (seineref16_Ends.l0 k a1 t151 t154 ([] : List Int) t157))) = some r := H
  have A3 := Aside0.mk A30
  clear A30
  replace H := Option.bind_eq_some_iff.mp H
  obtain ⟨t154, A40, H⟩ := H
  replace H : ((seineref14_Least.f k t151).bind fun t157 => (seineref16_Ends.l0 k a1 t151 t154 ([] : List Int) t157)) = some r := H
  have A4 := Aside0.mk A40
  clear A40
  replace H := Option.bind_eq_some_iff.mp H
  obtain ⟨t157, A50, H⟩ := H
  replace H : (seineref16_Ends.l0 k a1 t151 t154 ([] : List Int) t157) = some r := H
  have A5 := Aside0.mk A50
  clear A50
  have H' := Aside0.mk H
  clear H
  go_enter Try.func18, Try.ntmps18
  go_wp2_with (first | ((with_reducible refine gate_callee (f := 27) rfl ?_); refine goesL_ (some 11) rfl rfl Try.func27 (by kernel_rfl) rfl #[.slice A0 l0.length c0] rfl (by (try simp only [List.map_toArray, List.map_cons, List.map_nil]); first | done | rfl | (simp only [List.length_drop, List.length_take]; rfl)) ?_; (with_reducible refine (seineref14_Turned.calls k _ _ l0 t151 _ ?side1 ?side2 A3.out).mono ?_); (case side1 => repeat (first | exact HR0.out | (with_reducible refine Kd.C_alloc ?_ _) | (with_reducible refine Kd.C_drewN ?_ _) | (with_reducible refine Kd.C_drew ?_))); (case side2 => exact HC0.out); rintro e w6 ⟨v152, rfl, ho0, hb⟩; refine ⟨_, rfl, ?_⟩; have n0_ := Aside0.mk (Kd.R_lower ho0 (below_size (by repeat (first | (with_reducible first | exact HB.out | apply below_alloc | apply pw_below_drewN | apply below_drew1) | exact HB.out)))); have n1_ := Aside0.mk (below_step (by repeat (first | (with_reducible first | exact HB.out | apply below_alloc | apply pw_below_drewN | apply below_drew1) | exact HB.out)) hb); clear HB; have HO153 := n0_; have HB := n1_; clear n0_ n1_; (try clear hb); (try clear hb2); (try clear hk); (try clear hi); (try clear ho0); obtain ⟨Ao7, co7, eo7⟩ := Kd.R_slice HO153.out; subst eo7) | ((with_reducible refine gate_callee (f := 28) rfl ?_); refine goesL_ (some 13) rfl rfl Try.func28 (by kernel_rfl) rfl #[.slice Ao7 t151.length co7] rfl (by (try simp only [List.map_toArray, List.map_cons, List.map_nil]); first | done | rfl | (simp only [List.length_drop, List.length_take]; rfl)) ?_; (with_reducible refine (seineref06_Paths.calls k _ _ t151 t154 _ ?side1 ?side2 A4.out).mono ?_); (case side1 => repeat (first | exact (Kd.R_reads' HO153.out).2.2 | (with_reducible refine Kd.C_alloc ?_ _) | (with_reducible refine Kd.C_drewN ?_ _) | (with_reducible refine Kd.C_drew ?_))); (case side2 => exact (Kd.R_reads' HO153.out).2.1); rintro e w8 ⟨v155, rfl, ho0, hb⟩; refine ⟨_, rfl, ?_⟩; have n0_ := Aside0.mk (Kd.R_elder' (by (with_reducible repeat (first | apply Kd.R_alloc | apply Kd.R_drewN | apply Kd.R_drew)); exact HO153.out) (Kd.R_base ho0) hb); have n1_ := Aside0.mk (Kd.R_lower (Kd.R_new' ho0 (Kd.R_lt (by (with_reducible repeat (first | apply Kd.R_alloc | apply Kd.R_drewN | apply Kd.R_drew)); exact HO153.out))) (below_size (by repeat (first | (with_reducible first | exact HB.out | apply below_alloc | apply pw_below_drewN | apply below_drew1) | exact HB.out)))); have n2_ := Aside0.mk (below_step (by repeat (first | (with_reducible first | exact HB.out | apply below_alloc | apply pw_below_drewN | apply below_drew1) | exact HB.out)) hb); clear HO153; clear HB; have HO153 := n0_; have HO156 := n1_; have HB := n2_; clear n0_ n1_ n2_; (try clear hb); (try clear hb2); (try clear hk); (try clear hi); (try clear ho0)) | ((with_reducible refine gate_callee (f := 29) rfl ?_); refine goesL_ (some 15) rfl rfl Try.func29 (by kernel_rfl) rfl #[.slice Ao7 t151.length co7] rfl (by (try simp only [List.map_toArray, List.map_cons, List.map_nil]); first | done | rfl | (simp only [List.length_drop, List.length_take]; rfl)) ?_; (with_reducible refine (seineref14_Least.calls k _ _ t151 t157 _ ?side1 ?side2 A5.out).mono ?_); (case side1 => repeat (first | exact (Kd.R_reads' HO153.out).2.2 | (with_reducible refine Kd.C_alloc ?_ _) | (with_reducible refine Kd.C_drewN ?_ _) | (with_reducible refine Kd.C_drew ?_))); (case side2 => exact (Kd.R_reads' HO153.out).2.1); rintro e w' ⟨rfl, ⟨nd, rfl⟩⟩; refine ⟨_, rfl, ?_⟩))
  go_loopg [7, 8] k (fun kq v7 v8 w' => ∃ (x7_1 : List Int) (x8_1 : Int), v8 = .int .i64 x8_1 ∧ Aside0 (seineref16_Ends.l0 kq a1 t151 t154 x7_1 x8_1 = some r) ∧ Aside0 (kq ≤ k) ∧ Aside0 (Kd.R Kd.string 9 w' w.heap.size (fun k_ => some k_ ≠ (v155 : Value).ownBlock) (.slice Ao7 t151.length co7) t151) ∧ Aside0 (Kd.R Kd.string 9 w' w.heap.size (fun k_ => some k_ ≠ ((.slice Ao7 t151.length co7) : Value).ownBlock) v155 t154) ∧ Aside0 (Kd.R (Kd.int .i64) 3 w' w.heap.size (fun _ => True) v7 x7_1) ∧ Aside0 (Below w.heap.size w w'))
  case atStart => exact ⟨(([] : List Int)), (t157), (by first | rfl | (simp; done) | (simp [*]; done)), H', ⟨Nat.le_refl _⟩, ⟨by (with_reducible repeat (first | apply Kd.R_alloc | apply Kd.R_drewN | apply Kd.R_drew)); exact Kd.R_mono HO153.out (fun _ hk => hk.2)⟩, ⟨by (with_reducible repeat (first | apply Kd.R_alloc | apply Kd.R_drewN | apply Kd.R_drew)); exact Kd.R_mono HO156.out (fun _ hk => hk.2)⟩, ⟨by first | exact Kd.R_nil _ _ _ _ _ | exact Kd.N_nil _ _ _ _ _ | exact Kd.V_nil _ _ _ _ _ | exact Kd.Q_nil _ _ _ _ _ | exact Kd.S_nil _ _ _ _ _⟩, ⟨by repeat (first | (with_reducible first | exact HB.out | apply below_alloc | apply pw_below_drewN | apply below_drew1) | exact HB.out)⟩⟩
  case round =>
    clear H'
    try clear c1
    try clear c2
    try clear p2
    obtain ⟨x7_1, x8_1, rfl, HA, HK1, HO_5, HO_6, HO_7, HB⟩ := hrel
    cases gk with
    | zero => exact absurd HA.out (by simp [seineref16_Ends.l0])
    | succ k1 =>
      have H := HA.out
      clear HA
      simp only [seineref16_Ends.l0] at H
      have HC9 := Aside0.mk H
      clear H
      go_upto_region 5 with (fail)
      go_cut [24] (fun v24 wc => ∃ (kq : Nat) (x24_8 : Bool), v24 = .bool x24_8 ∧ Aside0 (seineref16_Ends.j1 kq a1 t151 t154 x7_1 x8_1 x24_8 = some r) ∧ Aside0 (kq ≤ k1) ∧ Aside0 (Kd.R Kd.string 9 wc w.heap.size (fun k_ => some k_ ≠ (v155 : Value).ownBlock) (.slice Ao7 t151.length co7) t151) ∧ Aside0 (Kd.R Kd.string 9 wc w.heap.size (fun k_ => some k_ ≠ ((.slice Ao7 t151.length co7) : Value).ownBlock) v155 t154) ∧ Aside0 (Kd.R (Kd.int .i64) 3 wc w.heap.size (fun _ => True) u7 x7_1) ∧ Aside0 (Below w.heap.size w wc))
      case first =>
        have H := HC9.out
        clear HC9
        by_cases c10 : (t151.length : Int) > 0
        · rw [if_pos c10] at H
          have c10b0 : decide (0 < (t151.length : Int)) = true := decide_eq_true c10
          have c10b1 : decide (0 < t151.length) = true := decide_eq_true (by omega)
          clear c10
          (first | rw [c10b0] | (simp only [i64_w, i32_w]; rw [c10b0]) | skip)
          have H' := Aside0.mk H
          clear H
          go_wp2
          go_meet
          case rel => exact ⟨_, (decide (x8_1 ≤ (a1.size : Int))), (by first | rfl | (simp; done) | (simp [*]; done)), H', ⟨by have := HK1.out; first | omega | exact Nat.le_refl _⟩, ⟨by (with_reducible repeat (first | apply Kd.R_alloc | apply Kd.R_drewN | apply Kd.R_drew)); exact HO_5.out⟩, ⟨by (with_reducible repeat (first | apply Kd.R_alloc | apply Kd.R_drewN | apply Kd.R_drew)); exact HO_6.out⟩, ⟨by (with_reducible repeat (first | apply Kd.R_alloc | apply Kd.R_drewN | apply Kd.R_drew)); exact HO_7.out⟩, ⟨by repeat (first | (with_reducible first | exact HB.out | apply below_alloc | apply pw_below_drewN | apply below_drew1) | exact HB.out)⟩⟩
        · rw [if_neg c10] at H
          have c10b0 : decide (0 < (t151.length : Int)) = false := decide_eq_false c10
          have c10b1 : decide (0 < t151.length) = false := decide_eq_false (by omega)
          clear c10
          (first | rw [c10b0] | (simp only [i64_w, i32_w]; rw [c10b0]) | skip)
          have H' := Aside0.mk H
          clear H
          go_wp2
          go_meet
          case rel => exact ⟨_, (false), (by first | rfl | (simp; done) | (simp [*]; done)), H', ⟨by have := HK1.out; first | omega | exact Nat.le_refl _⟩, ⟨by (with_reducible repeat (first | apply Kd.R_alloc | apply Kd.R_drewN | apply Kd.R_drew)); exact HO_5.out⟩, ⟨by (with_reducible repeat (first | apply Kd.R_alloc | apply Kd.R_drewN | apply Kd.R_drew)); exact HO_6.out⟩, ⟨by (with_reducible repeat (first | apply Kd.R_alloc | apply Kd.R_drewN | apply Kd.R_drew)); exact HO_7.out⟩, ⟨by repeat (first | (with_reducible first | exact HB.out | apply below_alloc | apply pw_below_drewN | apply below_drew1) | exact HB.out)⟩⟩
      case rest =>
        clear HC9
        try clear c1
        try clear c2
        try clear p2
        try clear c10
        try clear c10b0
        try clear c10b1
        try clear p2
        obtain ⟨kq, x24_8, rfl, HA, HJ8, HO_5, HO_6, HO_7, HB⟩ := hcut
        cases kq with
        | zero => exact absurd HA.out (by simp [seineref16_Ends.j1])
        | succ kj8 =>
          have H := HA.out
          clear HA
          simp only [seineref16_Ends.j1] at H
          by_cases c11 : x24_8 = true
          · subst c11
            have H1 : (if x7_1.length < 17592186044416 then ((some (x7_1 ++ [x8_1] : List Int)).bind fun y158 => ((seineref16_Fits.f kj8 t154 a1 x8_1).bind fun t161 => (if (t161.size : Int) < x8_1 then (if 0 ≤ (wrap64 ((wrap64 (x8_1 - 1)) - (t161.size : Int))) then (if (wrap64 ((wrap64 (x8_1 - 1)) - (t161.size : Int))) < (a1.size : Int) then ((seineref15_Far.f kj8 t151 t154 t161 (bt a1 (wrap64 ((wrap64 (x8_1 - 1)) - (t161.size : Int))))).bind fun t162 => (seineref16_Ends.l0 kj8 a1 t151 t154 y158 (wrap64 (x8_1 + t162)))) else (none)) else (none)) else ((seineref15_Second.f kj8 t151 t161).bind fun t163 => (seineref16_Ends.l0 kj8 a1 t151 t154 y158 (wrap64 (x8_1 + t163))))))) else (none)) = some r := by rw [if_pos rfl] at H; exact H
            clear H
            have H := H1
            clear H1
            by_cases c12 : x7_1.length < 17592186044416
            · rw [if_pos c12] at H
              have LMc12 := Aside0.mk c12
              clear c12
              obtain ⟨y158, hy158⟩ : ∃ y_ : List Int, y_ = (x7_1 ++ [x8_1]) := ⟨_, rfl⟩
              replace H : ((seineref16_Fits.f kj8 t154 a1 x8_1).bind fun t161 => (if (t161.size : Int) < x8_1 then (if 0 ≤ (wrap64 ((wrap64 (x8_1 - 1)) - (t161.size : Int))) then (if (wrap64 ((wrap64 (x8_1 - 1)) - (t161.size : Int))) < (a1.size : Int) then ((seineref15_Far.f kj8 t151 t154 t161 (bt a1 (wrap64 ((wrap64 (x8_1 - 1)) - (t161.size : Int))))).bind fun t162 => (seineref16_Ends.l0 kj8 a1 t151 t154 y158 (wrap64 (x8_1 + t162)))) else (none)) else (none)) else ((seineref15_Second.f kj8 t151 t161).bind fun t163 => (seineref16_Ends.l0 kj8 a1 t151 t154 y158 (wrap64 (x8_1 + t163)))))) = some r := by first | (rw [hy158]; with_reducible exact H) | (have H2_ := (Option.bind_some _ _).symm.trans H; rw [hy158]; with_reducible exact H2_) | (have H2_ := (Option.bind_some _ _).symm.trans H; with_reducible exact H2_) | with_reducible exact H | (rw [hy158]; exact H) | exact H
              have Ny158 := Aside0.mk hy158
              clear hy158
              replace H := Option.bind_eq_some_iff.mp H
              obtain ⟨t161, A130, H⟩ := H
              replace H : (if (t161.size : Int) < x8_1 then (if 0 ≤ (wrap64 ((wrap64 (x8_1 - 1)) - (t161.size : Int))) then (if (wrap64 ((wrap64 (x8_1 - 1)) - (t161.size : Int))) < (a1.size : Int) then ((seineref15_Far.f kj8 t151 t154 t161 (bt a1 (wrap64 ((wrap64 (x8_1 - 1)) - (t161.size : Int))))).bind fun t162 => (seineref16_Ends.l0 kj8 a1 t151 t154 y158 (wrap64 (x8_1 + t162)))) else (none)) else (none)) else ((seineref15_Second.f kj8 t151 t161).bind fun t163 => (seineref16_Ends.l0 kj8 a1 t151 t154 y158 (wrap64 (x8_1 + t163))))) = some r := H
              have A13 := Aside0.mk A130
              clear A130
              by_cases c14 : (t161.size : Int) < x8_1
              · rw [if_pos c14] at H
                have c14b0 : decide ((t161.size : Int) < x8_1) = true := decide_eq_true c14
                clear c14
                obtain ⟨ji15, hji15⟩ : ∃ j_ : Int, (wrap64 ((wrap64 (x8_1 - 1)) - (t161.size : Int))) = j_ := ⟨_, rfl⟩
                replace H : (if 0 ≤ (ji15) then (if (ji15) < (a1.size : Int) then ((seineref15_Far.f kj8 t151 t154 t161 (bt a1 (ji15))).bind fun t162 => (seineref16_Ends.l0 kj8 a1 t151 t154 y158 (wrap64 (x8_1 + t162)))) else (none)) else (none)) = some r := by first | (rw [hji15] at H; exact H) | (simp only [hji15] at H ⊢; exact H)
                (try rw [hji15] at A13)
                have hji15w : (IntKind.i64.wrap ((wrap64 (x8_1 - 1)) - (t161.size : Int))) = ji15 := (i64_w _).trans hji15
                by_cases c16 : 0 ≤ (ji15)
                · rw [if_pos c16] at H
                  have c16b0 : decide (0 ≤ (ji15)) = true := decide_eq_true c16
                  clear c16
                  by_cases c17 : (ji15) < (a1.size : Int)
                  · rw [if_pos c17] at H
                    have c17b0 : decide ((ji15) < (a1.size : Int)) = true := decide_eq_true c17
                    clear c17
                    replace H := Option.bind_eq_some_iff.mp H
                    obtain ⟨t162, A190, H⟩ := H
                    replace H : (seineref16_Ends.l0 kj8 a1 t151 t154 y158 (wrap64 (x8_1 + t162))) = some r := H
                    have A19 := Aside0.mk A190
                    clear A190
                    have H' := Aside0.mk H
                    clear H
                    go_wp2_with (first | ((with_reducible refine gate_builtin (b := .append) (xs := #[.tmp 25, .tmp 27]) rfl ?_); (try (refine gate_guard (by rfl) ?_; dsimp only)); at_builtin; refine Kd.R_append (Kd.int .i64) (w0 := w) w.heap.size rfl (.tmp 25) (.tmp 27) 37 3 (.int .i64 0) 8 rfl Try.underlying37 info3 rfl (by decide) (by omega) u7 x7_1 x8_1 [.int .i64 x8_1] (fun _ => True) (fun _ => False) rfl rfl ?aP (fun _ hk => hk.elim) ?aF ?aO ?aB ?aS ?aL ?_; (case aP => exact rfl); (case aB => exact (by repeat (first | (with_reducible first | exact HB.out | apply below_alloc | apply pw_below_drewN | apply below_drew1) | exact HB.out))); (case aF => exact (fun _ _ => trivial)); (case aO => exact (by (with_reducible repeat (first | apply Kd.R_alloc | apply Kd.R_drewN | apply Kd.R_drew)); exact HO_7.out)); (case aS => exact (below_size (by repeat (first | (with_reducible first | exact HB.out | apply below_alloc | apply pw_below_drewN | apply below_drew1) | exact HB.out)))); (case aL => have := LMc12.out; omega); intro v159 w20 ho hb hg hat; rw [← Ny158.out] at ho; have n0_ := Aside0.mk (Kd.R_over' (by (with_reducible repeat (first | apply Kd.R_alloc | apply Kd.R_drewN | apply Kd.R_drew)); exact HO_5.out) (Kd.R_typed (by (with_reducible repeat (first | apply Kd.R_alloc | apply Kd.R_drewN | apply Kd.R_drew)); exact HO_7.out)) (by decide) hg); have n1_ := Aside0.mk (Kd.R_over' (by (with_reducible repeat (first | apply Kd.R_alloc | apply Kd.R_drewN | apply Kd.R_drew)); exact HO_6.out) (Kd.R_typed (by (with_reducible repeat (first | apply Kd.R_alloc | apply Kd.R_drewN | apply Kd.R_drew)); exact HO_7.out)) (by decide) hg); have n2_ := Aside0.mk (hb); have n3_ := Aside0.mk (ho); clear HO_5; clear HO_6; clear HB; clear HO_7; have HO_5 := n0_; have HO_6 := n1_; have HB := n2_; have HO160 := n3_; clear n0_ n1_ n2_ n3_; clear ho hb hg hat; obtain ⟨Ao21, co21, eo21⟩ := Kd.R_slice HO_6.out; subst eo21) | ((with_reducible refine gate_callee (f := 30) rfl ?_); refine goesL_ (some 32) rfl rfl Try.func30 (by kernel_rfl) rfl #[.slice Ao21 t154.length co21, .string a1, .int .i64 x8_1] rfl (by (try simp only [List.map_toArray, List.map_cons, List.map_nil]); first | done | rfl | (simp only [List.length_drop, List.length_take]; rfl)) ?_; (with_reducible refine (seineref16_Fits.calls kj8 _ _ t154 a1 x8_1 t161 _ ?side1 ?side2 A13.out).mono ?_); (case side1 => repeat (first | exact (Kd.R_reads' HO_6.out).2.2 | (with_reducible refine Kd.C_alloc ?_ _) | (with_reducible refine Kd.C_drewN ?_ _) | (with_reducible refine Kd.C_drew ?_))); (case side2 => exact (Kd.R_reads' HO_6.out).2.1); rintro e w' ⟨rfl, ⟨nd, rfl⟩⟩; refine ⟨_, rfl, ?_⟩; have p18 : 0 ≤ ((ji15) : Int) := of_decide_eq_true (by first | (with_reducible assumption) | assumption); have q18 : (ji15) < (a1.size : Int) := of_decide_eq_true (by first | (with_reducible assumption) | assumption); have hx18 := bt_at a1 (ji15); replace p18 := eq_true p18; replace q18 := eq_true q18) | ((with_reducible refine gate_callee (f := 31) rfl ?_); refine goesL_ (some 48) rfl rfl Try.func31 (by kernel_rfl) rfl #[.slice Ao7 t151.length co7, .slice Ao21 t154.length co21, .string t161, .int .u8 (bt a1 (ji15))] rfl (by (try simp only [List.map_toArray, List.map_cons, List.map_nil]); first | done | (simp only [hji15]; rfl) | rfl | (simp only [List.length_drop, List.length_take]; rfl)) ?_; (with_reducible refine (seineref15_Far.calls kj8 _ _ t151 _ _ t154 t161 (bt a1 (ji15)) t162 _ ?side1 ?side2 ?side3 ?side4 A19.out).mono ?_); (case side1 => repeat (first | exact (Kd.R_reads' HO_5.out).2.2 | (with_reducible refine Kd.C_alloc ?_ _) | (with_reducible refine Kd.C_drewN ?_ _) | (with_reducible refine Kd.C_drew ?_))); (case side2 => exact (Kd.R_reads' HO_5.out).2.1); (case side3 => repeat (first | exact (Kd.R_reads' HO_6.out).2.2 | (with_reducible refine Kd.C_alloc ?_ _) | (with_reducible refine Kd.C_drewN ?_ _) | (with_reducible refine Kd.C_drew ?_))); (case side4 => exact (Kd.R_reads' HO_6.out).2.1); rintro e w' ⟨rfl, ⟨nd, rfl⟩⟩; refine ⟨_, rfl, ?_⟩))
                    go_roundg kj8
                    case measure => have := HK1.out; have := HJ8.out; omega
                    case rel => exact ⟨(y158), (wrap64 (x8_1 + t162)), (by first | rfl | (simp; done) | (simp [*]; done)), H', ⟨by have := HK1.out; have := HJ8.out; omega⟩, ⟨by (with_reducible repeat (first | apply Kd.R_alloc | apply Kd.R_drewN | apply Kd.R_drew)); exact HO_5.out⟩, ⟨by (with_reducible repeat (first | apply Kd.R_alloc | apply Kd.R_drewN | apply Kd.R_drew)); exact HO_6.out⟩, ⟨by (with_reducible repeat (first | apply Kd.R_alloc | apply Kd.R_drewN | apply Kd.R_drew)); exact HO160.out⟩, ⟨by repeat (first | (with_reducible first | exact HB.out | apply below_alloc | apply pw_below_drewN | apply below_drew1) | exact HB.out)⟩⟩
                  · rw [if_neg c17] at H
                    exact absurd H (by simp)
                · rw [if_neg c16] at H
                  exact absurd H (by simp)
              · rw [if_neg c14] at H
                have c14b0 : decide ((t161.size : Int) < x8_1) = false := decide_eq_false c14
                clear c14
                replace H := Option.bind_eq_some_iff.mp H
                obtain ⟨t163, A220, H⟩ := H
                replace H : (seineref16_Ends.l0 kj8 a1 t151 t154 y158 (wrap64 (x8_1 + t163))) = some r := H
                have A22 := Aside0.mk A220
                clear A220
                have H' := Aside0.mk H
                clear H
                go_wp2_with (first | ((with_reducible refine gate_builtin (b := .append) (xs := #[.tmp 25, .tmp 27]) rfl ?_); (try (refine gate_guard (by rfl) ?_; dsimp only)); at_builtin; refine Kd.R_append (Kd.int .i64) (w0 := w) w.heap.size rfl (.tmp 25) (.tmp 27) 37 3 (.int .i64 0) 8 rfl Try.underlying37 info3 rfl (by decide) (by omega) u7 x7_1 x8_1 [.int .i64 x8_1] (fun _ => True) (fun _ => False) rfl rfl ?aP (fun _ hk => hk.elim) ?aF ?aO ?aB ?aS ?aL ?_; (case aP => exact rfl); (case aB => exact (by repeat (first | (with_reducible first | exact HB.out | apply below_alloc | apply pw_below_drewN | apply below_drew1) | exact HB.out))); (case aF => exact (fun _ _ => trivial)); (case aO => exact (by (with_reducible repeat (first | apply Kd.R_alloc | apply Kd.R_drewN | apply Kd.R_drew)); exact HO_7.out)); (case aS => exact (below_size (by repeat (first | (with_reducible first | exact HB.out | apply below_alloc | apply pw_below_drewN | apply below_drew1) | exact HB.out)))); (case aL => have := LMc12.out; omega); intro v159 w23 ho hb hg hat; rw [← Ny158.out] at ho; have n0_ := Aside0.mk (Kd.R_over' (by (with_reducible repeat (first | apply Kd.R_alloc | apply Kd.R_drewN | apply Kd.R_drew)); exact HO_5.out) (Kd.R_typed (by (with_reducible repeat (first | apply Kd.R_alloc | apply Kd.R_drewN | apply Kd.R_drew)); exact HO_7.out)) (by decide) hg); have n1_ := Aside0.mk (Kd.R_over' (by (with_reducible repeat (first | apply Kd.R_alloc | apply Kd.R_drewN | apply Kd.R_drew)); exact HO_6.out) (Kd.R_typed (by (with_reducible repeat (first | apply Kd.R_alloc | apply Kd.R_drewN | apply Kd.R_drew)); exact HO_7.out)) (by decide) hg); have n2_ := Aside0.mk (hb); have n3_ := Aside0.mk (ho); clear HO_5; clear HO_6; clear HB; clear HO_7; have HO_5 := n0_; have HO_6 := n1_; have HB := n2_; have HO160 := n3_; clear n0_ n1_ n2_ n3_; clear ho hb hg hat; obtain ⟨Ao24, co24, eo24⟩ := Kd.R_slice HO_6.out; subst eo24) | ((with_reducible refine gate_callee (f := 30) rfl ?_); refine goesL_ (some 32) rfl rfl Try.func30 (by kernel_rfl) rfl #[.slice Ao24 t154.length co24, .string a1, .int .i64 x8_1] rfl (by (try simp only [List.map_toArray, List.map_cons, List.map_nil]); first | done | rfl | (simp only [List.length_drop, List.length_take]; rfl)) ?_; (with_reducible refine (seineref16_Fits.calls kj8 _ _ t154 a1 x8_1 t161 _ ?side1 ?side2 A13.out).mono ?_); (case side1 => repeat (first | exact (Kd.R_reads' HO_6.out).2.2 | (with_reducible refine Kd.C_alloc ?_ _) | (with_reducible refine Kd.C_drewN ?_ _) | (with_reducible refine Kd.C_drew ?_))); (case side2 => exact (Kd.R_reads' HO_6.out).2.1); rintro e w' ⟨rfl, ⟨nd, rfl⟩⟩; refine ⟨_, rfl, ?_⟩) | ((with_reducible refine gate_callee (f := 32) rfl ?_); refine goesL_ (some 53) rfl rfl Try.func32 (by kernel_rfl) rfl #[.slice Ao7 t151.length co7, .string t161] rfl (by (try simp only [List.map_toArray, List.map_cons, List.map_nil]); first | done | rfl | (simp only [List.length_drop, List.length_take]; rfl)) ?_; (with_reducible refine (seineref15_Second.calls kj8 _ _ t151 t161 t163 _ ?side1 ?side2 A22.out).mono ?_); (case side1 => repeat (first | exact (Kd.R_reads' HO_5.out).2.2 | (with_reducible refine Kd.C_alloc ?_ _) | (with_reducible refine Kd.C_drewN ?_ _) | (with_reducible refine Kd.C_drew ?_))); (case side2 => exact (Kd.R_reads' HO_5.out).2.1); rintro e w' ⟨rfl, ⟨nd, rfl⟩⟩; refine ⟨_, rfl, ?_⟩))
                go_roundg kj8
                case measure => have := HK1.out; have := HJ8.out; omega
                case rel => exact ⟨(y158), (wrap64 (x8_1 + t163)), (by first | rfl | (simp; done) | (simp [*]; done)), H', ⟨by have := HK1.out; have := HJ8.out; omega⟩, ⟨by (with_reducible repeat (first | apply Kd.R_alloc | apply Kd.R_drewN | apply Kd.R_drew)); exact HO_5.out⟩, ⟨by (with_reducible repeat (first | apply Kd.R_alloc | apply Kd.R_drewN | apply Kd.R_drew)); exact HO_6.out⟩, ⟨by (with_reducible repeat (first | apply Kd.R_alloc | apply Kd.R_drewN | apply Kd.R_drew)); exact HO160.out⟩, ⟨by repeat (first | (with_reducible first | exact HB.out | apply below_alloc | apply pw_below_drewN | apply below_drew1) | exact HB.out)⟩⟩
            · rw [if_neg c12] at H
              exact absurd H (by simp)
          · replace c11 := Bool.eq_false_iff.mpr c11
            subst c11
            have H1 : (some x7_1) = some r := by rw [if_neg (show ¬ (false = true) by decide)] at H; exact H
            clear H
            have H := H1
            clear H1
            obtain rfl := Option.some.inj H
            go_wp2
            go_ret
            exact ⟨_, by first | rfl | (simp [errW_none, errW_some] <;> rfl) | (simp [*, errW_none, errW_some] <;> rfl), by (with_reducible repeat (first | apply Kd.R_alloc | apply Kd.R_drewN | apply Kd.R_drew)); exact HO_7.out, by repeat (first | (with_reducible first | exact HB.out | apply below_alloc | apply pw_below_drewN | apply below_drew1) | exact HB.out)⟩

/-! ### seinelaw16_texts: function 10 -/
def seinelaw16_texts.l0 : Nat → List (List Int) → List ByteArray → Int → Option (List ByteArray × Bool)
  | 0, _, _, _ => none
  | k + 1, x0, x4, x5 => if x5 < (x0.length : Int) then (if 0 ≤ x5 then (if ((rd_L4 x0 x5).length : Int) > 40 then (some (([] : List ByteArray), false)) else (if x4.length < 8796093022208 then (seinelaw16_texts.l0 k x0 (x4 ++ [strOfNums (rd_L4 x0 x5)]) (wrap64 (x5 + 1))) else (none))) else (none)) else (some (x4, decide ((x0.length : Int) ≤ 12)))
def seinelaw16_texts.f (k : Nat) (l0 : List (List Int)) : Option (List ByteArray × Bool) := seinelaw16_texts.l0 k l0 ([] : List ByteArray) 0
theorem seinelaw16_texts.mono_l : ∀ k, (∀ y0 y1 y2, LeO (seinelaw16_texts.l0 k y0 y1 y2) (seinelaw16_texts.l0 (k + 1) y0 y1 y2))
  | 0 => fun _ _ _ r h => by simp [seinelaw16_texts.l0] at h
  | k + 1 => by
    have ih0 := seinelaw16_texts.mono_l k
    · intro y0 y1 y2
      unfold seinelaw16_texts.l0
      repeat' first
      | (with_reducible exact ih0 _ _ _)
      | (with_reducible exact LeO.refl _)
      | (with_reducible exact LeO.none _)
      | (with_reducible refine LeO.ite ?_ ?_)
      | (with_reducible refine LeO.bind ?_ (fun _ => ?_))
      | exact ih0 _ _ _
      | exact LeO.none _
      | refine LeO.ite ?_ ?_
      | refine LeO.bind ?_ (fun _ => ?_)
theorem seinelaw16_texts.mono : ∀ a0 k, LeO (seinelaw16_texts.f k a0) (seinelaw16_texts.f (k + 1) a0) := by
  intro a0 k
  have ih0 := seinelaw16_texts.mono_l k
  unfold seinelaw16_texts.f
  repeat' first
      | (with_reducible exact ih0 _ _ _)
      | (with_reducible exact LeO.refl _)
      | (with_reducible exact LeO.none _)
      | (with_reducible refine LeO.ite ?_ ?_)
      | (with_reducible refine LeO.bind ?_ (fun _ => ?_))
      | exact ih0 _ _ _
      | exact LeO.none _
      | refine LeO.ite ?_ ?_
      | refine LeO.bind ?_ (fun _ => ?_)
set_option maxHeartbeats 8000000 in
set_option maxRecDepth 100000 in
theorem seinelaw16_texts.calls (k : Nat) (A0 : Option Addr) (c0 : Nat) (l0 : List (List Int)) (r1 : List ByteArray) (r2 : Bool) (w : World) (hr0 : Kd.C (Kd.slice 5 (Kd.int .u8)) w A0 l0.length l0) (hc0 : l0.length ≤ c0) (h : seinelaw16_texts.f k l0 = some (r1, r2)) :
    Calls Try.prog 10 #[.slice A0 l0.length c0] w fun e w' => ∃ v0_ : Value, e = .returned (.tuple #[v0_, .bool r2]) ∧ Kd.R Kd.string 9 w' w.heap.size (fun _ => True) v0_ r1 ∧ Below w.heap.size w w' := by
  have HR0 := Aside0.mk hr0
  have HC0 := Aside0.mk hc0
  clear hr0 hc0
  have HB := Aside0.mk (Below.refl w.heap.size w)
  have H : (seinelaw16_texts.l0 k l0 ([] : List ByteArray) 0) = some (r1, r2) := h
  clear h
  have H' := Aside0.mk H
  clear H
  go_enter Try.func10, Try.ntmps10
  go_wp2
  go_loopg [4, 5] k (fun kq v4 v5 w' => ∃ (x4_1 : List ByteArray) (x5_1 : Int), v5 = .int .i64 x5_1 ∧ Aside0 (seinelaw16_texts.l0 kq l0 x4_1 x5_1 = some (r1, r2)) ∧ Aside0 (kq ≤ k) ∧ Aside0 (Kd.R Kd.string 9 w' w.heap.size (fun _ => True) v4 x4_1) ∧ Aside0 (Below w.heap.size w w'))
  case atStart => exact ⟨(([] : List ByteArray)), (0), (by first | rfl | (simp; done) | (simp [*]; done)), H', ⟨Nat.le_refl _⟩, ⟨by first | exact Kd.R_nil _ _ _ _ _ | exact Kd.N_nil _ _ _ _ _ | exact Kd.V_nil _ _ _ _ _ | exact Kd.Q_nil _ _ _ _ _ | exact Kd.S_nil _ _ _ _ _⟩, ⟨by repeat (first | (with_reducible first | exact HB.out | apply below_alloc | apply pw_below_drewN | apply below_drew1) | exact HB.out)⟩⟩
  case round =>
    clear H'
    try clear c1
    obtain ⟨x4_1, x5_1, rfl, HA, HK1, HO_4, HB⟩ := hrel
    cases gk with
    | zero => exact absurd HA.out (by simp [seinelaw16_texts.l0])
    | succ k1 =>
      have H := HA.out
      clear HA
      simp only [seinelaw16_texts.l0] at H
      by_cases c2 : x5_1 < (l0.length : Int)
      · rw [if_pos c2] at H
        have c2b0 : decide (x5_1 < (l0.length : Int)) = true := decide_eq_true c2
        clear c2
        by_cases c3 : 0 ≤ x5_1
        · rw [if_pos c3] at H
          have c3b0 : decide (0 ≤ x5_1) = true := decide_eq_true c3
          clear c3
          by_cases c4 : ((rd_L4 l0 x5_1).length : Int) > 40
          · rw [if_pos c4] at H
            have c4b0 : decide (40 < ((rd_L4 l0 x5_1).length : Int)) = true := decide_eq_true c4
            have c4b1 : decide (40 < (rd_L4 l0 x5_1).length) = true := decide_eq_true (by omega)
            clear c4
            simp only [Option.some.injEq, Prod.mk.injEq] at H
            obtain ⟨rfl, rfl⟩ := H
            have p164 : 0 ≤ (x5_1 : Int) := of_decide_eq_true (by first | (with_reducible assumption) | assumption)
            have q164 : x5_1 < (l0.length : Int) := of_decide_eq_true (by first | (with_reducible assumption) | assumption)
            obtain ⟨ad164, A164_0, c164_0, e164, hx164_0, hl164_0, hi164_0⟩ := at_L4 HR0.out x5_1 p164 q164
            cases e164
            replace hx164_0 := (HB.out.cell (World.block_lt_of_cell? w _ hx164_0)).trans hx164_0
            have HR164_0 := Aside0.mk hi164_0
            have HC164_0 := Aside0.mk hl164_0
            clear hi164_0 hl164_0
            replace p164 := eq_true p164
            replace q164 := eq_true q164
            go_wp2
            go_ret2
            exact ⟨_, by first | rfl | (simp [errW_none, errW_some] <;> rfl) | (simp [*, errW_none, errW_some] <;> rfl), by first | exact Kd.R_nil _ _ _ _ _ | exact Kd.N_nil _ _ _ _ _ | exact Kd.V_nil _ _ _ _ _ | exact Kd.Q_nil _ _ _ _ _ | exact Kd.S_nil _ _ _ _ _, by repeat (first | (with_reducible first | exact HB.out | apply below_alloc | apply pw_below_drewN | apply below_drew1) | exact HB.out)⟩
          · rw [if_neg c4] at H
            have c4b0 : decide (40 < ((rd_L4 l0 x5_1).length : Int)) = false := decide_eq_false c4
            have c4b1 : decide (40 < (rd_L4 l0 x5_1).length) = false := decide_eq_false (by omega)
            clear c4
            by_cases c5 : x4_1.length < 8796093022208
            · rw [if_pos c5] at H
              have LMc5 := Aside0.mk c5
              clear c5
              obtain ⟨y166, hy166⟩ : ∃ y_ : List ByteArray, y_ = (x4_1 ++ [strOfNums (rd_L4 l0 x5_1)]) := ⟨_, rfl⟩
              replace H : (seinelaw16_texts.l0 k1 l0 y166 (wrap64 (x5_1 + 1))) = some (r1, r2) := by first | (rw [hy166]; with_reducible exact H) | (have H2_ := (Option.bind_some _ _).symm.trans H; rw [hy166]; with_reducible exact H2_) | (have H2_ := (Option.bind_some _ _).symm.trans H; with_reducible exact H2_) | with_reducible exact H | (rw [hy166]; exact H) | exact H
              have Ny166 := Aside0.mk hy166
              clear hy166
              have H' := Aside0.mk H
              clear H
              have p164 : 0 ≤ (x5_1 : Int) := of_decide_eq_true (by first | (with_reducible assumption) | assumption)
              have q164 : x5_1 < (l0.length : Int) := of_decide_eq_true (by first | (with_reducible assumption) | assumption)
              obtain ⟨ad164, A164_0, c164_0, e164, hx164_0, hl164_0, hi164_0⟩ := at_L4 HR0.out x5_1 p164 q164
              cases e164
              replace hx164_0 := (HB.out.cell (World.block_lt_of_cell? w _ hx164_0)).trans hx164_0
              have HR164_0 := Aside0.mk hi164_0
              have HC164_0 := Aside0.mk hl164_0
              clear hi164_0 hl164_0
              replace p164 := eq_true p164
              replace q164 := eq_true q164
              have p165 : 0 ≤ (x5_1 : Int) := of_decide_eq_true (by first | (with_reducible assumption) | assumption)
              have q165 : x5_1 < (l0.length : Int) := of_decide_eq_true (by first | (with_reducible assumption) | assumption)
              obtain ⟨ad165, A165_0, c165_0, e165, hx165_0, hl165_0, hi165_0⟩ := at_L4 HR0.out x5_1 p165 q165
              obtain rfl : ad164 = ad165 := (by injection e165)
              replace hx165_0 := (HB.out.cell (World.block_lt_of_cell? w _ hx165_0)).trans hx165_0
              have HR165_0 := Aside0.mk hi165_0
              have HC165_0 := Aside0.mk hl165_0
              clear hi165_0 hl165_0
              replace p165 := eq_true p165
              replace q165 := eq_true q165
              have ea_ := Option.some.inj (hx164_0.symm.trans hx165_0)
              injection ea_ with ea_ en_ ec_
              subst ea_
              subst ec_
              clear en_
              have hcv6 := Kd.C_string (P := Try.prog) (A := A164_0) (c := c164_0) Try.underlying23 Try.underlying5 Try.underlying9 (Kd.C_below HR165_0.out HB.out)
              go_wp2_with (first | ((with_reducible refine gate_builtin (b := .append) (xs := #[.tmp 18, .tmp 24]) rfl ?_); at_builtin; refine Kd.R_append Kd.string (w0 := w) w.heap.size rfl (.tmp 18) (.tmp 24) 25 9 (.string ⟨#[]⟩) 16 rfl Try.underlying25 info9 rfl (by decide) (by omega) u4 x4_1 (strOfNums (rd_L4 l0 x5_1)) [.string (strOfNums (rd_L4 l0 x5_1))] (fun _ => True) (fun _ => False) rfl rfl ?aP (fun _ hk => hk.elim) ?aF ?aO ?aB ?aS ?aL ?_; (case aP => exact rfl); (case aB => exact (by repeat (first | (with_reducible first | exact HB.out | apply below_alloc | apply pw_below_drewN | apply below_drew1) | exact HB.out))); (case aF => exact (fun _ _ => trivial)); (case aO => exact (by (with_reducible repeat (first | apply Kd.R_alloc | apply Kd.R_drewN | apply Kd.R_drew)); exact HO_4.out)); (case aS => exact (below_size (by repeat (first | (with_reducible first | exact HB.out | apply below_alloc | apply pw_below_drewN | apply below_drew1) | exact HB.out)))); (case aL => have := LMc5.out; omega); intro v167 w7 ho hb hg hat; rw [← Ny166.out] at ho; have n0_ := Aside0.mk (hb); have n1_ := Aside0.mk (ho); clear HB; clear HO_4; have HB := n0_; have HO168 := n1_; clear n0_ n1_; clear ho hb hg hat))
              go_roundg k1
              case measure => have := HK1.out; omega
              case rel => exact ⟨(y166), (wrap64 (x5_1 + 1)), (by first | rfl | (simp; done) | (simp [*]; done)), H', ⟨by have := HK1.out; omega⟩, ⟨by (with_reducible repeat (first | apply Kd.R_alloc | apply Kd.R_drewN | apply Kd.R_drew)); exact HO168.out⟩, ⟨by repeat (first | (with_reducible first | exact HB.out | apply below_alloc | apply pw_below_drewN | apply below_drew1) | exact HB.out)⟩⟩
            · rw [if_neg c5] at H
              exact absurd H (by simp)
        · rw [if_neg c3] at H
          exact absurd H (by simp)
      · rw [if_neg c2] at H
        have c2b0 : decide (x5_1 < (l0.length : Int)) = false := decide_eq_false c2
        clear c2
        simp only [Option.some.injEq, Prod.mk.injEq] at H
        obtain ⟨rfl, rfl⟩ := H
        go_wp2
        go_ret2
        exact ⟨_, by first | rfl | (simp [errW_none, errW_some] <;> rfl) | (simp [*, errW_none, errW_some] <;> rfl), by (with_reducible repeat (first | apply Kd.R_alloc | apply Kd.R_drewN | apply Kd.R_drew)); exact HO_4.out, by repeat (first | (with_reducible first | exact HB.out | apply below_alloc | apply pw_below_drewN | apply below_drew1) | exact HB.out)⟩

/-! ### seinelaw16_few: function 11 -/
def seinelaw16_few.f (l0 : List Int) : Option (Bool) := some (decide ((l0.length : Int) ≤ 120))
set_option maxHeartbeats 8000000 in
set_option maxRecDepth 100000 in
theorem seinelaw16_few.calls (A0 : Option Addr) (c0 : Nat) (l0 : List Int) (r : Bool) (w : World) (hr0 : Kd.C (Kd.int .u8) w A0 l0.length l0) (hc0 : l0.length ≤ c0) (h : seinelaw16_few.f l0 = some r) :
    Calls Try.prog 11 #[.slice A0 l0.length c0] w fun e w' => e = .returned (.bool r) ∧ Drawn0 w w' := by
  have HR0 := Aside0.mk hr0
  have HC0 := Aside0.mk hc0
  clear hr0 hc0
  have H : (some (decide ((l0.length : Int) ≤ 120))) = some r := h
  clear h
  obtain rfl := Option.some.inj H
  go_enter Try.func11, Try.ntmps11
  go_wp2
  go_ret
  exact ⟨by first | rfl | (simp; done) | (simp [*]; done), by repeat (first | exact Drawn0.refl _ | apply Drawn0.step)⟩

/-- THE ONE PURE STATEMENT of seinelaw16_few: yours. -/
def seinelaw16_few.Pure : Prop := ∀ (l0 : List Int), l0.length ≤ maxLen → l0.length * 1 ≤ 140737488351232 → (∀ x ∈ l0, (Lit.int .u8 x).wf = true) → seinelaw16_few.f l0 = some true
theorem seinelaw16_few.walk (P : seinelaw16_few.Pure) (a0 : Option Addr) (len0 cap0 : Nat) (z0 : List Int) (w : World) (w0 : (a0 = none ∧ len0 = 0 ∧ cap0 = 0 ∧ z0 = []) ∨ ∃ x, a0 = some x ∧ len0 ≤ cap0 ∧ cap0 ≤ maxLen ∧ z0.length = cap0 ∧ (∀ i, i < z0.length → w.cell? (x.add i) = some (.int .u8 (z0.getD i 0))) ∧ ∀ n ∈ z0, (Lit.int .u8 n).wf = true) (y0 : len0 * 1 ≤ 140737488351232) :
    Calls Try.prog 11 #[.slice a0 len0 cap0] w fun e w' => e = .returned (.bool true) ∧ Below w.heap.size w w' := by
  obtain ⟨l0, rfl, hr0, hm0, hw0, hc0⟩ := ReadsInt.ofRowC w0
  have h := P l0 hm0 y0 hw0
  refine (seinelaw16_few.calls _ _ l0 true w (Kd.C_of_reads (d := (0 : Int)) (h1 := fun _ => rfl) hr0) hc0 h).mono ?_
  rintro e w' ⟨rfl, hd⟩
  exact ⟨rfl, hd.below⟩

end Go.Proofs.Ytbklkemfcdkihaa.Ref
