/- Joined texts: Refx5, Refx6, Refx. -/
import Derived.Test.YtdiljmhikajjiaaGreatV1
import Derived.Test.YtdiljmhikajjiaaGreatV2
import Derived.Test.YtdiljmhikajjiaaGreatV3
import Derived.Test.YtdiljmhikajjiaaGreatV4
set_option linter.unusedVariables false
set_option linter.unusedSimpArgs false
section
namespace Go.Proofs.YtdiljmhikajjiaaGreat.Ref
open Go.RowKit Go.Proofs.YtdiljmhikajjiaaGreatW.PrintWords Go.Proofs.YtdiljmhikajjiaaGreatW.PrintLast Go.Proofs.YtdiljmhikajjiaaGreatW.PrintMore
attribute [local go_sem] max2_int min2_int max_two min_two max_three min_three max_four min_four   -- for this text's walks alone
mutual
def seineref08_Step.l0 : Nat → List ByteArray → ByteArray → Int → Int → Option (ByteArray × Int)
  | 0, _, _, _, _ => none
  | k + 1, x0, x1, x2, x8 => (some (([x2] : List Int) : List Int)).bind fun y156 => (if x1.size + (strOfNums y156).size ≤ 9223372036854775807 then ((seineref06_Place.f k x0 (x1 ++ (strOfNums y156))).bind fun t159 => (if t159 ≥ 0 then (some (x1 ++ (strOfNums y156), x8)) else (if x1.toList = ([] : List UInt8) then (some ((⟨#[]⟩ : ByteArray), x8)) else (seineref08_Step.l1 k x0 x1 x2 x8 1)))) else (none))
def seineref08_Step.l1 : Nat → List ByteArray → ByteArray → Int → Int → Int → Option (ByteArray × Int)
  | 0, _, _, _, _, _ => none
  | k + 1, x0, x1, x2, x8, x10 => if 0 ≤ x10 then (if x10 ≤ (x1.size : Int) then ((seineref06_Place.f k x0 (x1.extract (x10 : Int).toNat x1.size)).bind fun t160 => (if t160 < 0 then (seineref08_Step.l1 k x0 x1 x2 x8 (wrap64 (x10 + 1))) else (seineref08_Step.l0 k x0 (x1.extract (x10 : Int).toNat x1.size) x2 (wrap64 (x8 + 1))))) else (none)) else (none)
end
def seineref08_Step.f (k : Nat) (l0 : List ByteArray) (a1 : ByteArray) (a2 : Int) : Option (ByteArray × Int) := seineref08_Step.l0 k l0 a1 a2 1
theorem seineref08_Step.mono_l : ∀ k, (∀ y0 y1 y2 y3, LeO (seineref08_Step.l0 k y0 y1 y2 y3) (seineref08_Step.l0 (k + 1) y0 y1 y2 y3)) ∧ (∀ y0 y1 y2 y3 y4, LeO (seineref08_Step.l1 k y0 y1 y2 y3 y4) (seineref08_Step.l1 (k + 1) y0 y1 y2 y3 y4))
  | 0 => ⟨fun _ _ _ _ r h => by simp [seineref08_Step.l0] at h, fun _ _ _ _ _ r h => by simp [seineref08_Step.l1] at h⟩
  | k + 1 => by
    obtain ⟨ih0, ih1⟩ := seineref08_Step.mono_l k
    refine ⟨?_, ?_⟩
    · intro y0 y1 y2 y3
      unfold seineref08_Step.l0
      repeat' first
      | (with_reducible exact ih0 _ _ _ _)
      | (with_reducible exact ih1 _ _ _ _ _)
      | (with_reducible exact seineref06_Place.mono _ _ _)
      | (with_reducible exact LeO.refl _)
      | (with_reducible exact LeO.none _)
      | (with_reducible refine LeO.ite ?_ ?_)
      | (with_reducible refine LeO.bind ?_ (fun _ => ?_))
      | exact ih0 _ _ _ _
      | exact ih1 _ _ _ _ _
      | exact seineref06_Place.mono _ _ _
      | exact LeO.none _
      | refine LeO.ite ?_ ?_
      | refine LeO.bind ?_ (fun _ => ?_)
    · intro y0 y1 y2 y3 y4
      unfold seineref08_Step.l1
      repeat' first
      | (with_reducible exact ih0 _ _ _ _)
      | (with_reducible exact ih1 _ _ _ _ _)
      | (with_reducible exact seineref06_Place.mono _ _ _)
      | (with_reducible exact LeO.refl _)
      | (with_reducible exact LeO.none _)
      | (with_reducible refine LeO.ite ?_ ?_)
      | (with_reducible refine LeO.bind ?_ (fun _ => ?_))
      | exact ih0 _ _ _ _
      | exact ih1 _ _ _ _ _
      | exact seineref06_Place.mono _ _ _
      | exact LeO.none _
      | refine LeO.ite ?_ ?_
      | refine LeO.bind ?_ (fun _ => ?_)
theorem seineref08_Step.mono : ∀ a0 a1 a2 k, LeO (seineref08_Step.f k a0 a1 a2) (seineref08_Step.f (k + 1) a0 a1 a2) := by
  intro a0 a1 a2 k
  obtain ⟨ih0, ih1⟩ := seineref08_Step.mono_l k
  unfold seineref08_Step.f
  repeat' first
      | (with_reducible exact ih0 _ _ _ _)
      | (with_reducible exact ih1 _ _ _ _ _)
      | (with_reducible exact seineref06_Place.mono _ _ _)
      | (with_reducible exact LeO.refl _)
      | (with_reducible exact LeO.none _)
      | (with_reducible refine LeO.ite ?_ ?_)
      | (with_reducible refine LeO.bind ?_ (fun _ => ?_))
      | exact ih0 _ _ _ _
      | exact ih1 _ _ _ _ _
      | exact seineref06_Place.mono _ _ _
      | exact LeO.none _
      | refine LeO.ite ?_ ?_
      | refine LeO.bind ?_ (fun _ => ?_)
set_option maxHeartbeats 8000000 in
set_option maxRecDepth 100000 in
theorem seineref08_Step.calls (k : Nat) (A0 : Option Addr) (c0 : Nat) (l0 : List ByteArray) (a1 : ByteArray) (a2 : Int) (r1 : ByteArray) (r2 : Int) (w : World) (hr0 : Kd.C Kd.string w A0 l0.length l0) (hc0 : l0.length ≤ c0) (h : seineref08_Step.f k l0 a1 a2 = some (r1, r2)) :
    Calls Tryz.prog 59 #[.slice A0 l0.length c0, .string a1, .int .u8 a2] w fun e w' => e = .returned (.tuple #[.string r1, .int .i64 r2]) ∧ Below w.heap.size w w' := by
  have HR0 := Aside0.mk hr0
  have HC0 := Aside0.mk hc0
  clear hr0 hc0
  have HB := Aside0.mk (Below.refl w.heap.size w)
  have H : (seineref08_Step.l0 k l0 a1 a2 1) = some (r1, r2) := h
  clear h
  have H' := Aside0.mk H
  clear H
  go_enter Tryz.func59, Tryz.ntmps59
  go_wp2
  go_loopg [1, 8] k (fun kq v1 v8 w' => ∃ (x1_1 : ByteArray) (x8_1 : Int), v1 = .string x1_1 ∧ v8 = .int .i64 x8_1 ∧ Aside0 (seineref08_Step.l0 kq l0 x1_1 a2 x8_1 = some (r1, r2)) ∧ Aside0 (kq ≤ k) ∧ Aside0 (Below w.heap.size w w'))
  case atStart => exact ⟨(a1), (1), (by first | rfl | (simp; done) | (simp [*]; done)), (by first | rfl | (simp; done) | (simp [*]; done)), H', ⟨Nat.le_refl _⟩, ⟨by repeat (first | (with_reducible first | exact HB.out | apply below_alloc | apply pw_below_drewN | apply below_drew1) | exact HB.out)⟩⟩
  case round =>
    clear H'
    try clear p2
    obtain ⟨x1_1, x8_1, rfl, rfl, HA, HK1, HB⟩ := hrel
    cases gk with
    | zero => exact absurd HA.out (by simp [seineref08_Step.l0])
    | succ k1 =>
      have H := HA.out
      clear HA
      simp only [seineref08_Step.l0] at H
      obtain ⟨y156, hy156⟩ : ∃ y_ : List Int, y_ = (([a2] : List Int)) := ⟨_, rfl⟩
      replace H : (if x1_1.size + (strOfNums y156).size ≤ 9223372036854775807 then ((seineref06_Place.f k1 l0 (x1_1 ++ (strOfNums y156))).bind fun t159 => (if t159 ≥ 0 then (some (x1_1 ++ (strOfNums y156), x8_1)) else (if x1_1.toList = ([] : List UInt8) then (some ((⟨#[]⟩ : ByteArray), x8_1)) else (seineref08_Step.l1 k1 l0 x1_1 a2 x8_1 1)))) else (none)) = some (r1, r2) := by first | (rw [hy156]; with_reducible exact H) | (have H2_ := (Option.bind_some _ _).symm.trans H; rw [hy156]; with_reducible exact H2_) | (have H2_ := (Option.bind_some _ _).symm.trans H; with_reducible exact H2_) | with_reducible exact H | (rw [hy156]; exact H) | exact H
      have Ny156 := Aside0.mk hy156
      clear hy156
      by_cases c4 : x1_1.size + (strOfNums y156).size ≤ 9223372036854775807
      · rw [if_pos c4] at H
        have c4b0 := eq_true c4
        have c4b1 : decide (x1_1.size + (strOfNums y156).size ≤ 9223372036854775807) = true := decide_eq_true c4
        try have c4b2 : (9223372036854775807 < x1_1.size + (strOfNums y156).size) = False := eq_false (Nat.not_lt.2 c4)
        replace H := Option.bind_eq_some_iff.mp H
        obtain ⟨t159, A50, H⟩ := H
        replace H : (if t159 ≥ 0 then (some (x1_1 ++ (strOfNums y156), x8_1)) else (if x1_1.toList = ([] : List UInt8) then (some ((⟨#[]⟩ : ByteArray), x8_1)) else (seineref08_Step.l1 k1 l0 x1_1 a2 x8_1 1))) = some (r1, r2) := H
        have A5 := Aside0.mk A50
        clear A50
        by_cases c6 : t159 ≥ 0
        · rw [if_pos c6] at H
          have c6b0 : decide (0 ≤ t159) = true := decide_eq_true c6
          clear c6
          simp only [Option.some.injEq, Prod.mk.injEq] at H
          obtain ⟨rfl, rfl⟩ := H
          go_wp2_with (first | ((with_reducible refine gate_dst (N := 13) rfl ?_); refine Kd.R_lit (Kd.int .u8) _ 5 ?hg (N := 13) ?hd (xs := ([a2] : List Int)) (inner := [.int .u8 a2]) (ok := fun _ => True) (okp := fun _ => True) ?hr ?hp (fun _ hk => hk) trivial (Below.refl _ _) (Nat.le_refl _) (by simp) ?_; (case hd => rfl); (case hg => rfl); (case hr => first | (go_simp; done) | (go_simp; rfl)); (case hp => exact (Reps.one (show Kd.M (Kd.int .u8) _ _ _ a2 [.int .u8 a2] from rfl) (Reps.none _ _))); intro v157 w7 ho8 hb hg_ hnew_; clear hg_ hnew_; (first | rw [← Ny156.out] at ho8 | (simp only [Int.reduceToNat] at ho8; rw [← Ny156.out] at ho8)); have n0_ := Aside0.mk (Kd.R_lower ho8 (below_size (by repeat (first | (with_reducible first | exact HB.out | apply below_alloc | apply pw_below_drewN | apply below_drew1) | exact HB.out)))); have n1_ := Aside0.mk (below_step (by repeat (first | (with_reducible first | exact HB.out | apply below_alloc | apply pw_below_drewN | apply below_drew1) | exact HB.out)) hb); clear HB; have HO158 := n0_; have HB := n1_; clear n0_ n1_; clear hb ho8; have hcv9 := own_string (P := Tryz.prog) Tryz.underlying23 Tryz.underlying5 Tryz.underlying9 (Kd.own_of_R HO158.out)) | ((with_reducible refine gate_callee (f := 58) rfl ?_); refine goesL_ (some 18) rfl rfl Tryz.func58 (by kernel_rfl) rfl #[.slice A0 l0.length c0, .string (x1_1 ++ (strOfNums y156))] rfl (by (try simp only [List.map_toArray, List.map_cons, List.map_nil]); first | done | rfl | (simp only [List.length_drop, List.length_take]; rfl)) ?_; (with_reducible refine (seineref06_Place.calls k1 _ _ l0 (x1_1 ++ (strOfNums y156)) t159 _ ?side1 ?side2 A5.out).mono ?_); (case side1 => repeat (first | exact (Kd.C_below HR0.out HB.out) | (with_reducible refine Kd.C_alloc ?_ _) | (with_reducible refine Kd.C_drewN ?_ _) | (with_reducible refine Kd.C_drew ?_))); (case side2 => exact HC0.out); rintro e w' ⟨rfl, ⟨nd, rfl⟩⟩; refine ⟨_, rfl, ?_⟩))
          go_ret2
          exact ⟨by first | rfl | (simp [errW_none, errW_some] <;> rfl) | (simp [*, errW_none, errW_some] <;> rfl), by repeat (first | (with_reducible first | exact HB.out | apply below_alloc | apply pw_below_drewN | apply below_drew1) | exact HB.out)⟩
        · rw [if_neg c6] at H
          have c6b0 : decide (0 ≤ t159) = false := decide_eq_false c6
          clear c6
          by_cases c10 : x1_1.toList = ([] : List UInt8)
          · rw [if_pos c10] at H
            have c10b0 : (x1_1.toList == ([] : List UInt8)) = true := beq_iff_eq.mpr c10
            have c10b1 : (x1_1.toList != ([] : List UInt8)) = false := bne_eq_false_iff_eq.mpr c10
            clear c10
            simp only [Option.some.injEq, Prod.mk.injEq] at H
            obtain ⟨rfl, rfl⟩ := H
            go_wp2_with (first | ((with_reducible refine gate_dst (N := 13) rfl ?_); refine Kd.R_lit (Kd.int .u8) _ 5 ?hg (N := 13) ?hd (xs := ([a2] : List Int)) (inner := [.int .u8 a2]) (ok := fun _ => True) (okp := fun _ => True) ?hr ?hp (fun _ hk => hk) trivial (Below.refl _ _) (Nat.le_refl _) (by simp) ?_; (case hd => rfl); (case hg => rfl); (case hr => first | (go_simp; done) | (go_simp; rfl)); (case hp => exact (Reps.one (show Kd.M (Kd.int .u8) _ _ _ a2 [.int .u8 a2] from rfl) (Reps.none _ _))); intro v157 w11 ho12 hb hg_ hnew_; clear hg_ hnew_; (first | rw [← Ny156.out] at ho12 | (simp only [Int.reduceToNat] at ho12; rw [← Ny156.out] at ho12)); have n0_ := Aside0.mk (Kd.R_lower ho12 (below_size (by repeat (first | (with_reducible first | exact HB.out | apply below_alloc | apply pw_below_drewN | apply below_drew1) | exact HB.out)))); have n1_ := Aside0.mk (below_step (by repeat (first | (with_reducible first | exact HB.out | apply below_alloc | apply pw_below_drewN | apply below_drew1) | exact HB.out)) hb); clear HB; have HO158 := n0_; have HB := n1_; clear n0_ n1_; clear hb ho12; have hcv13 := own_string (P := Tryz.prog) Tryz.underlying23 Tryz.underlying5 Tryz.underlying9 (Kd.own_of_R HO158.out)) | ((with_reducible refine gate_callee (f := 58) rfl ?_); refine goesL_ (some 18) rfl rfl Tryz.func58 (by kernel_rfl) rfl #[.slice A0 l0.length c0, .string (x1_1 ++ (strOfNums y156))] rfl (by (try simp only [List.map_toArray, List.map_cons, List.map_nil]); first | done | rfl | (simp only [List.length_drop, List.length_take]; rfl)) ?_; (with_reducible refine (seineref06_Place.calls k1 _ _ l0 (x1_1 ++ (strOfNums y156)) t159 _ ?side1 ?side2 A5.out).mono ?_); (case side1 => repeat (first | exact (Kd.C_below HR0.out HB.out) | (with_reducible refine Kd.C_alloc ?_ _) | (with_reducible refine Kd.C_drewN ?_ _) | (with_reducible refine Kd.C_drew ?_))); (case side2 => exact HC0.out); rintro e w' ⟨rfl, ⟨nd, rfl⟩⟩; refine ⟨_, rfl, ?_⟩))
            go_ret2
            exact ⟨by first | rfl | (simp [errW_none, errW_some] <;> rfl) | (simp [*, errW_none, errW_some] <;> rfl), by repeat (first | (with_reducible first | exact HB.out | apply below_alloc | apply pw_below_drewN | apply below_drew1) | exact HB.out)⟩
          · rw [if_neg c10] at H
            have c10b0 : (x1_1.toList == ([] : List UInt8)) = false := beq_eq_false_iff_ne.mpr c10
            have c10b1 : (x1_1.toList != ([] : List UInt8)) = true := bne_iff_ne.mpr c10
            have H' := Aside0.mk H
            clear H
            go_wp2_with (first | ((with_reducible refine gate_dst (N := 13) rfl ?_); refine Kd.R_lit (Kd.int .u8) _ 5 ?hg (N := 13) ?hd (xs := ([a2] : List Int)) (inner := [.int .u8 a2]) (ok := fun _ => True) (okp := fun _ => True) ?hr ?hp (fun _ hk => hk) trivial (Below.refl _ _) (Nat.le_refl _) (by simp) ?_; (case hd => rfl); (case hg => rfl); (case hr => first | (go_simp; done) | (go_simp; rfl)); (case hp => exact (Reps.one (show Kd.M (Kd.int .u8) _ _ _ a2 [.int .u8 a2] from rfl) (Reps.none _ _))); intro v157 w14 ho15 hb hg_ hnew_; clear hg_ hnew_; (first | rw [← Ny156.out] at ho15 | (simp only [Int.reduceToNat] at ho15; rw [← Ny156.out] at ho15)); have n0_ := Aside0.mk (Kd.R_lower ho15 (below_size (by repeat (first | (with_reducible first | exact HB.out | apply below_alloc | apply pw_below_drewN | apply below_drew1) | exact HB.out)))); have n1_ := Aside0.mk (below_step (by repeat (first | (with_reducible first | exact HB.out | apply below_alloc | apply pw_below_drewN | apply below_drew1) | exact HB.out)) hb); clear HB; have HO158 := n0_; have HB := n1_; clear n0_ n1_; clear hb ho15; have hcv16 := own_string (P := Tryz.prog) Tryz.underlying23 Tryz.underlying5 Tryz.underlying9 (Kd.own_of_R HO158.out)) | ((with_reducible refine gate_callee (f := 58) rfl ?_); refine goesL_ (some 18) rfl rfl Tryz.func58 (by kernel_rfl) rfl #[.slice A0 l0.length c0, .string (x1_1 ++ (strOfNums y156))] rfl (by (try simp only [List.map_toArray, List.map_cons, List.map_nil]); first | done | rfl | (simp only [List.length_drop, List.length_take]; rfl)) ?_; (with_reducible refine (seineref06_Place.calls k1 _ _ l0 (x1_1 ++ (strOfNums y156)) t159 _ ?side1 ?side2 A5.out).mono ?_); (case side1 => repeat (first | exact (Kd.C_below HR0.out HB.out) | (with_reducible refine Kd.C_alloc ?_ _) | (with_reducible refine Kd.C_drewN ?_ _) | (with_reducible refine Kd.C_drew ?_))); (case side2 => exact HC0.out); rintro e w' ⟨rfl, ⟨nd, rfl⟩⟩; refine ⟨_, rfl, ?_⟩))
            go_loopg [10] k1 (fun kq v10 w' => ∃ (x10_2 : Int), v10 = .int .i64 x10_2 ∧ Aside0 (seineref08_Step.l1 kq l0 x1_1 a2 x8_1 x10_2 = some (r1, r2)) ∧ Aside0 (kq ≤ k1) ∧ Aside0 (Below w.heap.size w w'))
            case atStart => exact ⟨(1), (by first | rfl | (simp; done) | (simp [*]; done)), H', ⟨Nat.le_refl _⟩, ⟨by repeat (first | (with_reducible first | exact HB.out | apply below_alloc | apply pw_below_drewN | apply below_drew1) | exact HB.out)⟩⟩
            case round =>
              clear H'
              try clear c1
              try clear hcv1
              try clear p2
              try clear c4
              try clear c4b0
              try clear c4b1
              try clear c4b2
              try clear c5
              try clear c6
              try clear c6b0
              try clear hcv9
              try clear c10
              try clear c10b0
              try clear c10b1
              try clear hcv13
              try clear hcv16
              try clear p2
              obtain ⟨x10_2, rfl, HA, HK2, HB⟩ := hrel
              cases gk with
              | zero => exact absurd HA.out (by simp [seineref08_Step.l1])
              | succ k2 =>
                have H := HA.out
                clear HA
                simp only [seineref08_Step.l1] at H
                by_cases c17 : 0 ≤ x10_2
                · rw [if_pos c17] at H
                  have c17b0 := eq_true c17
                  have c17b1 : decide (0 ≤ x10_2) = true := decide_eq_true c17
                  clear c17
                  by_cases c18 : x10_2 ≤ (x1_1.size : Int)
                  · rw [if_pos c18] at H
                    have c18b0 := eq_true c18
                    have c18b1 : decide (x10_2 ≤ (x1_1.size : Int)) = true := decide_eq_true c18
                    clear c18
                    replace H := Option.bind_eq_some_iff.mp H
                    obtain ⟨t160, A190, H⟩ := H
                    replace H : (if t160 < 0 then (seineref08_Step.l1 k2 l0 x1_1 a2 x8_1 (wrap64 (x10_2 + 1))) else (seineref08_Step.l0 k2 l0 (x1_1.extract (x10_2 : Int).toNat x1_1.size) a2 (wrap64 (x8_1 + 1)))) = some (r1, r2) := H
                    have A19 := Aside0.mk A190
                    clear A190
                    by_cases c20 : t160 < 0
                    · rw [if_pos c20] at H
                      have c20b0 : decide (t160 < 0) = true := decide_eq_true c20
                      clear c20
                      have H' := Aside0.mk H
                      clear H
                      go_wp2_with (first | ((with_reducible refine gate_callee (f := 58) rfl ?_); refine goesL_ (some 29) rfl rfl Tryz.func58 (by kernel_rfl) rfl #[.slice A0 l0.length c0, .string (x1_1.extract (x10_2 : Int).toNat x1_1.size)] rfl (by (try simp only [List.map_toArray, List.map_cons, List.map_nil]); first | done | rfl | (simp only [List.length_drop, List.length_take]; rfl)) ?_; (with_reducible refine (seineref06_Place.calls k2 _ _ l0 (x1_1.extract (x10_2 : Int).toNat x1_1.size) t160 _ ?side1 ?side2 A19.out).mono ?_); (case side1 => repeat (first | exact (Kd.C_below HR0.out HB.out) | (with_reducible refine Kd.C_alloc ?_ _) | (with_reducible refine Kd.C_drewN ?_ _) | (with_reducible refine Kd.C_drew ?_))); (case side2 => exact HC0.out); rintro e w' ⟨rfl, ⟨nd, rfl⟩⟩; refine ⟨_, rfl, ?_⟩))
                      go_roundg k2
                      case measure => have := HK1.out; have := HK2.out; omega
                      case rel => exact ⟨(wrap64 (x10_2 + 1)), (by first | rfl | (simp; done) | (simp [*]; done)), H', ⟨by have := HK1.out; have := HK2.out; omega⟩, ⟨by repeat (first | (with_reducible first | exact HB.out | apply below_alloc | apply pw_below_drewN | apply below_drew1) | exact HB.out)⟩⟩
                    · rw [if_neg c20] at H
                      have c20b0 : decide (t160 < 0) = false := decide_eq_false c20
                      clear c20
                      have c21b0 := eq_true (of_decide_eq_true (by first | (with_reducible assumption) | assumption) : 0 ≤ x10_2)
                      have c22b0 := eq_true (of_decide_eq_true (by first | (with_reducible assumption) | assumption) : x10_2 ≤ (x1_1.size : Int))
                      have H' := Aside0.mk H
                      clear H
                      go_wp2_with (first | ((with_reducible refine gate_callee (f := 58) rfl ?_); refine goesL_ (some 29) rfl rfl Tryz.func58 (by kernel_rfl) rfl #[.slice A0 l0.length c0, .string (x1_1.extract (x10_2 : Int).toNat x1_1.size)] rfl (by (try simp only [List.map_toArray, List.map_cons, List.map_nil]); first | done | rfl | (simp only [List.length_drop, List.length_take]; rfl)) ?_; (with_reducible refine (seineref06_Place.calls k2 _ _ l0 (x1_1.extract (x10_2 : Int).toNat x1_1.size) t160 _ ?side1 ?side2 A19.out).mono ?_); (case side1 => repeat (first | exact (Kd.C_below HR0.out HB.out) | (with_reducible refine Kd.C_alloc ?_ _) | (with_reducible refine Kd.C_drewN ?_ _) | (with_reducible refine Kd.C_drew ?_))); (case side2 => exact HC0.out); rintro e w' ⟨rfl, ⟨nd, rfl⟩⟩; refine ⟨_, rfl, ?_⟩))
                      go_roundg k2
                      case measure => have := HK1.out; have := HK2.out; omega
                      case rel => exact ⟨(x1_1.extract (x10_2 : Int).toNat x1_1.size), (wrap64 (x8_1 + 1)), (by first | rfl | (simp; done) | (simp [*]; done)), (by first | rfl | (simp; done) | (simp [*]; done)), H', ⟨by have := HK1.out; have := HK2.out; omega⟩, ⟨by repeat (first | (with_reducible first | exact HB.out | apply below_alloc | apply pw_below_drewN | apply below_drew1) | exact HB.out)⟩⟩
                  · rw [if_neg c18] at H
                    exact absurd H (by simp)
                · rw [if_neg c17] at H
                  exact absurd H (by simp)
      · rw [if_neg c4] at H
        exact absurd H (by simp)
def seineref08_Looks.l0 : Nat → List ByteArray → ByteArray → ByteArray → Int → Int → Option (Int)
  | 0, _, _, _, _, _ => none
  | k + 1, x0, x1, x5, x6, x7 => if x7 < (x1.size : Int) then (if 0 ≤ x7 then ((seineref08_Step.f k x0 x5 (bt x1 x7)).bind fun bt161 => (seineref08_Looks.l0 k x0 x1 bt161.1 (wrap64 (x6 + bt161.2)) (wrap64 (x7 + 1)))) else (none)) else (some x6)
def seineref08_Looks.f (k : Nat) (l0 : List ByteArray) (a1 : ByteArray) : Option (Int) := seineref08_Looks.l0 k l0 a1 (⟨#[]⟩ : ByteArray) 0 0
theorem seineref08_Looks.mono_l : ∀ k, (∀ y0 y1 y2 y3 y4, LeO (seineref08_Looks.l0 k y0 y1 y2 y3 y4) (seineref08_Looks.l0 (k + 1) y0 y1 y2 y3 y4))
  | 0 => fun _ _ _ _ _ r h => by simp [seineref08_Looks.l0] at h
  | k + 1 => by
    have ih0 := seineref08_Looks.mono_l k
    · intro y0 y1 y2 y3 y4
      unfold seineref08_Looks.l0
      repeat' first
      | (with_reducible exact ih0 _ _ _ _ _)
      | (with_reducible exact seineref08_Step.mono _ _ _ _)
      | (with_reducible exact LeO.refl _)
      | (with_reducible exact LeO.none _)
      | (with_reducible refine LeO.ite ?_ ?_)
      | (with_reducible refine LeO.bind ?_ (fun _ => ?_))
      | exact ih0 _ _ _ _ _
      | exact seineref08_Step.mono _ _ _ _
      | exact LeO.none _
      | refine LeO.ite ?_ ?_
      | refine LeO.bind ?_ (fun _ => ?_)
theorem seineref08_Looks.mono : ∀ a0 a1 k, LeO (seineref08_Looks.f k a0 a1) (seineref08_Looks.f (k + 1) a0 a1) := by
  intro a0 a1 k
  have ih0 := seineref08_Looks.mono_l k
  unfold seineref08_Looks.f
  repeat' first
      | (with_reducible exact ih0 _ _ _ _ _)
      | (with_reducible exact seineref08_Step.mono _ _ _ _)
      | (with_reducible exact LeO.refl _)
      | (with_reducible exact LeO.none _)
      | (with_reducible refine LeO.ite ?_ ?_)
      | (with_reducible refine LeO.bind ?_ (fun _ => ?_))
      | exact ih0 _ _ _ _ _
      | exact seineref08_Step.mono _ _ _ _
      | exact LeO.none _
      | refine LeO.ite ?_ ?_
      | refine LeO.bind ?_ (fun _ => ?_)
set_option maxHeartbeats 8000000 in
set_option maxRecDepth 100000 in
theorem seineref08_Looks.calls (k : Nat) (A0 : Option Addr) (c0 : Nat) (l0 : List ByteArray) (a1 : ByteArray) (r : Int) (w : World) (hr0 : Kd.C Kd.string w A0 l0.length l0) (hc0 : l0.length ≤ c0) (h : seineref08_Looks.f k l0 a1 = some r) :
    Calls Tryz.prog 38 #[.slice A0 l0.length c0, .string a1] w fun e w' => e = .returned (.int .i64 r) ∧ Below w.heap.size w w' := by
  have HR0 := Aside0.mk hr0
  have HC0 := Aside0.mk hc0
  clear hr0 hc0
  have HB := Aside0.mk (Below.refl w.heap.size w)
  have H : (seineref08_Looks.l0 k l0 a1 (⟨#[]⟩ : ByteArray) 0 0) = some r := h
  clear h
  have H' := Aside0.mk H
  clear H
  go_enter Tryz.func38, Tryz.ntmps38
  go_wp2
  go_loopg [5, 6, 7] k (fun kq v5 v6 v7 w' => ∃ (x5_1 : ByteArray) (x6_1 : Int) (x7_1 : Int), v5 = .string x5_1 ∧ v6 = .int .i64 x6_1 ∧ v7 = .int .i64 x7_1 ∧ Aside0 (seineref08_Looks.l0 kq l0 a1 x5_1 x6_1 x7_1 = some r) ∧ Aside0 (kq ≤ k) ∧ Aside0 (Below w.heap.size w w'))
  case atStart => exact ⟨((⟨#[]⟩ : ByteArray)), (0), (0), (by first | rfl | (simp; done) | (simp [*]; done)), (by first | rfl | (simp; done) | (simp [*]; done)), (by first | rfl | (simp; done) | (simp [*]; done)), H', ⟨Nat.le_refl _⟩, ⟨by repeat (first | (with_reducible first | exact HB.out | apply below_alloc | apply pw_below_drewN | apply below_drew1) | exact HB.out)⟩⟩
  case round =>
    clear H'
    try clear p2
    obtain ⟨x5_1, x6_1, x7_1, rfl, rfl, rfl, HA, HK1, HB⟩ := hrel
    cases gk with
    | zero => exact absurd HA.out (by simp [seineref08_Looks.l0])
    | succ k1 =>
      have H := HA.out
      clear HA
      simp only [seineref08_Looks.l0] at H
      by_cases c3 : x7_1 < (a1.size : Int)
      · rw [if_pos c3] at H
        have c3b0 : decide (x7_1 < (a1.size : Int)) = true := decide_eq_true c3
        clear c3
        by_cases c4 : 0 ≤ x7_1
        · rw [if_pos c4] at H
          have c4b0 : decide (0 ≤ x7_1) = true := decide_eq_true c4
          clear c4
          replace H := Option.bind_eq_some_iff.mp H
          obtain ⟨⟨t161, t162⟩, A60, H⟩ := H
          replace H : (seineref08_Looks.l0 k1 l0 a1 t161 (wrap64 (x6_1 + t162)) (wrap64 (x7_1 + 1))) = some r := H
          have A6 := Aside0.mk A60
          clear A60
          have H' := Aside0.mk H
          clear H
          have p5 : 0 ≤ (x7_1 : Int) := of_decide_eq_true (by first | (with_reducible assumption) | assumption)
          have q5 : x7_1 < (a1.size : Int) := of_decide_eq_true (by first | (with_reducible assumption) | assumption)
          have hx5 := bt_at a1 x7_1
          replace p5 := eq_true p5
          replace q5 := eq_true q5
          go_wp2_with (first | ((with_reducible refine gate_callee (f := 59) rfl ?_); refine goesL_ (some 22) rfl rfl Tryz.func59 (by kernel_rfl) rfl #[.slice A0 l0.length c0, .string x5_1, .int .u8 (bt a1 x7_1)] rfl (by (try simp only [List.map_toArray, List.map_cons, List.map_nil]); first | done | rfl | (simp only [List.length_drop, List.length_take]; rfl)) ?_; (with_reducible refine (seineref08_Step.calls k1 _ _ l0 x5_1 (bt a1 x7_1) t161 t162 _ ?side1 ?side2 A6.out).mono ?_); (case side1 => repeat (first | exact (Kd.C_below HR0.out HB.out) | (with_reducible refine Kd.C_alloc ?_ _) | (with_reducible refine Kd.C_drewN ?_ _) | (with_reducible refine Kd.C_drew ?_))); (case side2 => exact HC0.out); rintro e w7 ⟨rfl, hb⟩; refine ⟨_, rfl, ?_⟩; have n0_ := Aside0.mk (below_step (by repeat (first | (with_reducible first | exact HB.out | apply below_alloc | apply pw_below_drewN | apply below_drew1) | exact HB.out)) hb); clear HB; have HB := n0_; clear n0_; (try clear hb); (try clear hb2); (try clear hk); (try clear hi)))
          go_roundg k1
          case measure => have := HK1.out; omega
          case rel => exact ⟨(t161), (wrap64 (x6_1 + t162)), (wrap64 (x7_1 + 1)), (by first | rfl | (simp; done) | (simp [*]; done)), (by first | rfl | (simp; done) | (simp [*]; done)), (by first | rfl | (simp; done) | (simp [*]; done)), H', ⟨by have := HK1.out; omega⟩, ⟨by repeat (first | (with_reducible first | exact HB.out | apply below_alloc | apply pw_below_drewN | apply below_drew1) | exact HB.out)⟩⟩
        · rw [if_neg c4] at H
          exact absurd H (by simp)
      · rw [if_neg c3] at H
        have c3b0 : decide (x7_1 < (a1.size : Int)) = false := decide_eq_false c3
        clear c3
        obtain rfl := Option.some.inj H
        go_wp2
        go_ret
        exact ⟨by first | rfl | (simp [errW_none, errW_some] <;> rfl) | (simp [*, errW_none, errW_some] <;> rfl), by repeat (first | (with_reducible first | exact HB.out | apply below_alloc | apply pw_below_drewN | apply below_drew1) | exact HB.out)⟩
def seineref17_Find.l0 : Nat → ByteArray → List (S57) → Int → List ByteArray → Bool → Option ((List (S57)))
  | 0, _, _, _, _, _ => none
  | k + 1, x1, x5, x6, x164000, x164001 => if x6 ≤ (x1.size : Int) then (if x164001 = true then ((seineref03_Put.f k x5 x6 x6).bind fun t167 => (seineref17_Find.l0 k x1 t167 (wrap64 (x6 + 1)) x164000 x164001)) else (some x5)) else (some x5)
def seineref17_Find.f (k : Nat) (l0_0 : List ByteArray) (a0_1 : Bool) (a1 : ByteArray) : Option ((List (S57))) := (seineref03_Occ.f k a1 l0_0).bind fun t164 => (seineref17_Find.l0 k a1 t164 0 l0_0 a0_1)
theorem seineref17_Find.mono_l : ∀ k, (∀ y0 y1 y2 y3 y4, LeO (seineref17_Find.l0 k y0 y1 y2 y3 y4) (seineref17_Find.l0 (k + 1) y0 y1 y2 y3 y4))
  | 0 => fun _ _ _ _ _ r h => by simp [seineref17_Find.l0] at h
  | k + 1 => by
    have ih0 := seineref17_Find.mono_l k
    · intro y0 y1 y2 y3 y4
      unfold seineref17_Find.l0
      repeat' first
      | (with_reducible exact ih0 _ _ _ _ _)
      | (with_reducible exact seineref03_Occ.mono _ _ _)
      | (with_reducible exact seineref03_Put.mono _ _ _ _)
      | (with_reducible exact LeO.refl _)
      | (with_reducible exact LeO.none _)
      | (with_reducible refine LeO.ite ?_ ?_)
      | (with_reducible refine LeO.bind ?_ (fun _ => ?_))
      | exact ih0 _ _ _ _ _
      | exact seineref03_Occ.mono _ _ _
      | exact seineref03_Put.mono _ _ _ _
      | exact LeO.none _
      | refine LeO.ite ?_ ?_
      | refine LeO.bind ?_ (fun _ => ?_)
theorem seineref17_Find.mono : ∀ a0 a1 a2 k, LeO (seineref17_Find.f k a0 a1 a2) (seineref17_Find.f (k + 1) a0 a1 a2) := by
  intro a0 a1 a2 k
  have ih0 := seineref17_Find.mono_l k
  unfold seineref17_Find.f
  repeat' first
      | (with_reducible exact ih0 _ _ _ _ _)
      | (with_reducible exact seineref03_Occ.mono _ _ _)
      | (with_reducible exact seineref03_Put.mono _ _ _ _)
      | (with_reducible exact LeO.refl _)
      | (with_reducible exact LeO.none _)
      | (with_reducible refine LeO.ite ?_ ?_)
      | (with_reducible refine LeO.bind ?_ (fun _ => ?_))
      | exact ih0 _ _ _ _ _
      | exact seineref03_Occ.mono _ _ _
      | exact seineref03_Put.mono _ _ _ _
      | exact LeO.none _
      | refine LeO.ite ?_ ?_
      | refine LeO.bind ?_ (fun _ => ?_)
set_option maxHeartbeats 8000000 in
set_option maxRecDepth 100000 in
theorem seineref17_Find.calls (k : Nat) (A0_0 : Option Addr) (c0_0 : Nat) (l0_0 : List ByteArray) (a0_1 : Bool) (a1 : ByteArray) (r : List (S57)) (w : World) (hr0_0 : Kd.C Kd.string w A0_0 l0_0.length l0_0) (hc0_0 : l0_0.length ≤ c0_0) (h : seineref17_Find.f k l0_0 a0_1 a1 = some r) :
    Calls Tryz.prog 22 #[.agg #[.slice A0_0 l0_0.length c0_0, .bool a0_1], .string a1] w fun e w' => ∃ v0_ : Value, e = .returned (v0_) ∧ Kd.R k57 57 w' w.heap.size (fun _ => True) v0_ r ∧ Below w.heap.size w w' := by
  have hu42 := Tryz.underlying42
  have hu57 := Tryz.underlying57
  have HR0_0 := Aside0.mk hr0_0
  have HC0_0 := Aside0.mk hc0_0
  clear hr0_0 hc0_0
  have HB := Aside0.mk (Below.refl w.heap.size w)
  have H : ((seineref03_Occ.f k a1 l0_0).bind fun t164 => (seineref17_Find.l0 k a1 t164 0 l0_0 a0_1)) = some r := h
  clear h
  replace H := Option.bind_eq_some_iff.mp H
  obtain ⟨t164, A30, H⟩ := H
  replace H : (seineref17_Find.l0 k a1 t164 0 l0_0 a0_1) = some r := H
  have A3 := Aside0.mk A30
  clear A30
  have H' := Aside0.mk H
  clear H
  go_enter Tryz.func22, Tryz.ntmps22
  go_wp2_with (first | ((with_reducible refine gate_dst (N := 2) rfl ?_); refine box_event ?hg (N := 2) ?hd (cs := #[.slice A0_0 l0_0.length c0_0, .bool a0_1]) (t := 42) ?hr ?_; (case hd => rfl); (case hg => rfl); (case hr => first | (go_simp; done) | (go_simp; rfl)); intro gb163 hg w4 hbox hb; have n0_ := Aside0.mk (below_step (by repeat (first | (with_reducible first | exact HB.out | apply below_alloc | apply pw_below_drewN | apply below_drew1) | exact HB.out)) hb); have n1_ := Aside0.mk (hbox); have n2_ := Aside0.mk ((by rw [hg]; exact (below_size (by repeat (first | (with_reducible first | exact HB.out | apply below_alloc | apply pw_below_drewN | apply below_drew1) | exact HB.out))) : w.heap.size ≤ gb163)); have n3_ := Aside0.mk ((by rw [hg]; exact (below_size (by repeat (first | (with_reducible first | exact HB.out | apply below_alloc | apply pw_below_drewN | apply below_drew1) | exact HB.out))) : w.heap.size ≤ gb163)); clear HB; have HB := n0_; have BK163 := n1_; have GW163 := n2_; have GE163 := n3_; clear n0_ n1_ n2_ n3_; clear hb hbox hg; have hcz5_0 : w4.cell? ⟨gb163, 0, none⟩ = some (.slice A0_0 l0_0.length c0_0) := (blk_cell BK163.out 0).trans rfl; have hcz5_1 : w4.cell? ⟨gb163, 1, none⟩ = some (.bool a0_1) := (blk_cell BK163.out 1).trans rfl; have hfz5_0 := blk_frozen BK163.out 0; have hfz5_1 := blk_frozen BK163.out 1) | ((with_reducible refine gate_callee (f := 39) rfl ?_); refine goesL_ (some 10) rfl rfl Tryz.func39 (by kernel_rfl) rfl #[.string a1, .slice A0_0 l0_0.length c0_0] rfl (by (try simp only [List.map_toArray, List.map_cons, List.map_nil]); first | done | rfl | (simp only [List.length_drop, List.length_take]; rfl)) ?_; (with_reducible refine (seineref03_Occ.calls k a1 _ _ l0_0 t164 _ ?side1 ?side2 A3.out).mono ?_); (case side1 => repeat (first | exact (Kd.C_below HR0_0.out HB.out) | (with_reducible refine Kd.C_alloc ?_ _) | (with_reducible refine Kd.C_drewN ?_ _) | (with_reducible refine Kd.C_drew ?_))); (case side2 => exact HC0_0.out); rintro e w6 ⟨v165, rfl, ho0, hb⟩; refine ⟨_, rfl, ?_⟩; have n0_ := Aside0.mk (Kd.R_lower ho0 (below_size (by repeat (first | (with_reducible first | exact HB.out | apply below_alloc | apply pw_below_drewN | apply below_drew1 | refine below_set ?_ GE163.out) | exact HB.out)))); have n1_ := Aside0.mk (blk_below (g := gb163) (o := .cells #[.slice A0_0 l0_0.length c0_0, .bool a0_1] 42 (0, 0)) (by (with_reducible repeat (first | refine blk_drewN ?_ _ | refine blk_drew ?_ | refine blk_alloc ?_ _)); exact BK163.out) hb); have n2_ := Aside0.mk (below_step (by repeat (first | (with_reducible first | exact HB.out | apply below_alloc | apply pw_below_drewN | apply below_drew1 | refine below_set ?_ GE163.out) | exact HB.out)) hb); clear BK163; clear HB; have HO166 := n0_; have BK163 := n1_; have HB := n2_; clear n0_ n1_ n2_; (try clear hb); (try clear hb2); (try clear hk); (try clear hi); (try clear ho0)))
  go_loopg [5, 6] k (fun kq v5 v6 w' => ∃ (x5_1 : List (S57)) (x6_1 : Int), v6 = .int .i64 x6_1 ∧ Aside0 (seineref17_Find.l0 kq a1 x5_1 x6_1 l0_0 a0_1 = some r) ∧ Aside0 (kq ≤ k) ∧ Aside0 (Kd.R k57 57 w' w.heap.size (fun _ => True) v5 x5_1) ∧ Aside0 (w'.heap[gb163]? = some (.cells #[(.slice A0_0 l0_0.length c0_0), .bool a0_1] 42 (0, 0))) ∧ Aside0 (Below w.heap.size w w'))
  case atStart => exact ⟨(t164), (0), (by first | rfl | (simp; done) | (simp [*]; done)), H', ⟨Nat.le_refl _⟩, ⟨by (with_reducible repeat (first | apply Kd.R_alloc | apply Kd.R_drewN | apply Kd.R_drew)); exact HO166.out⟩, ⟨by (with_reducible repeat (first | refine blk_drewN ?_ _ | refine blk_drew ?_ | refine blk_alloc ?_ _)); exact BK163.out⟩, ⟨by repeat (first | (with_reducible first | exact HB.out | apply below_alloc | apply pw_below_drewN | apply below_drew1 | refine below_set ?_ GE163.out) | exact HB.out)⟩⟩
  case round =>
    clear H'
    try clear c2
    try clear p2
    try clear c3
    try clear hcz5_0
    try clear hcz5_1
    try clear hfz5_0
    try clear hfz5_1
    obtain ⟨x5_1, x6_1, rfl, HA, HK1, HO_5, BK163, HB⟩ := hrel
    cases gk with
    | zero => exact absurd HA.out (by simp [seineref17_Find.l0])
    | succ k1 =>
      have H := HA.out
      clear HA
      simp only [seineref17_Find.l0] at H
      by_cases c7 : x6_1 ≤ (a1.size : Int)
      · rw [if_pos c7] at H
        have c7b0 : decide (x6_1 ≤ (a1.size : Int)) = true := decide_eq_true c7
        clear c7
        by_cases c8 : a0_1 = true
        · subst c8
          have H1 : ((seineref03_Put.f k1 x5_1 x6_1 x6_1).bind fun t167 => (seineref17_Find.l0 k1 a1 t167 (wrap64 (x6_1 + 1)) l0_0 true)) = some r := by rw [if_pos rfl] at H; exact H
          clear H
          have H := H1
          clear H1
          replace H := Option.bind_eq_some_iff.mp H
          obtain ⟨t167, A90, H⟩ := H
          replace H : (seineref17_Find.l0 k1 a1 t167 (wrap64 (x6_1 + 1)) l0_0 true) = some r := H
          have A9 := Aside0.mk A90
          clear A90
          have H' := Aside0.mk H
          clear H
          have hcz10_0 : wr.cell? ⟨gb163, 0, none⟩ = some (.slice A0_0 l0_0.length c0_0) := (blk_cell BK163.out 0).trans rfl
          have hcz10_1 : wr.cell? ⟨gb163, 1, none⟩ = some (.bool true) := (blk_cell BK163.out 1).trans rfl
          have hfz10_0 := blk_frozen BK163.out 0
          have hfz10_1 := blk_frozen BK163.out 1
          obtain ⟨Ao11, co11, eo11⟩ := Kd.R_slice HO_5.out
          subst eo11
          go_wp2_with (first | ((with_reducible refine gate_callee (f := 40) rfl ?_); refine goesL_ (some 25) rfl rfl Tryz.func40 (by kernel_rfl) rfl #[.slice Ao11 x5_1.length co11, .agg #[.int .i64 x6_1, .int .i64 x6_1]] rfl (by (try simp only [List.map_toArray, List.map_cons, List.map_nil]); first | done | rfl | (simp only [List.length_drop, List.length_take]; rfl)) ?_; (with_reducible refine (seineref03_Put.calls k1 _ _ x5_1 x6_1 x6_1 t167 _ ?side1 ?side2 A9.out).mono ?_); (case side1 => repeat (first | exact (Kd.R_reads' HO_5.out).2.2 | (with_reducible refine Kd.C_alloc ?_ _) | (with_reducible refine Kd.C_drewN ?_ _) | (with_reducible refine Kd.C_drew ?_))); (case side2 => exact (Kd.R_reads' HO_5.out).2.1); rintro e w12 ⟨v168, rfl, ho0, hb⟩; refine ⟨_, rfl, ?_⟩; have n0_ := Aside0.mk (Kd.R_elder' (by (with_reducible repeat (first | apply Kd.R_alloc | apply Kd.R_drewN | apply Kd.R_drew)); exact HO_5.out) (Kd.R_base ho0) hb); have n1_ := Aside0.mk (Kd.R_lower (Kd.R_new' ho0 (Kd.R_lt (by (with_reducible repeat (first | apply Kd.R_alloc | apply Kd.R_drewN | apply Kd.R_drew)); exact HO_5.out))) (below_size (by repeat (first | (with_reducible first | exact HB.out | apply below_alloc | apply pw_below_drewN | apply below_drew1 | refine below_set ?_ GE163.out) | exact HB.out)))); have n2_ := Aside0.mk (blk_below (g := gb163) (o := .cells #[.slice A0_0 l0_0.length c0_0, .bool true] 42 (0, 0)) (by (with_reducible repeat (first | refine blk_drewN ?_ _ | refine blk_drew ?_ | refine blk_alloc ?_ _)); exact BK163.out) hb); have n3_ := Aside0.mk (below_step (by repeat (first | (with_reducible first | exact HB.out | apply below_alloc | apply pw_below_drewN | apply below_drew1 | refine below_set ?_ GE163.out) | exact HB.out)) hb); clear HO_5; clear BK163; clear HB; have HO_5 := n0_; have HO169 := n1_; have BK163 := n2_; have HB := n3_; clear n0_ n1_ n2_ n3_; (try clear hb); (try clear hb2); (try clear hk); (try clear hi); (try clear ho0)))
          go_roundg k1
          case measure => have := HK1.out; omega
          case rel => exact ⟨(t167), (wrap64 (x6_1 + 1)), (by first | rfl | (simp; done) | (simp [*]; done)), H', ⟨by have := HK1.out; omega⟩, ⟨by (with_reducible repeat (first | apply Kd.R_alloc | apply Kd.R_drewN | apply Kd.R_drew)); exact Kd.R_mono HO169.out (fun _ hk => trivial)⟩, ⟨by (with_reducible repeat (first | refine blk_drewN ?_ _ | refine blk_drew ?_ | refine blk_alloc ?_ _)); exact BK163.out⟩, ⟨by repeat (first | (with_reducible first | exact HB.out | apply below_alloc | apply pw_below_drewN | apply below_drew1 | refine below_set ?_ GE163.out) | exact HB.out)⟩⟩
        · replace c8 := Bool.eq_false_iff.mpr c8
          subst c8
          have H1 : (some x5_1) = some r := by rw [if_neg (show ¬ (false = true) by decide)] at H; exact H
          clear H
          have H := H1
          clear H1
          obtain rfl := Option.some.inj H
          have hcz13_0 : wr.cell? ⟨gb163, 0, none⟩ = some (.slice A0_0 l0_0.length c0_0) := (blk_cell BK163.out 0).trans rfl
          have hcz13_1 : wr.cell? ⟨gb163, 1, none⟩ = some (.bool false) := (blk_cell BK163.out 1).trans rfl
          have hfz13_0 := blk_frozen BK163.out 0
          have hfz13_1 := blk_frozen BK163.out 1
          go_wp2
          go_ret
          exact ⟨_, by first | rfl | (simp [errW_none, errW_some] <;> rfl) | (simp [*, errW_none, errW_some] <;> rfl), by (with_reducible repeat (first | apply Kd.R_alloc | apply Kd.R_drewN | apply Kd.R_drew)); exact HO_5.out, by repeat (first | (with_reducible first | exact HB.out | apply below_alloc | apply pw_below_drewN | apply below_drew1 | refine below_set ?_ GE163.out) | exact HB.out)⟩
      · rw [if_neg c7] at H
        have c7b0 : decide (x6_1 ≤ (a1.size : Int)) = false := decide_eq_false c7
        clear c7
        obtain rfl := Option.some.inj H
        go_wp2
        go_ret
        exact ⟨_, by first | rfl | (simp [errW_none, errW_some] <;> rfl) | (simp [*, errW_none, errW_some] <;> rfl), by (with_reducible repeat (first | apply Kd.R_alloc | apply Kd.R_drewN | apply Kd.R_drew)); exact HO_5.out, by repeat (first | (with_reducible first | exact HB.out | apply below_alloc | apply pw_below_drewN | apply below_drew1 | refine below_set ?_ GE163.out) | exact HB.out)⟩
mutual
def seineref17_Wrong.j0 : Nat → Int → Bool → List ByteArray → Bool → Option (Int)
  | 0, _, _, _, _ => none
  | k + 1, x0, x10, x171000, x171001 => if x10 = true then (some 11) else (if x0 = 2 then (if (x171000.length : Int) = 1 then (seineref17_Wrong.j1 k x0 x171001 x171000 x171001) else (seineref17_Wrong.j1 k x0 true x171000 x171001)) else (seineref17_Wrong.j1 k x0 false x171000 x171001))
def seineref17_Wrong.j1 : Nat → Int → Bool → List ByteArray → Bool → Option (Int)
  | 0, _, _, _, _ => none
  | k + 1, x0, x22, x171000, x171001 => if x22 = true then (some 13) else (if x0 = 1 then ((seineref06_Paths.f k x171000).bind fun t171 => (if (t171.length : Int) > 160 then (some 14) else (some 0))) else (some 0))
end
def seineref17_Wrong.f (k : Nat) (a0 : Int) (l1_0 : List ByteArray) (a1_1 : Bool) : Option (Int) := if a0 < 0 then (seineref17_Wrong.j0 k a0 true l1_0 a1_1) else (seineref17_Wrong.j0 k a0 (decide (a0 > 3)) l1_0 a1_1)
theorem seineref17_Wrong.mono_l : ∀ k, (∀ y0 y1 y2 y3, LeO (seineref17_Wrong.j0 k y0 y1 y2 y3) (seineref17_Wrong.j0 (k + 1) y0 y1 y2 y3)) ∧ (∀ y0 y1 y2 y3, LeO (seineref17_Wrong.j1 k y0 y1 y2 y3) (seineref17_Wrong.j1 (k + 1) y0 y1 y2 y3))
  | 0 => ⟨fun _ _ _ _ r h => by simp [seineref17_Wrong.j0] at h, fun _ _ _ _ r h => by simp [seineref17_Wrong.j1] at h⟩
  | k + 1 => by
    obtain ⟨ih0, ih1⟩ := seineref17_Wrong.mono_l k
    refine ⟨?_, ?_⟩
    · intro y0 y1 y2 y3
      unfold seineref17_Wrong.j0
      repeat' first
      | (with_reducible exact ih0 _ _ _ _)
      | (with_reducible exact ih1 _ _ _ _)
      | (with_reducible exact seineref06_Paths.mono _ _)
      | (with_reducible exact LeO.refl _)
      | (with_reducible exact LeO.none _)
      | (with_reducible refine LeO.ite ?_ ?_)
      | (with_reducible refine LeO.bind ?_ (fun _ => ?_))
      | exact ih0 _ _ _ _
      | exact ih1 _ _ _ _
      | exact seineref06_Paths.mono _ _
      | exact LeO.none _
      | refine LeO.ite ?_ ?_
      | refine LeO.bind ?_ (fun _ => ?_)
    · intro y0 y1 y2 y3
      unfold seineref17_Wrong.j1
      repeat' first
      | (with_reducible exact ih0 _ _ _ _)
      | (with_reducible exact ih1 _ _ _ _)
      | (with_reducible exact seineref06_Paths.mono _ _)
      | (with_reducible exact LeO.refl _)
      | (with_reducible exact LeO.none _)
      | (with_reducible refine LeO.ite ?_ ?_)
      | (with_reducible refine LeO.bind ?_ (fun _ => ?_))
      | exact ih0 _ _ _ _
      | exact ih1 _ _ _ _
      | exact seineref06_Paths.mono _ _
      | exact LeO.none _
      | refine LeO.ite ?_ ?_
      | refine LeO.bind ?_ (fun _ => ?_)
theorem seineref17_Wrong.mono : ∀ a0 a1 a2 k, LeO (seineref17_Wrong.f k a0 a1 a2) (seineref17_Wrong.f (k + 1) a0 a1 a2) := by
  intro a0 a1 a2 k
  obtain ⟨ih0, ih1⟩ := seineref17_Wrong.mono_l k
  unfold seineref17_Wrong.f
  repeat' first
      | (with_reducible exact ih0 _ _ _ _)
      | (with_reducible exact ih1 _ _ _ _)
      | (with_reducible exact seineref06_Paths.mono _ _)
      | (with_reducible exact LeO.refl _)
      | (with_reducible exact LeO.none _)
      | (with_reducible refine LeO.ite ?_ ?_)
      | (with_reducible refine LeO.bind ?_ (fun _ => ?_))
      | exact ih0 _ _ _ _
      | exact ih1 _ _ _ _
      | exact seineref06_Paths.mono _ _
      | exact LeO.none _
      | refine LeO.ite ?_ ?_
      | refine LeO.bind ?_ (fun _ => ?_)
set_option maxHeartbeats 8000000 in
set_option maxRecDepth 100000 in
theorem seineref17_Wrong.calls (k : Nat) (a0 : Int) (A1_0 : Option Addr) (c1_0 : Nat) (l1_0 : List ByteArray) (a1_1 : Bool) (r : Int) (w : World) (hr1_0 : Kd.C Kd.string w A1_0 l1_0.length l1_0) (hc1_0 : l1_0.length ≤ c1_0) (h : seineref17_Wrong.f k a0 l1_0 a1_1 = some r) :
    Calls Tryz.prog 16 #[.int .i64 a0, .agg #[.slice A1_0 l1_0.length c1_0, .bool a1_1]] w fun e w' => e = .returned (.int .i64 r) ∧ Below w.heap.size w w' := by
  have hu42 := Tryz.underlying42
  have HR1_0 := Aside0.mk hr1_0
  have HC1_0 := Aside0.mk hc1_0
  clear hr1_0 hc1_0
  have HB := Aside0.mk (Below.refl w.heap.size w)
  have H : (if a0 < 0 then (seineref17_Wrong.j0 k a0 true l1_0 a1_1) else (seineref17_Wrong.j0 k a0 (decide (a0 > 3)) l1_0 a1_1)) = some r := h
  clear h
  have HC3 := Aside0.mk H
  clear H
  go_enter Tryz.func16, Tryz.ntmps16
  go_upto_region 1 with (first | ((with_reducible refine gate_dst (N := 3) rfl ?_); (try (refine gate_guard (by rfl) ?_; dsimp only)); refine box_event ?hg (N := 3) ?hd (cs := #[.slice A1_0 l1_0.length c1_0, .bool a1_1]) (t := 42) ?hr ?_; (case hd => rfl); (case hg => rfl); (case hr => first | (go_simp; done) | (go_simp; rfl)); intro gb170 hg w4 hbox hb; have n0_ := Aside0.mk (below_step (by repeat (first | (with_reducible first | exact HB.out | apply below_alloc | apply pw_below_drewN | apply below_drew1) | exact HB.out)) hb); have n1_ := Aside0.mk (hbox); have n2_ := Aside0.mk ((by rw [hg]; exact (below_size (by repeat (first | (with_reducible first | exact HB.out | apply below_alloc | apply pw_below_drewN | apply below_drew1) | exact HB.out))) : w.heap.size ≤ gb170)); have n3_ := Aside0.mk ((by rw [hg]; exact (below_size (by repeat (first | (with_reducible first | exact HB.out | apply below_alloc | apply pw_below_drewN | apply below_drew1) | exact HB.out))) : w.heap.size ≤ gb170)); clear HB; have HB := n0_; have BK170 := n1_; have GW170 := n2_; have GE170 := n3_; clear n0_ n1_ n2_ n3_; clear hb hbox hg))
  (try simp only [Act.put, List.setIfInBounds_toArray, List.set_cons_zero, List.set_cons_succ])
  go_cut [10] (fun v10 wc => ∃ (kq : Nat) (x10_2 : Bool), v10 = .bool x10_2 ∧ Aside0 (seineref17_Wrong.j0 kq a0 x10_2 l1_0 a1_1 = some r) ∧ Aside0 (kq ≤ k) ∧ Aside0 (wc.heap[gb170]? = some (.cells #[(.slice A1_0 l1_0.length c1_0), .bool a1_1] 42 (0, 0))) ∧ Aside0 (Below w.heap.size w wc))
  case first =>
    have H := HC3.out
    clear HC3
    by_cases c5 : a0 < 0
    · rw [if_pos c5] at H
      have c5b0 : decide (a0 < 0) = true := decide_eq_true c5
      clear c5
      (first | rw [c5b0] | (simp only [i64_w, i32_w]; rw [c5b0]) | skip)
      have H' := Aside0.mk H
      clear H
      go_wp2
      go_meet
      case rel => exact ⟨_, (true), (by first | rfl | (simp; done) | (simp [*]; done)), H', ⟨by first | omega | exact Nat.le_refl _⟩, ⟨by (with_reducible repeat (first | refine blk_drewN ?_ _ | refine blk_drew ?_ | refine blk_alloc ?_ _)); exact BK170.out⟩, ⟨by repeat (first | (with_reducible first | exact HB.out | apply below_alloc | apply pw_below_drewN | apply below_drew1 | refine below_set ?_ GE170.out) | exact HB.out)⟩⟩
    · rw [if_neg c5] at H
      have c5b0 : decide (a0 < 0) = false := decide_eq_false c5
      clear c5
      (first | rw [c5b0] | (simp only [i64_w, i32_w]; rw [c5b0]) | skip)
      have H' := Aside0.mk H
      clear H
      go_wp2
      go_meet
      case rel => exact ⟨_, (decide (a0 > 3)), (by first | rfl | (simp; done) | (simp [*]; done)), H', ⟨by first | omega | exact Nat.le_refl _⟩, ⟨by (with_reducible repeat (first | refine blk_drewN ?_ _ | refine blk_drew ?_ | refine blk_alloc ?_ _)); exact BK170.out⟩, ⟨by repeat (first | (with_reducible first | exact HB.out | apply below_alloc | apply pw_below_drewN | apply below_drew1 | refine below_set ?_ GE170.out) | exact HB.out)⟩⟩
  case rest =>
    clear HC3
    try clear c1
    try clear p2
    try clear c5
    try clear c5b0
    obtain ⟨kq, x10_2, rfl, HA, HJ2, BK170, HB⟩ := hcut
    cases kq with
    | zero => exact absurd HA.out (by simp [seineref17_Wrong.j0])
    | succ kj2 =>
      have H := HA.out
      clear HA
      simp only [seineref17_Wrong.j0] at H
      by_cases c6 : x10_2 = true
      · subst c6
        have H1 : (some 11) = some r := by rw [if_pos rfl] at H; exact H
        clear H
        have H := H1
        clear H1
        obtain rfl := Option.some.inj H
        go_wp2
        go_ret
        exact ⟨by first | rfl | (simp [errW_none, errW_some] <;> rfl) | (simp [*, errW_none, errW_some] <;> rfl), by repeat (first | (with_reducible first | exact HB.out | apply below_alloc | apply pw_below_drewN | apply below_drew1 | refine below_set ?_ GE170.out) | exact HB.out)⟩
      · replace c6 := Bool.eq_false_iff.mpr c6
        subst c6
        have H1 : (if a0 = 2 then (if (l1_0.length : Int) = 1 then (seineref17_Wrong.j1 kj2 a0 a1_1 l1_0 a1_1) else (seineref17_Wrong.j1 kj2 a0 true l1_0 a1_1)) else (seineref17_Wrong.j1 kj2 a0 false l1_0 a1_1)) = some r := by rw [if_neg (show ¬ (false = true) by decide)] at H; exact H
        clear H
        have H := H1
        clear H1
        have HC7 := Aside0.mk H
        clear H
        go_upto_region 3 with (fail)
        go_cut [22] (fun v22 wc => ∃ (kq : Nat) (x22_6 : Bool), v22 = .bool x22_6 ∧ Aside0 (seineref17_Wrong.j1 kq a0 x22_6 l1_0 a1_1 = some r) ∧ Aside0 (kq ≤ kj2) ∧ Aside0 (wc.heap[gb170]? = some (.cells #[(.slice A1_0 l1_0.length c1_0), .bool a1_1] 42 (0, 0))) ∧ Aside0 (Below w.heap.size w wc))
        case first =>
          have H := HC7.out
          clear HC7
          by_cases c8 : a0 = 2
          · rw [if_pos c8] at H
            have c8b0 : (a0 == 2) = true := beq_iff_eq.mpr c8
            have c8b1 : (a0 != 2) = false := bne_eq_false_iff_eq.mpr c8
            clear c8
            (first | rw [c8b0] | (simp only [i64_w, i32_w]; rw [c8b0]) | skip)
            by_cases c9 : (l1_0.length : Int) = 1
            · rw [if_pos c9] at H
              have c9b0 : ((l1_0.length : Int) == 1) = true := beq_iff_eq.mpr c9
              have c9b1 : ((l1_0.length : Int) != 1) = false := bne_eq_false_iff_eq.mpr c9
              clear c9
              have H' := Aside0.mk H
              clear H
              have hcz10_0 : wc.cell? ⟨gb170, 0, none⟩ = some (.slice A1_0 l1_0.length c1_0) := (blk_cell BK170.out 0).trans rfl
              have hcz10_1 : wc.cell? ⟨gb170, 1, none⟩ = some (.bool a1_1) := (blk_cell BK170.out 1).trans rfl
              have hfz10_0 := blk_frozen BK170.out 0
              have hfz10_1 := blk_frozen BK170.out 1
              go_wp2
              go_meet
              case rel => exact ⟨_, (a1_1), (by first | rfl | (simp; done) | (simp [*]; done)), H', ⟨by have := HJ2.out; first | omega | exact Nat.le_refl _⟩, ⟨by (with_reducible repeat (first | refine blk_drewN ?_ _ | refine blk_drew ?_ | refine blk_alloc ?_ _)); exact BK170.out⟩, ⟨by repeat (first | (with_reducible first | exact HB.out | apply below_alloc | apply pw_below_drewN | apply below_drew1 | refine below_set ?_ GE170.out) | exact HB.out)⟩⟩
            · rw [if_neg c9] at H
              have c9b0 : ((l1_0.length : Int) == 1) = false := beq_eq_false_iff_ne.mpr c9
              have c9b1 : ((l1_0.length : Int) != 1) = true := bne_iff_ne.mpr c9
              have H' := Aside0.mk H
              clear H
              have hcz11_0 : wc.cell? ⟨gb170, 0, none⟩ = some (.slice A1_0 l1_0.length c1_0) := (blk_cell BK170.out 0).trans rfl
              have hcz11_1 : wc.cell? ⟨gb170, 1, none⟩ = some (.bool a1_1) := (blk_cell BK170.out 1).trans rfl
              have hfz11_0 := blk_frozen BK170.out 0
              have hfz11_1 := blk_frozen BK170.out 1
              go_wp2
              go_meet
              case rel => exact ⟨_, (true), (by first | rfl | (simp; done) | (simp [*]; done)), H', ⟨by have := HJ2.out; first | omega | exact Nat.le_refl _⟩, ⟨by (with_reducible repeat (first | refine blk_drewN ?_ _ | refine blk_drew ?_ | refine blk_alloc ?_ _)); exact BK170.out⟩, ⟨by repeat (first | (with_reducible first | exact HB.out | apply below_alloc | apply pw_below_drewN | apply below_drew1 | refine below_set ?_ GE170.out) | exact HB.out)⟩⟩
          · rw [if_neg c8] at H
            have c8b0 : (a0 == 2) = false := beq_eq_false_iff_ne.mpr c8
            have c8b1 : (a0 != 2) = true := bne_iff_ne.mpr c8
            (first | rw [c8b0] | (simp only [i64_w, i32_w]; rw [c8b0]) | skip)
            have H' := Aside0.mk H
            clear H
            go_wp2
            go_meet
            case rel => exact ⟨_, (false), (by first | rfl | (simp; done) | (simp [*]; done)), H', ⟨by have := HJ2.out; first | omega | exact Nat.le_refl _⟩, ⟨by (with_reducible repeat (first | refine blk_drewN ?_ _ | refine blk_drew ?_ | refine blk_alloc ?_ _)); exact BK170.out⟩, ⟨by repeat (first | (with_reducible first | exact HB.out | apply below_alloc | apply pw_below_drewN | apply below_drew1 | refine below_set ?_ GE170.out) | exact HB.out)⟩⟩
        case rest =>
          clear HC7
          try clear c1
          try clear p2
          try clear c5
          try clear c5b0
          try clear c6
          try clear c8
          try clear c8b0
          try clear c8b1
          try clear c9
          try clear c9b0
          try clear c9b1
          try clear hcz10_0
          try clear hcz10_1
          try clear hcz11_0
          try clear hcz11_1
          try clear hfz10_0
          try clear hfz10_1
          try clear hfz11_0
          try clear hfz11_1
          try clear p2
          obtain ⟨kq, x22_6, rfl, HA, HJ6, BK170, HB⟩ := hcut
          cases kq with
          | zero => exact absurd HA.out (by simp [seineref17_Wrong.j1])
          | succ kj6 =>
            have H := HA.out
            clear HA
            simp only [seineref17_Wrong.j1] at H
            by_cases c12 : x22_6 = true
            · subst c12
              have H1 : (some 13) = some r := by rw [if_pos rfl] at H; exact H
              clear H
              have H := H1
              clear H1
              obtain rfl := Option.some.inj H
              go_wp2
              go_ret
              exact ⟨by first | rfl | (simp [errW_none, errW_some] <;> rfl) | (simp [*, errW_none, errW_some] <;> rfl), by repeat (first | (with_reducible first | exact HB.out | apply below_alloc | apply pw_below_drewN | apply below_drew1 | refine below_set ?_ GE170.out) | exact HB.out)⟩
            · replace c12 := Bool.eq_false_iff.mpr c12
              subst c12
              have H1 : (if a0 = 1 then ((seineref06_Paths.f kj6 l1_0).bind fun t171 => (if (t171.length : Int) > 160 then (some 14) else (some 0))) else (some 0)) = some r := by rw [if_neg (show ¬ (false = true) by decide)] at H; exact H
              clear H
              have H := H1
              clear H1
              by_cases c13 : a0 = 1
              · rw [if_pos c13] at H
                have c13b0 : (a0 == 1) = true := beq_iff_eq.mpr c13
                have c13b1 : (a0 != 1) = false := bne_eq_false_iff_eq.mpr c13
                clear c13
                replace H := Option.bind_eq_some_iff.mp H
                obtain ⟨t171, A140, H⟩ := H
                replace H : (if (t171.length : Int) > 160 then (some 14) else (some 0)) = some r := H
                have A14 := Aside0.mk A140
                clear A140
                by_cases c15 : (t171.length : Int) > 160
                · rw [if_pos c15] at H
                  have c15b0 : decide (160 < (t171.length : Int)) = true := decide_eq_true c15
                  have c15b1 : decide (160 < t171.length) = true := decide_eq_true (by omega)
                  clear c15
                  obtain rfl := Option.some.inj H
                  have hcz16_0 : wc.cell? ⟨gb170, 0, none⟩ = some (.slice A1_0 l1_0.length c1_0) := (blk_cell BK170.out 0).trans rfl
                  have hcz16_1 : wc.cell? ⟨gb170, 1, none⟩ = some (.bool a1_1) := (blk_cell BK170.out 1).trans rfl
                  have hfz16_0 := blk_frozen BK170.out 0
                  have hfz16_1 := blk_frozen BK170.out 1
                  go_wp2_with (first | (go_at_call 37; (with_reducible refine (seineref06_Paths.calls kj6 _ _ l1_0 t171 _ ?side1 ?side2 A14.out).mono ?_); (case side1 => repeat (first | exact (Kd.C_below HR1_0.out HB.out) | (with_reducible refine Kd.C_alloc ?_ _) | (with_reducible refine Kd.C_drewN ?_ _) | (with_reducible refine Kd.C_drew ?_))); (case side2 => exact HC1_0.out); rintro e w17 ⟨v172, rfl, ho0, hb⟩; have n0_ := Aside0.mk (Kd.R_lower ho0 (below_size (by repeat (first | (with_reducible first | exact HB.out | apply below_alloc | apply pw_below_drewN | apply below_drew1 | refine below_set ?_ GE170.out) | exact HB.out)))); have n1_ := Aside0.mk (blk_below (g := gb170) (o := .cells #[.slice A1_0 l1_0.length c1_0, .bool a1_1] 42 (0, 0)) (by (with_reducible repeat (first | refine blk_drewN ?_ _ | refine blk_drew ?_ | refine blk_alloc ?_ _)); exact BK170.out) hb); have n2_ := Aside0.mk (below_step (by repeat (first | (with_reducible first | exact HB.out | apply below_alloc | apply pw_below_drewN | apply below_drew1 | refine below_set ?_ GE170.out) | exact HB.out)) hb); clear BK170; clear HB; have HO173 := n0_; have BK170 := n1_; have HB := n2_; clear n0_ n1_ n2_; (try clear hb); (try clear hb2); (try clear hk); (try clear hi); (try clear ho0); obtain ⟨Ao18, co18, eo18⟩ := Kd.R_slice HO173.out; subst eo18))
                  go_ret
                  exact ⟨by first | rfl | (simp [errW_none, errW_some] <;> rfl) | (simp [*, errW_none, errW_some] <;> rfl), by repeat (first | (with_reducible first | exact HB.out | apply below_alloc | apply pw_below_drewN | apply below_drew1 | refine below_set ?_ GE170.out) | exact HB.out)⟩
                · rw [if_neg c15] at H
                  have c15b0 : decide (160 < (t171.length : Int)) = false := decide_eq_false c15
                  have c15b1 : decide (160 < t171.length) = false := decide_eq_false (by omega)
                  clear c15
                  obtain rfl := Option.some.inj H
                  have hcz19_0 : wc.cell? ⟨gb170, 0, none⟩ = some (.slice A1_0 l1_0.length c1_0) := (blk_cell BK170.out 0).trans rfl
                  have hcz19_1 : wc.cell? ⟨gb170, 1, none⟩ = some (.bool a1_1) := (blk_cell BK170.out 1).trans rfl
                  have hfz19_0 := blk_frozen BK170.out 0
                  have hfz19_1 := blk_frozen BK170.out 1
                  go_wp2_with (first | (go_at_call 37; (with_reducible refine (seineref06_Paths.calls kj6 _ _ l1_0 t171 _ ?side1 ?side2 A14.out).mono ?_); (case side1 => repeat (first | exact (Kd.C_below HR1_0.out HB.out) | (with_reducible refine Kd.C_alloc ?_ _) | (with_reducible refine Kd.C_drewN ?_ _) | (with_reducible refine Kd.C_drew ?_))); (case side2 => exact HC1_0.out); rintro e w20 ⟨v172, rfl, ho0, hb⟩; have n0_ := Aside0.mk (Kd.R_lower ho0 (below_size (by repeat (first | (with_reducible first | exact HB.out | apply below_alloc | apply pw_below_drewN | apply below_drew1 | refine below_set ?_ GE170.out) | exact HB.out)))); have n1_ := Aside0.mk (blk_below (g := gb170) (o := .cells #[.slice A1_0 l1_0.length c1_0, .bool a1_1] 42 (0, 0)) (by (with_reducible repeat (first | refine blk_drewN ?_ _ | refine blk_drew ?_ | refine blk_alloc ?_ _)); exact BK170.out) hb); have n2_ := Aside0.mk (below_step (by repeat (first | (with_reducible first | exact HB.out | apply below_alloc | apply pw_below_drewN | apply below_drew1 | refine below_set ?_ GE170.out) | exact HB.out)) hb); clear BK170; clear HB; have HO173 := n0_; have BK170 := n1_; have HB := n2_; clear n0_ n1_ n2_; (try clear hb); (try clear hb2); (try clear hk); (try clear hi); (try clear ho0); obtain ⟨Ao21, co21, eo21⟩ := Kd.R_slice HO173.out; subst eo21))
                  go_ret
                  exact ⟨by first | rfl | (simp [errW_none, errW_some] <;> rfl) | (simp [*, errW_none, errW_some] <;> rfl), by repeat (first | (with_reducible first | exact HB.out | apply below_alloc | apply pw_below_drewN | apply below_drew1 | refine below_set ?_ GE170.out) | exact HB.out)⟩
              · rw [if_neg c13] at H
                have c13b0 : (a0 == 1) = false := beq_eq_false_iff_ne.mpr c13
                have c13b1 : (a0 != 1) = true := bne_iff_ne.mpr c13
                obtain rfl := Option.some.inj H
                go_wp2
                go_ret
                exact ⟨by first | rfl | (simp [errW_none, errW_some] <;> rfl) | (simp [*, errW_none, errW_some] <;> rfl), by repeat (first | (with_reducible first | exact HB.out | apply below_alloc | apply pw_below_drewN | apply below_drew1 | refine below_set ?_ GE170.out) | exact HB.out)⟩
def seineref17_Counts.j0 : Nat → Int → ByteArray → Bool → List ByteArray → Bool → Option (Int × Int)
  | 0, _, _, _, _, _ => none
  | k + 1, x0, x2, x15, x175000, x175001 => if x15 = true then (some (0, 0)) else (if x0 = 1 then (some ((x2.size : Int), (x2.size : Int))) else ((seineref06_Paths.f k x175000).bind fun t175 => ((seineref08_Looks.f k t175 x2).bind fun t178 => (some ((x2.size : Int), t178)))))
def seineref17_Counts.f (k : Nat) (a0 : Int) (l1_0 : List ByteArray) (a1_1 : Bool) (a2 : ByteArray) : Option (Int × Int) := if (l1_0.length : Int) = 0 then (seineref17_Counts.j0 k a0 a2 true l1_0 a1_1) else (seineref17_Counts.j0 k a0 a2 (decide (a0 > 1)) l1_0 a1_1)
theorem seineref17_Counts.mono_l : ∀ k, (∀ y0 y1 y2 y3 y4, LeO (seineref17_Counts.j0 k y0 y1 y2 y3 y4) (seineref17_Counts.j0 (k + 1) y0 y1 y2 y3 y4))
  | 0 => fun _ _ _ _ _ r h => by simp [seineref17_Counts.j0] at h
  | k + 1 => by
    have ih0 := seineref17_Counts.mono_l k
    · intro y0 y1 y2 y3 y4
      unfold seineref17_Counts.j0
      repeat' first
      | (with_reducible exact ih0 _ _ _ _ _)
      | (with_reducible exact seineref06_Paths.mono _ _)
      | (with_reducible exact seineref08_Looks.mono _ _ _)
      | (with_reducible exact LeO.refl _)
      | (with_reducible exact LeO.none _)
      | (with_reducible refine LeO.ite ?_ ?_)
      | (with_reducible refine LeO.bind ?_ (fun _ => ?_))
      | exact ih0 _ _ _ _ _
      | exact seineref06_Paths.mono _ _
      | exact seineref08_Looks.mono _ _ _
      | exact LeO.none _
      | refine LeO.ite ?_ ?_
      | refine LeO.bind ?_ (fun _ => ?_)
theorem seineref17_Counts.mono : ∀ a0 a1 a2 a3 k, LeO (seineref17_Counts.f k a0 a1 a2 a3) (seineref17_Counts.f (k + 1) a0 a1 a2 a3) := by
  intro a0 a1 a2 a3 k
  have ih0 := seineref17_Counts.mono_l k
  unfold seineref17_Counts.f
  repeat' first
      | (with_reducible exact ih0 _ _ _ _ _)
      | (with_reducible exact seineref06_Paths.mono _ _)
      | (with_reducible exact seineref08_Looks.mono _ _ _)
      | (with_reducible exact LeO.refl _)
      | (with_reducible exact LeO.none _)
      | (with_reducible refine LeO.ite ?_ ?_)
      | (with_reducible refine LeO.bind ?_ (fun _ => ?_))
      | exact ih0 _ _ _ _ _
      | exact seineref06_Paths.mono _ _
      | exact seineref08_Looks.mono _ _ _
      | exact LeO.none _
      | refine LeO.ite ?_ ?_
      | refine LeO.bind ?_ (fun _ => ?_)
set_option maxHeartbeats 8000000 in
set_option maxRecDepth 100000 in
theorem seineref17_Counts.calls (k : Nat) (a0 : Int) (A1_0 : Option Addr) (c1_0 : Nat) (l1_0 : List ByteArray) (a1_1 : Bool) (a2 : ByteArray) (r1 : Int) (r2 : Int) (w : World) (hr1_0 : Kd.C Kd.string w A1_0 l1_0.length l1_0) (hc1_0 : l1_0.length ≤ c1_0) (h : seineref17_Counts.f k a0 l1_0 a1_1 a2 = some (r1, r2)) :
    Calls Tryz.prog 21 #[.int .i64 a0, .agg #[.slice A1_0 l1_0.length c1_0, .bool a1_1], .string a2] w fun e w' => e = .returned (.tuple #[.int .i64 r1, .int .i64 r2]) ∧ Below w.heap.size w w' := by
  have hu42 := Tryz.underlying42
  have HR1_0 := Aside0.mk hr1_0
  have HC1_0 := Aside0.mk hc1_0
  clear hr1_0 hc1_0
  have HB := Aside0.mk (Below.refl w.heap.size w)
  have H : (if (l1_0.length : Int) = 0 then (seineref17_Counts.j0 k a0 a2 true l1_0 a1_1) else (seineref17_Counts.j0 k a0 a2 (decide (a0 > 1)) l1_0 a1_1)) = some (r1, r2) := h
  clear h
  have HC4 := Aside0.mk H
  clear H
  go_enter Tryz.func21, Tryz.ntmps21
  go_upto_region 1 with (first | ((with_reducible refine gate_dst (N := 4) rfl ?_); refine box_event ?hg (N := 4) ?hd (cs := #[.slice A1_0 l1_0.length c1_0, .bool a1_1]) (t := 42) ?hr ?_; (case hd => rfl); (case hg => rfl); (case hr => first | (go_simp; done) | (go_simp; rfl)); intro gb174 hg w5 hbox hb; have n0_ := Aside0.mk (below_step (by repeat (first | (with_reducible first | exact HB.out | apply below_alloc | apply pw_below_drewN | apply below_drew1) | exact HB.out)) hb); have n1_ := Aside0.mk (hbox); have n2_ := Aside0.mk ((by rw [hg]; exact (below_size (by repeat (first | (with_reducible first | exact HB.out | apply below_alloc | apply pw_below_drewN | apply below_drew1) | exact HB.out))) : w.heap.size ≤ gb174)); have n3_ := Aside0.mk ((by rw [hg]; exact (below_size (by repeat (first | (with_reducible first | exact HB.out | apply below_alloc | apply pw_below_drewN | apply below_drew1) | exact HB.out))) : w.heap.size ≤ gb174)); clear HB; have HB := n0_; have BK174 := n1_; have GW174 := n2_; have GE174 := n3_; clear n0_ n1_ n2_ n3_; clear hb hbox hg))
  (try simp only [Act.put, List.setIfInBounds_toArray, List.set_cons_zero, List.set_cons_succ])
  go_cut [15] (fun v15 wc => ∃ (kq : Nat) (x15_3 : Bool), v15 = .bool x15_3 ∧ Aside0 (seineref17_Counts.j0 kq a0 a2 x15_3 l1_0 a1_1 = some (r1, r2)) ∧ Aside0 (kq ≤ k) ∧ Aside0 (wc.heap[gb174]? = some (.cells #[(.slice A1_0 l1_0.length c1_0), .bool a1_1] 42 (0, 0))) ∧ Aside0 (Below w.heap.size w wc))
  case first =>
    have H := HC4.out
    clear HC4
    by_cases c6 : (l1_0.length : Int) = 0
    · rw [if_pos c6] at H
      have c6b0 : ((l1_0.length : Int) == 0) = true := beq_iff_eq.mpr c6
      have c6b1 : ((l1_0.length : Int) != 0) = false := bne_eq_false_iff_eq.mpr c6
      clear c6
      (first | rw [c6b0] | (simp only [i64_w, i32_w]; rw [c6b0]) | skip)
      have H' := Aside0.mk H
      clear H
      have hcz7_0 : w5.cell? ⟨gb174, 0, none⟩ = some (.slice A1_0 l1_0.length c1_0) := (blk_cell BK174.out 0).trans rfl
      have hcz7_1 : w5.cell? ⟨gb174, 1, none⟩ = some (.bool a1_1) := (blk_cell BK174.out 1).trans rfl
      have hfz7_0 := blk_frozen BK174.out 0
      have hfz7_1 := blk_frozen BK174.out 1
      go_wp2
      go_meet
      case rel => exact ⟨_, (true), (by first | rfl | (simp; done) | (simp [*]; done)), H', ⟨by first | omega | exact Nat.le_refl _⟩, ⟨by (with_reducible repeat (first | refine blk_drewN ?_ _ | refine blk_drew ?_ | refine blk_alloc ?_ _)); exact BK174.out⟩, ⟨by repeat (first | (with_reducible first | exact HB.out | apply below_alloc | apply pw_below_drewN | apply below_drew1 | refine below_set ?_ GE174.out) | exact HB.out)⟩⟩
    · rw [if_neg c6] at H
      have c6b0 : ((l1_0.length : Int) == 0) = false := beq_eq_false_iff_ne.mpr c6
      have c6b1 : ((l1_0.length : Int) != 0) = true := bne_iff_ne.mpr c6
      have c6b2 : ¬ (l1_0 = []) := fun h_ => c6 (by rw [h_]; rfl)
      (first | rw [c6b0] | (simp only [i64_w, i32_w]; rw [c6b0]) | skip)
      have H' := Aside0.mk H
      clear H
      have hcz8_0 : w5.cell? ⟨gb174, 0, none⟩ = some (.slice A1_0 l1_0.length c1_0) := (blk_cell BK174.out 0).trans rfl
      have hcz8_1 : w5.cell? ⟨gb174, 1, none⟩ = some (.bool a1_1) := (blk_cell BK174.out 1).trans rfl
      have hfz8_0 := blk_frozen BK174.out 0
      have hfz8_1 := blk_frozen BK174.out 1
      go_wp2
      go_meet
      case rel => exact ⟨_, (decide (a0 > 1)), (by first | rfl | (simp; done) | (simp [*]; done)), H', ⟨by first | omega | exact Nat.le_refl _⟩, ⟨by (with_reducible repeat (first | refine blk_drewN ?_ _ | refine blk_drew ?_ | refine blk_alloc ?_ _)); exact BK174.out⟩, ⟨by repeat (first | (with_reducible first | exact HB.out | apply below_alloc | apply pw_below_drewN | apply below_drew1 | refine below_set ?_ GE174.out) | exact HB.out)⟩⟩
  case rest =>
    clear HC4
    try clear c1
    try clear c2
    try clear p2
    try clear c6
    try clear c6b0
    try clear c6b1
    try clear c6b2
    try clear hcz7_0
    try clear hcz7_1
    try clear hcz8_0
    try clear hcz8_1
    try clear hfz7_0
    try clear hfz7_1
    try clear hfz8_0
    try clear hfz8_1
    obtain ⟨kq, x15_3, rfl, HA, HJ3, BK174, HB⟩ := hcut
    cases kq with
    | zero => exact absurd HA.out (by simp [seineref17_Counts.j0])
    | succ kj3 =>
      have H := HA.out
      clear HA
      simp only [seineref17_Counts.j0] at H
      by_cases c9 : x15_3 = true
      · subst c9
        have H1 : (some (0, 0)) = some (r1, r2) := by rw [if_pos rfl] at H; exact H
        clear H
        have H := H1
        clear H1
        simp only [Option.some.injEq, Prod.mk.injEq] at H
        obtain ⟨rfl, rfl⟩ := H
        go_wp2
        go_ret2
        exact ⟨by first | rfl | (simp [errW_none, errW_some] <;> rfl) | (simp [*, errW_none, errW_some] <;> rfl), by repeat (first | (with_reducible first | exact HB.out | apply below_alloc | apply pw_below_drewN | apply below_drew1 | refine below_set ?_ GE174.out) | exact HB.out)⟩
      · replace c9 := Bool.eq_false_iff.mpr c9
        subst c9
        have H1 : (if a0 = 1 then (some ((a2.size : Int), (a2.size : Int))) else ((seineref06_Paths.f kj3 l1_0).bind fun t175 => ((seineref08_Looks.f kj3 t175 a2).bind fun t178 => (some ((a2.size : Int), t178))))) = some (r1, r2) := by rw [if_neg (show ¬ (false = true) by decide)] at H; exact H
        clear H
        have H := H1
        clear H1
        by_cases c10 : a0 = 1
        · rw [if_pos c10] at H
          have c10b0 : (a0 == 1) = true := beq_iff_eq.mpr c10
          have c10b1 : (a0 != 1) = false := bne_eq_false_iff_eq.mpr c10
          clear c10
          simp only [Option.some.injEq, Prod.mk.injEq] at H
          obtain ⟨rfl, rfl⟩ := H
          go_wp2
          go_ret2
          exact ⟨by first | rfl | (simp [errW_none, errW_some] <;> rfl) | (simp [*, errW_none, errW_some] <;> rfl), by repeat (first | (with_reducible first | exact HB.out | apply below_alloc | apply pw_below_drewN | apply below_drew1 | refine below_set ?_ GE174.out) | exact HB.out)⟩
        · rw [if_neg c10] at H
          have c10b0 : (a0 == 1) = false := beq_eq_false_iff_ne.mpr c10
          have c10b1 : (a0 != 1) = true := bne_iff_ne.mpr c10
          replace H := Option.bind_eq_some_iff.mp H
          obtain ⟨t175, A110, H⟩ := H
          replace H : ((seineref08_Looks.f kj3 t175 a2).bind fun t178 => (some ((a2.size : Int), t178))) = some (r1, r2) := H
          have A11 := Aside0.mk A110
          clear A110
          replace H := Option.bind_eq_some_iff.mp H
          obtain ⟨t178, A120, H⟩ := H
          replace H : (some ((a2.size : Int), t178)) = some (r1, r2) := H
          have A12 := Aside0.mk A120
          clear A120
          simp only [Option.some.injEq, Prod.mk.injEq] at H
          obtain ⟨rfl, rfl⟩ := H
          have hcz13_0 : wc.cell? ⟨gb174, 0, none⟩ = some (.slice A1_0 l1_0.length c1_0) := (blk_cell BK174.out 0).trans rfl
          have hcz13_1 : wc.cell? ⟨gb174, 1, none⟩ = some (.bool a1_1) := (blk_cell BK174.out 1).trans rfl
          have hfz13_0 := blk_frozen BK174.out 0
          have hfz13_1 := blk_frozen BK174.out 1
          go_wp2_with (first | ((with_reducible refine gate_callee (f := 37) rfl ?_); refine goesL_ (some 26) rfl rfl Tryz.func37 (by kernel_rfl) rfl #[.slice A1_0 l1_0.length c1_0] rfl (by (try simp only [List.map_toArray, List.map_cons, List.map_nil]); first | done | rfl | (simp only [List.length_drop, List.length_take]; rfl)) ?_; (with_reducible refine (seineref06_Paths.calls kj3 _ _ l1_0 t175 _ ?side1 ?side2 A11.out).mono ?_); (case side1 => repeat (first | exact (Kd.C_below HR1_0.out HB.out) | (with_reducible refine Kd.C_alloc ?_ _) | (with_reducible refine Kd.C_drewN ?_ _) | (with_reducible refine Kd.C_drew ?_))); (case side2 => exact HC1_0.out); rintro e w14 ⟨v176, rfl, ho0, hb⟩; refine ⟨_, rfl, ?_⟩; have n0_ := Aside0.mk (Kd.R_lower ho0 (below_size (by repeat (first | (with_reducible first | exact HB.out | apply below_alloc | apply pw_below_drewN | apply below_drew1 | refine below_set ?_ GE174.out) | exact HB.out)))); have n1_ := Aside0.mk (blk_below (g := gb174) (o := .cells #[.slice A1_0 l1_0.length c1_0, .bool a1_1] 42 (0, 0)) (by (with_reducible repeat (first | refine blk_drewN ?_ _ | refine blk_drew ?_ | refine blk_alloc ?_ _)); exact BK174.out) hb); have n2_ := Aside0.mk (below_step (by repeat (first | (with_reducible first | exact HB.out | apply below_alloc | apply pw_below_drewN | apply below_drew1 | refine below_set ?_ GE174.out) | exact HB.out)) hb); clear BK174; clear HB; have HO177 := n0_; have BK174 := n1_; have HB := n2_; clear n0_ n1_ n2_; (try clear hb); (try clear hb2); (try clear hk); (try clear hi); (try clear ho0); obtain ⟨Ao15, co15, eo15⟩ := Kd.R_slice HO177.out; subst eo15) | ((with_reducible refine gate_callee (f := 38) rfl ?_); refine goesL_ (some 28) rfl rfl Tryz.func38 (by kernel_rfl) rfl #[.slice Ao15 t175.length co15, .string a2] rfl (by (try simp only [List.map_toArray, List.map_cons, List.map_nil]); first | done | rfl | (simp only [List.length_drop, List.length_take]; rfl)) ?_; (with_reducible refine (seineref08_Looks.calls kj3 _ _ t175 a2 t178 _ ?side1 ?side2 A12.out).mono ?_); (case side1 => repeat (first | exact (Kd.R_reads' HO177.out).2.2 | (with_reducible refine Kd.C_alloc ?_ _) | (with_reducible refine Kd.C_drewN ?_ _) | (with_reducible refine Kd.C_drew ?_))); (case side2 => exact (Kd.R_reads' HO177.out).2.1); rintro e w16 ⟨rfl, hb⟩; refine ⟨_, rfl, ?_⟩; have n0_ := Aside0.mk (Kd.R_below (by (with_reducible repeat (first | apply Kd.R_alloc | apply Kd.R_drewN | apply Kd.R_drew)); exact HO177.out) hb); have n1_ := Aside0.mk (blk_below (g := gb174) (o := .cells #[.slice A1_0 l1_0.length c1_0, .bool a1_1] 42 (0, 0)) (by (with_reducible repeat (first | refine blk_drewN ?_ _ | refine blk_drew ?_ | refine blk_alloc ?_ _)); exact BK174.out) hb); have n2_ := Aside0.mk (below_step (by repeat (first | (with_reducible first | exact HB.out | apply below_alloc | apply pw_below_drewN | apply below_drew1 | refine below_set ?_ GE174.out) | exact HB.out)) hb); clear HO177; clear BK174; clear HB; have HO177 := n0_; have BK174 := n1_; have HB := n2_; clear n0_ n1_ n2_; (try clear hb); (try clear hb2); (try clear hk); (try clear hi)))
          go_ret2
          exact ⟨by first | rfl | (simp [errW_none, errW_some] <;> rfl) | (simp [*, errW_none, errW_some] <;> rfl), by repeat (first | (with_reducible first | exact HB.out | apply below_alloc | apply pw_below_drewN | apply below_drew1 | refine below_set ?_ GE174.out) | exact HB.out)⟩
end Go.Proofs.YtdiljmhikajjiaaGreat.Ref
end
section
namespace Go.Proofs.YtdiljmhikajjiaaGreat.Ref
open Go.RowKit Go.Proofs.YtdiljmhikajjiaaGreatW.PrintWords Go.Proofs.YtdiljmhikajjiaaGreatW.PrintLast Go.Proofs.YtdiljmhikajjiaaGreatW.PrintMore
attribute [local go_sem] max2_int min2_int max_two min_two max_three min_three max_four min_four   -- for this text's walks alone
def seinelaw17_texts.l0 : Nat → List (List Int) → List ByteArray → Int → Option (List ByteArray × Bool)
  | 0, _, _, _ => none
  | k + 1, x0, x4, x5 => if x5 < (x0.length : Int) then (if 0 ≤ x5 then (if ((rd_L4 x0 x5).length : Int) > 40 then (some (([] : List ByteArray), false)) else (if x4.length < 8796093022208 then (seinelaw17_texts.l0 k x0 (x4 ++ [strOfNums (rd_L4 x0 x5)]) (wrap64 (x5 + 1))) else (none))) else (none)) else (some (x4, decide ((x0.length : Int) ≤ 12)))
def seinelaw17_texts.f (k : Nat) (l0 : List (List Int)) : Option (List ByteArray × Bool) := seinelaw17_texts.l0 k l0 ([] : List ByteArray) 0
theorem seinelaw17_texts.mono_l : ∀ k, (∀ y0 y1 y2, LeO (seinelaw17_texts.l0 k y0 y1 y2) (seinelaw17_texts.l0 (k + 1) y0 y1 y2))
  | 0 => fun _ _ _ r h => by simp [seinelaw17_texts.l0] at h
  | k + 1 => by
    have ih0 := seinelaw17_texts.mono_l k
    · intro y0 y1 y2
      unfold seinelaw17_texts.l0
      repeat' first
      | (with_reducible exact ih0 _ _ _)
      | (with_reducible exact LeO.refl _)
      | (with_reducible exact LeO.none _)
      | (with_reducible refine LeO.ite ?_ ?_)
      | (with_reducible refine LeO.bind ?_ (fun _ => ?_))
      | exact ih0 _ _ _
      | exact LeO.none _
      | refine LeO.ite ?_ ?_
      | refine LeO.bind ?_ (fun _ => ?_)
theorem seinelaw17_texts.mono : ∀ a0 k, LeO (seinelaw17_texts.f k a0) (seinelaw17_texts.f (k + 1) a0) := by
  intro a0 k
  have ih0 := seinelaw17_texts.mono_l k
  unfold seinelaw17_texts.f
  repeat' first
      | (with_reducible exact ih0 _ _ _)
      | (with_reducible exact LeO.refl _)
      | (with_reducible exact LeO.none _)
      | (with_reducible refine LeO.ite ?_ ?_)
      | (with_reducible refine LeO.bind ?_ (fun _ => ?_))
      | exact ih0 _ _ _
      | exact LeO.none _
      | refine LeO.ite ?_ ?_
      | refine LeO.bind ?_ (fun _ => ?_)
set_option maxHeartbeats 8000000 in
set_option maxRecDepth 100000 in
theorem seinelaw17_texts.calls (k : Nat) (A0 : Option Addr) (c0 : Nat) (l0 : List (List Int)) (r1 : List ByteArray) (r2 : Bool) (w : World) (hr0 : Kd.C (Kd.slice 5 (Kd.int .u8)) w A0 l0.length l0) (hc0 : l0.length ≤ c0) (h : seinelaw17_texts.f k l0 = some (r1, r2)) :
    Calls Tryz.prog 9 #[.slice A0 l0.length c0] w fun e w' => ∃ v0_ : Value, e = .returned (.tuple #[v0_, .bool r2]) ∧ Kd.R Kd.string 9 w' w.heap.size (fun _ => True) v0_ r1 ∧ Below w.heap.size w w' := by
  have HR0 := Aside0.mk hr0
  have HC0 := Aside0.mk hc0
  clear hr0 hc0
  have HB := Aside0.mk (Below.refl w.heap.size w)
  have H : (seinelaw17_texts.l0 k l0 ([] : List ByteArray) 0) = some (r1, r2) := h
  clear h
  have H' := Aside0.mk H
  clear H
  go_enter Tryz.func9, Tryz.ntmps9
  go_wp2
  go_loopg [4, 5] k (fun kq v4 v5 w' => ∃ (x4_1 : List ByteArray) (x5_1 : Int), v5 = .int .i64 x5_1 ∧ Aside0 (seinelaw17_texts.l0 kq l0 x4_1 x5_1 = some (r1, r2)) ∧ Aside0 (kq ≤ k) ∧ Aside0 (Kd.R Kd.string 9 w' w.heap.size (fun _ => True) v4 x4_1) ∧ Aside0 (Below w.heap.size w w'))
  case atStart => exact ⟨(([] : List ByteArray)), (0), (by first | rfl | (simp; done) | (simp [*]; done)), H', ⟨Nat.le_refl _⟩, ⟨by first | exact Kd.R_nil _ _ _ _ _ | exact Kd.N_nil _ _ _ _ _ | exact Kd.V_nil _ _ _ _ _ | exact Kd.Q_nil _ _ _ _ _ | exact Kd.S_nil _ _ _ _ _⟩, ⟨by repeat (first | (with_reducible first | exact HB.out | apply below_alloc | apply pw_below_drewN | apply below_drew1) | exact HB.out)⟩⟩
  case round =>
    clear H'
    obtain ⟨x4_1, x5_1, rfl, HA, HK1, HO_4, HB⟩ := hrel
    cases gk with
    | zero => exact absurd HA.out (by simp [seinelaw17_texts.l0])
    | succ k1 =>
      have H := HA.out
      clear HA
      simp only [seinelaw17_texts.l0] at H
      by_cases c2 : x5_1 < (l0.length : Int)
      · rw [if_pos c2] at H
        have c2b0 : decide (x5_1 < (l0.length : Int)) = true := decide_eq_true c2
        clear c2
        by_cases c3 : 0 ≤ x5_1
        · rw [if_pos c3] at H
          have c3b0 : decide (0 ≤ x5_1) = true := decide_eq_true c3
          clear c3
          by_cases c4 : ((rd_L4 l0 x5_1).length : Int) > 40
          · rw [if_pos c4] at H
            have c4b0 : decide (40 < ((rd_L4 l0 x5_1).length : Int)) = true := decide_eq_true c4
            have c4b1 : decide (40 < (rd_L4 l0 x5_1).length) = true := decide_eq_true (by omega)
            clear c4
            simp only [Option.some.injEq, Prod.mk.injEq] at H
            obtain ⟨rfl, rfl⟩ := H
            have p179 : 0 ≤ (x5_1 : Int) := of_decide_eq_true (by first | (with_reducible assumption) | assumption)
            have q179 : x5_1 < (l0.length : Int) := of_decide_eq_true (by first | (with_reducible assumption) | assumption)
            obtain ⟨ad179, A179_0, c179_0, e179, hx179_0, hl179_0, hi179_0⟩ := at_L4 HR0.out x5_1 p179 q179
            cases e179
            replace hx179_0 := (HB.out.cell (World.block_lt_of_cell? w _ hx179_0)).trans hx179_0
            have HR179_0 := Aside0.mk hi179_0
            have HC179_0 := Aside0.mk hl179_0
            clear hi179_0 hl179_0
            replace p179 := eq_true p179
            replace q179 := eq_true q179
            go_wp2
            go_ret2
            exact ⟨_, by first | rfl | (simp [errW_none, errW_some] <;> rfl) | (simp [*, errW_none, errW_some] <;> rfl), by first | exact Kd.R_nil _ _ _ _ _ | exact Kd.N_nil _ _ _ _ _ | exact Kd.V_nil _ _ _ _ _ | exact Kd.Q_nil _ _ _ _ _ | exact Kd.S_nil _ _ _ _ _, by repeat (first | (with_reducible first | exact HB.out | apply below_alloc | apply pw_below_drewN | apply below_drew1) | exact HB.out)⟩
          · rw [if_neg c4] at H
            have c4b0 : decide (40 < ((rd_L4 l0 x5_1).length : Int)) = false := decide_eq_false c4
            have c4b1 : decide (40 < (rd_L4 l0 x5_1).length) = false := decide_eq_false (by omega)
            clear c4
            by_cases c5 : x4_1.length < 8796093022208
            · rw [if_pos c5] at H
              have LMc5 := Aside0.mk c5
              clear c5
              obtain ⟨y181, hy181⟩ : ∃ y_ : List ByteArray, y_ = (x4_1 ++ [strOfNums (rd_L4 l0 x5_1)]) := ⟨_, rfl⟩
              replace H : (seinelaw17_texts.l0 k1 l0 y181 (wrap64 (x5_1 + 1))) = some (r1, r2) := by first | (rw [hy181]; with_reducible exact H) | (have H2_ := (Option.bind_some _ _).symm.trans H; rw [hy181]; with_reducible exact H2_) | (have H2_ := (Option.bind_some _ _).symm.trans H; with_reducible exact H2_) | with_reducible exact H | (rw [hy181]; exact H) | exact H
              have Ny181 := Aside0.mk hy181
              clear hy181
              have H' := Aside0.mk H
              clear H
              have p179 : 0 ≤ (x5_1 : Int) := of_decide_eq_true (by first | (with_reducible assumption) | assumption)
              have q179 : x5_1 < (l0.length : Int) := of_decide_eq_true (by first | (with_reducible assumption) | assumption)
              obtain ⟨ad179, A179_0, c179_0, e179, hx179_0, hl179_0, hi179_0⟩ := at_L4 HR0.out x5_1 p179 q179
              cases e179
              replace hx179_0 := (HB.out.cell (World.block_lt_of_cell? w _ hx179_0)).trans hx179_0
              have HR179_0 := Aside0.mk hi179_0
              have HC179_0 := Aside0.mk hl179_0
              clear hi179_0 hl179_0
              replace p179 := eq_true p179
              replace q179 := eq_true q179
              have p180 : 0 ≤ (x5_1 : Int) := of_decide_eq_true (by first | (with_reducible assumption) | assumption)
              have q180 : x5_1 < (l0.length : Int) := of_decide_eq_true (by first | (with_reducible assumption) | assumption)
              obtain ⟨ad180, A180_0, c180_0, e180, hx180_0, hl180_0, hi180_0⟩ := at_L4 HR0.out x5_1 p180 q180
              obtain rfl : ad179 = ad180 := (by injection e180)
              replace hx180_0 := (HB.out.cell (World.block_lt_of_cell? w _ hx180_0)).trans hx180_0
              have HR180_0 := Aside0.mk hi180_0
              have HC180_0 := Aside0.mk hl180_0
              clear hi180_0 hl180_0
              replace p180 := eq_true p180
              replace q180 := eq_true q180
              have ea_ := Option.some.inj (hx179_0.symm.trans hx180_0)
              injection ea_ with ea_ en_ ec_
              subst ea_
              subst ec_
              clear en_
              have hcv6 := Kd.C_string (P := Tryz.prog) (A := A179_0) (c := c179_0) Tryz.underlying23 Tryz.underlying5 Tryz.underlying9 (Kd.C_below HR180_0.out HB.out)
              go_wp2_with (first | ((with_reducible refine gate_builtin (b := .append) (xs := #[.tmp 18, .tmp 24]) rfl ?_); at_builtin; refine Kd.R_append Kd.string (w0 := w) w.heap.size rfl (.tmp 18) (.tmp 24) 25 9 (.string ⟨#[]⟩) 16 rfl Tryz.underlying25 info9 rfl (by decide) (by omega) u4 x4_1 (strOfNums (rd_L4 l0 x5_1)) [.string (strOfNums (rd_L4 l0 x5_1))] (fun _ => True) (fun _ => False) rfl rfl ?aP (fun _ hk => hk.elim) ?aF ?aO ?aB ?aS ?aL ?_; (case aP => exact rfl); (case aB => exact (by repeat (first | (with_reducible first | exact HB.out | apply below_alloc | apply pw_below_drewN | apply below_drew1) | exact HB.out))); (case aF => exact (fun _ _ => trivial)); (case aO => exact (by (with_reducible repeat (first | apply Kd.R_alloc | apply Kd.R_drewN | apply Kd.R_drew)); exact HO_4.out)); (case aS => exact (below_size (by repeat (first | (with_reducible first | exact HB.out | apply below_alloc | apply pw_below_drewN | apply below_drew1) | exact HB.out)))); (case aL => have := LMc5.out; omega); intro v182 w7 ho hb hg hat; rw [← Ny181.out] at ho; have n0_ := Aside0.mk (hb); have n1_ := Aside0.mk (ho); clear HB; clear HO_4; have HB := n0_; have HO183 := n1_; clear n0_ n1_; clear ho hb hg hat))
              go_roundg k1
              case measure => have := HK1.out; omega
              case rel => exact ⟨(y181), (wrap64 (x5_1 + 1)), (by first | rfl | (simp; done) | (simp [*]; done)), H', ⟨by have := HK1.out; omega⟩, ⟨by (with_reducible repeat (first | apply Kd.R_alloc | apply Kd.R_drewN | apply Kd.R_drew)); exact HO183.out⟩, ⟨by repeat (first | (with_reducible first | exact HB.out | apply below_alloc | apply pw_below_drewN | apply below_drew1) | exact HB.out)⟩⟩
            · rw [if_neg c5] at H
              exact absurd H (by simp)
        · rw [if_neg c3] at H
          exact absurd H (by simp)
      · rw [if_neg c2] at H
        have c2b0 : decide (x5_1 < (l0.length : Int)) = false := decide_eq_false c2
        clear c2
        simp only [Option.some.injEq, Prod.mk.injEq] at H
        obtain ⟨rfl, rfl⟩ := H
        go_wp2
        go_ret2
        exact ⟨_, by first | rfl | (simp [errW_none, errW_some] <;> rfl) | (simp [*, errW_none, errW_some] <;> rfl), by (with_reducible repeat (first | apply Kd.R_alloc | apply Kd.R_drewN | apply Kd.R_drew)); exact HO_4.out, by repeat (first | (with_reducible first | exact HB.out | apply below_alloc | apply pw_below_drewN | apply below_drew1) | exact HB.out)⟩
def seinelaw17_few.f (l0 : List Int) : Option (Bool) := some (decide ((l0.length : Int) ≤ 120))
set_option maxHeartbeats 8000000 in
set_option maxRecDepth 100000 in
theorem seinelaw17_few.calls (A0 : Option Addr) (c0 : Nat) (l0 : List Int) (r : Bool) (w : World) (hr0 : Kd.C (Kd.int .u8) w A0 l0.length l0) (hc0 : l0.length ≤ c0) (h : seinelaw17_few.f l0 = some r) :
    Calls Tryz.prog 14 #[.slice A0 l0.length c0] w fun e w' => e = .returned (.bool r) ∧ Drawn0 w w' := by
  have HR0 := Aside0.mk hr0
  have HC0 := Aside0.mk hc0
  clear hr0 hc0
  have H : (some (decide ((l0.length : Int) ≤ 120))) = some r := h
  clear h
  obtain rfl := Option.some.inj H
  go_enter Tryz.func14, Tryz.ntmps14
  go_wp2
  go_ret
  exact ⟨by first | rfl | (simp; done) | (simp [*]; done), by repeat (first | exact Drawn0.refl _ | apply Drawn0.step)⟩
/-- THE ONE PURE STATEMENT of seinelaw17_few: yours. -/
def seinelaw17_few.Pure : Prop := ∀ (l0 : List Int), l0.length ≤ maxLen → l0.length * 1 ≤ 140737488351232 → (∀ x ∈ l0, (Lit.int .u8 x).wf = true) → seinelaw17_few.f l0 = some true
theorem seinelaw17_few.walk (P : seinelaw17_few.Pure) (a0 : Option Addr) (len0 cap0 : Nat) (z0 : List Int) (w : World) (w0 : (a0 = none ∧ len0 = 0 ∧ cap0 = 0 ∧ z0 = []) ∨ ∃ x, a0 = some x ∧ len0 ≤ cap0 ∧ cap0 ≤ maxLen ∧ z0.length = cap0 ∧ (∀ i, i < z0.length → w.cell? (x.add i) = some (.int .u8 (z0.getD i 0))) ∧ ∀ n ∈ z0, (Lit.int .u8 n).wf = true) (y0 : len0 * 1 ≤ 140737488351232) :
    Calls Tryz.prog 14 #[.slice a0 len0 cap0] w fun e w' => e = .returned (.bool true) ∧ Below w.heap.size w w' := by
  obtain ⟨l0, rfl, hr0, hm0, hw0, hc0⟩ := ReadsInt.ofRowC w0
  have h := P l0 hm0 y0 hw0
  refine (seinelaw17_few.calls _ _ l0 true w (Kd.C_of_reads (d := (0 : Int)) (h1 := fun _ => rfl) hr0) hc0 h).mono ?_
  rintro e w' ⟨rfl, hd⟩
  exact ⟨rfl, hd.below⟩
end Go.Proofs.YtdiljmhikajjiaaGreat.Ref
end
section
namespace Go.Proofs.YtdiljmhikajjiaaGreat.Ref
open Go.RowKit Go.Proofs.YtdiljmhikajjiaaGreatW.PrintWords Go.Proofs.YtdiljmhikajjiaaGreatW.PrintLast Go.Proofs.YtdiljmhikajjiaaGreatW.PrintMore
attribute [local go_sem] max2_int min2_int max_two min_two max_three min_three max_four min_four   -- for this text's walks alone
end Go.Proofs.YtdiljmhikajjiaaGreat.Ref
end
