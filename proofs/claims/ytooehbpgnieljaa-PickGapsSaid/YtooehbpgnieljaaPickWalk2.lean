/- The walks of package pick, of its reference and of the laws' helpers: the lists that are made. -/
import Derived.Test.YtooehbpgnieljaaPickWalk
set_option linter.unusedVariables false
set_option linter.unusedSimpArgs false
namespace Go.Proofs.Ytooehbpgnieljaa
open Go.RowKit Seine.Pick

/-- It answers these pairs, in new memory. -/
def RetPrs (w : World) (ys : List Pr) (e : Ending) (w' : World) : Prop := ∃ v, e = .returned v ∧ OwnPrs w' w.heap.size v ys ∧ Below w.heap.size w w'
theorem RetPrs.row {w w' : World} {ys : List Pr} {e : Ending} (h : RetPrs w ys e w') : ∃ A c, e = .returned (.slice A ys.length c) ∧ Prs w' A ys ∧ Below w.heap.size w w' := by
  obtain ⟨v, rfl, ho, hb⟩ := h
  obtain ⟨A, c, rfl, hc⟩ := own_slice ho
  exact ⟨A, c, rfl, Row.of_own ho, hb⟩

theorem below_next {w a b : World} (h : Below w.heap.size w a) (k : Below a.heap.size a b) : Below w.heap.size w b := h.trans (k.mono h.size)
theorem below_put {w a : World} (h : Below w.heap.size w a) (o : Obj) : Below w.heap.size w (a.alloc o) := h.alloc h.size o
def minInt : Int := -9223372036854775808
/-- what a round of 'Longest' hands on -/
def LongRel (w wr : World) (xs R : List Pr) (v i : Value) : Prop :=
  ∃ (acc : List Pr) (f : Int), i = .int .i64 f ∧ acc ++ longest xs f = R ∧ OwnPrs wr w.heap.size v acc ∧ Below w.heap.size w wr ∧ acc.length + left xs f ≤ xs.length
theorem LongRel.next {w w1 w2 : World} {xs R acc : List Pr} {f : Int} {v : Value} {p : Pr} (hf : first xs f = some p) (hR : acc ++ longest xs f = R)
    (ho : OwnPrs w1 w.heap.size v acc) (hl : acc.length + left xs f ≤ xs.length) {v' : Value} (ho' : w2.ownsRow w.heap.size 25 2 v' (acc.length + 1) (prCells acc ++ [.int .i64 p.1, .int .i64 p.2]))
    (hb : Below w.heap.size w w2) : LongRel w w2 xs R v' (.int .i64 p.2) := by
  refine ⟨acc ++ [p], p.2, rfl, ?_, ?_, hb, ?_⟩
  · rw [← hR, longest_some hf]; simp
  · have : (acc ++ [p]).length = acc.length + 1 := by simp
    unfold OwnPrs
    rw [this, prCells_snoc]; exact ho'
  · have := left_lt hf; simp; omega

set_option maxHeartbeats 1600000 in
theorem longest_calls (A : Option Addr) (c : Nat) (xs : List Pr) (w : World) (hx : Prs w A xs) (hl : xs.length ≤ 1000000000) :
    Calls Try.prog 13 #[.slice A xs.length c] w (RetPrs w (longest xs minInt)) := by
  have hu25 := Try.underlying25
  have HX := As.mk hx
  clear hx
  obtain ⟨R, hR⟩ : ∃ R, longest xs minInt = R := ⟨_, rfl⟩
  rw [hR]
  have HR := As.mk hR
  clear hR
  go_enter Try.func13, Try.ntmps13
  go_wp2
  go_step3
  go_wp2
  go_step3
  go_wp2
  go_loopw [3, 4] (fun v i wr => LongRel w wr xs R v i) (fun _ i _ => left xs (intOf i))
  case atStart => exact ⟨[], minInt, rfl, HR.out, World.ownsRow_nil _ _ _ _, Below.refl _ _, by have := left_le xs minInt; simpa using this⟩
  case round =>
    obtain ⟨acc, f, rfl, hr, hown, hbel, hlen⟩ := hrel
    have hr := As.mk hr
    have hlen := As.mk hlen
    have hown := As.mk hown
    cases hf : first xs f with
    | none =>
      have hc := first_calls A c xs f wr (HX.out.below hbel) hl
      rw [hf] at hc
      have hf := As.mk hf
      go_wp2_with (go_at_call 10; refine hc.mono ?_; rintro e w1 ⟨rfl, hb1⟩)
      go_ret
      refine ⟨_, rfl, ?_, (below_lift hbel hb1 hbel.size).alloc (by have := hbel.size; have := hb1.size; omega) _⟩
      have : R = acc := by rw [← hr.out, longest_none hf.out]; simp
      rw [this]
      exact (own_below hown.out hb1).alloc _
    | some p =>
      have hc := first_calls A c xs f wr (HX.out.below hbel) hl
      rw [hf] at hc
      have hlt := left_lt hf
      have hf := As.mk hf
      obtain ⟨s, e⟩ := p
      go_wp2_with (first
        | (go_at_call 10; refine hc.mono ?_; rintro e1 w1 ⟨rfl, hb1⟩)
        | (at_builtin
           refine wpList_app1 _ rfl (.tmp 15) (.tmp 17) 22 rfl w.heap.size 25 _ 2 16 Try.underlying22 info_pr rfl (by decide) _ acc.length (prCells acc) rfl ((own_below hown.out hb1).alloc _) [.int .i64 s, .int .i64 e] rfl (by simp [Value.oneCell']) _ rfl (by simp) (by have := hlen.out; omega) (by decide) (by have := hbel.size; have := hb1.size; simp; omega) ?_
           intro v' w2 ho hk2 hat hb2
           have hbx : w2.heap[w1.heap.size]? = some (.cells #[.int .i64 s, .int .i64 e] 25 (0, 0)) := (hk2.block _ (by simp) (fun h => by have := own_blk (own_below hown.out hb1) h; omega)).trans (heap_alloc_new _ _)
           have c1 := cell_of_blk hbx 1
           simp at c1))
      go_roundw
      case rel => exact LongRel.next hf.out hr.out hown.out hlen.out ho (((below_lift hbel hb1 hbel.size).alloc (by have := hbel.size; have := hb1.size; omega) _).trans hb2)
      case measure => simpa [intOf] using hlt
end Go.Proofs.Ytooehbpgnieljaa
