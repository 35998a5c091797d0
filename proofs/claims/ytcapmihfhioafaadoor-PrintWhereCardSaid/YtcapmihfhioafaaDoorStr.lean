/- Texts as the printer's words tell them: byte arrays, lists of numbers. Plain facts. -/
import Derived.Test.YtcapmihfhioafaaDoorBytes
import Derived.Test.YtcapmihfhioafaaDoorWMore
set_option linter.unusedVariables false
set_option linter.unusedSimpArgs false
namespace Go.Proofs.YtcapmihfhioafaaDoor
open Go.RowKit Seine.Trie Go.Proofs.YtcapmihfhioafaaDoorW.PrintWords

def bb (l : Txt) : ByteArray := ⟨l.toArray⟩
def nb (l : Txt) : List Int := l.map fun c => (c.toNat : Int)
theorem nb_length (l : Txt) : (nb l).length = l.length := by simp [nb]
theorem bb_data (l : Txt) : (bb l).data.toList = l := by simp [bb]
theorem bb_of (s : ByteArray) : bb s.data.toList = s := by cases s; simp [bb]
theorem bb_ext {a b : ByteArray} (h : a.data.toList = b.data.toList) : a = b := by rw [← bb_of a, ← bb_of b, h]
theorem bb_size (l : Txt) : (bb l).size = l.length := by simp [bb, ByteArray.size]
theorem bb_toList (l : Txt) : (bb l).toList = l := by rw [ByteArray.toList_eq, bb_data]
theorem bb_inj {a b : Txt} (h : bb a = bb b) : a = b := by rw [← bb_data a, h, bb_data]
theorem bb_append (a b : Txt) : bb a ++ bb b = bb (a ++ b) := bb_ext (by rw [bb_data, ByteArray.data_append, Array.toList_append, bb_data, bb_data])
theorem bb_extract (l : Txt) (a b : Nat) : (bb l).extract a b = bb ((l.drop a).take (b - a)) := bb_ext (by
  rw [bb_data, ByteArray.data_extract, Array.toList_extract, bb_data, List.extract_eq_take_drop])
theorem bb_from (l : Txt) (a : Nat) : (bb l).extract a (bb l).size = bb (l.drop a) := by
  rw [bb_extract, bb_size, List.take_of_length_le (by simp)]
theorem bb_to (l : Txt) (b : Nat) : (bb l).extract 0 b = bb (l.take b) := by rw [bb_extract]; simp
theorem bb_nums (l : Txt) : strOfNums (nb l) = bb l := by
  apply bb_ext
  rw [bb_data]
  simp [strOfNums, nb, Function.comp_def]
theorem bytesOf_bb (l : Txt) : bytesOf (bb l) = nb l := by unfold bytesOf; rw [bb_data]; rfl
theorem rdOf_bb (l : List Txt) (i : Nat) (h : i < l.length) : rdOf ByteArray.empty (l.map bb) (i : Int) = bb (l.getD i []) := by
  unfold rdOf
  rw [Int.toNat_natCast]
  simp [List.getD_eq_getElem?_getD, h]
theorem bt_bb (l : Txt) (i : Nat) (h : i < l.length) : bt (bb l) (i : Int) = ((l.getD i 0).toNat : Int) := by
  unfold bt
  rw [Int.toNat_natCast, dif_pos (by rw [bb_size]; exact h)]
  simp [bb, List.getD_eq_getElem?_getD, h, ByteArray.getElem_eq_getElem_data]
theorem w64s (m : Nat) (h : m ≤ 1000000000000) : wrap64 ((m : Int) + 1) = ((m + 1 : Nat) : Int) := by unfold wrap64; omega
theorem w64 {x : Int} (h0 : -9223372036854775808 ≤ x) (h1 : x < 9223372036854775808) : wrap64 x = x := by unfold wrap64; omega

/-- f answers r, with enough rounds. -/
def Evl {α : Type} (f : Nat → Option α) (r : α) : Prop := ∃ N, ∀ k, N ≤ k → f k = some r
theorem Evl.step {α : Type} {f g : Nat → Option α} {r : α} (h : Evl g r) (e : ∀ k, f (k + 1) = g k) : Evl f r := by
  obtain ⟨N, h⟩ := h
  exact ⟨N + 1, fun k hk => by obtain ⟨m, rfl⟩ : ∃ m, k = m + 1 := ⟨k - 1, by omega⟩; rw [e, h m (by omega)]⟩
theorem Evl.bind {α β : Type} {f : Nat → Option α} {g : Nat → α → Option β} {a : α} {r : β} (h : Evl f a) (k : Evl (fun n => g n a) r) : Evl (fun n => (f n).bind (g n)) r := by
  obtain ⟨N, h⟩ := h
  obtain ⟨M, k⟩ := k
  exact ⟨max N M, fun n hn => by
    show (f n).bind (g n) = some r
    rw [h n (by omega)]; exact k n (by omega)⟩
theorem Evl.of {α : Type} {f : Nat → Option α} {r : α} (h : ∀ k, f k = some r) : Evl f r := ⟨0, fun k _ => h k⟩
theorem Evl.congr {α : Type} {f g : Nat → Option α} {r : α} (h : Evl g r) (e : ∀ k, f k = g k) : Evl f r := by
  obtain ⟨N, h⟩ := h
  exact ⟨N, fun k hk => (e k).trans (h k hk)⟩
theorem Evl.get {α : Type} {f : Nat → Option α} {r : α} (h : Evl f r) : ∃ k, f k = some r := by
  obtain ⟨N, h⟩ := h
  exact ⟨N, h N (Nat.le_refl _)⟩

/-! ### rows -/
theorem kdU8 {w : World} {A : Option Addr} {b : Txt} (h : Byt w A b) (hl : b.length ≤ 9223372036854775807) : Kd.C (Kd.int .u8) w A b.length (nb b) := by
  refine ⟨nb_length b, hl, fun h0 => ?_⟩
  rcases h with h | ⟨ad, hA, _, hc⟩
  · have := congrArg List.length h; rw [byCells_length] at this; simp at this; simp [this] at h0
  · refine ⟨ad, hA, fun j p hp => ⟨[.int .u8 p], rfl, rfl, fun i u hu => ?_⟩⟩
    have hi : i = 0 := by
      have := (List.getElem?_eq_some_iff.1 hu).1
      simpa using this
    subst hi
    injection hu with hu
    subst hu
    have e : (Kd.int .u8).sz = 1 := rfl
    rw [e, Nat.mul_one, Nat.add_zero]
    refine hc j _ ?_
    unfold nb at hp
    unfold byCells
    rw [List.getElem?_map] at hp ⊢
    cases hb : b[j]? with
    | none => rw [hb] at hp; cases hp
    | some c => rw [hb] at hp; injection hp with hp; subst hp; rfl
/-- Rows of whole numbers. -/
def intVals (xs : List Int) : List Value := xs.map (Value.int .i64)
theorem intVals_length (xs : List Int) : (intVals xs).length = xs.length := by simp [intVals]
abbrev Ints (w : World) (A : Option Addr) (xs : List Int) : Prop := Row w A (intVals xs)
theorem kdInts {w : World} {A : Option Addr} {b : List Int} (h : Ints w A b) (hl : b.length ≤ 9223372036854775807) : Kd.C (Kd.int .i64) w A b.length b := by
  refine ⟨rfl, hl, fun h0 => ?_⟩
  rcases h with h | ⟨ad, hA, _, hc⟩
  · have := congrArg List.length h; rw [intVals_length] at this; simp at this; simp [this] at h0
  · refine ⟨ad, hA, fun j p hp => ⟨[.int .i64 p], rfl, rfl, fun i u hu => ?_⟩⟩
    have hi : i = 0 := by
      have := (List.getElem?_eq_some_iff.1 hu).1
      simpa using this
    subst hi
    injection hu with hu
    subst hu
    have e : (Kd.int .i64).sz = 1 := rfl
    rw [e, Nat.mul_one, Nat.add_zero]
    refine hc j _ ?_
    unfold intVals
    rw [List.getElem?_map, hp]; rfl
theorem conv_byt {w : World} {src : TypeId} {A : Option Addr} {b : Txt} {c : Nat} (hs : Tryd.prog.underlying src = some (.slice 5)) (h : Byt w A b) (hl : b.length ≤ 9223372036854775807) : (convert src 9 (.slice A b.length c)).run Tryd.prog w = .ok (.string (bb b)) w := by
  have := Kd.C_string (P := Tryd.prog) (src := src) (dst := 9) (c := c) hs Tryd.underlying5 Tryd.underlying9 (kdU8 h hl)
  rw [bb_nums] at this
  exact this
/-- A string of new bytes. -/
theorem strOf {w : World} {A : Option Addr} {b : Txt} {c : Nat} (h : Byt w A b) (hl : b.length ≤ 9223372036854775807) {s : ByteArray} (hs : bb b = s) : (convert 24 9 (.slice A b.length c)).run Tryd.prog w = .ok (.string s) w := by
  rw [conv_byt Tryd.underlying24 h hl, hs]
end Go.Proofs.YtcapmihfhioafaaDoor
