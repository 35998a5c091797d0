/- The walks of package twoway: a text's bytes held against a line's. -/
import Derived.Test.YtpkapgjpnkcffaaTwoWalk2
set_option linter.unusedVariables false
set_option linter.unusedSimpArgs false
namespace Go.Proofs.Ytpkapgjpnkcffaa
open Go.RowKit Seine.Trie Seine.Two Go.Proofs.YtpkapgjpnkcffaaW.PrintWords

theorem belowNext {w a b : World} (h : Below w.heap.size w a) (k : Below a.heap.size a b) : Below w.heap.size w b := h.trans (k.mono h.size)
/-- A finder of the text b at block g: the cut a, the move s, whether s is the period. -/
def TwoIn (w : World) (g : Nat) (b : Txt) (ad : Addr) (cb a s : Nat) (sm : Bool) : Prop :=
  w.heap[g]? = some (.cells #[.slice (some ad) b.length cb, .int .i64 (a : Int), .int .i64 (s : Int), .bool sm, .func (.func (if sm then 21 else 20)) #[] #[]] 49 (0, 0)) ∧ b.length ≤ cb ∧ Byt w (some ad) b ∧ Cut (bx b) b.length a s sm
theorem TwoIn.below {w w' : World} {g : Nat} {b : Txt} {ad : Addr} {cb a s : Nat} {sm : Bool} (h : TwoIn w g b ad cb a s sm) (hb : Below w.heap.size w w') : TwoIn w' g b ad cb a s sm :=
  ⟨blkBelow hb h.1, h.2.1, Row.below h.2.2.1 hb, h.2.2.2⟩
section
variable {w : World} {g : Nat} {b : Txt} {ad : Addr} {cb a s : Nat} {sm : Bool}
theorem TwoIn.c0 (h : TwoIn w g b ad cb a s sm) : w.cell? ⟨g, 0, none⟩ = some (.slice (some ad) b.length cb) := cell_of_blk h.1 0
theorem TwoIn.c1 (h : TwoIn w g b ad cb a s sm) : w.cell? ⟨g, 1, none⟩ = some (.int .i64 (a : Int)) := cell_of_blk h.1 1
theorem TwoIn.c2 (h : TwoIn w g b ad cb a s sm) : w.cell? ⟨g, 2, none⟩ = some (.int .i64 (s : Int)) := cell_of_blk h.1 2
theorem TwoIn.c4 (h : TwoIn w g b ad cb a s sm) : w.cell? ⟨g, 4, none⟩ = some (.func (.func (if sm then 21 else 20)) #[] #[]) := cell_of_blk h.1 4
end

set_option maxRecDepth 100000 in
set_option maxHeartbeats 1600000 in
theorem right_calls (w : World) (g : Nat) (b : Txt) (ad : Addr) (cb a s : Nat) (sm : Bool) (h : TwoIn w g b ad cb a s sm) (hl : b.length ≤ 1000000) (A : Option Addr) (c : Nat) (l : Txt) (hx : Byt w A l) (hll : l.length ≤ 1000000) (p fr : Nat) (hp : p + b.length ≤ l.length) (hf : fr ≤ b.length) :
    Calls Try.prog 36 #[.pointer (some ⟨g, 0, none⟩), .slice A l.length c, .int .i64 (p : Int), .int .i64 (fr : Int)] w fun e w' => ∃ i : Nat, e = .returned (.int .i64 (i : Int)) ∧ (fr ≤ i ∧ i ≤ b.length ∧ (∀ k, fr ≤ k → k < i → bx l (p + k) = bx b k) ∧ (i < b.length → bx l (p + i) ≠ bx b i)) ∧ Below w.heap.size w w' := by
  have c0 := h.c0
  have HB := As.mk h.2.2.1
  have HX := As.mk hx
  clear h hx
  obtain ⟨n, hn⟩ : ∃ n, b.length = n := ⟨_, rfl⟩
  obtain ⟨m, hm⟩ : ∃ m, l.length = m := ⟨_, rfl⟩
  rw [hn] at c0 hl hp hf
  rw [hm] at hp hll
  rw [hn, hm]
  have hn := As.mk hn
  have hm := As.mk hm
  go_enter Try.func36, Try.ntmps36
  go_wp2
  go_loopw [9] (fun i wr => ∃ k j : Nat, fr ≤ k ∧ k ≤ n ∧ i = .int .i64 k ∧ As (∀ q, fr ≤ q → q < k → bx l (p + q) = bx b q) ∧ wr = w.drewN j) (fun i _ => n - (intOf i).toNat)
  case atStart => exact ⟨fr, 0, Nat.le_refl _, hf, rfl, ⟨fun q h1 h2 => by omega⟩, rfl⟩
  case round =>
    obtain ⟨k, j, hk1, hk2, rfl, hfit, rfl⟩ := hrel
    by_cases hlt : k < n
    · obtain ⟨ad', e', c1⟩ := Byt.at_ HB.out (i := k) (by have := hn.out; omega)
      injection e' with e'
      subst e'
      obtain ⟨ad2, rfl, c2⟩ := Byt.at_ HX.out (i := p + k) (by have := hm.out; omega)
      obtain ⟨x, hx⟩ : ∃ x, (b.getD k 0).toNat = x := ⟨_, rfl⟩
      obtain ⟨y, hy⟩ : ∃ y, (l.getD (p + k) 0).toNat = y := ⟨_, rfl⟩
      rw [hx] at c1
      rw [hy] at c2
      have hx := As.mk (show bx b k = x from hx)
      have hy := As.mk (show bx l (p + k) = y from hy)
      have hkn : (k : Int) < (n : Int) := by omega
      have hkn' : decide ((k : Int) < (n : Int)) = true := by simp; omega
      have hpk : (p : Int) + (k : Int) < (m : Int) := by omega
      have i1 : IntKind.i64.wrap ((p : Int) + (k : Int)) = (p : Int) + (k : Int) := IntWalk.i64_in _ (by omega)
      have j1 : 0 ≤ (p : Int) + (k : Int) := by omega
      have k1 : ((p : Int) + (k : Int)).toNat = p + k := by omega
      by_cases hxy : x = y
      · have hb1 : ((x : Int) == (y : Int)) = true := by simp; omega
        have hfit2 : As (∀ q, fr ≤ q → q < k + 1 → bx l (p + q) = bx b q) := ⟨fun q h1 h2 => by
          rcases Nat.lt_or_ge q k with h | h
          · exact hfit.out q h1 h
          · obtain rfl : q = k := by omega
            rw [hx.out, hy.out, hxy]⟩
        go_wp2
        go_quiet (fail)
        clear i1 j1 k1 c1 c2
        rw [World.drewN_drewN]
        go_wp2
        go_roundw
        case rel => exact ⟨k + 1, _, by omega, by omega, (by first | rfl | go_num | (congr 1; omega)), hfit2, rfl⟩
        case measure => simp [intOf]; omega
      · have hb1 : ((x : Int) == (y : Int)) = false := by simp; omega
        have hno : As (bx l (p + k) ≠ bx b k) := ⟨by rw [hx.out, hy.out]; exact fun e => hxy e.symm⟩
        go_wp2
        go_quiet (fail)
        clear i1 j1 k1 c1 c2
        rw [World.drewN_drewN]
        go_wp2
        go_ret
        exact ⟨k, rfl, ⟨hk1, by omega, hfit.out, fun _ => hno.out⟩, below_drewN (Below.refl _ _) _⟩
    · obtain rfl : k = n := by omega
      have hkn : decide ((k : Int) < (k : Int)) = false := by simp
      go_wp2
      go_quiet (fail)
      go_wp2
      go_ret
      exact ⟨k, rfl, ⟨hk1, by omega, hfit.out, fun h => absurd h (by omega)⟩, below_drewN (below_drewN (Below.refl _ _) _) _⟩

def LeftPost (w : World) (y x : Nat → Nat) (p dn a : Nat) (e : Ending) (w' : World) : Prop := ∃ r : Bool, e = .returned (.bool r) ∧ (r = true ↔ ∀ k, dn ≤ k → k < a → y (p + k) = x k) ∧ Below w.heap.size w w'
def NextPost (w : World) (x : Nat → Nat) (n : Nat) (y : Nat → Nat) (m p : Nat) (e : Ending) (w' : World) : Prop := ∃ r : Int, e = .returned (.int .i64 r) ∧ Seine.Two.next x n y m p r ∧ Below w.heap.size w w'
set_option maxRecDepth 100000 in
set_option maxHeartbeats 1600000 in
theorem left_calls (w : World) (g : Nat) (b : Txt) (ad : Addr) (cb a s : Nat) (sm : Bool) (h : TwoIn w g b ad cb a s sm) (hl : b.length ≤ 1000000) (A : Option Addr) (c : Nat) (l : Txt) (hx : Byt w A l) (hll : l.length ≤ 1000000) (p dn : Nat) (hp : p + b.length ≤ l.length) :
    Calls Try.prog 37 #[.pointer (some ⟨g, 0, none⟩), .slice A l.length c, .int .i64 (p : Int), .int .i64 (dn : Int)] w (LeftPost w (bx l) (bx b) p dn a) := by
  have c0 := h.c0
  have c1 := h.c1
  have ham := h.2.2.2.am
  have HB := As.mk h.2.2.1
  have HX := As.mk hx
  clear h hx
  obtain ⟨n, hn⟩ : ∃ n, b.length = n := ⟨_, rfl⟩
  obtain ⟨m, hm⟩ : ∃ m, l.length = m := ⟨_, rfl⟩
  rw [hn] at c0 hl hp ham
  rw [hm] at hp hll
  rw [hm]
  have hn := As.mk hn
  have hm := As.mk hm
  have hw0 : IntKind.i64.wrap ((a : Int) - 1) = (a : Int) - 1 := IntWalk.i64_in _ (by omega)
  go_enter Try.func37, Try.ntmps37
  go_wp2
  clear hw0
  go_loopw [9] (fun i wr => ∃ (z : Int) (j : Nat), i = .int .i64 z ∧ -1 ≤ z ∧ z < a ∧ As (∀ q : Nat, dn ≤ q → z < q → q < a → bx l (p + q) = bx b q) ∧ wr = w.drewN j) (fun i _ => (intOf i + 1).toNat)
  case atStart => exact ⟨(a : Int) - 1, 0, rfl, by omega, by omega, ⟨fun q h1 h2 h3 => by omega⟩, rfl⟩
  case round =>
    obtain ⟨z, j, rfl, hz1, hz2, hfit, rfl⟩ := hrel
    by_cases hlt : (dn : Int) ≤ z
    · obtain ⟨k, rfl⟩ : ∃ k : Nat, z = k := ⟨z.toNat, by omega⟩
      have hka : k < a := by omega
      have hdk : dn ≤ k := by omega
      obtain ⟨ad', e', c2⟩ := Byt.at_ HB.out (i := k) (by have := hn.out; omega)
      injection e' with e'
      subst e'
      obtain ⟨ad2, rfl, c3⟩ := Byt.at_ HX.out (i := p + k) (by have := hm.out; omega)
      obtain ⟨x, hx⟩ : ∃ x, (b.getD k 0).toNat = x := ⟨_, rfl⟩
      obtain ⟨y, hy⟩ : ∃ y, (l.getD (p + k) 0).toNat = y := ⟨_, rfl⟩
      rw [hx] at c2
      rw [hy] at c3
      have hx := As.mk (show bx b k = x from hx)
      have hy := As.mk (show bx l (p + k) = y from hy)
      have hkn : (k : Int) < (n : Int) := by omega
      have hpk : (p : Int) + (k : Int) < (m : Int) := by omega
      have i1 : IntKind.i64.wrap ((p : Int) + (k : Int)) = (p : Int) + (k : Int) := IntWalk.i64_in _ (by omega)
      have j1 : 0 ≤ (p : Int) + (k : Int) := by omega
      have k1 : ((p : Int) + (k : Int)).toNat = p + k := by omega
      by_cases hxy : x = y
      · have hb1 : ((x : Int) != (y : Int)) = false := by simp; omega
        have hfit2 : As (∀ q : Nat, dn ≤ q → (k : Int) - 1 < q → q < a → bx l (p + q) = bx b q) := ⟨fun q h1 h2 h3 => by
          rcases Nat.lt_or_ge k q with h | h
          · exact hfit.out q h1 (by omega) h3
          · obtain rfl : q = k := by omega
            rw [hx.out, hy.out, hxy]⟩
        go_wp2
        go_quiet (fail)
        clear i1 j1 k1 c2 c3
        rw [World.drewN_drewN]
        go_wp2
        go_roundw
        case rel => exact ⟨(k : Int) - 1, _, rfl, by omega, by omega, hfit2, rfl⟩
        case measure => first | (simp [intOf]; done) | (simp [intOf]; omega)
      · have hb1 : ((x : Int) != (y : Int)) = true := by simp; omega
        have hno : As (bx l (p + k) ≠ bx b k) := ⟨by rw [hx.out, hy.out]; exact fun e => hxy e.symm⟩
        go_wp2
        go_quiet (fail)
        clear i1 j1 k1 c2 c3
        rw [World.drewN_drewN]
        go_wp2
        go_ret
        exact ⟨false, rfl, ⟨(fun h => by cases h), fun h => absurd (h k hdk hka) hno.out⟩, below_drewN (Below.refl _ _) _⟩
    · have hz3 : decide ((dn : Int) ≤ z) = false := by simp; omega
      go_wp2
      go_ret
      exact ⟨true, rfl, ⟨fun _ k h1 h2 => hfit.out k h1 (by omega) h2, fun _ => rfl⟩, below_drewN (Below.refl _ _) _⟩

set_option maxRecDepth 100000 in
set_option maxHeartbeats 1600000 in
theorem plain_calls (w : World) (g : Nat) (b : Txt) (ad : Addr) (cb a s : Nat) (sm : Bool) (h : TwoIn w g b ad cb a s sm) (hl : b.length ≤ 1000000) (A : Option Addr) (c : Nat) (l : Txt) (hx : Byt w A l) (hll : l.length ≤ 1000000) (p0 : Nat) (hp0 : p0 ≤ 1000000) :
    Calls Try.prog 20 #[.pointer (some ⟨g, 0, none⟩), .slice A l.length c, .int .i64 (p0 : Int)] w (NextPost w (bx b) b.length (bx l) l.length p0) := by
  have H := As.mk h
  have HX := As.mk hx
  have hcut := As.mk h.2.2.2
  have ham := h.2.2.2.am
  have hs1 := h.2.2.2.s1
  have hsf := h.2.2.2.far
  have hrg := As.mk (fun (v : World) (hv : Below w.heap.size w v) p fr h1 h2 => right_calls v g b ad cb a s sm (h.below hv) hl A c l (Row.below hx hv) hll p fr h1 h2)
  have hlf := As.mk (fun (v : World) (hv : Below w.heap.size w v) p dn h1 => left_calls v g b ad cb a s sm (h.below hv) hl A c l (Row.below hx hv) hll p dn h1)
  clear h hx
  obtain ⟨n, hn⟩ : ∃ n, b.length = n := ⟨_, rfl⟩
  obtain ⟨m, hm⟩ : ∃ m, l.length = m := ⟨_, rfl⟩
  rw [hn] at hcut hl ham hsf hrg
  rw [hm] at hll hrg hlf
  rw [hn] at hlf
  rw [hn, hm]
  have hn := As.mk hn
  have hm := As.mk hm
  go_enter Try.func20, Try.ntmps20
  go_wp2
  go_step3
  go_wp2
  go_step3
  go_wp2
  go_loopg [2] (m + 2) (fun gk i wr => ∃ p : Nat, As (m + 2 ≤ gk + p) ∧ i = .int .i64 p ∧ p0 ≤ p ∧ p ≤ 4000000 ∧ As (∀ j, p0 ≤ j → j < p → ¬ Match (bx b) n (bx l) m j) ∧ As (Below w.heap.size w wr))
  case atStart => exact ⟨p0, ⟨by omega⟩, rfl, Nat.le_refl _, by omega, ⟨fun j h1 h2 => by omega⟩, ⟨Below.refl _ _⟩⟩
  case round =>
    obtain ⟨p, hgk, rfl, hp1, hp2, hno, hbel⟩ := hrel
    have HI := H.out.below hbel.out
    have c0 := HI.c0
    have c1 := HI.c1
    have c2 := HI.c2
    rw [hn.out] at c0
    clear HI
    by_cases hlt : p + n ≤ m
    · obtain ⟨gp, rfl⟩ : ∃ gp, gk = gp + 1 := ⟨gk - 1, by have := hgk.out; omega⟩
      have hlt' : decide ((p : Int) + (n : Int) ≤ (m : Int)) = true := by simp; omega
      go_wp2_with fail
      refine Calls.mono (hrg.out wr hbel.out p a hlt (by omega)) ?_
      rintro e w1 ⟨i, rfl, ⟨hi1, hi2, hi3, hi4⟩, hb1⟩
      have hb01 := As.mk (belowNext hbel.out hb1)
      have HI := H.out.below hb01.out
      have d0 := HI.c0
      have d1 := HI.c1
      have d2 := HI.c2
      rw [hn.out] at d0
      replace hi3 := As.mk hi3
      replace hi4 := As.mk hi4
      clear hb1 HI c0 c1 c2
      by_cases hin : i < n
      · have hskip := hcut.out.skip (y := bx l) (n := m) hi1 hin hi3.out (hi4.out hin)
        have hno2 : As (∀ j, p0 ≤ j → j < p + (i - a + 1) → ¬ Match (bx b) n (bx l) m j) := ⟨fun j h1 h2 => by
          rcases Nat.lt_or_ge j p with h | h
          · exact hno.out j h1 h
          · exact hskip j h h2⟩
        have hin' : decide ((i : Int) < (n : Int)) = true := by simp; omega
        clear hskip
        go_wp2
        go_roundg gp
        case rel => exact ⟨p + (i - a + 1), ⟨by have := hgk.out; omega⟩, (by first | rfl | go_num | (congr 1; omega)), by omega, by omega, hno2, hb01⟩
        case measure => omega
      · obtain rfl : i = n := by omega
        go_wp2_with fail
        refine Calls.mono (hlf.out w1 hb01.out p 0 hlt) ?_
        rintro e w2 ⟨r, rfl, hr, hb2⟩
        have hb02 := As.mk (belowNext hb01.out hb2)
        have HI := H.out.below hb02.out
        have e0 := HI.c0
        have e1 := HI.c1
        have e2 := HI.c2
        rw [hn.out] at e0
        replace hr := As.mk hr
        clear hb2 HI d0 d1 d2
        cases r with
        | true =>
          have hm0 := hr.out.1 rfl
          have hM : Match (bx b) i (bx l) m p := ⟨hlt, fun k hk => by
            rcases Nat.lt_or_ge k a with h | h
            · exact hm0 k (Nat.zero_le _) h
            · exact hi3.out k h hk⟩
          have hfin : As (Seine.Two.next (bx b) i (bx l) m p0 (p : Int)) := ⟨⟨fun _ => ⟨by omega, by rw [Int.toNat_natCast]; exact hM, fun j h1 h2 => hno.out j h1 (by omega)⟩, fun h => by omega⟩⟩
          clear hm0 hM
          go_wp2
          try rw [Exit.noGoto_ret]
          go_ret
          exact ⟨(p : Int), rfl, hfin.out, hb02.out⟩
        | false =>
          have hjump := hcut.out.jump (y := bx l) (n := m) hi3.out
          have hno2 : As (∀ j, p0 ≤ j → j < p + s → ¬ Match (bx b) i (bx l) m j) := ⟨fun j h1 h2 => by
            rcases Nat.lt_trichotomy j p with h | h | h
            · exact hno.out j h1 h
            · subst h
              intro hM
              have := hr.out.2 (fun k h3 h4 => hM.2 k (by omega))
              cases this
            · exact hjump j h h2⟩
          clear hjump
          go_wp2
          go_roundg gp
          case rel => exact ⟨p + s, ⟨by have := hgk.out; omega⟩, (by first | rfl | go_num | (congr 1; omega)), by omega, by omega, hno2, hb02⟩
          case measure => omega
    · have hlt' : decide ((p : Int) + (n : Int) ≤ (m : Int)) = false := by simp; omega
      have hfin : As (Seine.Two.next (bx b) n (bx l) m p0 (-1)) := ⟨⟨fun h => by omega, fun _ => ⟨rfl, fun j h1 hM => by
        rcases Nat.lt_or_ge j p with h | h
        · exact hno.out j h1 h hM
        · have := hM.1; omega⟩⟩⟩
      clear hlt
      go_wp2
      try rw [Exit.noGoto_ret]
      go_ret
      exact ⟨-1, rfl, hfin.out, hbel.out⟩

attribute [local go_sem] max2_i min2_i max_two' min_two'
set_option maxRecDepth 100000 in
set_option maxHeartbeats 1600000 in
theorem lapped_calls (w : World) (g : Nat) (b : Txt) (ad : Addr) (cb a s : Nat) (h : TwoIn w g b ad cb a s true) (hl : b.length ≤ 1000000) (A : Option Addr) (c : Nat) (l : Txt) (hx : Byt w A l) (hll : l.length ≤ 1000000) (p0 : Nat) (hp0 : p0 ≤ 1000000) :
    Calls Try.prog 21 #[.pointer (some ⟨g, 0, none⟩), .slice A l.length c, .int .i64 (p0 : Int)] w (NextPost w (bx b) b.length (bx l) l.length p0) := by
  have H := As.mk h
  have HX := As.mk hx
  have hcut := As.mk h.2.2.2
  have ham := h.2.2.2.am
  have hs1 := h.2.2.2.s1
  have hsf := h.2.2.2.far
  have hrg := As.mk (fun (v : World) (hv : Below w.heap.size w v) p fr h1 h2 => right_calls v g b ad cb a s true (h.below hv) hl A c l (Row.below hx hv) hll p fr h1 h2)
  have hlf := As.mk (fun (v : World) (hv : Below w.heap.size w v) p dn h1 => left_calls v g b ad cb a s true (h.below hv) hl A c l (Row.below hx hv) hll p dn h1)
  clear h hx
  obtain ⟨n, hn⟩ : ∃ n, b.length = n := ⟨_, rfl⟩
  obtain ⟨m, hm⟩ : ∃ m, l.length = m := ⟨_, rfl⟩
  rw [hn] at hcut hl ham hsf hrg
  rw [hm] at hll hrg hlf
  rw [hn] at hlf
  rw [hn, hm]
  have hn := As.mk hn
  have hm := As.mk hm
  go_enter Try.func21, Try.ntmps21
  go_wp2
  go_step3
  go_wp2
  go_step3
  go_wp2
  go_loopg [2, 7] (m + 2) (fun gk i kw wr => ∃ p kn : Nat, As (m + 2 ≤ gk + p) ∧ i = .int .i64 p ∧ kw = .int .i64 kn ∧ kn ≤ n ∧ As (∀ k, k < kn → bx l (p + k) = bx b k) ∧ p0 ≤ p ∧ p ≤ 4000000 ∧ As (∀ j, p0 ≤ j → j < p → ¬ Match (bx b) n (bx l) m j) ∧ As (Below w.heap.size w wr))
  case atStart => exact ⟨p0, 0, ⟨by omega⟩, rfl, rfl, Nat.zero_le _, ⟨fun k h => by omega⟩, Nat.le_refl _, by omega, ⟨fun j h1 h2 => by omega⟩, ⟨Below.refl _ _⟩⟩
  case round =>
    obtain ⟨p, kn, hgk, rfl, rfl, hkn, hknow, hp1, hp2, hno, hbel⟩ := hrel
    have HI := H.out.below hbel.out
    have c0 := HI.c0
    have c1 := HI.c1
    have c2 := HI.c2
    rw [hn.out] at c0
    clear HI
    by_cases hlt : p + n ≤ m
    · obtain ⟨gp, rfl⟩ : ∃ gp, gk = gp + 1 := ⟨gk - 1, by have := hgk.out; omega⟩
      have hlt' : decide ((p : Int) + (n : Int) ≤ (m : Int)) = true := by simp; omega
      obtain ⟨fr, hfr, f1, f2, f3, f4⟩ : ∃ fr : Nat, max (a : Int) (kn : Int) = (fr : Int) ∧ a ≤ fr ∧ kn ≤ fr ∧ fr ≤ n ∧ (fr = a ∨ fr = kn) := ⟨max a kn, by omega, by omega, by omega, by omega, by omega⟩
      go_wp2_with fail
      refine Calls.mono (hrg.out wr hbel.out p fr hlt f3) ?_
      rintro e w1 ⟨i, rfl, ⟨hi1, hi2, hi3, hi4⟩, hb1⟩
      have hi3 : ∀ k, a ≤ k → k < i → bx l (p + k) = bx b k := fun k h1 h2 => by
        rcases Nat.lt_or_ge k fr with h | h
        · rcases f4 with f4 | f4
          · omega
          · exact hknow.out k (by omega)
        · exact hi3 k h h2
      have hi1 : a ≤ i := by omega
      have hi0 : kn ≤ i := by omega
      clear hfr f1 f2 f3 f4
      have hb01 := As.mk (belowNext hbel.out hb1)
      have HI := H.out.below hb01.out
      have d0 := HI.c0
      have d1 := HI.c1
      have d2 := HI.c2
      rw [hn.out] at d0
      replace hi3 := As.mk hi3
      replace hi4 := As.mk hi4
      clear hb1 HI c0 c1 c2
      by_cases hin : i < n
      · have hskip := hcut.out.skip (y := bx l) (n := m) hi1 hin hi3.out (hi4.out hin)
        have hno2 : As (∀ j, p0 ≤ j → j < p + (i - a + 1) → ¬ Match (bx b) n (bx l) m j) := ⟨fun j h1 h2 => by
          rcases Nat.lt_or_ge j p with h | h
          · exact hno.out j h1 h
          · exact hskip j h h2⟩
        have hin' : decide ((i : Int) < (n : Int)) = true := by simp; omega
        clear hskip
        go_wp2
        go_roundg gp
        case rel => exact ⟨p + (i - a + 1), 0, ⟨by have := hgk.out; omega⟩, (by first | rfl | go_num | (congr 1; omega)), rfl, Nat.zero_le _, ⟨fun k h => by omega⟩, by omega, by omega, hno2, hb01⟩
        case measure => omega
      · obtain rfl : i = n := by omega
        go_wp2_with fail
        refine Calls.mono (hlf.out w1 hb01.out p kn hlt) ?_
        rintro e w2 ⟨r, rfl, hr, hb2⟩
        have hb02 := As.mk (belowNext hb01.out hb2)
        have HI := H.out.below hb02.out
        have e0 := HI.c0
        have e1 := HI.c1
        have e2 := HI.c2
        rw [hn.out] at e0
        replace hr := As.mk hr
        clear hb2 HI d0 d1 d2
        cases r with
        | true =>
          have hm0 := hr.out.1 rfl
          have hM : Match (bx b) i (bx l) m p := ⟨hlt, fun k hk => by
            rcases Nat.lt_or_ge k a with h | h
            · rcases Nat.lt_or_ge k kn with h' | h'
              · exact hknow.out k h'
              · exact hm0 k h' h
            · exact hi3.out k h hk⟩
          have hfin : As (Seine.Two.next (bx b) i (bx l) m p0 (p : Int)) := ⟨⟨fun _ => ⟨by omega, by rw [Int.toNat_natCast]; exact hM, fun j h1 h2 => hno.out j h1 (by omega)⟩, fun h => by omega⟩⟩
          clear hm0 hM
          go_wp2
          try rw [Exit.noGoto_ret]
          go_ret
          exact ⟨(p : Int), rfl, hfin.out, hb02.out⟩
        | false =>
          have hjump := hcut.out.jump (y := bx l) (n := m) hi3.out
          have hknow2 := hcut.out.known (y := bx l) hi3.out
          have hsi : s ≤ i := hcut.out.least i (by omega) (fun k hk => by omega)
          have hno2 : As (∀ j, p0 ≤ j → j < p + s → ¬ Match (bx b) i (bx l) m j) := ⟨fun j h1 h2 => by
            rcases Nat.lt_trichotomy j p with h | h | h
            · exact hno.out j h1 h
            · subst h
              intro hM
              have := hr.out.2 (fun k h3 h4 => hM.2 k (by omega))
              cases this
            · exact hjump j h h2⟩
          replace hknow2 := As.mk hknow2
          clear hjump
          go_wp2
          go_quiet (fail)
          go_wp2
          go_roundg gp
          case rel => exact ⟨p + s, i - s, ⟨by have := hgk.out; omega⟩, (by first | rfl | go_num | (congr 1; omega)), (by first | rfl | go_num | (congr 1; omega)), by omega, hknow2, by omega, by omega, hno2, ⟨below_drewN hb02.out _⟩⟩
          case measure => omega
    · have hlt' : decide ((p : Int) + (n : Int) ≤ (m : Int)) = false := by simp; omega
      have hfin : As (Seine.Two.next (bx b) n (bx l) m p0 (-1)) := ⟨⟨fun h => by omega, fun _ => ⟨rfl, fun j h1 hM => by
        rcases Nat.lt_or_ge j p with h | h
        · exact hno.out j h1 h hM
        · have := hM.1; omega⟩⟩⟩
      clear hlt
      go_wp2
      try rw [Exit.noGoto_ret]
      go_ret
      exact ⟨-1, rfl, hfin.out, hbel.out⟩
end Go.Proofs.Ytpkapgjpnkcffaa
