/- The walks of packages suffix and critical: the greatest end of a text, and where it is cut. -/
import Derived.Test.YtpkapgjpnkcffaaBytes
import Derived.Test.YtpkapgjpnkcffaaTwoPure
import Derived.Deep.LoopGhost
import Derived.Deep.QuietTactic
import Derived.BigQuiet
import Derived.Laws.EntriesVeiled
set_option linter.unusedVariables false
set_option linter.unusedSimpArgs false
namespace Go.Proofs.Ytpkapgjpnkcffaa
open Go.RowKit Seine.Trie Seine.Two

/-- How bytes stand: by the order, or the turned one. -/
def RB (t : Bool) (a b : Nat) : Prop := if t then b < a else a < b
instance (t : Bool) (a b : Nat) : Decidable (RB t a b) := by unfold RB; exact inferInstance
theorem RB_ord (t : Bool) : Ord (RB t) := by
  cases t
  · exact ⟨fun a => by simp [RB], fun a b c h1 h2 => by simp [RB] at *; omega, fun a b h => by simp [RB]; omega⟩
  · exact ⟨fun a => by simp [RB], fun a b c h1 h2 => by simp [RB] at *; omega, fun a b h => by simp [RB]; omega⟩
theorem RB_flip (a b : Nat) : RB true a b ↔ RB false b a := by simp [RB]
/-- A text's bytes as numbers. -/
def bx (b : Txt) (k : Nat) : Nat := (b.getD k 0).toNat

theorem less_calls (w : World) (bl : Nat) (t : Bool) (a c : Nat) (hc : w.cell? ⟨bl, 0, none⟩ = some (.bool t)) (r : Bool) (hr : r = decide (RB t a c)) :
    Calls Try.prog 60 #[.int .u8 (a : Int), .int .u8 (c : Int), .pointer (some ⟨bl, 0, none⟩)] w fun e w' => e = .returned (.bool r) ∧ w = w' := by
  rcases Nat.lt_trichotomy a c with h | h | h
  · have h1 : ((a : Int) != (c : Int)) = true := by simp; omega
    have h2 : decide ((a : Int) < (c : Int)) = true := by simp; omega
    have h2' : decide (a < c) = true := by simp; omega
    obtain rfl : r = !t := by rw [hr]; cases t <;> simp [RB] <;> omega
    clear hr h
    cases t
    all_goals
      go_enter Try.func60, Try.ntmps60
      go_wp2
      go_ret
      exact ⟨rfl, rfl⟩
  · subst h
    have h1 : ((a : Int) != (a : Int)) = false := by simp
    obtain rfl : r = false := by rw [hr]; cases t <;> simp [RB]
    clear hr
    go_enter Try.func60, Try.ntmps60
    go_wp2
    go_ret
    exact ⟨rfl, rfl⟩
  · have h1 : ((a : Int) != (c : Int)) = true := by simp; omega
    have h2 : decide ((a : Int) < (c : Int)) = false := by simp; omega
    have h2' : decide (a < c) = false := by simp; omega
    obtain rfl : r = t := by rw [hr]; cases t <;> simp [RB] <;> omega
    clear hr h
    cases r
    all_goals
      go_enter Try.func60, Try.ntmps60
      go_wp2
      go_ret
      exact ⟨rfl, rfl⟩

theorem by_calls (w : World) (t : Bool) : Calls Try.prog 57 #[.bool t] w fun e w' => ∃ bl, e = .returned (.agg #[.func (.func 60) #[] #[.pointer (some ⟨bl, 0, none⟩)]]) ∧ w'.heap[bl]? = some (.cells #[.bool t] 4 (0, 0)) ∧ Below w.heap.size w w' := by
  have hmf : ∀ (fn : Fn) (first cap : Array Value) (w : World), (Instr.makeFunc fn first cap).run Try.prog w = .ok (.func fn first cap) w := fun _ _ _ _ => rfl
  go_enter Try.func57, Try.ntmps57
  go_wp2
  refine bodyPost_ret (v := .agg #[.func (.func 60) #[] #[.pointer (some ⟨w.heap.size, 0, none⟩)]]) (by simp [results, Try.results57, go_sem]) rfl ⟨w.heap.size, rfl, ?_, ?_⟩
  · exact blk_old (heap_alloc_new w _)
  · exact ((Below.refl _ _).alloc (Nat.le_refl _) _).alloc (by simp) _

set_option maxRecDepth 100000 in
set_option maxHeartbeats 1600000 in
theorem max_calls (w : World) (A : Option Addr) (c : Nat) (b : Txt) (t : Bool) (hb : Byt w A b) (hl : b.length ≤ 1000000) (hne : 0 < b.length) :
    Calls Try.prog 53 #[.slice A b.length c, .bool t] w fun e w' => ∃ a p : Nat, e = .returned (.tuple #[.int .i64 (a : Int), .int .i64 (p : Int)]) ∧ (MaxEnd (RB t) (bx b) b.length a ∧ (∀ e, a + p + e < b.length → bx b (a + p + e) = bx b (a + e)) ∧ (∀ q, 0 < q → q < p → ∃ e, a + q + e < b.length ∧ bx b (a + q + e) ≠ bx b (a + e)) ∧ a + p ≤ b.length ∧ 1 ≤ p) ∧ Below w.heap.size w w' := by
  have HX := As.mk hb
  clear hb
  obtain ⟨n, hn⟩ : ∃ n, b.length = n := ⟨_, rfl⟩
  rw [hn] at hl hne
  have hn' := As.mk hn
  have hst : As (Inv (RB t) (bx b) n 0 1 0 1) := ⟨Inv.start hne⟩
  have hord := As.mk (RB_ord t)
  have hn0 : ((n : Int) == 0) = false := by simp; omega
  rw [hn]
  clear hn
  go_enter Try.func53, Try.ntmps53
  go_wp2_with fail
  refine Calls.mono (by_calls w t) ?_
  rintro e w1 ⟨bl, rfl, hbl, hb1⟩
  have HX1 := As.mk (HX.out.below hb1)
  replace hb1 := As.mk hb1
  have hbl0 := block_lt hbl
  go_wp2
  have v1 : (w1.alloc (.cells #[.func (.func 60) #[] #[.pointer (some ⟨bl, 0, none⟩)]] 115)).cell? ⟨w1.heap.size, 0, none⟩ = some (.func (.func 60) #[] #[.pointer (some ⟨bl, 0, none⟩)]) := cell_of_blk (heap_alloc_new w1 _) 0
  have v2 : (w1.alloc (.cells #[.func (.func 60) #[] #[.pointer (some ⟨bl, 0, none⟩)]] 115)).cell? ⟨bl, 0, none⟩ = some (.bool t) := cell_of_blk (blk_old hbl) 0
  have hX2 := As.mk (HX1.out.alloc (.cells #[.func (.func 60) #[] #[.pointer (some ⟨bl, 0, none⟩)]] 115))
  have hB2 := As.mk (hb1.out.alloc hb1.out.size (.cells #[.func (.func 60) #[] #[.pointer (some ⟨bl, 0, none⟩)]] 115))
  clear hbl hbl0
  generalize (w1.alloc (.cells #[.func (.func 60) #[] #[.pointer (some ⟨bl, 0, none⟩)]] 115)) = w2 at *
  generalize w1.heap.size = ob at *
  go_loopg [7, 8, 9, 10] (2 * n + 1) (fun gk a nx k p wr => ∃ (A' N K Q m : Nat), As (2 * n + 2 ≤ gk + (A' + N + K)) ∧ a = .int .i64 A' ∧ nx = .int .i64 N ∧ k = .int .i64 K ∧ p = .int .i64 Q ∧ As (Inv (RB t) (bx b) n A' N K Q) ∧ wr = w2.drewN m)
  case atStart => exact ⟨0, 1, 0, 1, 0, ⟨by omega⟩, rfl, rfl, rfl, rfl, hst, rfl⟩
  case round =>
    obtain ⟨a, N, K, Q, m, hgk, rfl, rfl, rfl, rfl, hinv, rfl⟩ := hrel
    have h1 := hinv.out.p1
    have h2 := hinv.out.kp
    have h3 := hinv.out.nm
    have h4 := hinv.out.lo
    obtain ⟨gp, rfl⟩ : ∃ gp, gk = gp + 1 := ⟨gk - 1, by have := hgk.out; omega⟩
    by_cases hlt : N + K < n
    · obtain ⟨ad, rfl, c1⟩ := Byt.at_ hX2.out (i := a + K) (by have := hn'.out; omega)
      obtain ⟨ad', e', c2⟩ := Byt.at_ hX2.out (i := N + K) (by have := hn'.out; omega)
      injection e' with e'
      subst e'
      obtain ⟨x, hx⟩ : ∃ x, (b.getD (a + K) 0).toNat = x := ⟨_, rfl⟩
      obtain ⟨y, hy⟩ : ∃ y, (b.getD (N + K) 0).toNat = y := ⟨_, rfl⟩
      rw [hx] at c1
      rw [hy] at c2
      have hx := As.mk (show bx b (a + K) = x from hx)
      have hy := As.mk (show bx b (N + K) = y from hy)
      have hlt' : (N : Int) + (K : Int) < (n : Int) := by omega
      have hak : (a : Int) + (K : Int) < (n : Int) := by omega
      have i1 : IntKind.i64.wrap ((a : Int) + (K : Int)) = (a : Int) + (K : Int) := IntWalk.i64_in _ (by omega)
      have i2 : IntKind.i64.wrap ((N : Int) + (K : Int)) = (N : Int) + (K : Int) := IntWalk.i64_in _ (by omega)
      have j1 : 0 ≤ (a : Int) + (K : Int) := by omega
      have j2 : 0 ≤ (N : Int) + (K : Int) := by omega
      have k1 : ((a : Int) + (K : Int)).toNat = a + K := by omega
      have k2 : ((N : Int) + (K : Int)).toNat = N + K := by omega
      go_wp2
      go_quiet (fail)
      clear i1 i2 j1 j2 k1 k2
      rw [World.drewN_drewN]
      have cl := As.mk (fun (r : Bool) (hr : r = decide (RB t y x)) => less_calls (w2.drewN (m + nq)) bl t y x v2 r hr)
      have v1' : (w2.drewN (m + nq)).cell? ⟨ob, 0, none⟩ = some (.func (.func 60) #[] #[.pointer (some ⟨bl, 0, none⟩)]) := v1
      clear c1 c2
      rcases (show RB t y x ∨ (¬ RB t y x ∧ x = y) ∨ (¬ RB t y x ∧ RB t x y) by
        by_cases h1 : RB t y x
        · exact .inl h1
        · by_cases h2 : x = y
          · exact .inr (.inl ⟨h1, h2⟩)
          · rcases hord.out.tot x y h2 with h3 | h3
            · exact .inr (.inr ⟨h1, h3⟩)
            · exact absurd h3 h1) with hR | ⟨hR, hxy⟩ | ⟨hR, hR2⟩
      · have hinv2 := As.mk (hinv.out.less hord.out hlt (by rw [hx.out, hy.out]; exact hR))
        have c3 := As.mk (cl.out true (by simp [hR]))
        clear hR
        go_wp2_with (go_at_call 60; refine Calls.mono c3.out ?_; rintro e w' ⟨rfl, rfl⟩)
        go_roundg gp
        case rel => exact ⟨a, N + K + 1, 0, N + K + 1 - a, _, ⟨by have := hgk.out; omega⟩, rfl, (by first | rfl | go_num | (congr 1; omega)), rfl, (by first | rfl | go_num | (congr 1; omega)), hinv2, rfl⟩
        case measure => omega
      · subst hxy
        have c3 := As.mk (cl.out false (by simp [hR]))
        clear hR
        by_cases hk : K + 1 < Q
        · have hinv2 := As.mk (hinv.out.fits hlt (by rw [hx.out, hy.out]) hk)
          have hk1 : decide ((K : Int) + 1 < (Q : Int)) = true := by simp; omega
          go_wp2_with (go_at_call 60; refine Calls.mono c3.out ?_; rintro e w' ⟨rfl, rfl⟩)
          go_roundg gp
          case rel => exact ⟨a, N, K + 1, Q, _, ⟨by have := hgk.out; omega⟩, rfl, rfl, (by first | rfl | go_num | (congr 1; omega)), rfl, hinv2, rfl⟩
          case measure => omega
        · have hinv2 := As.mk (hinv.out.whole hlt (by rw [hx.out, hy.out]) (by omega))
          have hk1 : decide ((K : Int) + 1 < (Q : Int)) = false := by simp; omega
          go_wp2_with (go_at_call 60; refine Calls.mono c3.out ?_; rintro e w' ⟨rfl, rfl⟩)
          go_roundg gp
          case rel => exact ⟨a, N + Q, 0, Q, _, ⟨by have := hgk.out; omega⟩, rfl, (by first | rfl | go_num | (congr 1; omega)), rfl, rfl, hinv2, rfl⟩
          case measure => omega
      · have hinv2 := As.mk (hinv.out.more hord.out hlt (by rw [hx.out, hy.out]; exact hR2))
        have c3 := As.mk (cl.out false (by simp [hR]))
        have hne1 : ((x : Int) == (y : Int)) = false := by
          have : x ≠ y := fun e => hord.out.irr x (by rw [← e] at hR2; exact hR2)
          simp; omega
        clear hR hR2
        go_wp2_with (go_at_call 60; refine Calls.mono c3.out ?_; rintro e w' ⟨rfl, rfl⟩)
        go_roundg gp
        case rel => exact ⟨N, N + 1, 0, 1, _, ⟨by have := hgk.out; omega⟩, rfl, (by first | rfl | go_num | (congr 1; omega)), rfl, rfl, hinv2, rfl⟩
        case measure => omega
    · have hlt' : decide ((N : Int) + (K : Int) < (n : Int)) = false := by simp; omega
      obtain ⟨d1, d2, d3, d4⟩ := hinv.out.done hord.out (by omega)
      have hfin := As.mk (And.intro d1 (And.intro d2 (And.intro d3 (And.intro d4 h1))))
      clear d1 d2 d3 d4 hlt
      go_wp2
      go_ret2
      exact ⟨a, Q, rfl, hfin.out, below_drewN hB2.out m⟩
end Go.Proofs.Ytpkapgjpnkcffaa
