/- The walks of package critical, and of package twoway's parts. -/
import Derived.Test.YtpkapgjpnkcffaaTwoWalk
import Derived.Test.YtpkapgjpnkcffaaStr
set_option linter.unusedVariables false
set_option linter.unusedSimpArgs false
namespace Go.Proofs.Ytpkapgjpnkcffaa
open Go.RowKit Seine.Trie Seine.Two Go.Proofs.YtpkapgjpnkcffaaW.PrintWords

theorem set3 {w : World} {b t : Nat} {x y z : Value} (h : w.heap[b]? = some (.cells #[x, y, z] t (0, 0))) (u v s : Value) : (w.setCell ⟨b, 0, none⟩ u).cell? ⟨b, 0, none⟩ = some u ∧ ((w.setCell ⟨b, 0, none⟩ u).setCell ⟨b, 1, none⟩ v).cell? ⟨b, 1, none⟩ = some v ∧
    (((w.setCell ⟨b, 0, none⟩ u).setCell ⟨b, 1, none⟩ v).setCell ⟨b, 2, none⟩ s).cell? ⟨b, 2, none⟩ = some s :=
  ⟨(cell_of_blk (blk_set h 0 u) 0).trans (by simp), (cell_of_blk (blk_set (blk_set h 0 u) 1 v) 1).trans (by simp), (cell_of_blk (blk_set (blk_set (blk_set h 0 u) 1 v) 2 s) 2).trans (by simp)⟩
/-- What the greatest ends tell of a text's cut, ahead of its period. -/
def CutP (x : Nat → Nat) (m a q : Nat) : Prop := a < m ∧ Crit x m a ∧ 1 ≤ q ∧ (∀ e, a + q + e < m → x (a + q + e) = x (a + e)) ∧ (∀ p, 0 < p → p < q → ∃ e, a + p + e < m ∧ x (a + p + e) ≠ x (a + e)) ∧ a + q ≤ m
set_option maxHeartbeats 800000 in
theorem cut_calls (w : World) (A : Option Addr) (c : Nat) (b : Txt) (hb : Byt w A b) (hl : b.length ≤ 1000000) (hne : 0 < b.length) :
    Calls Try.prog 34 #[.slice A b.length c] w fun e w' => ∃ a q : Nat, e = .returned (.agg #[.int .i64 (a : Int), .int .i64 (q : Int), .bool false]) ∧ CutP (bx b) b.length a q ∧ Below w.heap.size w w' := by
  have HX := As.mk hb
  clear hb
  obtain ⟨n, hn⟩ : ∃ n, b.length = n := ⟨_, rfl⟩
  have cm := As.mk (fun (v : World) (h : Byt v A b) t => max_calls v A c b t h hl hne)
  rw [hn] at cm hl hne
  rw [hn]
  clear hn
  go_enter Try.func34, Try.ntmps34
  go_wp2_with fail
  refine Calls.mono (cm.out _ ?_ false) ?_
  · exact HX.out.alloc _
  rintro e w1 ⟨a1, p1, rfl, h1, hb1⟩
  replace h1 := As.mk h1
  have hs1 := hb1.size
  simp only [World.size_alloc] at hs1
  have hx1 := As.mk ((HX.out.alloc (.cells #[.int .i64 0, .int .i64 0, .bool false] 45)).below hb1)
  have z1 := As.mk (blkBelow hb1 (heap_alloc_new w (.cells #[.int .i64 0, .int .i64 0, .bool false] 45)))
  have hB1 := As.mk (((Below.refl w.heap.size w).alloc (Nat.le_refl _) (.cells #[.int .i64 0, .int .i64 0, .bool false] 45)).trans (hb1.mono (by simp)))
  clear hb1
  go_wp2_with fail
  refine Calls.mono (cm.out _ hx1.out true) ?_
  rintro e w2 ⟨a2, p2, rfl, h2, hb2⟩
  replace h2 := As.mk h2
  have z2 := As.mk (blkBelow hb2 z1.out)
  have hB2 := As.mk (hB1.out.trans (hb2.mono (by omega)))
  have hs2 := hb2.size
  clear hb2
  have y0 := cell_of_blk z2.out 0
  have y1 := cell_of_blk z2.out 1
  have y2 := cell_of_blk z2.out 2
  have f0 := free_of_blk z2.out 0
  have f1 := free_of_blk z2.out 1
  have f2 := free_of_blk z2.out 2
  simp at y0 y1 y2
  by_cases hgt : a1 < a2
  · have hgt' : decide ((a1 : Int) < (a2 : Int)) = true := by simp; omega
    have hc : CutP (bx b) n a2 p2 := by
      obtain ⟨m1, _⟩ := h1.out
      obtain ⟨m2, r2, r3, r4, r5⟩ := h2.out
      exact ⟨m2.1, crit_of (RB_ord true) (fun a b => (RB_flip b a).symm) m2 m1 (by omega), r5, r2, r3, r4⟩
    go_wp2
    obtain ⟨e0, e1, e2⟩ := set3 z2.out (.int .i64 (a2 : Int)) (.int .i64 (p2 : Int)) (.bool false)
    refine bodyPost_ret (v := .agg #[.int .i64 (a2 : Int), .int .i64 (p2 : Int), .bool false]) (by simp [results, Try.results34, go_sem, e0, e1, e2]) rfl ⟨a2, p2, rfl, hc, ?_⟩
    exact ((hB2.out.setCell (by simp) _).setCell (by simp) _).setCell (by simp) _
  · have hgt' : decide ((a1 : Int) < (a2 : Int)) = false := by simp; omega
    have hc : CutP (bx b) n a1 p1 := by
      obtain ⟨m1, r2, r3, r4, r5⟩ := h1.out
      obtain ⟨m2, _⟩ := h2.out
      exact ⟨m1.1, crit_of (RB_ord false) (fun a b => RB_flip a b) m1 m2 (by omega), r5, r2, r3, r4⟩
    go_wp2
    obtain ⟨e0, e1, e2⟩ := set3 z2.out (.int .i64 (a1 : Int)) (.int .i64 (p1 : Int)) (.bool false)
    refine bodyPost_ret (v := .agg #[.int .i64 (a1 : Int), .int .i64 (p1 : Int), .bool false]) (by simp [results, Try.results34, go_sem, e0, e1, e2]) rfl ⟨a1, p1, rfl, hc, ?_⟩
    exact ((hB2.out.setCell (by simp) _).setCell (by simp) _).setCell (by simp) _

/-- A piece of a row of bytes. -/
theorem Byt.piece {w : World} {ad : Addr} {b : Txt} (h : Byt w (some ad) b) (i k : Nat) (hik : i + k ≤ b.length) : Byt w (some (ad.add i)) ((b.drop i).take k) := by
  rcases Nat.eq_zero_or_pos k with rfl | hk
  · exact .inl (by simp [byCells])
  · rcases h with h | ⟨ad', e, hlt, hc⟩
    · have := congrArg List.length h; rw [byCells_length] at this; simp at this; simp [this] at hik; omega
    · injection e with e
      subst e
      refine .inr ⟨_, rfl, by rw [Addr.block_add]; exact hlt, fun j u hu => ?_⟩
      rw [Addr.add_add']
      refine hc _ u ?_
      unfold byCells at hu ⊢
      rw [List.getElem?_map, List.getElem?_take] at hu
      split at hu
      · rw [List.getElem?_drop] at hu; rw [List.getElem?_map]; exact hu
      · simp at hu
theorem Byt.empty (w : World) (A : Option Addr) : Byt w A [] := .inl rfl
theorem conv_byt {w : World} {src : TypeId} {A : Option Addr} {b : Txt} {c : Nat} (hs : Try.prog.underlying src = some (.slice 5)) (h : Byt w A b) (hl : b.length ≤ 9223372036854775807) : (convert src 9 (.slice A b.length c)).run Try.prog w = .ok (.string (bb b)) w := by
  have := Kd.C_string (P := Try.prog) (src := src) (dst := 9) (c := c) hs Try.underlying5 Try.underlying9 (kdU8 h hl)
  rw [bb_nums] at this
  exact this

set_option maxHeartbeats 800000 in
theorem alike_calls (w : World) (ad : Addr) (c : Nat) (b : Txt) (hb : Byt w (some ad) b) (hl : b.length ≤ 1000000) (hc : b.length ≤ c) (q a : Nat) (hqa : a + q ≤ b.length) (hq : 1 ≤ q) :
    Calls Try.prog 35 #[.slice (some ad) b.length c, .int .i64 0, .int .i64 (q : Int), .int .i64 (a : Int)] w fun e w' => e = .returned (.bool (decide (b.take a = (b.drop q).take a))) ∧ Below w.heap.size w w' := by
  obtain ⟨n, hn⟩ : ∃ n, b.length = n := ⟨_, rfl⟩
  rw [hn] at hl hc hqa
  rw [hn]
  have hn := As.mk hn
  have hb := As.mk hb
  have hcA : ∀ m c', (convert 73 9 (.slice (some ad) a c')).run Try.prog (w.drewN m) = .ok (.string (bb (b.take a))) (w.drewN m) := fun m c' => by
    have h0 : Byt (w.drewN m) (some ad) (b.take a) := by
      have := Byt.piece (b := b) (hb.out.drewN m) 0 a (by have := hn.out; omega)
      rwa [show ad.add 0 = ad from (by unfold Addr.add; simp), List.drop_zero] at this
    have := conv_byt (c := c') Try.underlying73 h0 (by rw [List.length_take]; have := hn.out; omega)
    rwa [show (b.take a).length = a by rw [List.length_take]; have := hn.out; omega] at this
  have hcB : ∀ m c', (convert 73 9 (.slice (some (ad.add q)) a c')).run Try.prog (w.drewN m) = .ok (.string (bb ((b.drop q).take a))) (w.drewN m) := fun m c' => by
    have h0 := Byt.piece (b := b) (hb.out.drewN m) q a (by have := hn.out; omega)
    have := conv_byt (c := c') Try.underlying73 h0 (by rw [List.length_take, List.length_drop]; have := hn.out; omega)
    rwa [show ((b.drop q).take a).length = a by rw [List.length_take, List.length_drop]; have := hn.out; omega] at this
  have hn1 : (a : Int) ≤ (c : Int) := by omega
  have hn2 : (q : Int) + (a : Int) ≤ (c : Int) := by omega
  have hn3 : (q : Int) ≤ (q : Int) + (a : Int) := by omega
  by_cases he : b.take a = (b.drop q).take a
  · rw [decide_eq_true he]
    rw [← he] at hcB
    obtain ⟨x, hx⟩ : ∃ x, bb (b.take a) = x := ⟨_, rfl⟩
    rw [hx] at hcA hcB
    clear hx he
    by_cases hqc : q < c
    · go_enter Try.func35, Try.ntmps35
      go_wp2
      go_quiet (fail)
      go_wp2
      go_ret
      exact ⟨rfl, below_drewN (Below.refl _ _) _⟩
    · obtain rfl : a = 0 := by omega
      obtain rfl : q = c := by omega
      go_enter Try.func35, Try.ntmps35
      go_wp2
      go_quiet (fail)
      go_wp2
      go_ret
      exact ⟨rfl, below_drewN (Below.refl _ _) _⟩
  · rw [decide_eq_false he]
    have hqc : q < c := by
      rcases Nat.lt_or_ge q c with h | h
      · exact h
      · exfalso
        obtain rfl : a = 0 := by omega
        exact he (by simp)
    obtain ⟨x, hx⟩ : ∃ x, bb (b.take a) = x := ⟨_, rfl⟩
    obtain ⟨y, hy⟩ : ∃ y, bb ((b.drop q).take a) = y := ⟨_, rfl⟩
    have hne : (x.toList == y.toList) = false := by
      rw [← hx, ← hy, bb_toList, bb_toList]; simpa using he
    rw [hx] at hcA
    rw [hy] at hcB
    clear hx hy he
    go_enter Try.func35, Try.ntmps35
    go_wp2
    go_quiet (fail)
    go_wp2
    go_ret
    exact ⟨rfl, below_drewN (Below.refl _ _) _⟩

theorem eqSplit (d : Nat) (w : World) (x0 y0 x1 y1 : Int) (x2 y2 : Bool) :
    (Op.equalIn (d + 2) 45 (.agg #[.int .i64 x0, .int .i64 x1, .bool x2]) (.agg #[.int .i64 y0, .int .i64 y1, .bool y2])).run Try.prog w = .ok (x0 == y0 && (x1 == y1 && (x2 == y2))) w := by
  have h := field_eq (P := Try.prog) (d := d + 1) (w := w) (xs := #[.int .i64 x0, .int .i64 x1, .bool x2]) (ys := #[.int .i64 y0, .int .i64 y1, .bool y2]) (f := ⟨"At", 3, 0, false, "", "", 0⟩) (by decide) (by go_simp; rfl) (by go_simp; rfl) (by go_simp; rfl)
    (field_eq (f := ⟨"Per", 3, 1, false, "", "", 8⟩) (by decide) (by go_simp; rfl) (by go_simp; rfl) (by go_simp; rfl)
      (field_eq (f := ⟨"Small", 4, 2, false, "", "", 16⟩) (by decide) (by go_simp; rfl) (by go_simp; rfl) (by go_simp; rfl) fields_none))
  rw [Bool.and_true] at h
  exact struct_eq Try.underlying45 (by kernel_rfl) h
theorem small_iff (b : Txt) (a q : Nat) (h : a + q ≤ b.length) : b.take a = (b.drop q).take a ↔ ∀ k, k < a → bx b k = bx b (k + q) := by
  constructor
  · intro he k hk
    have := congrArg (fun l => (l.getD k 0).toNat) he
    simp only [List.getD_eq_getElem?_getD, List.getElem?_take, List.getElem?_drop, if_pos hk] at this
    unfold bx
    rw [List.getD_eq_getElem?_getD, List.getD_eq_getElem?_getD, Nat.add_comm k q]; exact this
  · intro he
    refine txt_ext (by rw [List.length_take, List.length_take, List.length_drop]; omega) fun j hj => ?_
    have hja : j < a := by rw [List.length_take] at hj; omega
    have := he j hja
    unfold bx at this
    have h2 := UInt8.toNat_inj.1 this
    simp only [List.getD_eq_getElem?_getD, List.getElem?_take, List.getElem?_drop, if_pos hja] at h2 ⊢
    rw [Nat.add_comm q j]; exact h2

attribute [local go_sem high] eqSplit
attribute [local go_sem] max2_i min2_i max_two' min_two'
set_option maxRecDepth 100000 in
set_option maxHeartbeats 1600000 in
theorem factor_calls (w : World) (ad : Addr) (c : Nat) (b : Txt) (hb : Byt w (some ad) b) (hl : b.length ≤ 1000000) (hne : 0 < b.length) (hc : b.length ≤ c) :
    Calls Try.prog 19 #[.slice (some ad) b.length c] w fun e w' => ∃ (a s : Nat) (sm : Bool), e = .returned (.agg #[.int .i64 (a : Int), .int .i64 (s : Int), .bool sm]) ∧ Cut (bx b) b.length a s sm ∧ Below w.heap.size w w' := by
  have hu := Try.underlying45
  have HX := As.mk hb
  clear hb
  have hmf : ∀ (fn : Fn) (first cap : Array Value) (w : World), (Instr.makeFunc fn first cap).run Try.prog w = .ok (.func fn first cap) w := fun _ _ _ _ => rfl
  have ca := As.mk (fun (v : World) (h : Byt v (some ad) b) q a h1 h2 => alike_calls v ad c b h hl hc q a h1 h2)
  have cc := As.mk (fun (v : World) (h : Byt v (some ad) b) => cut_calls v (some ad) c b h hl hne)
  have hsm := As.mk (fun a q h => small_iff b a q h)
  have hco := As.mk (fun (a q : Nat) (h : CutP (bx b) b.length a q) (sm : Bool) hs => cut_of hne h.1 h.2.1 h.2.2.1 h.2.2.2.1 h.2.2.2.2.1 h.2.2.2.2.2 (small := sm) hs)
  obtain ⟨n, hn⟩ : ∃ n, b.length = n := ⟨_, rfl⟩
  rw [hn] at ca cc hsm hl hne hc hco
  rw [hn]
  clear hn
  go_enter Try.func19, Try.ntmps19
  go_wp2_with fail
  refine Calls.mono (cc.out _ ?_) ?_
  · exact HX.out.alloc _
  rintro e w1 ⟨a, q, rfl, hcp, hb1⟩
  have hs1 := hb1.size
  simp only [World.size_alloc] at hs1
  have hx1 := As.mk ((HX.out.alloc (.cells #[.int .i64 0, .int .i64 0, .bool false] 45)).below hb1)
  have z1 := As.mk (blkBelow hb1 (heap_alloc_new w (.cells #[.int .i64 0, .int .i64 0, .bool false] 45)))
  have hB1 := As.mk (((Below.refl w.heap.size w).alloc (Nat.le_refl _) (.cells #[.int .i64 0, .int .i64 0, .bool false] 45)).trans (hb1.mono (by simp)))
  have hq1 : 1 ≤ q := hcp.2.2.1
  have haq : a + q ≤ n := hcp.2.2.2.2.2
  have han : a < n := hcp.1
  replace hcp := As.mk hcp
  clear hb1
  have hq0 : ((q : Int) == 0) = false := by simp; omega
  have z2 := blk_old (o' := .cells #[.int .i64 (a : Int), .int .i64 (q : Int), .bool false] 45) z1.out
  have z3 := heap_alloc_new w1 (.cells #[.int .i64 (a : Int), .int .i64 (q : Int), .bool false] 45)
  have hx2 := As.mk (hx1.out.alloc (.cells #[.int .i64 (a : Int), .int .i64 (q : Int), .bool false] 45))
  have hB2 := As.mk (hB1.out.alloc (by omega) (.cells #[.int .i64 (a : Int), .int .i64 (q : Int), .bool false] 45))
  have y0 := cell_of_blk z3 0
  have y1 := cell_of_blk z3 1
  have y2 := cell_of_blk z3 2
  simp at y0 y1 y2
  go_wp2_with fail
  refine Calls.mono (ca.out _ hx2.out q a haq hq1) ?_
  rintro e w3 ⟨rfl, hb3⟩
  have hs3 := hb3.size
  simp only [World.size_alloc] at hs3
  have z2 := blkBelow hb3 z2
  have z3 := blkBelow hb3 z3
  have hB3 := As.mk (hB2.out.trans (hb3.mono (by simp; omega)))
  have hlt : w.heap.size < w1.heap.size := by omega
  clear hb3 y0 y1 y2
  obtain ⟨sm, hsm2⟩ : ∃ sm, decide (b.take a = (b.drop q).take a) = sm := ⟨_, rfl⟩
  have hcut := As.mk (hco.out a q hcp.out sm (by rw [← hsm2, decide_eq_true_iff]; exact hsm.out a q haq))
  rw [hsm2]
  clear hsm2
  generalize w1.heap.size = b3 at *
  obtain ⟨r0, hr0⟩ : ∃ r0, w.heap.size = r0 := ⟨_, rfl⟩
  rw [hr0] at z2 hB3 hlt ⊢
  have y0 := cell_of_blk z3 0
  have y1 := cell_of_blk z3 1
  have y2 := cell_of_blk z3 2
  have g0 := cell_of_blk z2 0
  have g1 := cell_of_blk z2 1
  have g2 := cell_of_blk z2 2
  have f0 := free_of_blk z3 0
  have f1 := free_of_blk z3 1
  have f2 := free_of_blk z3 2
  have k0 := free_of_blk z2 0
  have k1 := free_of_blk z2 1
  have k2 := free_of_blk z2 2
  simp at y0 y1 y2 g0 g1 g2
  have hne3 : ¬ r0 = b3 := by omega
  have hne4 : ¬ b3 = r0 := by omega
  have hbs3 := block_lt z3
  cases sm with
  | true =>
    have e2 : (w3.setCell ⟨b3, 2, none⟩ (.bool true)).cell? ⟨b3, 2, none⟩ = some (.bool true) := (cell_of_blk (blk_set z3 2 _) 2).trans (by simp)
    have zr := blk_far z2 (p := ⟨b3, 2, none⟩) hne3 (.bool true)
    obtain ⟨o0, o1, o2⟩ := set3 zr (.int .i64 (a : Int)) (.int .i64 (q : Int)) (.bool true)
    replace z2 := As.mk z2
    replace z3 := As.mk z3
    replace zr := As.mk zr
    go_wp2
    refine bodyPost_ret (v := .agg #[.int .i64 (a : Int), .int .i64 (q : Int), .bool true]) (by simp [results, Try.results19, go_sem, o0, o1, o2]) rfl ⟨a, q, true, rfl, hcut.out, ?_⟩
    rw [hr0]
    exact (((hB3.out.setCell (by show r0 ≤ b3; omega) _).setCell (Nat.le_refl _) _).setCell (Nat.le_refl _) _).setCell (Nat.le_refl _) _
  | false =>
    have hmx : As (((max a (n - a) + 1 : Nat) : Int) = max (a : Int) ((n : Int) - (a : Int)) + 1) := ⟨by omega⟩
    obtain ⟨S, hS⟩ : ∃ S : Nat, max a (n - a) + 1 = S := ⟨_, rfl⟩
    have hS2 : max (a : Int) ((n : Int) - (a : Int)) + 1 = (S : Int) := by rw [← hmx.out, hS]
    have e2 : (w3.setCell ⟨b3, 2, none⟩ (.bool false)).cell? ⟨b3, 2, none⟩ = some (.bool false) := (cell_of_blk (blk_set z3 2 _) 2).trans (by simp)
    have e1 : ((w3.setCell ⟨b3, 2, none⟩ (.bool false)).setCell ⟨b3, 1, none⟩ (.int .i64 (S : Int))).cell? ⟨b3, 1, none⟩ = some (.int .i64 (S : Int)) := (cell_of_blk (blk_set (blk_set z3 2 _) 1 _) 1).trans (by simp)
    have zr := blk_far (blk_far z2 (p := ⟨b3, 2, none⟩) hne3 (.bool false)) (p := ⟨b3, 1, none⟩) hne3 (.int .i64 (S : Int))
    obtain ⟨o0, o1, o2⟩ := set3 zr (.int .i64 (a : Int)) (.int .i64 (S : Int)) (.bool false)
    have hcut2 : As (Cut (bx b) n a S false) := ⟨by have := hcut.out; simp only [Bool.false_eq_true, if_false] at this; rw [hS] at this; exact this⟩
    replace z2 := As.mk z2
    replace z3 := As.mk z3
    replace zr := As.mk zr
    clear hcut hS
    have hw1 : IntKind.i64.wrap ((n : Int) - (a : Int)) = (n : Int) - (a : Int) := IntWalk.i64_in _ (by omega)
    go_wp2
    refine bodyPost_ret (v := .agg #[.int .i64 (a : Int), .int .i64 (S : Int), .bool false]) (by simp [results, Try.results19, go_sem, o0, o1, o2]) rfl ⟨a, S, false, rfl, hcut2.out, ?_⟩
    rw [hr0]
    exact ((((hB3.out.setCell (by show r0 ≤ b3; omega) _).setCell (by show r0 ≤ b3; omega) _).setCell (Nat.le_refl _) _).setCell (Nat.le_refl _) _).setCell (Nat.le_refl _) _
end Go.Proofs.Ytpkapgjpnkcffaa
