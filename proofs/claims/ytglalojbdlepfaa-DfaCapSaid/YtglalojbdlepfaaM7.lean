/- Joined texts: Dfa5, Dfa6, Dfa7, Dfa8, TrieRef, Texts, SparseFew, DfaLaw. -/
import Derived.Test.YtglalojbdlepfaaM6
import Derived.Test.YtglalojbdlepfaaM4
import Derived.Test.YtglalojbdlepfaaM3
import Derived.Test.YtglalojbdlepfaaM2
import Derived.Test.YtglalojbdlepfaaRefx
section
/- The walks of a table that is looked up: classes' table, meter's dense handle. -/
set_option linter.unusedVariables false
set_option linter.unusedSimpArgs false
namespace Go.Proofs.Ytglalojbdlepfaa
open Go.RowKit Seine.Trie Seine.Dfa Seine.Links
/-- All bytes' classes. -/
def tblCells (F : UInt8 → Nat) : List Value := (List.range 256).map fun i => Value.int .i64 (F (UInt8.ofNat i) : Int)
theorem tblCells_length (F : UInt8 → Nat) : (tblCells F).length = 256 := by simp [tblCells]
theorem tblCells_at (F : UInt8 → Nat) (c : UInt8) : (tblCells F)[c.toNat]? = some (.int .i64 (F c : Int)) := by
  unfold tblCells
  rw [List.getElem?_map, List.getElem?_range c.toNat_lt]; simp
theorem tbl_cls (F : UInt8 → Nat) (n : Nat) {i : Nat} {u : Value} (h : (tblCells F)[i]? = some u) : (clsCells F n)[i]? = some u := by
  have hi := (List.getElem?_eq_some_iff.1 h).1
  unfold clsCells tblCells at *
  rw [List.getElem?_append_left hi]; exact h
def tblV (F : UInt8 → Nat) : Array Value := (tblCells F).toArray
theorem tblV_size (F : UInt8 → Nat) : (tblV F).size = 256 := by simp [tblV, tblCells_length]
theorem tblV_one (F : UInt8 → Nat) : (tblV F).all (·.oneCell') = true := by
  refine all_oneCell_toArray ?_
  intro v hv
  obtain ⟨i, _, rfl⟩ := List.mem_map.1 hv; rfl
theorem zero_tbl : (∀ w, (zeroValue 45).run Try.prog w = .ok (.agg (tblV (fun _ => 0))) w) ∧ (Try.prog.info? 45).map (·.size) = some 256 :=
  zero_of_info (by kernel_rfl)
set_option maxRecDepth 100000 in
set_option maxHeartbeats 1600000 in
theorem ctable_calls (w : World) (F : UInt8 → Nat) (n : Nat) :
    Calls Try.prog 39 #[.agg (clsV F n)] w fun e w' => e = .returned (.agg (tblV F)) ∧ Below w.heap.size w w' := by
  have hzv := zero_tbl.1
  have hsz := zero_tbl.2
  obtain ⟨Z, hZ⟩ : ∃ Z, tblV (fun _ => 0) = Z := ⟨_, rfl⟩
  have hZs : Z.size = 256 := by rw [← hZ]; exact tblV_size _
  rw [hZ] at hzv
  have hr : ∀ (i : Nat) (u : Value), (tblCells F)[i]? = some u → (clsV F n)[i]? = some u := fun i u h => by
    have := tbl_cls F n h
    unfold clsV; rw [List.getElem?_toArray]; exact this
  obtain ⟨C, hC⟩ : ∃ C, clsV F n = C := ⟨_, rfl⟩
  rw [hC] at hr ⊢
  obtain ⟨T, hT⟩ : ∃ T, tblCells F = T := ⟨_, rfl⟩
  have hTl : T.length = 256 := by rw [← hT]; exact tblCells_length _
  have hTV : tblV F = T.toArray := by rw [← hT]; rfl
  have hT1 : T.toArray.all (·.oneCell') = true := by rw [← hTV]; exact tblV_one F
  rw [hT] at hr
  rw [hTV]
  obtain ⟨gb, hgb⟩ : ∃ g, w.heap.size = g := ⟨_, rfl⟩
  have z0 : ((w.alloc (.cells C 47)).alloc (.cells Z 45)).heap[gb]? = some (.cells C 47 (0, 0)) := by rw [← hgb]; exact blk_old (heap_alloc_new w _)
  have z1 : ((w.alloc (.cells C 47)).alloc (.cells Z 45)).heap[gb + 1]? = some (.cells Z 45 (0, 0)) := by rw [← hgb]; exact blk_new1 w _ _
  have zB : Below gb w ((w.alloc (.cells C 47)).alloc (.cells Z 45)) := by rw [← hgb]; exact ((Below.refl _ _).alloc (Nat.le_refl _) _).alloc (by simp) _
  obtain ⟨W1, hW1⟩ : ∃ W, (w.alloc (.cells C 47)).alloc (.cells Z 45) = W := ⟨_, rfl⟩
  rw [hW1] at z0 z1 zB
  have hra : As (W1.rangeAt gb 0 T) := ⟨fun j u hu => by rw [Nat.zero_add, cell_of_blk z0]; exact hr j u hu⟩
  have hq0 := blk_all (d := T.toArray) z1 (by rw [List.size_toArray, hTl, hZs])
  have hl0 := below_sets (base := gb) (Nat.le_succ gb) T 0 zB
  have hth := there_blk z1 (o := 0) (n := 256) (by omega)
  replace z0 := As.mk z0
  replace z1 := As.mk z1
  replace zB := As.mk zB
  replace hth := As.mk hth
  replace hsz := As.mk hsz
  replace hr := As.mk hr
  replace hgb := As.mk hgb
  replace hq0 := As.mk hq0
  replace hl0 := As.mk hl0
  clear hC hT hTV hZ
  go_enter Try.func39, Try.ntmps39
  go_wp2_with (first
    | (rw [hW1])
    | (rw [hgb.out])
    | (refine wpList_load_mid (w := W1) rfl 45 (.tmp 3) rfl gb 0 rfl T _ hra.out Try.underlying45 rfl (by rw [hTl]; exact hsz.out) ?_)
    | (refine wpList_store_mid (w := W1) rfl 45 (.tmp 2) (.tmp 4) rfl (gb + 1) 0 T.toArray rfl rfl (by rw [List.size_toArray, hTl]; exact hth.out) (by rw [List.size_toArray, hTl]; exact hsz.out) hT1 ?_))
  refine bodyPost_ret (v := .agg T.toArray) (results_cell_row (p := 2) (ty := 45) rfl _ _ (gb + 1) _ T.toArray _ _ rfl hq0.out Try.underlying45 rfl (by rw [List.size_toArray, hTl]; exact hsz.out)) rfl ⟨rfl, hl0.out⟩
/-- A table's numbers, row by row. -/
def tabI (G : Nat → Nat → Int) (n W : Nat) : List Int := (List.range (n * W)).map fun i => G (i / W) (i % W)
theorem tabI_length (G : Nat → Nat → Int) (n W : Nat) : (tabI G n W).length = n * W := by simp [tabI]
theorem tabI_vals (G : Nat → Nat → Int) (n W : Nat) : intVals (tabI G n W) = tabL G n W := by unfold intVals tabI tabL; rw [List.map_map]; rfl
/-- A dense handle on a table. -/
def TabD (w : World) (eb : Nat) (mo : Option Nat) (F : UInt8 → Nat) (n W : Nat) (G : Nat → Nat → Int) : Prop :=
  ∃ cb wb sb A c, w.heap[eb]? = some (.cells #[.pointer (madr mo), .func (.func 65) #[] #[.pointer (some ⟨cb, 0, none⟩), .pointer (some ⟨wb, 0, none⟩), .pointer (some ⟨sb, 0, none⟩)]] 117 (0, 0)) ∧
    w.heap[cb]? = some (.cells (tblV F) 45 (0, 0)) ∧ w.heap[wb]? = some (.cells #[.int .i64 (W : Int)] 3 (0, 0)) ∧ w.heap[sb]? = some (.cells #[.slice A (n * W) c] 70 (0, 0)) ∧ n * W ≤ c ∧ Row w A (tabL G n W) ∧ (∀ ad, A = some ad → ¬ OnlyM mo ad.block)
theorem TabD.below {w w' : World} {eb : Nat} {mo : Option Nat} {F : UInt8 → Nat} {n W : Nat} {G : Nat → Nat → Int} (h : TabD w eb mo F n W G) (hb : Below w.heap.size w w') : TabD w' eb mo F n W G := by
  obtain ⟨cb, wb, sb, A, c, h1, h2, h3, h4, h5, h6, h7⟩ := h
  exact ⟨cb, wb, sb, A, c, blkBelow hb h1, blkBelow hb h2, blkBelow hb h3, blkBelow hb h4, h5, Row.below h6 hb, h7⟩
theorem TabD.keep {w w' : World} {eb : Nat} {mo : Option Nat} {F : UInt8 → Nat} {n W : Nat} {G : Nat → Nat → Int} {cn : Cn} (h : TabD w eb mo F n W G) (hm : Mo w mo cn) (hk : Keeps (OnlyM mo) w w') : TabD w' eb mo F n W G := by
  obtain ⟨cb, wb, sb, A, c, h1, h2, h3, h4, h5, h6, h7⟩ := h
  exact ⟨cb, wb, sb, A, c, blk_keep h1 hk (hm.far h1 (.inl (by simp))), blk_keep h2 hk (hm.far h2 (.inl (by rw [tblV_size]; decide))), blk_keep h3 hk (hm.far h3 (.inl (by simp))), blk_keep h4 hk (hm.far h4 (.inl (by simp))), h5, Row.keep h6 hk (fun ad e _ => h7 ad e), h7⟩
set_option maxRecDepth 100000 in
set_option maxHeartbeats 1600000 in
theorem mdense_calls (w : World) (mo : Option Nat) (cn : Cn) (hm : Mo w mo cn) (F : UInt8 → Nat) (n W : Nat) (G : Nat → Nat → Int) (nb : Nat) (ht : w.heap[nb]? = some (.cells (tabL G n W).toArray 3 (0, 0))) (hNb : n * W ≤ 50000) :
    Calls Try.prog 38 #[.pointer (madr mo), .agg (tblV F), .int .i64 (W : Int), .slice (some ⟨nb, 0, none⟩) (n * W) (n * W)] w fun e w' => ∃ eb, e = .returned (.pointer (some ⟨eb, 0, none⟩)) ∧ TabD w' eb mo F n W G ∧ Below w.heap.size w w' := by
  obtain ⟨N, hN⟩ : ∃ N, n * W = N := ⟨_, rfl⟩
  have hIl : (tabI G n W).length = N := by rw [tabI_length, hN]
  have hrow : Ints w (some ⟨nb, 0, none⟩) (tabI G n W) := by
    unfold Ints; rw [tabI_vals]; exact rowOfBlk ht
  have cCl := As.mk (fun v (hv : Below w.heap.size w v) => cloneInts_calls v ⟨nb, 0, none⟩ N (tabI G n W) (Row.below hrow hv) (by omega))
  rw [hIl] at cCl
  rw [hN] at hNb ⊢
  have hmo := As.mk hm
  obtain ⟨T, hT⟩ : ∃ T, tblV F = T := ⟨_, rfl⟩
  have hTs : T.size = 256 := by rw [← hT]; exact tblV_size _
  rw [hT]
  replace hT := As.mk hT
  replace hN := As.mk hN
  replace hIl := As.mk hIl
  clear ht hm
  obtain ⟨gb, hgb⟩ : ∃ g, w.heap.size = g := ⟨_, rfl⟩
  have b3 : (((w.alloc (.cells T 45)).alloc (.cells #[.int .i64 (W : Int)] 3)).alloc (.cells #[.slice (some ⟨nb, 0, none⟩) N N] 70)).heap[gb + 1 + 1]? = some (.cells #[.slice (some ⟨nb, 0, none⟩) N N] 70 (0, 0)) := by
    rw [← hgb]
    have := heap_alloc_new ((w.alloc (.cells T 45)).alloc (.cells #[.int .i64 (W : Int)] 3)) (.cells #[.slice (some ⟨nb, 0, none⟩) N N] 70)
    simpa using this
  have b2 : (((w.alloc (.cells T 45)).alloc (.cells #[.int .i64 (W : Int)] 3)).alloc (.cells #[.slice (some ⟨nb, 0, none⟩) N N] 70)).heap[gb + 1]? = some (.cells #[.int .i64 (W : Int)] 3 (0, 0)) := by rw [← hgb]; exact blk_old (blk_new1 _ _ _)
  have b1 : (((w.alloc (.cells T 45)).alloc (.cells #[.int .i64 (W : Int)] 3)).alloc (.cells #[.slice (some ⟨nb, 0, none⟩) N N] 70)).heap[gb]? = some (.cells T 45 (0, 0)) := by rw [← hgb]; exact blk_old (blk_old (heap_alloc_new _ _))
  have hB : Below w.heap.size w (((w.alloc (.cells T 45)).alloc (.cells #[.int .i64 (W : Int)] 3)).alloc (.cells #[.slice (some ⟨nb, 0, none⟩) N N] 70)) := (((Below.refl _ _).alloc (Nat.le_refl _) _).alloc (by simp) _).alloc (by simp; omega) _
  obtain ⟨W1, hW1⟩ : ∃ W', (((w.alloc (.cells T 45)).alloc (.cells #[.int .i64 (W : Int)] 3)).alloc (.cells #[.slice (some ⟨nb, 0, none⟩) N N] 70)) = W' := ⟨_, rfl⟩
  rw [hW1] at b1 b2 b3 hB
  have s0 : W1.cell? ⟨gb + 1 + 1, 0, none⟩ = some (.slice (some ⟨nb, 0, none⟩) N N) := cell_of_blk b3 0
  replace b1 := As.mk b1
  replace b2 := As.mk b2
  replace b3 := As.mk b3
  replace hB := As.mk hB
  go_enter Try.func38, Try.ntmps38
  go_wp2_with (first
    | (rw [hW1])
    | (rw [hgb])
    | (go_at_call 64; refine Calls.mono (cCl.out _ hB.out) ?_; intro e w2 h2; obtain ⟨v2, he2, ho2', hb2⟩ := h2.out; subst he2; have ho2 : w2.ownsRow W1.heap.size 3 1 v2 N (tabL G n W) := (by rw [← tabI_vals, ← hIl.out]; exact ho2'); obtain ⟨A2, c2, rfl, hc2⟩ := own_slice ho2; have e3 := blkBelow hb2 b3.out; have f3 : w2.cell? ⟨gb + 1 + 1, 0, none⟩ = some (.slice (some ⟨nb, 0, none⟩) N N) := cell_of_blk e3 0; have g3 : w2.frozen? ⟨gb + 1 + 1, 0, none⟩ = false := free_of_blk e3 0; replace e3 := As.mk e3))
  go_ret
  have hrw := Row.of_own ho2
  have hW1s := block_lt b3.out
  have hAg : ∀ ad, A2 = some ad → W1.heap.size ≤ ad.block := fun ad e => by
    rcases own_addr ho2 with e' | ⟨q, e', hq⟩
    · rw [e] at e'; cases e'
    · rw [e] at e'; injection e' with e'; subst e'; exact hq
  have k0 : Keeps (fun k => k = gb + 1 + 1) w2 (w2.setCell ⟨gb + 1 + 1, 0, none⟩ (.slice A2 N c2)) := (keepsSt w2 ⟨gb + 1 + 1, 0, none⟩ _).mono fun _ _ h => h
  have kB : Below w.heap.size w (w2.setCell ⟨gb + 1 + 1, 0, none⟩ (.slice A2 N c2)) := ((hB.out.trans (hb2.mono hB.out.size)).setCell (p := ⟨gb + 1 + 1, 0, none⟩) (by rw [hgb]; show gb ≤ gb + 1 + 1; omega) _)
  have s3 := kB.size
  refine ⟨_, rfl, ⟨gb, gb + 1, gb + 1 + 1, A2, c2, ?_, ?_, ?_, ?_, by rw [hN.out]; exact hc2, ?_, fun ad e hS => ?_⟩, ?_⟩
  · have := heap_alloc_new (w2.setCell ⟨gb + 1 + 1, 0, none⟩ (.slice A2 N c2)) (.cells #[.pointer (madr mo), .func (.func 65) #[] #[.pointer (some ⟨gb, 0, none⟩), .pointer (some ⟨gb + 1, 0, none⟩), .pointer (some ⟨gb + 1 + 1, 0, none⟩)]] 117)
    rw [show (w2.setCell ⟨gb + 1 + 1, 0, none⟩ (.slice A2 N c2)).heap.size = w2.heap.size by simp [World.setCell]] at this
    exact this
  · rw [hT.out]; exact blk_old (blk_keep (blkBelow hb2 b1.out) k0 (by omega))
  · exact blk_old (blk_keep (blkBelow hb2 b2.out) k0 (by omega))
  · rw [hN.out]; exact blk_old (blk_set e3.out 0 _)
  · exact Row.alloc (Row.keep hrw k0 (fun ad e _ hS => by have := hAg ad e; omega)) _
  · have h1 := block_lt (hmo.out _ hS)
    have h2 := hAg ad e
    have h3 := hB.out.size
    omega
  · rw [hgb] at kB s3; exact kB.alloc s3 _
set_option maxRecDepth 100000 in
set_option maxHeartbeats 1600000 in
theorem mdlook_calls (w : World) (cb wb sb : Nat) (F : UInt8 → Nat) (n W : Nat) (G : Nat → Nat → Int) (A : Option Addr) (cp : Nat) (h2 : w.heap[cb]? = some (.cells (tblV F) 45 (0, 0))) (h3 : w.heap[wb]? = some (.cells #[.int .i64 (W : Int)] 3 (0, 0))) (h4 : w.heap[sb]? = some (.cells #[.slice A (n * W) cp] 70 (0, 0))) (h5 : n * W ≤ cp) (h6 : Row w A (tabL G n W))
    (hNb : n * W ≤ 50000) (a : Nat) (ha : a < n) (c : UInt8) (hc : F c < W) :
    Calls Try.prog 65 #[.agg #[.int .i64 (a : Int), .int .u8 (c.toNat : Int)], .pointer (some ⟨cb, 0, none⟩), .pointer (some ⟨wb, 0, none⟩), .pointer (some ⟨sb, 0, none⟩)] w fun e w' => e = .returned (.int .i64 (G a (F c))) ∧ Below w.heap.size w w' := by
  have hB : Below w.heap.size w (w.alloc (.cells #[.int .i64 (a : Int), .int .u8 (c.toNat : Int)] 114)) := (Below.refl _ _).alloc (Nat.le_refl _) _
  have hlt := tabL_lt ha hc
  obtain ⟨ad, rfl, hcell⟩ := Row.at_ (Row.below h6 hB) (j := a * W + F c) (by rw [tabL_length]; exact hlt)
  have hc256 := c.toNat_lt
  have c1 : (w.alloc (.cells #[.int .i64 (a : Int), .int .u8 (c.toNat : Int)] 114)).cell? ⟨cb, c.toNat, none⟩ = some (.int .i64 (F c : Int)) := by
    rw [cell_of_blk (blk_old h2)]; unfold tblV; rw [List.getElem?_toArray]; exact tblCells_at F c
  have c2 : (w.alloc (.cells #[.int .i64 (a : Int), .int .u8 (c.toNat : Int)] 114)).cell? ⟨wb, 0, none⟩ = some (.int .i64 (W : Int)) := cell_of_blk (blk_old h3) 0
  have c3 : (w.alloc (.cells #[.int .i64 (a : Int), .int .u8 (c.toNat : Int)] 114)).cell? ⟨sb, 0, none⟩ = some (.slice (some ad) (n * W) cp) := cell_of_blk (blk_old h4) 0
  have hv : (tabL G n W)[a * W + F c]'(by rw [tabL_length]; exact hlt) = .int .i64 (G a (F c)) := by
    have := tabL_at G ha hc
    rw [List.getElem?_eq_getElem (by rw [tabL_length]; exact hlt)] at this
    injection this
  rw [hv] at hcell
  clear hv h2 h3 h4 h6
  obtain ⟨r, hr⟩ : ∃ r, G a (F c) = r := ⟨_, rfl⟩
  rw [hr] at hcell ⊢
  clear hr
  obtain ⟨k, hk⟩ : ∃ k, F c = k := ⟨_, rfl⟩
  rw [hk] at hc hlt hcell c1
  clear hk
  obtain ⟨x, hx⟩ : ∃ x, c.toNat = x := ⟨_, rfl⟩
  rw [hx] at hc256 c1 ⊢
  rw [hx] at hB hcell c2 c3
  clear hx
  have haN : (a + 1) * W ≤ n * W := Nat.mul_le_mul_right _ ha
  rw [Nat.succ_mul] at haN
  obtain ⟨N, hN⟩ : ∃ N, n * W = N := ⟨_, rfl⟩
  obtain ⟨p, hp⟩ : ∃ p, a * W = p := ⟨_, rfl⟩
  have hmul : (a : Int) * (W : Int) = (p : Int) := by rw [← hp]; push_cast; rfl
  have hquo : (a : Int) ≤ ((N : Int) - 1 - (k : Int)) / (W : Int) := by
    rw [Int.le_ediv_iff_mul_le (by omega), hmul]; rw [hp, hN] at haN; omega
  rw [hN, hp] at hlt haN
  rw [hN] at h5 hNb c3
  rw [hp] at hcell
  replace hN := As.mk hN
  replace hp := As.mk hp
  obtain ⟨W1, hW1⟩ : ∃ W', w.alloc (.cells #[.int .i64 (a : Int), .int .u8 (x : Int)] 114) = W' := ⟨_, rfl⟩
  have e0 : W1.cell? ⟨w.heap.size, 0, none⟩ = some (.int .i64 (a : Int)) := by rw [← hW1]; exact cell_of_blk (heap_alloc_new _ _) 0
  have e1 : W1.cell? ⟨w.heap.size, 1, none⟩ = some (.int .u8 (x : Int)) := by rw [← hW1]; exact cell_of_blk (heap_alloc_new _ _) 1
  rw [hW1] at hB hcell c1 c2 c3
  obtain ⟨gb, hgb⟩ : ∃ g, w.heap.size = g := ⟨_, rfl⟩
  rw [hgb] at e0 e1
  replace hB := As.mk hB
  have d1 : decide ((a : Int) < 0) = false := decide_eq_false (by omega)
  have d2 : decide ((k : Int) < 0) = false := decide_eq_false (by omega)
  have d3 : decide (W ≤ k) = false := decide_eq_false (by omega)
  have d4 : decide (N ≤ k) = false := decide_eq_false (by omega)
  have w1 : IntKind.i64.wrap ((N : Int) - 1) = (N : Int) - 1 := by rw [IntKind.wrap_i64]; omega
  have w2 : IntKind.i64.wrap ((N : Int) - 1 - (k : Int)) = (N : Int) - 1 - (k : Int) := by rw [IntKind.wrap_i64]; omega
  have hW0 : ((W : Int) == 0) = false := by simp; omega
  have hW0' : ¬ (W : Int) = 0 := by omega
  have hW00 : ¬ W = 0 := by omega
  go_enter Try.func65, Try.ntmps65
  go_wp2_with (first | (rw [hW1]) | (rw [hgb]))
  go_quiet (fail)
  go_wp2
  go_ret
  exact ⟨rfl, below_drewN hB.out _⟩
theorem mlookd_calls (w : World) (eb : Nat) (mo : Option Nat) (F : UInt8 → Nat) (n W : Nat) (G : Nat → Nat → Int) (ht : TabD w eb mo F n W G) (cn : Cn) (hm : Mo w mo cn) (hok : cn.ok) (hNb : n * W ≤ 50000) (a : Nat) (ha : a < n) (c : UInt8) (hc : F c < W) :
    Calls Try.prog 41 #[.pointer (some ⟨eb, 0, none⟩), .int .i64 (a : Int), .int .u8 (c.toNat : Int)] w fun e w' => e = .returned (.int .i64 (G a (F c))) ∧ Mo w' mo { cn with l := cn.l + 1 } ∧ Keeps (OnlyM mo) w w' := by
  have hk := As.mk (fun (w' : World) (k : Keeps (OnlyM mo) w w') => ht.keep hm k)
  have hmo := As.mk hm
  obtain ⟨cb, wb, sb, A, cp, h1, h2, h3, h4, h5, h6, h7⟩ := ht
  have c0 : w.cell? ⟨eb, 0, none⟩ = some (.pointer (madr mo)) := cell_of_blk h1 0
  have hlt := block_lt h1
  obtain ⟨s, l, hh, m⟩ := cn
  have hs1 : IntKind.i64.wrap (l + 1) = l + 1 := by have := hok.2.2.1; have := hok.2.2.2.1; simp only [IntKind.wrap, IntKind.signed, IntKind.bits] at *; simp; omega
  cases mo with
  | none =>
    have hB : Below w.heap.size w (w.alloc (.cells #[.int .i64 0, .int .i64 1, .int .i64 0, .int .i64 0] 41)) := (Below.refl _ _).alloc (Nat.le_refl _) _
    have d1 := (hB.cell (p := ⟨eb, 1, none⟩) hlt).trans (cell_of_blk h1 1)
    have cl := As.mk (fun v (hv : Below w.heap.size w v) => mdlook_calls v cb wb sb F n W G A cp (blkBelow hv h2) (blkBelow hv h3) (blkBelow hv h4) h5 (Row.below h6 hv) hNb a ha c hc)
    unfold madr at c0
    simp only [Option.map_none, Option.map_some] at c0
    simp at d1
    generalize G a (F c) = r at *
    replace hB := As.mk hB
    clear h1 h2 h3 h4 h5 h6 h7 hk hmo hok hm
    go_enter Try.func41, Try.ntmps41
    go_wp2_with (first
      | (go_at_call 65; refine Calls.mono (cl.out _ hB.out) ?_; rintro e w1 ⟨rfl, hb⟩)
      | (go_at_call 66; refine Calls.mono (mcount_none _) ?_; rintro e w1 ⟨rfl, rfl⟩))
    go_ret
    exact ⟨rfl, Mo.none_ _ _, (Keeps.of_below hB.out _).trans (Keeps.of_below hb _)⟩
  | some g =>
    have hg := hmo.out g rfl
    have g0 : w.cell? ⟨g, 1, none⟩ = some (.int .i64 l) := cell_of_blk hg 1
    have f0 : w.frozen? ⟨g, 1, none⟩ = false := free_of_blk hg 1
    have hK : Keeps (OnlyM (some g)) w (w.setCell ⟨g, 1, none⟩ (.int .i64 (l + 1))) := (keepsSt w ⟨g, 1, none⟩ _).mono fun k _ e => by unfold OnlyM; exact congrArg some e.symm
    have hM : MtAt (w.setCell ⟨g, 1, none⟩ (.int .i64 (l + 1))) g ⟨s, l + 1, hh, m⟩ := by
      have := blk_set hg 1 (.int .i64 (l + 1))
      unfold MtAt
      rw [this]
      simp [cnCells]
    obtain ⟨cb', wb', sb', A', cp', k1, k2, k3, k4, k5, k6, _⟩ := hk.out _ hK
    have d1 : (w.setCell ⟨g, 1, none⟩ (.int .i64 (l + 1))).cell? ⟨eb, 1, none⟩ = some (.func (.func 65) #[] #[.pointer (some ⟨cb', 0, none⟩), .pointer (some ⟨wb', 0, none⟩), .pointer (some ⟨sb', 0, none⟩)]) := cell_of_blk k1 1
    have cl := As.mk (mdlook_calls _ cb' wb' sb' F n W G A' cp' k2 k3 k4 k5 k6 hNb a ha c hc)
    unfold madr at c0
    simp only [Option.map_none, Option.map_some] at c0
    generalize G a (F c) = r at *
    replace hK := As.mk hK
    replace hM := As.mk hM
    clear h1 h2 h3 h4 h5 h6 h7 hk hmo hok k1 k2 k3 k4 k5 k6 hg hm
    go_enter Try.func41, Try.ntmps41
    go_wp2_with (first
      | (go_at_call 65; refine Calls.mono cl.out ?_; rintro e w1 ⟨rfl, hb⟩)
      | (go_at_call 66; refine Calls.mono (mcount_some _ _) ?_; rintro e w1 ⟨rfl, rfl⟩))
    go_ret
    exact ⟨rfl, Mo.some_ (hM.out.below hb), hK.out.trans (Keeps.of_below hb _)⟩
end Go.Proofs.Ytglalojbdlepfaa
end
section
/- The walks of package dfa: a new one, a step by a number. -/
set_option linter.unusedVariables false
set_option linter.unusedSimpArgs false
namespace Go.Proofs.Ytglalojbdlepfaa
open Go.RowKit Seine.Trie Seine.Dfa Seine.Links Seine.Sparse
structure DfaB where
  tb : Nat
  tg : Nat
  lb : Nat
  lg : Nat
  nb : Nat
def clsN (l : List Txt) : Nat := (listTo (stands l) 256).length
theorem clsN_le (l : List Txt) : clsN l ≤ 256 := listTo_len _ _
/-- A table machine of some texts, in memory. -/
structure DfaIn (w : World) (g : Nat) (P l : List Txt) (B : DfaB) : Prop where
  blk : DfaBlk w g B.tg B.lg (clsF l) (clsN l) (.slice (some ⟨B.nb, 0, none⟩) (P.length * widthF l) (P.length * widthF l))
  trie : TrieAt w B.tb B.tg P (place l)
  lnk : LinksOf w B.lb B.lg P l
  tab : w.heap[B.nb]? = some (.cells (tabL (gridF P l P) P.length (widthF l)).toArray 3 (0, 0))
def DfaAt (w : World) (g : Nat) (P l : List Txt) : Prop := ∃ B, DfaIn w g P l B
theorem DfaAt.below {w w' : World} {g : Nat} {P l : List Txt} (h : DfaAt w g P l) (hb : Below w.heap.size w w') : DfaAt w' g P l := by
  obtain ⟨B, h1, h2, h3, h4⟩ := h
  exact ⟨B, h1.below hb, h2.below hb, LinksAt.below h3 hb, blkBelow hb h4⟩
theorem DfaAt.keepM {w w' : World} {g : Nat} {P l : List Txt} {mo : Option Nat} {c : Cn} (h : DfaAt w g P l) (hm : Mo w mo c) (hk : Keeps (OnlyM mo) w w') : DfaAt w' g P l := by
  obtain ⟨B, h1, h2, h3, h4⟩ := h
  have hg : ¬ OnlyM mo g := by
    obtain ⟨D, d1, d2, _⟩ := h1
    exact hm.far d1 (.inl (by omega))
  exact ⟨B, h1.keep hk hg, h2.keepM hm hk, LinksAt.keepM h3 hm hk, blk_keep h4 hk (hm.far h4 (.inr (by decide)))⟩
theorem widthF_cls (l : List Txt) : clsN l + 1 = widthF l := rfl
/-- The table says the step. -/
theorem grid_step {l : List Txt} {a : Nat} {s : Txt} (h : (paths l)[a]? = some s) (c : UInt8) : gridF (paths l) l (paths l) a (clsF l c) = place (paths l) (lng (paths l) (s ++ [c])) := by
  rw [gridF_in (paths l) l (paths l) h (List.mem_of_getElem? h)]
  exact rowF_cls l s c
/-- What `build` makes of a machine's parts. -/
def dfaD (tg lg : Nat) (C Z : Array Value) : Array Value := Array.foldl (fun cs x => cs.setIfInBounds (2 + x.snd) x.fst) ((Z.setIfInBounds 0 (.pointer (some ⟨tg, 0, none⟩))).setIfInBounds 1 (.pointer (some ⟨lg, 0, none⟩))) C.zipIdx 0 257
theorem fold_size (o : Nat) : ∀ (L : List Value) (k : Nat) (Z : Array Value), ((L.zipIdx k).foldl (fun cs x => cs.setIfInBounds (o + x.2) x.1) Z).size = Z.size
  | [], _, _ => rfl
  | v :: r, k, Z => by rw [List.zipIdx_cons, List.foldl_cons, fold_size o r (k + 1)]; simp
theorem fold_arr_size (o n : Nat) (C Z : Array Value) (hn : C.size = n) : (Array.foldl (fun cs x => cs.setIfInBounds (o + x.2) x.1) Z C.zipIdx 0 n).size = Z.size := by
  subst hn
  refine Eq.trans ?_ (fold_size o C.toList 0 Z)
  rw [← Array.toList_zipIdx, Array.foldl_toList]
  simp
theorem dfaD_size (tg lg : Nat) (C Z : Array Value) (hC : C.size = 257) : (dfaD tg lg C Z).size = Z.size := by
  unfold dfaD
  rw [fold_arr_size 2 257 C _ hC]; simp
theorem dfaD_blk {w : World} {g tg lg : Nat} {F : UInt8 → Nat} {m : Nat} {Z : Array Value} (hZ : Z.size = 260) (hZ9 : Z[259]? = some (.slice none 0 0)) (hb : w.heap[g]? = some (.cells (dfaD tg lg (clsV F m) Z) 72 (0, 0))) : DfaBlk w g tg lg F m (.slice none 0 0) := by
  have hs : (clsV F m).size = 257 := clsV_size F m
  have key : ∀ i, (dfaD tg lg (clsV F m) Z)[i]? = if 2 ≤ i ∧ i < 2 + 257 then (clsV F m)[i - 2]? else ((Z.setIfInBounds 0 (.pointer (some ⟨tg, 0, none⟩))).setIfInBounds 1 (.pointer (some ⟨lg, 0, none⟩)))[i]? := fun i => by
    unfold dfaD
    exact fold_arr 2 257 (clsV F m) _ hs i (by simp; omega)
  have k259 := key 259
  rw [if_neg (by omega), Array.getElem?_setIfInBounds_ne (by omega), Array.getElem?_setIfInBounds_ne (by omega), hZ9] at k259
  refine ⟨_, hb, ?_, ?_, ?_, fun i u hu => ?_, k259⟩
  · rw [dfaD_size _ _ _ _ hs, hZ]
  · rw [key, if_neg (by omega), Array.getElem?_setIfInBounds_ne (by omega), Array.getElem?_setIfInBounds_self_of_lt (by omega)]
  · rw [key, if_neg (by omega), Array.getElem?_setIfInBounds_self_of_lt (by simp; omega)]
  · have hi := (List.getElem?_eq_some_iff.1 hu).1
    rw [clsCells_length] at hi
    rw [key, if_pos (by omega), show 2 + i - 2 = i by omega]
    unfold clsV
    rw [List.getElem?_toArray]; exact hu
set_option maxRecDepth 100000 in
set_option maxHeartbeats 1600000 in
theorem dnew_calls (w : World) (A : Option Addr) (c : Nat) (l : List Txt) (hx : Txts w A l) (hl : tot l ≤ 100000) (hll : l.length ≤ 1000000) :
    Calls Try.prog 13 #[.slice A l.length c] w fun e w' => (if (paths l).length ≤ 160 then ∃ g, e = .returned (.tuple #[.pointer (some ⟨g, 0, none⟩), .int .i64 0]) ∧ DfaAt w' g (paths l) l else e = .returned (.tuple #[.pointer none, .int .i64 14])) ∧ Below w.heap.size w w' := by
  have cb := As.mk (build_calls w A c l hx (by omega) hll)
  have hTr := As.mk (paths_tree l)
  have hPl := paths_len l
  have hlP := As.mk (fun x (hx : x ∈ l) => text_mem_paths hx)
  have hd : As (∀ p ∈ paths l, p.length ≤ 100000) := ⟨fun p hp => path_tot hl p hp⟩
  have HX := As.mk hx
  have hlt : As (∀ t ∈ l, t.length ≤ 1000000) := ⟨fun t ht => by have := path_tot hl t (text_mem_paths ht); omega⟩
  obtain ⟨P, hP⟩ : ∃ P, paths l = P := ⟨_, rfl⟩
  rw [hP] at cb hTr hPl hlP hd ⊢
  obtain ⟨n, hn⟩ : ∃ n, P.length = n := ⟨_, rfl⟩
  rw [hn] at hPl ⊢
  have hn0 := hTr.out.len
  rw [hn] at hn0
  replace hn := As.mk hn
  replace hP := As.mk hP
  clear hx
  by_cases h160 : n ≤ 160
  · simp only [if_pos h160]
    have hno : decide (160 < n) = false := decide_eq_false (by omega)
    go_enter Try.func13, Try.ntmps13
    go_wp2_with fail
    refine Calls.mono cb.out ?_
    rintro e w1 ⟨tg, rfl, hT, hb1⟩
    have cl := As.mk (lbuild_calls w1 _ tg P l hT (by have := hn.out; omega) hd.out hlP.out)
    have cN := As.mk (nodes_calls w1 _ tg P (place l) hT)
    rw [hn.out] at cN
    replace hT := As.mk hT
    replace hb1 := As.mk hb1
    go_wp2_with (go_at_call 29; refine Calls.mono cN.out ?_; rintro e w' ⟨rfl, rfl⟩)
    refine Calls.mono cl.out ?_
    rintro e w2 ⟨lg, rfl, hL, hb2⟩
    have hT2 := As.mk (hT.out.below hb2)
    replace hL := As.mk hL
    have hB2 := As.mk (belowNext hb1.out hb2)
    have cC := As.mk (cof_calls w2 A c l (HX.out.below hB2.out) hlt.out hll)
    go_wp2_with fail
    refine Calls.mono cC.out ?_
    rintro e w3 ⟨rfl, hb3⟩
    have hT3 := As.mk (hT2.out.below hb3)
    have hL3 := As.mk (LinksAt.below hL.out hb3)
    have hB3 := As.mk (belowNext hB2.out hb3)
    obtain ⟨V, hV⟩ : ∃ V, clsV (clsF l) (listTo (stands l) 256).length = V := ⟨_, rfl⟩
    have hVs : V.size = 257 := by rw [← hV]; exact clsV_size _ _
    have hz1 : Try.zeroCells72.size = 260 := by kernel_rfl
    have hz2 : Try.zeroCells72[259]? = some (.slice none 0 0) := by kernel_rfl
    have hblk := heap_alloc_new w3 (.cells (dfaD tg lg V Try.zeroCells72) 72)
    have hD4 := dfaD_blk (F := clsF l) (m := clsN l) hz1 hz2 (show (w3.alloc (.cells (dfaD tg lg (clsV (clsF l) (clsN l)) Try.zeroCells72) 72)).heap[w3.heap.size]? = _ from heap_alloc_new w3 _)
    rw [show clsV (clsF l) (clsN l) = V from hV] at hD4
    have ha4 : Below w3.heap.size w3 (w3.alloc (.cells (dfaD tg lg V Try.zeroCells72) 72)) := (Below.refl _ _).alloc (Nat.le_refl _) _
    have hT4 := hT3.out.below ha4
    have hL4 := LinksAt.below hL3.out ha4
    have hB4 := As.mk (hB3.out.trans (ha4.mono hB3.out.size))
    have cF := As.mk (fill_calls _ _ _ w3.heap.size tg lg P l (clsF l) (clsN l) (widthF l) n hT4 hD4 (clsN_le l) (widthF_cls l) hn.out h160 hL4 (by have := hn.out; omega) hP.out (fun _ => rfl) rfl)
    replace hT4 := As.mk hT4
    replace hL4 := As.mk hL4
    replace hblk := As.mk hblk
    replace hV := As.mk hV
    clear hz1 hz2 hD4 ha4
    rw [hV.out]
    go_wp2_with fail
    refine Calls.mono cF.out ?_
    rintro e w5 ⟨rfl, nb, hnb, htab, hD5, hK5⟩
    go_wp2_with fail
    go_ret2
    have hg1 : ∀ b, b = w3.heap.size → ∃ cs t fr, (w3.alloc (.cells (dfaD tg lg V Try.zeroCells72) 72)).heap[b]? = some (.cells cs t fr) ∧ t ≠ 96 ∧ t ≠ 92 := fun b e => ⟨_, _, _, e ▸ hblk.out, by decide, by decide⟩
    have hg2 : ∀ b, b = w3.heap.size → ∃ cs t fr, (w3.alloc (.cells (dfaD tg lg V Try.zeroCells72) 72)).heap[b]? = some (.cells cs t fr) ∧ t ≠ 106 ∧ t ≠ 3 := fun b e => ⟨_, _, _, e ▸ hblk.out, by decide, by decide⟩
    have hs3 := hB3.out.size
    have hlen := hn.out
    refine ⟨⟨_, rfl, ⟨⟨_, tg, _, lg, nb⟩, ?_, hT4.out.keepOf hK5 hg1, LinksAt.keepOf hL4.out hK5 hg2, ?_⟩⟩, ?_⟩
    · show DfaBlk _ _ _ _ _ _ (.slice (some ⟨nb, 0, none⟩) (P.length * widthF l) (P.length * widthF l))
      rw [hlen]; exact hD5
    · show w5.heap[nb]? = some (.cells (tabL (gridF P l P) P.length (widthF l)).toArray 3 (0, 0))
      rw [hlen]; exact htab
    · exact hB4.out.trans (hK5.below (fun k hk e => by omega) hB4.out.size)
  · simp only [if_neg h160]
    have hno : decide (160 < n) = true := decide_eq_true (by omega)
    go_enter Try.func13, Try.ntmps13
    go_wp2_with fail
    refine Calls.mono cb.out ?_
    rintro e w1 ⟨tg, rfl, hT, hb1⟩
    have cN := As.mk (nodes_calls w1 _ tg P (place l) hT)
    rw [hn.out] at cN
    replace hT := As.mk hT
    replace hb1 := As.mk hb1
    go_wp2_with (go_at_call 29; refine Calls.mono cN.out ?_; rintro e w' ⟨rfl, rfl⟩)
    go_ret2
    exact ⟨rfl, hb1.out⟩
end Go.Proofs.Ytglalojbdlepfaa
end
section
/- The walks of package dfa: states, width, paths, a step by a number. -/
set_option linter.unusedVariables false
set_option linter.unusedSimpArgs false
namespace Go.Proofs.Ytglalojbdlepfaa
open Go.RowKit Seine.Trie Seine.Dfa Seine.Links Seine.Sparse
theorem dastates_calls (w : World) (g : Nat) (P l : List Txt) (h : DfaAt w g P l) : Calls Try.prog 21 #[.pointer (some ⟨g, 0, none⟩)] w fun e w' => e = .returned (.int .i64 (P.length : Int)) ∧ w' = w := by
  obtain ⟨B, h1, h2, h3, h4⟩ := h
  exact dstates_calls w B.tb g B.tg P (place l) h2 h1.cells.1
theorem dstates_none (w : World) : Calls Try.prog 21 #[.pointer none] w fun e w' => e = .returned (.int .i64 0) ∧ w' = w := by
  go_enter Try.func21, Try.ntmps21
  go_wp2
  go_ret
  exact ⟨rfl, rfl⟩
theorem dawidth_calls (w : World) (g : Nat) (P l : List Txt) (h : DfaAt w g P l) : Calls Try.prog 23 #[.pointer (some ⟨g, 0, none⟩)] w fun e w' => e = .returned (.int .i64 (widthF l : Int)) ∧ Below w.heap.size w w' := by
  obtain ⟨B, h1, h2, h3, h4⟩ := h
  exact width_calls w g (clsN l) (widthF l) (clsF l) (clsN_le l) rfl h1.range
theorem dwidth_none (w : World) : Calls Try.prog 23 #[.pointer none] w fun e w' => e = .returned (.int .i64 0) ∧ w' = w := by
  go_enter Try.func23, Try.ntmps23
  go_wp2
  go_ret
  exact ⟨rfl, rfl⟩
theorem dapath_calls (w : World) (g : Nat) (P l : List Txt) (h : DfaAt w g P l) (hd : ∀ p ∈ P, p.length ≤ 100000) (n : Int) : Calls Try.prog 27 #[.pointer (some ⟨g, 0, none⟩), .int .i64 n] w (RetByt w (pathF P n)) := by
  obtain ⟨B, h1, h2, h3, h4⟩ := h
  exact dpath_calls w B.tb g B.tg P (place l) h2 n hd h1.cells.1
theorem dpath_none (w : World) (n : Int) : Calls Try.prog 27 #[.pointer none, .int .i64 n] w (RetByt w []) := by
  go_enter Try.func27, Try.ntmps27
  go_wp2
  go_ret
  exact ⟨_, rfl, World.ownsRow_nil _ _ _ _, Below.refl _ _⟩
/-- What a step by a number answers. -/
def nextG (P : List Txt) (n : Int) (c : UInt8) : Int := if 0 ≤ n ∧ n < P.length then place P (lng P (P.getD n.toNat [] ++ [c])) else -1
theorem dnext_none (w : World) (n : Int) (c : UInt8) : Calls Try.prog 20 #[.pointer none, .int .i64 n, .int .u8 (c.toNat : Int)] w fun e w' => e = .returned (.int .i64 (-1)) ∧ w = w' := by
  have cS := As.mk (dstates_none w)
  rcases Int.lt_or_le n 0 with h | h
  · go_enter Try.func20, Try.ntmps20
    go_wp2_with (go_at_call 21; refine Calls.mono cS.out ?_; rintro e w' ⟨rfl, rfl⟩)
    go_ret
    exact ⟨rfl, rfl⟩
  · have h1 : decide (n < 0) = false := decide_eq_false (by omega)
    have h2 : decide (0 ≤ n) = true := decide_eq_true h
    go_enter Try.func20, Try.ntmps20
    go_wp2_with (go_at_call 21; refine Calls.mono cS.out ?_; rintro e w' ⟨rfl, rfl⟩)
    go_ret
    exact ⟨rfl, rfl⟩
set_option maxRecDepth 100000 in
set_option maxHeartbeats 1600000 in
theorem dnext_calls (w : World) (g : Nat) (P l : List Txt) (h : DfaAt w g P l) (hP : paths l = P) (hl : P.length ≤ 160) (n : Int) (c : UInt8) :
    Calls Try.prog 20 #[.pointer (some ⟨g, 0, none⟩), .int .i64 n, .int .u8 (c.toNat : Int)] w fun e w' => e = .returned (.int .i64 (nextG P n c)) ∧ Below w.heap.size w w' := by
  have cS := As.mk (dastates_calls w g P l h)
  obtain ⟨len, hlen⟩ : ∃ k, P.length = k := ⟨_, rfl⟩
  rw [hlen] at cS hl
  by_cases hn : 0 ≤ n ∧ n < P.length
  · have e1 : nextG P n c = place P (lng P (P.getD n.toNat [] ++ [c])) := if_pos hn
    rw [e1]
    rw [hlen] at hn
    obtain ⟨n0, n1⟩ := hn
    obtain ⟨a, rfl⟩ := Int.eq_ofNat_of_zero_le n0
    have ha : a < len := by omega
    have hga := get_at (P := P) (a := a) (by omega)
    rw [Int.toNat_natCast]
    have hgs : gridF P l P a (clsF l c) = place P (lng P (P.getD a [] ++ [c])) := by rw [← hP] at hga ⊢; exact grid_step hga c
    rw [← hgs]
    clear e1
    obtain ⟨B, h1, h2, h3, h4⟩ := h
    obtain ⟨W, hW⟩ : ∃ W, widthF l = W := ⟨_, rfl⟩
    have hW1 : clsN l + 1 = W := hW
    have hm := clsN_le l
    have hFlt : clsF l c < W := by rw [← hW]; exact clsF_lt l c
    rw [hW, hlen] at h1 h4
    obtain ⟨N, hN⟩ : ∃ N, len * W = N := ⟨_, rfl⟩
    have hNb : N ≤ 50000 := by rw [← hN]; exact Nat.le_trans (Nat.mul_le_mul hl (by omega : W ≤ 257)) (by decide)
    rw [hN] at h1
    obtain ⟨b0, hb0⟩ : ∃ b, a * W = b := ⟨_, rfl⟩
    have hb0N : b0 + W ≤ N := by rw [← hb0, ← hN, ← Nat.succ_mul]; exact Nat.mul_le_mul_right _ ha
    have hcell : w.cell? ⟨B.nb, b0 + clsF l c, none⟩ = some (.int .i64 (gridF P l P a (clsF l c))) := by
      rw [cell_of_blk h4, List.getElem?_toArray, ← hb0]; exact tabL_at _ ha hFlt
    have hgs1 := h1.size
    have cRow := As.mk (fun (v : World) (hv : Below w.heap.size w v) => row_calls v g B.nb N N (clsN l) W a b0 (clsF l) (a : Int) hm hW1 (h1.below hv).range (h1.below hv).size (h1.below hv).cells.2.2 rfl (by omega) hb0 hb0N (Nat.le_refl _) (by omega))
    have cCls := As.mk (fun v => class_calls v (clsF l) (clsN l) c (c.toNat : Int) rfl)
    obtain ⟨C, hC⟩ : ∃ C, clsCells (clsF l) (clsN l) = C := ⟨_, rfl⟩
    have hCs : C.length = 257 := by rw [← hC]; exact clsCells_length _ _
    rw [show clsV (clsF l) (clsN l) = C.toArray by rw [← hC]; rfl] at cCls
    have hrC := As.mk (fun (v : World) (hv : Below w.heap.size w v) => (by have := (h1.below hv).range; rw [hC] at this; exact this : v.rangeAt g 2 C))
    have hsz := As.mk zero_cls.2
    obtain ⟨r, hr⟩ : ∃ r, gridF P l P a (clsF l c) = r := ⟨_, rfl⟩
    rw [hr] at hcell ⊢
    obtain ⟨k0, hk0⟩ : ∃ k, clsF l c = k := ⟨_, rfl⟩
    rw [hk0] at hcell hFlt cCls
    have hnbl := World.block_lt_of_cell? w _ hcell
    have hce : ∀ v, Below w.heap.size w v → v.cell? ⟨B.nb, b0 + k0, none⟩ = some (.int .i64 r) := fun v hv => (hv.cell (p := ⟨B.nb, b0 + k0, none⟩) hnbl).trans hcell
    have hwd : Below w.heap.size w w.drew := (Below.refl _ _).drew
    have hno : decide ((len : Int) ≤ (a : Int)) = false := decide_eq_false (by omega)
    have hno2 : decide ((a : Int) < 0) = false := decide_eq_false (by omega)
    have hno3 : decide (len ≤ a) = false := decide_eq_false (by omega)
    replace hC := As.mk hC
    replace hr := As.mk hr
    replace hk0 := As.mk hk0
    replace hlen := As.mk hlen
    replace hW := As.mk hW
    replace hN := As.mk hN
    replace hb0 := As.mk hb0
    clear h1 h2 h3 h4 hgs hga hcell
    go_enter Try.func20, Try.ntmps20
    go_wp2_with (go_at_call 21; refine Calls.mono cS.out ?_; rintro e w' ⟨rfl, rfl⟩)
    refine wp_region_held_drew (S := fun v => Below w'.heap.size w' v) (by kernel_rfl) hwd (fun hHeld => ?_)
    refine take_lit 0 (v := ?_) rfl (by kernel_rfl) (by kernel_rfl) (by kernel_rfl) (fun _ _ _ h => h) (Or.inl ⟨by rfl, ?_⟩) (by assumption) ?_
    rotate_left 1
    · (intro w hSw; (try dsimp only at hSw); first | (go_simp; done) | (go_simp; with_reducible rfl))
    (simp only [Act.put, List.setIfInBounds_toArray, List.set_cons_zero, List.set_cons_succ])
    refine take_lit 1 (v := ?_) rfl (by kernel_rfl) (by kernel_rfl) (by kernel_rfl) (fun _ _ _ h => h) (Or.inl ⟨by rfl, ?_⟩) (by assumption) ?_
    rotate_left 1
    · (intro w hSw; (try dsimp only at hSw); first | (go_simp; done) | (go_simp; with_reducible rfl))
    (simp only [Act.put, List.setIfInBounds_toArray, List.set_cons_zero, List.set_cons_succ])
    refine take_lit 3 (v := ?_) rfl (by kernel_rfl) (by kernel_rfl) (by kernel_rfl) (fun _ _ _ h => h) (Or.inl ⟨by rfl, ?_⟩) (by assumption) ?_
    rotate_left 1
    · (intro w hSw; (try dsimp only at hSw); first | (go_simp; done) | (go_simp; with_reducible rfl))
    (simp only [Act.put, List.setIfInBounds_toArray, List.set_cons_zero, List.set_cons_succ])
    refine take_lit 4 (v := ?_) rfl (by kernel_rfl) (by kernel_rfl) (by kernel_rfl) (fun _ _ _ h => h) (Or.inl ⟨by rfl, ?_⟩) (by assumption) ?_
    rotate_left 1
    · (intro w hSw; (try dsimp only at hSw); first | (go_simp; done) | (go_simp; with_reducible rfl))
    (simp only [Act.put, List.setIfInBounds_toArray, List.set_cons_zero, List.set_cons_succ])
    refine take_lit 5 (v := ?_) rfl (by kernel_rfl) (by kernel_rfl) (by kernel_rfl) (fun _ _ _ h => h) (Or.inl ⟨by rfl, ?_⟩) (by assumption) ?_
    rotate_left 1
    · (intro w hSw; (try dsimp only at hSw); first | (go_simp; done) | (go_simp; with_reducible rfl))
    (simp only [Act.put, List.setIfInBounds_toArray, List.set_cons_zero, List.set_cons_succ])
    refine take_lit 6 rfl (by kernel_rfl) (by kernel_rfl) (by kernel_rfl) (fun _ _ _ h => h) (yieldsIf_load_mid (by rfl) _ _ rfl _ _ rfl C _ (fun v hv => hrC.out v hv) Try.underlying47 rfl (by rw [hCs]; exact hsz.out)) (by assumption) ?_
    (simp only [Act.put, List.setIfInBounds_toArray, List.set_cons_zero, List.set_cons_succ])
    refine take_lit 7 (v := ?_) rfl (by kernel_rfl) (by kernel_rfl) (by kernel_rfl) (fun _ _ _ h => h) (Or.inl ⟨by rfl, ?_⟩) (by assumption) ?_
    rotate_left 1
    · (intro w hSw; (try dsimp only at hSw); first | (go_simp; done) | (go_simp; with_reducible rfl))
    (simp only [Act.put, List.setIfInBounds_toArray, List.set_cons_zero, List.set_cons_succ])
    refine wpAnyH_ready (rs := [2]) (by kernel_rfl) (by simp) ?_
    refine AllReadyH.cons rfl (fun K hK => ?_) AllReadyH.nil
    go_simp
    go_wp2_with (go_at_call 48; refine Calls.mono (cRow.out _ hwd) ?_; rintro e w3 ⟨rfl, hb3⟩)
    have hB3 : Below w'.heap.size w' w3 := belowNext hwd hb3
    refine hK.out _ _ hB3 (fun hHeld => ?_)
    clear hK K hb3
    refine wpAnyH_ready (rs := [8]) (by kernel_rfl) (by simp) ?_
    refine AllReadyH.cons rfl (fun K hK => ?_) AllReadyH.nil
    go_simp
    go_wp2_with (go_at_call 22; refine Calls.mono (cCls.out _) ?_; rintro e w4 ⟨rfl, hb4⟩)
    have hB4 : Below w'.heap.size w' w4 := belowNext hB3 hb4
    refine hK.out _ _ hB4 (fun hHeld => ?_)
    clear hK K hb4
    refine take_lit 9 (v := ?_) rfl (by kernel_rfl) (by kernel_rfl) (by kernel_rfl) (fun _ _ _ h => h) (Or.inl ⟨by rfl, ?_⟩) (by assumption) ?_
    rotate_left 1
    · (intro w hSw; (try dsimp only at hSw); first | (go_simp; done) | (go_simp; with_reducible rfl))
    (simp only [Act.put, List.setIfInBounds_toArray, List.set_cons_zero, List.set_cons_succ])
    refine take_lit 10 (v := ?_) rfl (by kernel_rfl) (by kernel_rfl) (by kernel_rfl) (fun _ _ _ h => h) (Or.inl ⟨by rfl, ?_⟩) (by assumption) ?_
    rotate_left 1
    · (intro w hSw; (try dsimp only at hSw); first | (go_simp; done) | (go_simp; with_reducible rfl))
    (simp only [Act.put, List.setIfInBounds_toArray, List.set_cons_zero, List.set_cons_succ])
    refine take_lit 11 (v := ?_) rfl (by kernel_rfl) (by kernel_rfl) (by kernel_rfl) (fun _ _ _ h => h) (Or.inl ⟨by rfl, ?_⟩) (by assumption) ?_
    rotate_left 1
    · (intro w hSw; (try dsimp only at hSw); first | (go_simp; done) | (go_simp; with_reducible rfl))
    (simp only [Act.put, List.setIfInBounds_toArray, List.set_cons_zero, List.set_cons_succ])
    refine wpAnyH_done (by kernel_rfl) ?_ _
    go_wp2_with fail
    go_ret
    exact ⟨rfl, hB4⟩
  · have e1 : As (nextG P n c = -1) := ⟨if_neg hn⟩
    rw [e1.out]
    rw [hlen] at hn
    clear h
    rcases (show n < 0 ∨ (0 ≤ n ∧ (len : Int) ≤ n) by omega) with h | ⟨h, h'⟩
    · clear hn
      go_enter Try.func20, Try.ntmps20
      go_wp2_with (go_at_call 21; refine Calls.mono cS.out ?_; rintro e w' ⟨rfl, rfl⟩)
      go_ret
      exact ⟨rfl, Below.refl _ _⟩
    · have h1 : decide (n < 0) = false := decide_eq_false (by omega)
      have h2 : decide ((len : Int) ≤ n) = true := decide_eq_true h'
      clear hn
      go_enter Try.func20, Try.ntmps20
      go_wp2_with (go_at_call 21; refine Calls.mono cS.out ?_; rintro e w' ⟨rfl, rfl⟩)
      go_ret
      exact ⟨rfl, Below.refl _ _⟩
end Go.Proofs.Ytglalojbdlepfaa
end
section
/- The walk of dfa.Scan. -/
set_option linter.unusedVariables false
set_option linter.unusedSimpArgs false
namespace Go.Proofs.Ytglalojbdlepfaa
open Go.RowKit Go.Maps Seine.Trie Seine.Links Seine.Sparse Seine.Dfa
open Seine.Sort (sortP sortP_len)
/-- What a scan hands from byte to byte. -/
structure DScanAt (w wr : World) (P l : List Txt) (L : Txt) (mo : Option Nat) (cn : Cn) (i : Nat) (v : Value) : Prop where
  own : OwnPrs wr w.heap.size v (hitsTo P l L i)
  mt : Mo wr mo (cn.more i i)
  keep : Keeps (OnlyM mo) w wr
theorem dscan_none (w : World) (mv lv : Value) : Calls Try.prog 15 #[.pointer none, mv, lv] w fun e w' => e = .returned (.slice none 0 0) ∧ w = w' := by
  go_enter Try.func15, Try.ntmps15
  go_wp2
  go_ret
  exact ⟨rfl, rfl⟩
set_option maxRecDepth 100000 in
set_option maxHeartbeats 3200000 in
theorem dscan_calls (w : World) (g : Nat) (P l : List Txt) (h : DfaAt w g P l) (hPl : paths l = P) (hl : P.length ≤ 160) (mo : Option Nat) (cn : Cn) (hm : Mo w mo cn) (hok : cn.room) (hT : Tree P) (hlP : ∀ x, x ∈ l → x ∈ P) (m : Nat) (hpm : ∀ p ∈ P, p.length ≤ m) (hm1 : m ≤ 100000)
    (A : Option Addr) (c : Nat) (L : Txt) (hx : Byt w A L) (hL : L.length ≤ 1000000) (hLm : L.length * m ≤ 1000000) :
    Calls Try.prog 15 #[.pointer (some ⟨g, 0, none⟩), .pointer (madr mo), .slice A L.length c] w (RetPrsM w mo (sortP (hitsTo P l L L.length)) (cn.more L.length L.length)) := by
  have HA := As.mk h
  have HM := As.mk hm
  have hTr := As.mk hT
  have ctx := As.mk (fun v (hv : Below w.heap.size w v) => mtext_calls v mo cn (HM.out.below hv) A c L (Row.below hx hv) hL)
  obtain ⟨B, h1, h2, h3, h4⟩ := h
  obtain ⟨len, hlen⟩ : ∃ k, P.length = k := ⟨_, rfl⟩
  obtain ⟨W, hW⟩ : ∃ W, widthF l = W := ⟨_, rfl⟩
  rw [hlen] at hl
  have hmc := clsN_le l
  have hW1 : clsN l + 1 = W := hW
  have hNb : len * W ≤ 50000 := Nat.le_trans (Nat.mul_le_mul hl (by omega : W ≤ 257)) (by decide)
  rw [hW, hlen] at h1 h4
  have cden := As.mk (fun v (hv : Below w.heap.size w v) => mdense_calls v mo cn (HM.out.below hv) (clsF l) len W (gridF P l P) B.nb (blkBelow hv h4) hNb)
  have ctab := As.mk (fun v => ctable_calls v (clsF l) (clsN l))
  have cln := As.mk (fun v => clen_calls v (clsF l) (clsN l) hmc)
  rw [hW1] at cln
  obtain ⟨C, hC⟩ : ∃ C, clsCells (clsF l) (clsN l) = C := ⟨_, rfl⟩
  have hCs : C.length = 257 := by rw [← hC]; exact clsCells_length _ _
  rw [show clsV (clsF l) (clsN l) = C.toArray by rw [← hC]; rfl] at ctab cln
  have hrC := As.mk (fun (v : World) (hv : Below w.heap.size w v) => (by have := (h1.below hv).range; rw [hC] at this; exact this : v.rangeAt g 2 C))
  have hsz := As.mk zero_cls.2
  obtain ⟨N, hN⟩ : ∃ N, len * W = N := ⟨_, rfl⟩
  rw [hN] at h1 cden
  have hs9 : ∀ v, Below w.heap.size w v → v.cell? ⟨g, 259, none⟩ = some (.slice (some ⟨B.nb, 0, none⟩) N N) := fun v hv => (h1.below hv).cells.2.2
  obtain ⟨T, hTV⟩ : ∃ T, tblV (clsF l) = T := ⟨_, rfl⟩
  rw [hTV] at cden ctab
  obtain ⟨n, hn⟩ : ∃ k, L.length = k := ⟨_, rfl⟩
  rw [hn] at ctx hL hLm ⊢
  have hn' := As.mk hn
  have hpm' := As.mk hpm
  have hlP' := As.mk hlP
  replace hC := As.mk hC
  replace hN := As.mk hN
  replace hlen := As.mk hlen
  replace hW := As.mk hW
  replace hTV := As.mk hTV
  replace hPl := As.mk hPl
  have hwd : Below w.heap.size w w.drew := (Below.refl _ _).drew
  clear h1 h2 h3 h4 hm hT hx hn hpm hlP
  go_enter Try.func15, Try.ntmps15
  go_wp2_with fail
  go_cut [7, 8] (fun v7 v8 wx => ∃ tb eb, v7 = .pointer (some ⟨tb, 0, none⟩) ∧ v8 = .pointer (some ⟨eb, 0, none⟩) ∧ As (TextAt wx tb mo L) ∧ As (TabD wx eb mo (clsF l) len W (gridF P l P)) ∧ As (Below w.heap.size w wx))
  case first =>
    refine wp_region_held_drew (S := fun v => Below w.heap.size w v) (by kernel_rfl) hwd (fun hHeld => ?_)
    refine take_lit 0 (v := ?_) rfl (by kernel_rfl) (by kernel_rfl) (by kernel_rfl) (fun _ _ _ h => h) (Or.inl ⟨by rfl, ?_⟩) (by assumption) ?_
    rotate_left 1
    · (intro w hSw; (try dsimp only at hSw); first | (go_simp; done) | (go_simp; with_reducible rfl))
    (simp only [Act.put, List.setIfInBounds_toArray, List.set_cons_zero, List.set_cons_succ])
    refine take_lit 1 (v := ?_) rfl (by kernel_rfl) (by kernel_rfl) (by kernel_rfl) (fun _ _ _ h => h) (Or.inl ⟨by rfl, ?_⟩) (by assumption) ?_
    rotate_left 1
    · (intro w hSw; (try dsimp only at hSw); first | (go_simp; done) | (go_simp; with_reducible rfl))
    (simp only [Act.put, List.setIfInBounds_toArray, List.set_cons_zero, List.set_cons_succ])
    refine take_lit 3 (v := ?_) rfl (by kernel_rfl) (by kernel_rfl) (by kernel_rfl) (fun _ _ _ h => h) (Or.inl ⟨by rfl, ?_⟩) (by assumption) ?_
    rotate_left 1
    · (intro w hSw; (try dsimp only at hSw); first | (go_simp; done) | (go_simp; with_reducible rfl))
    (simp only [Act.put, List.setIfInBounds_toArray, List.set_cons_zero, List.set_cons_succ])
    refine take_lit 4 (v := ?_) rfl (by kernel_rfl) (by kernel_rfl) (by kernel_rfl) (fun _ _ _ h => h) (Or.inl ⟨by rfl, ?_⟩) (by assumption) ?_
    rotate_left 1
    · (intro w hSw; (try dsimp only at hSw); first | (go_simp; done) | (go_simp; with_reducible rfl))
    (simp only [Act.put, List.setIfInBounds_toArray, List.set_cons_zero, List.set_cons_succ])
    refine take_lit 5 (v := ?_) rfl (by kernel_rfl) (by kernel_rfl) (by kernel_rfl) (fun _ _ _ h => h) (Or.inl ⟨by rfl, ?_⟩) (by assumption) ?_
    rotate_left 1
    · (intro w hSw; (try dsimp only at hSw); first | (go_simp; done) | (go_simp; with_reducible rfl))
    (simp only [Act.put, List.setIfInBounds_toArray, List.set_cons_zero, List.set_cons_succ])
    refine take_lit 6 (v := ?_) rfl (by kernel_rfl) (by kernel_rfl) (by kernel_rfl) (fun _ _ _ h => h) (Or.inl ⟨by rfl, ?_⟩) (by assumption) ?_
    rotate_left 1
    · (intro w hSw; (try dsimp only at hSw); first | (go_simp; done) | (go_simp; with_reducible rfl))
    (simp only [Act.put, List.setIfInBounds_toArray, List.set_cons_zero, List.set_cons_succ])
    refine take_lit 7 rfl (by kernel_rfl) (by kernel_rfl) (by kernel_rfl) (fun _ _ _ h => h) (yieldsIf_load_mid (by rfl) _ _ rfl _ _ rfl C _ (fun v hv => hrC.out v hv) Try.underlying47 rfl (by rw [hCs]; exact hsz.out)) (by assumption) ?_
    (simp only [Act.put, List.setIfInBounds_toArray, List.set_cons_zero, List.set_cons_succ])
    refine take_lit 9 (v := ?_) rfl (by kernel_rfl) (by kernel_rfl) (by kernel_rfl) (fun _ _ _ h => h) (Or.inl ⟨by rfl, ?_⟩) (by assumption) ?_
    rotate_left 1
    · (intro w hSw; (try dsimp only at hSw); first | (go_simp; done) | (go_simp; with_reducible rfl))
    (simp only [Act.put, List.setIfInBounds_toArray, List.set_cons_zero, List.set_cons_succ])
    refine take_lit 10 (v := ?_) rfl (by kernel_rfl) (by kernel_rfl) (by kernel_rfl) (fun _ _ _ h => h) (Or.inl ⟨by rfl, ?_⟩) (by assumption) ?_
    rotate_left 1
    · (intro w hSw; (try dsimp only at hSw); first | (go_simp; done) | (go_simp; with_reducible rfl))
    (simp only [Act.put, List.setIfInBounds_toArray, List.set_cons_zero, List.set_cons_succ])
    refine take_lit 11 (v := ?_) rfl (by kernel_rfl) (by kernel_rfl) (by kernel_rfl) (fun _ _ _ h => h) (Or.inl ⟨by rfl, ?_⟩) (by assumption) ?_
    rotate_left 1
    · (intro w hSw; (try dsimp only at hSw); first | (go_simp; done) | (go_simp; with_reducible rfl))
    (simp only [Act.put, List.setIfInBounds_toArray, List.set_cons_zero, List.set_cons_succ])
    refine take_lit 12 rfl (by kernel_rfl) (by kernel_rfl) (by kernel_rfl) (fun _ _ _ h => h) (yieldsIf_load_mid (by rfl) _ _ rfl _ _ rfl C _ (fun v hv => hrC.out v hv) Try.underlying47 rfl (by rw [hCs]; exact hsz.out)) (by assumption) ?_
    (simp only [Act.put, List.setIfInBounds_toArray, List.set_cons_zero, List.set_cons_succ])
    refine take_lit 14 (v := ?_) rfl (by kernel_rfl) (by kernel_rfl) (by kernel_rfl) (fun _ _ _ h => h) (Or.inl ⟨by rfl, ?_⟩) (by assumption) ?_
    rotate_left 1
    · (intro w hSw; (try dsimp only at hSw); first | (go_simp; done) | (go_simp; with_reducible rfl))
    (simp only [Act.put, List.setIfInBounds_toArray, List.set_cons_zero, List.set_cons_succ])
    refine take_lit 15 (v := ?_) rfl (by kernel_rfl) (by kernel_rfl) (by kernel_rfl) (fun _ _ _ h => h) (Or.inl ⟨by rfl, ?_⟩) (by assumption) ?_
    rotate_left 1
    · (intro w hSw; (try dsimp only at hSw); first | (go_simp; done) | (go_simp; with_reducible rfl))
    (simp only [Act.put, List.setIfInBounds_toArray, List.set_cons_zero, List.set_cons_succ])
    refine take_lit 16 (v := ?_) rfl (by kernel_rfl) (by kernel_rfl) (by kernel_rfl) (fun _ _ _ h => h) (Or.inl ⟨by rfl, ?_⟩) (by assumption) ?_
    rotate_left 1
    · (intro w hSw; (try dsimp only at hSw); first | (go_simp; done) | (go_simp; with_reducible rfl))
    (simp only [Act.put, List.setIfInBounds_toArray, List.set_cons_zero, List.set_cons_succ])
    refine take_lit 17 (v := ?_) rfl (by kernel_rfl) (by kernel_rfl) (by kernel_rfl) (fun _ _ _ h => h) (Or.inl ⟨by rfl, ?_⟩) (by assumption) ?_
    rotate_left 1
    · (intro w hSw; (try dsimp only at hSw); first | (go_simp; done) | (go_simp; with_reducible rfl))
    (simp only [Act.put, List.setIfInBounds_toArray, List.set_cons_zero, List.set_cons_succ])
    refine wpAnyH_ready (rs := [2]) (by kernel_rfl) (by simp) ?_
    refine AllReadyH.cons rfl (fun K hK => ?_) AllReadyH.nil
    go_simp
    go_wp2_with (go_at_call 37; refine Calls.mono (ctx.out _ hwd) ?_; rintro e w1 ⟨tb, rfl, ht1, hb1⟩)
    have hB1 : Below w.heap.size w w1 := belowNext hwd hb1
    refine hK.out _ _ hB1 (fun hHeld => ?_)
    clear hK K hb1
    refine wpAnyH_ready (rs := [8]) (by kernel_rfl) (by simp) ?_
    refine AllReadyH.cons rfl (fun K hK => ?_) AllReadyH.nil
    go_simp
    go_wp2_with (go_at_call 39; refine Calls.mono (ctab.out _) ?_; rintro e w2 ⟨rfl, hb2⟩)
    have hB2 : Below w.heap.size w w2 := belowNext hB1 hb2
    have ht2 := ht1.below hb2
    refine hK.out _ _ hB2 (fun hHeld => ?_)
    clear hK K hb2 ht1
    refine wpAnyH_ready (rs := [13]) (by kernel_rfl) (by simp) ?_
    refine AllReadyH.cons rfl (fun K hK => ?_) AllReadyH.nil
    go_simp
    go_wp2_with (go_at_call 24; refine Calls.mono (cln.out _) ?_; rintro e w3 ⟨rfl, hb3⟩)
    have hB3 : Below w.heap.size w w3 := belowNext hB2 hb3
    have ht3 := ht2.below hb3
    refine hK.out _ _ hB3 (fun hHeld => ?_)
    clear hK K hb3 ht2
    refine wpAnyH_ready (rs := [18]) (by kernel_rfl) (by simp) ?_
    refine AllReadyH.cons rfl (fun K hK => ?_) AllReadyH.nil
    go_simp
    go_wp2_with (go_at_call 38; refine Calls.mono (cden.out _ hB3) ?_; rintro e w4 ⟨eb, rfl, hD4, hb4⟩)
    have hB4 : Below w.heap.size w w4 := belowNext hB3 hb4
    have ht4 := ht3.below hb4
    refine hK.out _ _ hB4 (fun hHeld => ?_)
    clear hK K hb4 ht3
    refine take_lit 19 (v := ?_) rfl (by kernel_rfl) (by kernel_rfl) (by kernel_rfl) (fun _ _ _ h => h) (Or.inl ⟨by rfl, ?_⟩) (by assumption) ?_
    rotate_left 1
    · (intro w hSw; (try dsimp only at hSw); first | (go_simp; done) | (go_simp; with_reducible rfl))
    (simp only [Act.put, List.setIfInBounds_toArray, List.set_cons_zero, List.set_cons_succ])
    refine take_lit 20 (v := ?_) rfl (by kernel_rfl) (by kernel_rfl) (by kernel_rfl) (fun _ _ _ h => h) (Or.inl ⟨by rfl, ?_⟩) (by assumption) ?_
    rotate_left 1
    · (intro w hSw; (try dsimp only at hSw); first | (go_simp; done) | (go_simp; with_reducible rfl))
    (simp only [Act.put, List.setIfInBounds_toArray, List.set_cons_zero, List.set_cons_succ])
    refine wpAnyH_done (by kernel_rfl) ?_ _
    go_wp2_with fail
    go_meet
    case rel => exact ⟨tb, eb, rfl, rfl, ⟨ht4⟩, ⟨hD4⟩, ⟨hB4⟩⟩
  case rest =>
    obtain ⟨tb, eb, rfl, rfl, hTx, hTab, hbw⟩ := hcut
    obtain ⟨W0, hW0⟩ : ∃ W, wc = W := ⟨_, rfl⟩
    rw [hW0] at hTx hTab hbw ⊢
    clear hW0 ctx cden ctab cln hs9 hrC
    have hA0 := As.mk (HA.out.below hbw.out)
    have hM0 := As.mk (HM.out.below hbw.out)
    have hglt := As.mk (fun g (e : mo = some g) => (block_lt (hM0.out g e) : g < W0.heap.size))
    have clen := As.mk (mlen_calls W0 tb mo L hTx.out)
    rw [hn'.out] at clen
    have hS0 : As (DScanAt W0 W0 P l L mo cn 0 (.slice none 0 0)) := ⟨⟨World.ownsRow_nil _ _ _ _, by rw [Cn.more_zero]; exact hM0.out, Keeps.refl _ _⟩⟩
    have hp0 : place P (lng P (L.take 0)) = 0 := by rw [List.take_zero, lng_nil, place_at hTr.out.nodup hTr.out.root]; rfl
    go_wp2_with (go_at_call 40; refine Calls.mono clen.out ?_; rintro e w' ⟨rfl, rfl⟩)
    go_loopg [9, 10, 37] (n + 1) (fun gk v9 v10 v37 wr => ∃ (i : Nat) (u : Value), u = v9 ∧ As (n + 1 ≤ gk + i) ∧ i ≤ n ∧ v37 = .int .i64 i ∧ v10 = .int .i64 (place P (lng P (L.take i))) ∧ As (DScanAt W0 wr P l L mo cn i u))
    case atStart => exact ⟨0, _, rfl, ⟨by omega⟩, Nat.zero_le _, rfl, by rw [hp0], hS0⟩
    case round =>
      obtain ⟨i, u, rfl, hgk, hi, rfl, rfl, hS⟩ := hrel
      by_cases hlt : i < n
      · obtain ⟨gp, rfl⟩ : ∃ gp, gk = gp + 1 := ⟨gk - 1, by have := hgk.out; omega⟩
        have cat := As.mk (mat_calls wr tb mo L (hTx.out.keep hM0.out hS.out.keep) _ hS.out.mt (Cn.more_ok hok (by omega) (by omega)) i (by rw [hn'.out]; exact hlt))
        have hsm := lng_mem hTr.out (L.take i)
        have hnx : lng P (lng P (L.take i) ++ [L.getD i 0]) = lng P (L.take (i + 1)) := by rw [take_snoc' L i (by rw [hn'.out]; exact hlt), ← lng_step hTr.out]
        have cst := As.mk (fun v (hk : Keeps (OnlyM mo) W0 v) (hmv : Mo v mo (cn.more (i + 1) i)) => (by
          obtain ⟨a, ea, haP⟩ := place_nat' hsm
          have h9 := mlookd_calls v eb mo (clsF l) len W (gridF P l P) (hTab.out.keep hM0.out hk) _ hmv (Cn.more_ok hok (by omega) (by omega)) hNb a (by have := (List.getElem?_eq_some_iff.1 haP).1; have := hlen.out; omega) (L.getD i 0) (by rw [← hW.out]; exact clsF_lt l _)
          have h8 : gridF P l P a (clsF l (L.getD i 0)) = place P (lng P (lng P (L.take i) ++ [L.getD i 0])) := by rw [← hPl.out] at haP ⊢; exact grid_step haP _
          rw [h8, hnx, ← ea] at h9
          have h7 : { cn.more (i + 1) i with l := (cn.more (i + 1) i).l + 1 } = cn.more (i + 1) (i + 1) := by unfold Cn.more; simp only [Cn.mk.injEq, true_and, and_true]; push_cast; omega
          rw [h7] at h9
          exact h9 : Calls Try.prog 41 #[.pointer (some ⟨eb, 0, none⟩), .int .i64 (place P (lng P (L.take i))), .int .u8 ((L.getD i 0).toNat : Int)] v fun e w' => e = .returned (.int .i64 (place P (lng P (L.take (i + 1))))) ∧ Mo w' mo (cn.more (i + 1) (i + 1)) ∧ Keeps (OnlyM mo) v w'))
        have hmS : { cn.more i i with s := (cn.more i i).s + 1 } = cn.more (i + 1) i := by unfold Cn.more; simp only [Cn.mk.injEq, true_and, and_true]; push_cast; omega
        rw [hmS] at cat
        have hendE := endsAt_eq (l := l) hTr.out (L.take (i + 1))
        have hEl := endsF_len l (lng P (L.take (i + 1)))
        have hEm := hpm'.out _ (lng_mem hTr.out (L.take (i + 1)))
        have hEr := As.mk (fun z (hz : z ∈ endsF l (lng P (L.take (i + 1)))) => endsF_range hz)
        have hh : hitsTo P l L (i + 1) = hitsTo P l L i ++ (endsF l (lng P (L.take (i + 1)))).map fun z => (((i + 1 : Nat) : Int) - z, ((i + 1 : Nat) : Int)) := rfl
        have hhl := hitsTo_len (l := l) hTr.out L m hpm'.out i
        have hll := lng_len hTr.out (L.take (i + 1))
        rw [List.length_take, hn'.out] at hll
        have cen := As.mk (fun v (hk : Keeps (OnlyM mo) W0 v) => (by
          obtain ⟨B, h1, h2, h3, h4⟩ := hA0.out.keepM hM0.out hk
          have := lends_calls v B.lb B.lg P l hTr.out hlP'.out (fun p hp => Nat.le_trans (hpm'.out p hp) hm1) h3 (place P (lng P (L.take (i + 1))))
          rw [hendE] at this
          exact ⟨_, h1.cells.2.1, this⟩ : ∃ lg, v.cell? ⟨g, 1, none⟩ = some (.pointer (some ⟨lg, 0, none⟩)) ∧ Calls Try.prog 43 #[.pointer (some ⟨lg, 0, none⟩), .int .i64 (place P (lng P (L.take (i + 1))))] v (RetInts v (endsF l (lng P (L.take (i + 1)))))))
        generalize endsF l (lng P (L.take (i + 1))) = E at *
        obtain ⟨st2, hst2⟩ : ∃ x, place P (lng P (L.take (i + 1))) = x := ⟨_, rfl⟩
        rw [hst2] at cst hendE cen
        replace hst2 := As.mk hst2
        generalize place P (lng P (L.take i)) = st1 at *
        generalize L.getD i 0 = x at *
        have hwx : IntKind.u8.wrap (x.toNat : Int) = (x.toNat : Int) := by have := x.toNat_lt; simp only [IntKind.wrap, IntKind.signed, IntKind.bits]; simp; omega
        replace hh := As.mk hh
        clear hnx hmS hendE hsm
        go_wp2_with (first
          | (go_at_call 42; refine Calls.mono cat.out ?_; rintro e w4 ⟨rfl, hm4, hk4⟩; have hk4' := hS.out.keep.trans hk4)
          | (go_at_call 41; refine Calls.mono (cst.out _ hk4' hm4) ?_; rintro e w5 ⟨rfl, hm5, hk5⟩; have hk5' := hk4'.trans hk5; obtain ⟨lg, hlg, cE⟩ := cen.out _ hk5')
          | (go_at_call 43; refine Calls.mono cE ?_; intro e w6 h6; obtain ⟨vE, heE, hoE, hb6⟩ := h6.out; subst heE; obtain ⟨AE, cE', rfl, hcE⟩ := own_slice hoE))
        obtain ⟨H, hH⟩ : ∃ H, hitsTo P l L i = H := ⟨_, rfl⟩
        obtain ⟨hSo, hSm, hSk⟩ := hS.out
        rw [hH] at hSo hh hhl
        obtain ⟨el, hel⟩ : ∃ k, E.length = k := ⟨_, rfl⟩
        have hown6 : OwnPrs w6 W0.heap.size u H := own_below (own_keep (own_keep hSo hk4 (fun b c' _ hb _ => hSm.far hb (.inr (by decide)))) hk5 (fun b c' _ hb _ => hm4.far hb (.inr (by decide)))) hb6
        have hin : As (OwnPrs w6 W0.heap.size u (H ++ (E.take 0).map fun z => (((i + 1 : Nat) : Int) - z, ((i + 1 : Nat) : Int)))) := ⟨by rw [List.take_zero, List.map_nil, List.append_nil]; exact hown6⟩
        have hmo6 := As.mk (hm5.below hb6)
        have hkp6 := As.mk (hk5'.trans (Keeps.of_below hb6 _))
        have hoE' := As.mk hoE
        have hW5 := hk5'.size
        rw [hel] at hcE ⊢
        have hHl : As (H.length + el ≤ 1000000) := ⟨by
          have : (i + 1) * m ≤ n * m := Nat.mul_le_mul_right _ (by omega)
          rw [Nat.succ_mul] at this
          omega⟩
        have hel6 : el ≤ 1000000 := by have := hHl.out; omega
        replace hel := As.mk hel
        replace hH := As.mk hH
        clear cat cst cen cE hm4 hk4 hk4' hm5 hk5 hk5' hb6 h6 hoE hown6 hS hSo hSm hSk hhl hlg
        go_loopg [9, 54] (el + 1) (fun g2 v9 v54 wq => ∃ (j : Nat) (u2 : Value), u2 = v9 ∧ As (el + 1 ≤ g2 + j) ∧ j ≤ el ∧ v54 = .int .i64 j ∧ As (OwnPrs wq W0.heap.size u2 (H ++ (E.take j).map fun z => (((i + 1 : Nat) : Int) - z, ((i + 1 : Nat) : Int)))) ∧ As (Mo wq mo (cn.more (i + 1) (i + 1))) ∧ As (Keeps (OnlyM mo) W0 wq) ∧ As (wq.ownsRow w5.heap.size 3 1 (.slice AE el cE') el (intVals E)))
        case atStart => exact ⟨0, _, rfl, ⟨by omega⟩, Nat.zero_le _, rfl, hin, hmo6, hkp6, ⟨by rw [← hel.out]; exact hoE'.out⟩⟩
        case round =>
          obtain ⟨j, u2, rfl, hgk2, hj, rfl, hown, hmq, hkq, hoq⟩ := hrel
          by_cases hjl : j < el
          · obtain ⟨gq, rfl⟩ : ∃ gq, gk = gq + 1 := ⟨gk - 1, by have := hgk2.out; omega⟩
            obtain ⟨ad, rfl, hc0⟩ := Ints.at_ (Row.of_own hoq.out) (i := j) (by rw [hel.out]; exact hjl)
            have hjE : j < E.length := by rw [hel.out]; exact hjl
            have hzz := hEr.out (E.getD j 0) (by rw [List.getD_eq_getElem?_getD, List.getElem?_eq_getElem hjE]; exact List.getElem_mem hjE)
            have htk : (E.take (j + 1)).map (fun z => (((i + 1 : Nat) : Int) - z, ((i + 1 : Nat) : Int))) = (E.take j).map (fun z => (((i + 1 : Nat) : Int) - z, ((i + 1 : Nat) : Int))) ++ [(((i + 1 : Nat) : Int) - E.getD j 0, ((i + 1 : Nat) : Int))] := by
              rw [List.take_succ_eq_append_getElem hjE, List.map_append, List.getD_eq_getElem?_getD, List.getElem?_eq_getElem hjE]; rfl
            have hql : (H ++ (E.take j).map fun z => (((i + 1 : Nat) : Int) - z, ((i + 1 : Nat) : Int))).length + 1 ≤ 1000000 := by
              rw [List.length_append, List.length_map, List.length_take]
              have := hHl.out; omega
            generalize (E.take j).map (fun z => (((i + 1 : Nat) : Int) - z, ((i + 1 : Nat) : Int))) = Q at *
            generalize E.getD j 0 = z at *
            obtain ⟨ql, hqq⟩ : ∃ k, (H ++ Q).length = k := ⟨_, rfl⟩
            rw [hqq] at hql
            have hown' : wr.ownsRow W0.heap.size 65 2 u2 ql (prCells (H ++ Q)) := by have := hown.out; unfold OwnPrs at this; rwa [hqq] at this
            have hz0 := hzz.1
            have hz1 := hzz.2
            have hsq := hkq.out.size
            have hwz : IntKind.i64.wrap ((i : Int) + 1 - z) = (i : Int) + 1 - z := by simp only [IntKind.wrap, IntKind.signed, IntKind.bits]; simp; omega
            replace hown' := As.mk hown'
            replace hqq := As.mk hqq
            replace htk := As.mk htk
            clear hjE hzz hown
            go_wp2_with (at_builtin
                         (refine wpList_app1 wr rfl (.tmp 58) (.tmp 66) 36 rfl W0.heap.size 65 _ 2 16 Try.underlying36 info_pr rfl (by decide) u2 ql (prCells (H ++ Q)) rfl hown'.out [.int .i64 ((i : Int) + 1 - z), .int .i64 ((i : Int) + 1)] rfl (by simp [Value.oneCell']) _ rfl (by simp) (by omega) (by decide) hsq ?_)
                         intro v8 w8 ho8 hk8 _ hb8)
            have hoq8 := own_keep hoq.out hk8 (fun b c' _ hb _ hS => own_not_type hown'.out hb (by decide) hS)
            have hkq8 := hkq.out.transBelow hb8
            have hmq8 := hmq.out.belowAt hglt.out hb8
            go_roundg gq
            case rel =>
              refine ⟨j + 1, _, rfl, ⟨by have := hgk2.out; omega⟩, by omega, (by first | rfl | go_num | (congr 1; omega)), ⟨?_⟩, ⟨hmq8⟩, ⟨hkq8⟩, ⟨hoq8⟩⟩
              rw [htk.out, ← List.append_assoc]
              unfold OwnPrs
              rw [List.length_append, hqq.out, List.length_singleton, prCells_snoc]
              push_cast
              exact ho8
            case measure => omega
          · obtain rfl : el = j := by omega
            have hfin : As (DScanAt W0 wr P l L mo cn (i + 1) u2) := ⟨⟨by rw [hh.out]; have := hown.out; rw [List.take_of_length_le (by rw [hel.out]; exact Nat.le_refl _)] at this; exact this, hmq.out, hkq.out⟩⟩
            go_wp2
            go_roundg gp
            case rel => exact ⟨i + 1, _, rfl, ⟨by have := hgk.out; omega⟩, by omega, (by first | rfl | go_num | (congr 1; omega)), congrArg _ hst2.out.symm, hfin⟩
            case measure => omega
      · obtain rfl : n = i := by omega
        have hhl := hitsTo_len (l := l) hTr.out L m hpm'.out n
        have hso : RetPrsM w mo (sortP (hitsTo P l L n)) (cn.more n n) = RetPrsM w mo (sortP (hitsTo P l L n)) (cn.more n n) := rfl
        have hSo := hS.out.own
        have hSm := As.mk hS.out.mt
        have hSk := As.mk hS.out.keep
        obtain ⟨Ao, co, rfl, hco, hcm, hro⟩ := OwnPrs.row2 hSo
        have cso := As.mk (sort_calls _ Ao co (hitsTo P l L n) wr (Nat.le_refl _) hro hco hcm (by omega))
        have hss := hS.out.keep.size
        clear hSo hro hS hso
        generalize sortP (hitsTo P l L n) = R at *
        go_wp2_with (go_at_call 44; refine Calls.mono cso.out ?_; intro e w9 h9; obtain ⟨v9, he, ho9, hb9⟩ := h9.out; subst he)
        go_ret
        have hs0 := hbw.out.size
        exact ⟨v9, rfl, own_base ho9 (by omega), hSm.out.below hb9, ((Keeps.of_below hbw.out _).trans hSk.out).trans (Keeps.of_below hb9 _)⟩
end Go.Proofs.Ytglalojbdlepfaa
end
section
/- The references on trees (seineref06), as the printer tells them, are the plain laws'. -/
set_option linter.unusedVariables false
set_option linter.unusedSimpArgs false
namespace Go.Proofs.Ytglalojbdlepfaa
open Go.RowKit Seine.Trie Seine.Links Go.Proofs.YtglalojbdlepfaaW.PrintWords Go.Proofs.Ytglalojbdlepfaa.Ref

theorem kdTxts {w : World} {A : Option Addr} {l : List Txt} (h : Txts w A l) (hl : l.length ≤ 9223372036854775807) (ht : ∀ x ∈ l, x.length ≤ 9223372036854775807) : Kd.C (Kd.slice 5 (Kd.int .u8)) w A l.length (l.map nb) := by
  refine ⟨by simp, hl, fun h0 => ?_⟩
  obtain ⟨ad0, A0, c0, e0, _⟩ := h.at_ h0
  refine ⟨ad0, e0, fun j p hp => ?_⟩
  have hj : j < l.length := by
    have := (List.getElem?_eq_some_iff.1 hp).1
    simpa using this
  obtain ⟨ad, A', c', e1, h1, h2, h3⟩ := h.at_ hj
  rw [e0] at e1; injection e1 with e1; subst e1
  have hp' : p = nb (l.getD j []) := by
    rw [List.getElem?_map, List.getElem?_eq_getElem hj] at hp
    injection hp with hp
    rw [← hp]; simp [List.getD_eq_getElem?_getD, hj]
  subst hp'
  have hlen : (l.getD j []).length ≤ 9223372036854775807 := ht _ (by rw [List.getD_eq_getElem?_getD, List.getElem?_eq_getElem hj]; exact List.getElem_mem _)
  refine ⟨[.slice A' (nb (l.getD j [])).length c'], rfl, ⟨A', c', rfl, by rw [nb_length]; exact h2, by rw [nb_length]; exact kdU8 h3 hlen⟩, fun i u hu => ?_⟩
  have hi : i = 0 := by
    have := (List.getElem?_eq_some_iff.1 hu).1
    simpa using this
  subst hi
  injection hu with hu
  subst hu
  have e : (Kd.slice 5 (Kd.int .u8)).sz = 1 := rfl
  rw [e, Nat.mul_one, Nat.add_zero, nb_length]
  exact h1

/-- A row of texts, as strings. -/
structure KdS (w : World) (A : Option Addr) (l : List Txt) : Prop where
  row : Kd.C Kd.string w A (l.map bb).length (l.map bb)
theorem KdS.below {w w' : World} {A : Option Addr} {l : List Txt} (h : KdS w A l) (hb : Below w.heap.size w w') : KdS w' A l := ⟨Kd.C_below h.row hb⟩
theorem KdS.at_ {w : World} {A : Option Addr} {l : List Txt} (h : KdS w A l) {i : Nat} (hi : i < l.length) : ∃ ad, A = some ad ∧ w.cell? (ad.add i) = some (.string (bb (l.getD i []))) := by
  obtain ⟨ad, e, hc⟩ := Kd.at_string h.row (i : Int) (by omega) (by rw [List.length_map]; omega)
  rw [rdOf_bb l i hi, Int.toNat_natCast] at hc
  exact ⟨ad, e, hc⟩
theorem KdS.of_R {w : World} {base e : Nat} {ok : Nat → Prop} {v : Value} {l : List Txt} (h : Kd.R Kd.string e w base ok v (l.map bb)) : ∃ A c, v = .slice A l.length c ∧ l.length ≤ c ∧ KdS w A l := by
  obtain ⟨A, c, hv, hc, hr⟩ := Kd.R_reads h
  rw [List.length_map] at hv hc
  exact ⟨A, c, hv, hc, ⟨hr⟩⟩
/-! ### Place -/
theorem place_drop {l : List Txt} {s : Txt} {i : Nat} (h : i < l.length) (hne : l.getD i [] ≠ s) : place (l.drop i) s = if place (l.drop (i + 1)) s < 0 then -1 else place (l.drop (i + 1)) s + 1 := by
  have e : l.drop i = l.getD i [] :: l.drop (i + 1) := by
    rw [List.drop_eq_getElem_cons h]; simp [List.getD_eq_getElem?_getD, h]
  rw [e, place, if_neg hne]
theorem refPlace_from (l : List Txt) (s : Txt) (hl : l.length ≤ 1000000000) : ∀ (d i : Nat), i + d = l.length → Evl (fun k => seineref06_Place.l0 k (l.map bb) (bb s) (i : Int)) (if place (l.drop i) s < 0 then -1 else i + place (l.drop i) s)
  | 0, i, h => by
    refine ⟨1, fun k hk => ?_⟩
    obtain ⟨m, rfl⟩ : ∃ m, k = m + 1 := ⟨k - 1, by omega⟩
    have hd : l.drop i = [] := List.drop_eq_nil_of_le (by omega)
    simp only [seineref06_Place.l0, List.length_map]
    rw [if_neg (by omega), hd, if_pos (by simp [place])]
  | d + 1, i, h => by
    have hi : i < l.length := by omega
    have ih := refPlace_from l s hl d (i + 1) (by omega)
    by_cases he : l.getD i [] = s
    · refine ⟨1, fun k hk => ?_⟩
      obtain ⟨m, rfl⟩ : ∃ m, k = m + 1 := ⟨k - 1, by omega⟩
      have e : l.drop i = l.getD i [] :: l.drop (i + 1) := by
        rw [List.drop_eq_getElem_cons hi]; simp [List.getD_eq_getElem?_getD, hi]
      simp only [seineref06_Place.l0, List.length_map]
      rw [if_pos (by omega), if_pos (by omega), rdOf_bb l i hi, bb_toList, bb_toList, if_pos he, e, place, if_pos he]
      simp
    · have e : (if place (l.drop i) s < 0 then -1 else i + place (l.drop i) s) = (if place (l.drop (i + 1)) s < 0 then -1 else ((i + 1 : Nat) : Int) + place (l.drop (i + 1)) s) := by
        rw [place_drop hi he]
        have := (place_range (l.drop (i + 1)) s).1
        by_cases h0 : place (l.drop (i + 1)) s < 0
        · rw [if_pos h0, if_pos h0, if_pos (by decide)]
        · rw [if_neg h0, if_neg h0, if_neg (by omega)]; push_cast; omega
      rw [e]
      refine ih.step fun k => ?_
      simp only [seineref06_Place.l0, List.length_map]
      rw [if_pos (by omega), if_pos (by omega), rdOf_bb l i hi, bb_toList, bb_toList, if_neg he, w64 (by omega) (by omega)]
      rfl
theorem refPlace (l : List Txt) (s : Txt) (hl : l.length ≤ 1000000000) : Evl (fun k => seineref06_Place.f k (l.map bb) (bb s)) (place l s) := by
  have := refPlace_from l s hl l.length 0 (by omega)
  have e : (if place (l.drop 0) s < 0 then -1 else ((0 : Nat) : Int) + place (l.drop 0) s) = place l s := by
    rw [List.drop_zero]
    have := (place_range l s).1
    split <;> omega
  rw [e] at this
  exact this

/-! ### Paths -/
theorem bb_nil : (⟨#[]⟩ : ByteArray) = bb [] := rfl
theorem refPaths_in (l : List Txt) (j : Nat) (hj : j < l.length) (hl : l.length ≤ 1000000) (ht : tot l ≤ 1000000) (R : List ByteArray)
    (hend : Evl (fun k => seineref06_Paths.l0 k (l.map bb) ((addText (paths (l.take j)) (l.getD j [])).map bb) ((j + 1 : Nat) : Int)) R) :
    ∀ (d n : Nat), n + d = (l.getD j []).length → Evl (fun k => seineref06_Paths.l1 k (l.map bb) ((addTo (paths (l.take j)) (l.getD j []) n).map bb) (j : Int) ((n + 1 : Nat) : Int)) R
  | 0, n, h => by
    obtain ⟨N, hN⟩ := hend
    refine ⟨N + 1, fun k hk => ?_⟩
    obtain ⟨m, rfl⟩ : ∃ m, k = m + 1 := ⟨k - 1, by omega⟩
    simp only [seineref06_Paths.l1, List.length_map]
    rw [if_pos (by omega), if_pos (by omega), rdOf_bb l j hj, bb_size, if_neg (by omega), w64 (by omega) (by omega)]
    have := hN m (by omega)
    rw [show addText (paths (l.take j)) (l.getD j []) = addTo (paths (l.take j)) (l.getD j []) n by unfold addText; rw [← h]; rfl] at this
    exact_mod_cast this
  | d + 1, n, h => by
    obtain ⟨N, ih⟩ := refPaths_in l j hj hl ht R hend d (n + 1) (by omega)
    have hb := tot_take l j hj
    have hlen := addTo_len (paths (l.take j)) (l.getD j []) n
    have hpl := paths_len (l.take j)
    have hnl : n < (l.getD j []).length := by omega
    generalize hP : addTo (paths (l.take j)) (l.getD j []) n = P at *
    have hPl : P.length ≤ 1000000000 := by omega
    obtain ⟨M, hM⟩ := refPlace P ((l.getD j []).take (n + 1)) hPl
    have hnext : addTo (paths (l.take j)) (l.getD j []) (n + 1) = addPath P ((l.getD j []).take (n + 1)) := by rw [addTo, hP]
    refine ⟨max N M + 1, fun k hk => ?_⟩
    obtain ⟨m, rfl⟩ : ∃ m, k = m + 1 := ⟨k - 1, by omega⟩
    have ihm := ih m (by omega)
    rw [hnext] at ihm
    have hMm : seineref06_Place.f m (P.map bb) (bb ((l.getD j []).take (n + 1))) = some (place P ((l.getD j []).take (n + 1))) := hM m (by omega)
    simp only [seineref06_Paths.l1, List.length_map]
    rw [if_pos (by omega), if_pos (by omega), rdOf_bb l j hj, bb_size, if_pos (by omega), if_pos (by omega), bb_to, show (((n + 1 : Nat) : Int)).toNat = n + 1 from rfl, hMm]
    simp only [Option.bind_some]
    by_cases h0 : place P ((l.getD j []).take (n + 1)) < 0
    · rw [if_pos h0, if_pos (by omega), w64s (n + 1) (by omega)]
      rw [addPath, if_neg (place_neg.1 h0), List.map_append] at ihm
      exact ihm
    · rw [if_neg h0, w64s (n + 1) (by omega)]
      rw [addPath, if_pos (place_mem.1 (by omega))] at ihm
      exact ihm
theorem refPaths_from (l : List Txt) (hl : l.length ≤ 1000000) (ht : tot l ≤ 1000000) : ∀ (d j : Nat), j + d = l.length → Evl (fun k => seineref06_Paths.l0 k (l.map bb) ((paths (l.take j)).map bb) (j : Int)) ((paths l).map bb)
  | 0, j, h => by
    refine ⟨1, fun k hk => ?_⟩
    obtain ⟨m, rfl⟩ : ∃ m, k = m + 1 := ⟨k - 1, by omega⟩
    simp only [seineref06_Paths.l0, List.length_map]
    rw [if_neg (by omega), List.take_of_length_le (by omega)]
  | d + 1, j, h => by
    have hj : j < l.length := by omega
    have ih := refPaths_from l hl ht d (j + 1) (by omega)
    have hs : paths (l.take (j + 1)) = addText (paths (l.take j)) (l.getD j []) := by rw [take_snoc_txt l j hj, paths_snoc]
    rw [hs] at ih
    have := refPaths_in l j hj hl ht _ ih (l.getD j []).length 0 (by omega)
    refine this.step fun k => ?_
    simp only [seineref06_Paths.l0, List.length_map]
    rw [if_pos (by omega)]
    rfl
theorem refPaths (l : List Txt) (hl : l.length ≤ 1000000) (ht : tot l ≤ 1000000) : Evl (fun k => seineref06_Paths.f k (l.map bb)) ((paths l).map bb) := by
  have := refPaths_from l hl ht l.length 0 (by omega)
  exact this
end Go.Proofs.Ytglalojbdlepfaa
end
section
/- The law's 'texts', 'few', and the references on paths, by their contracts. -/
set_option linter.unusedVariables false
set_option linter.unusedSimpArgs false
namespace Go.Proofs.Ytglalojbdlepfaa
open Go.RowKit Seine.Trie Go.Proofs.YtglalojbdlepfaaW.PrintWords Go.Proofs.Ytglalojbdlepfaa.Ref
theorem refTexts (l : List Txt) (hl : l.length ≤ 6000000000000) : Evl (fun k => seinelaw10_texts.f k (l.map nb)) (if ∀ x ∈ l, x.length ≤ 40 then (l.map bb, decide (l.length ≤ 12)) else ([], false)) := by
  have key : ∀ (d i : Nat), i + d = l.length → Evl (fun k => seinelaw10_texts.l0 k (l.map nb) ((l.take i).map bb) (i : Int)) (if ∀ x ∈ l.drop i, x.length ≤ 40 then (l.map bb, decide (l.length ≤ 12)) else ([], false)) := by
    intro d
    induction d with
    | zero =>
      intro i h
      refine ⟨1, fun k hk => ?_⟩
      obtain ⟨q, rfl⟩ : ∃ q, k = q + 1 := ⟨k - 1, by omega⟩
      simp only [seinelaw10_texts.l0, List.length_map]
      rw [if_neg (by omega), List.drop_eq_nil_of_le (by omega), if_pos (by simp), List.take_of_length_le (by omega)]
      congr 2
      rw [decide_eq_decide]; omega
    | succ d ih =>
      intro i h
      have hi : i < l.length := by omega
      have hdr : l.drop i = l.getD i [] :: l.drop (i + 1) := by
        rw [List.drop_eq_getElem_cons hi]; simp [List.getD_eq_getElem?_getD, hi]
      have hrd : (l.map nb).getD (i : Int).toNat [] = nb (l.getD i []) := by
        rw [Int.toNat_natCast]; simp [List.getD_eq_getElem?_getD, hi]
      by_cases h40 : (l.getD i []).length ≤ 40
      · have hc : (∀ x ∈ l.drop i, x.length ≤ 40) ↔ ∀ x ∈ l.drop (i + 1), x.length ≤ 40 := by
          rw [hdr]; simp only [List.mem_cons, forall_eq_or_imp]
          exact ⟨fun h => h.2, fun h => ⟨h40, h⟩⟩
        simp only [hc]
        refine (ih (i + 1) (by omega)).step fun k => ?_
        simp only [seinelaw10_texts.l0, List.length_map]
        rw [if_pos (by omega), if_pos (by omega), if_neg (by show ¬ ((((l.map nb).getD (i : Int).toNat []).length : Nat) : Int) > 40; rw [hrd, nb_length]; omega), if_pos (by rw [List.length_take]; omega), w64 (by omega) (by omega)]
        show seinelaw10_texts.l0 k _ (_ ++ [strOfNums ((l.map nb).getD (i : Int).toNat [])]) _ = _
        rw [hrd, bb_nums, take_snoc_txt l i hi, List.map_append]
        rfl
      · have hc : ¬ ∀ x ∈ l.drop i, x.length ≤ 40 := by
          rw [hdr]; intro hx; exact h40 (hx _ (by simp))
        rw [if_neg hc]
        refine ⟨1, fun k hk => ?_⟩
        obtain ⟨q, rfl⟩ : ∃ q, k = q + 1 := ⟨k - 1, by omega⟩
        simp only [seinelaw10_texts.l0, List.length_map]
        rw [if_pos (by omega), if_pos (by omega), if_pos (by show ((((l.map nb).getD (i : Int).toNat []).length : Nat) : Int) > 40; rw [hrd, nb_length]; omega)]
  have := key l.length 0 (by omega)
  rw [List.drop_zero] at this
  exact this
theorem texts_calls (w : World) (A : Option Addr) (c : Nat) (l : List Txt) (hx : Txts w A l) (hc : l.length ≤ c) (hr : c * 24 ≤ 140737488351232) (hm : ∀ x ∈ l, x.length ≤ maxLen) :
    Calls Try.prog 10 #[.slice A l.length c] w fun e w' => (∃ A' c' b, e = .returned (.tuple #[.slice A' (if b then l.length else 0) c', .bool (b && decide (l.length ≤ 12))]) ∧ (b = decide (∀ x ∈ l, x.length ≤ 40)) ∧ (b = true → l.length ≤ c' ∧ KdS w' A' l)) ∧ Below w.heap.size w w' := by
  obtain ⟨k, hk⟩ := (refTexts l (by omega)).get
  have hkd := kdTxts hx (by omega) (fun x h => by have := hm x h; unfold maxLen at this; omega)
  by_cases h40 : ∀ x ∈ l, x.length ≤ 40
  · rw [if_pos h40] at hk
    have := seinelaw10_texts.calls k A c (l.map nb) (l.map bb) (decide (l.length ≤ 12)) w (by rw [List.length_map]; exact hkd) (by rw [List.length_map]; exact hc) hk
    rw [List.length_map] at this
    refine this.mono ?_
    rintro e w' ⟨v, rfl, hR, hb⟩
    obtain ⟨A', c', rfl, hc', hS⟩ := KdS.of_R hR
    exact ⟨⟨A', c', true, by simp, (decide_eq_true h40).symm, fun _ => ⟨hc', hS⟩⟩, hb⟩
  · rw [if_neg h40] at hk
    have := seinelaw10_texts.calls k A c (l.map nb) [] false w (by rw [List.length_map]; exact hkd) (by rw [List.length_map]; exact hc) hk
    rw [List.length_map] at this
    refine this.mono ?_
    rintro e w' ⟨v, rfl, hR, hb⟩
    obtain ⟨A', c', rfl, hc', hS⟩ := KdS.of_R (l := []) hR
    exact ⟨⟨A', c', false, by simp, (decide_eq_false h40).symm, fun h => by cases h⟩, hb⟩
theorem lfew_calls (w : World) (A : Option Addr) (c : Nat) (b : Txt) (hb : Byt w A b) (hc : b.length ≤ c) (hl : b.length ≤ 9223372036854775807) :
    Calls Try.prog 11 #[.slice A b.length c] w fun e w' => e = .returned (.bool (decide (b.length ≤ 120))) ∧ Below w.heap.size w w' := by
  have := seinelaw10_few.calls A c (nb b) (decide (b.length ≤ 120)) w (by rw [nb_length]; exact kdU8 hb hl) (by rw [nb_length]; exact hc) (by simp only [seinelaw10_few.f, nb_length, Option.some.injEq, decide_eq_decide]; omega)
  rw [nb_length] at this
  exact this.mono fun e w' h => ⟨h.1, h.2.below⟩
theorem rpaths_calls (w : World) (A : Option Addr) (c : Nat) (l : List Txt) (h : KdS w A l) (hc : l.length ≤ c) (hl : l.length ≤ 1000000) (ht : tot l ≤ 1000000) :
    Calls Try.prog 14 #[.slice A l.length c] w fun e w' => ∃ A' c', e = .returned (.slice A' (paths l).length c') ∧ (paths l).length ≤ c' ∧ KdS w' A' (paths l) ∧ Below w.heap.size w w' := by
  obtain ⟨k, hk⟩ := (refPaths l hl ht).get
  have := seineref06_Paths.calls k A c (l.map bb) ((paths l).map bb) w h.row (by rw [List.length_map]; exact hc) hk
  rw [List.length_map] at this
  refine this.mono ?_
  rintro e w' ⟨v, rfl, hR, hb⟩
  obtain ⟨A', c', rfl, hc', hS⟩ := KdS.of_R hR
  exact ⟨A', c', rfl, hc', hS, hb⟩
theorem rplace_calls (w : World) (A : Option Addr) (c : Nat) (P : List Txt) (h : KdS w A P) (hc : P.length ≤ c) (hl : P.length ≤ 1000000) (s : Txt) :
    Calls Try.prog 36 #[.slice A P.length c, .string (bb s)] w fun e w' => e = .returned (.int .i64 (place P s)) ∧ Below w.heap.size w w' := by
  obtain ⟨k, hk⟩ := (refPlace P s (by omega)).get
  have := seineref06_Place.calls k A c (P.map bb) (bb s) _ w h.row (by rw [List.length_map]; exact hc) hk
  rw [List.length_map] at this
  exact this.mono fun e w' h => ⟨h.1, h.2.below⟩
/-- Of few short texts. -/
structure Few (l : List Txt) : Prop where
  len : l.length ≤ 12
  short : ∀ x ∈ l, x.length ≤ 40
theorem Few.tot {l : List Txt} (h : Few l) : tot l ≤ 480 := by
  have : ∀ l : List Txt, (∀ x ∈ l, x.length ≤ 40) → Go.Proofs.Ytglalojbdlepfaa.tot l ≤ 40 * l.length := by
    intro l
    induction l with
    | nil => intro _; simp [Go.Proofs.Ytglalojbdlepfaa.tot]
    | cons x l ih =>
      intro h
      have h1 := h x (by simp)
      have h2 := ih fun y hy => h y (by simp [hy])
      simp only [Go.Proofs.Ytglalojbdlepfaa.tot, List.map_cons, List.sum_cons, List.length_cons] at h2 ⊢
      omega
  have h1 := this l h.short
  have h2 := h.len
  omega
theorem Few.paths_len {l : List Txt} (h : Few l) : (paths l).length ≤ 481 := by have := Go.Proofs.Ytglalojbdlepfaa.paths_len l; have := h.tot; omega
theorem Few.path_short {l : List Txt} (h : Few l) : ∀ p ∈ paths l, p.length ≤ 40 := fun p hp => by
  rcases ((paths_spec l).2 p).1 hp with rfl | ⟨b, hb, k, hk, rfl⟩
  · simp
  · have := h.short b hb; rw [List.length_take]; omega
theorem text_path {l : List Txt} : ∀ x, x ∈ l → x ∈ paths l := fun x hx => ((paths_spec l).2 x).2 (.inr ⟨x, hx, x.length, Nat.le_refl _, by simp⟩)
theorem Byt.take {w : World} {A : Option Addr} {b : Txt} (h : Byt w A b) (k : Nat) : Byt w A (b.take k) := by
  rcases h with h | ⟨ad, e, hlt, hc⟩
  · have : b = [] := by have := congrArg List.length h; rw [byCells_length] at this; exact List.eq_nil_of_length_eq_zero this
    subst this
    exact .inl (by simp [byCells])
  · refine .inr ⟨ad, e, hlt, fun j u hu => hc j u ?_⟩
    unfold byCells at hu ⊢
    rw [List.map_take, List.getElem?_take] at hu
    split at hu
    · exact hu
    · cases hu
end Go.Proofs.Ytglalojbdlepfaa
end
section
/- What laws share on automatons: a scan of few texts. -/
set_option linter.unusedVariables false
set_option linter.unusedSimpArgs false
namespace Go.Proofs.Ytglalojbdlepfaa
open Go.RowKit Go.Maps Seine.Trie Seine.Links Seine.Sparse
open Seine.Sort (sortP occ mem_occ Occ)

theorem fscan_calls (w : World) (g : Nat) (l : List Txt) (hF : Few l) (h : AutoAt w g (paths l) l) (mo : Option Nat) (cn : Cn) (hm : Mo w mo cn) (hok : cn.room) (A : Option Addr) (c : Nat) (L : Txt) (hx : Byt w A L) (hL : L.length ≤ 400) :
    Calls Try.prog 32 #[.pointer (some ⟨g, 0, none⟩), .pointer (madr mo), .slice A L.length c] w (RetPrsM w mo (occ l L) (cn.more L.length (looksTo (paths l) L L.length))) := by
  have := sscan_calls w g (paths l) l h mo cn hm hok (paths_tree l) (fun x hx => text_mem_paths hx) 40 hF.path_short (by omega) (by have := hF.paths_len; omega) A c L hx (by omega) (by omega)
  rw [hits_occ (paths_tree l) (fun x hx => text_mem_paths hx) L] at this
  exact this
theorem RetPrsM.plain {w w' : World} {xs : List Pr} {cn : Cn} {e : Ending} (h : RetPrsM w none xs cn e w') : RetPrs w xs e w' := by
  obtain ⟨v, he, ho, _, hk⟩ := h
  exact ⟨v, he, ho, hk.below (fun k _ hS => by cases hS) (Nat.le_refl _)⟩
theorem Cn.zero_room : Cn.zero.room := by unfold Cn.room Cn.zero; decide
/-- A scan without a meter. -/
theorem fscan0_calls (w : World) (g : Nat) (l : List Txt) (hF : Few l) (h : AutoAt w g (paths l) l) (A : Option Addr) (c : Nat) (L : Txt) (hx : Byt w A L) (hL : L.length ≤ 400) :
    Calls Try.prog 32 #[.pointer (some ⟨g, 0, none⟩), .pointer none, .slice A L.length c] w (RetPrs w (occ l L)) :=
  (fscan_calls w g l hF h none Cn.zero (Mo.none_ _ _) Cn.zero_room A c L hx hL).mono fun _ _ h => h.plain
theorem short_paths {l : List Txt} (h : ∀ x ∈ l, x.length ≤ 40) : ∀ p ∈ paths l, p.length ≤ 40 := fun p hp => by
  rcases ((paths_spec l).2 p).1 hp with rfl | ⟨b, hb, k, hk, rfl⟩
  · simp
  · have := h b hb; rw [List.length_take]; omega
theorem short_tot : ∀ (l : List Txt), (∀ x ∈ l, x.length ≤ 40) → tot l ≤ 40 * l.length
  | [], _ => by simp [tot]
  | x :: l, h => by
    have h1 := h x (by simp)
    have h2 := short_tot l fun y hy => h y (by simp [hy])
    simp only [tot, List.map_cons, List.sum_cons, List.length_cons] at h2 ⊢
    omega
theorem fscan0s_calls (w : World) (g : Nat) (l : List Txt) (hs : ∀ x ∈ l, x.length ≤ 40) (hl : l.length ≤ 1000) (h : AutoAt w g (paths l) l) (A : Option Addr) (c : Nat) (L : Txt) (hx : Byt w A L) (hL : L.length ≤ 400) :
    Calls Try.prog 32 #[.pointer (some ⟨g, 0, none⟩), .pointer none, .slice A L.length c] w (RetPrs w (occ l L)) := by
  have h1 := short_tot l hs
  have := sscan_calls w g (paths l) l h none Cn.zero (Mo.none_ _ _) Cn.zero_room (paths_tree l) (fun x hx => text_mem_paths hx) 40 (short_paths hs) (by omega) (by have := Go.Proofs.Ytglalojbdlepfaa.paths_len l; omega) A c L hx (by omega) (by omega)
  rw [hits_occ (paths_tree l) (fun x hx => text_mem_paths hx) L] at this
  exact this.mono fun _ _ h => h.plain
/-- A scan with a meter that is younger than a world: what is older stays. -/
theorem RetPrsM.young {w0 w w' : World} {g : Nat} {xs : List Pr} {cn : Cn} {e : Ending} (h : RetPrsM w (some g) xs cn e w') (hb : Below w0.heap.size w0 w) (hg : w0.heap.size ≤ g) : Below w0.heap.size w0 w' := by
  obtain ⟨v, he, ho, _, hk⟩ := h
  refine hb.trans (hk.below (fun k hk hS => ?_) hb.size)
  unfold OnlyM at hS; injection hS with hS; omega
theorem few_looks (l : List Txt) (L : Txt) : L.length ≤ looksTo (paths l) L L.length ∧ looksTo (paths l) L L.length ≤ 2 * L.length := by
  have := looksTo_cost (paths_tree l) L L.length (Nat.le_refl _)
  omega
end Go.Proofs.Ytglalojbdlepfaa
end
section
/- What the laws on table machines share: a new one of few states, one of too many; a scan of few texts. -/
set_option linter.unusedVariables false
set_option linter.unusedSimpArgs false
namespace Go.Proofs.Ytglalojbdlepfaa
open Go.RowKit Go.Maps Seine.Trie Seine.Links Seine.Sparse Seine.Dfa
open Seine.Sort (sortP occ mem_occ Occ)
theorem dnew_yes_calls (w : World) (A : Option Addr) (c : Nat) (l : List Txt) (hx : Txts w A l) (hl : tot l ≤ 100000) (hll : l.length ≤ 1000000) (h : (paths l).length ≤ 160) :
    Calls Try.prog 13 #[.slice A l.length c] w fun e w' => ∃ g, e = .returned (.tuple #[.pointer (some ⟨g, 0, none⟩), .int .i64 0]) ∧ DfaAt w' g (paths l) l ∧ Below w.heap.size w w' :=
  (dnew_calls w A c l hx hl hll).mono fun e w' hh => by
    rw [if_pos h] at hh
    obtain ⟨⟨g, h1, h2⟩, h3⟩ := hh
    exact ⟨g, h1, h2, h3⟩
theorem dnew_no_calls (w : World) (A : Option Addr) (c : Nat) (l : List Txt) (hx : Txts w A l) (hl : tot l ≤ 100000) (hll : l.length ≤ 1000000) (h : ¬ (paths l).length ≤ 160) :
    Calls Try.prog 13 #[.slice A l.length c] w fun e w' => e = .returned (.tuple #[.pointer none, .int .i64 14]) ∧ Below w.heap.size w w' :=
  (dnew_calls w A c l hx hl hll).mono fun e w' hh => by
    rw [if_neg h] at hh
    exact hh
theorem fdscan_calls (w : World) (g : Nat) (l : List Txt) (hF : ∀ x ∈ l, x.length ≤ 40) (h : DfaAt w g (paths l) l) (h160 : (paths l).length ≤ 160) (mo : Option Nat) (cn : Cn) (hm : Mo w mo cn) (hok : cn.room) (A : Option Addr) (c : Nat) (L : Txt) (hx : Byt w A L) (hL : L.length ≤ 1000) :
    Calls Try.prog 15 #[.pointer (some ⟨g, 0, none⟩), .pointer (madr mo), .slice A L.length c] w (RetPrsM w mo (occ l L) (cn.more L.length L.length)) := by
  have := dscan_calls w g (paths l) l h rfl h160 mo cn hm hok (paths_tree l) (fun x hx => text_mem_paths hx) 40 (short_paths hF) (by omega) A c L hx (by omega) (by omega)
  rw [hits_occ (paths_tree l) (fun x hx => text_mem_paths hx) L] at this
  exact this
theorem fdscan0_calls (w : World) (g : Nat) (l : List Txt) (hF : ∀ x ∈ l, x.length ≤ 40) (h : DfaAt w g (paths l) l) (h160 : (paths l).length ≤ 160) (A : Option Addr) (c : Nat) (L : Txt) (hx : Byt w A L) (hL : L.length ≤ 1000) :
    Calls Try.prog 15 #[.pointer (some ⟨g, 0, none⟩), .pointer none, .slice A L.length c] w (RetPrs w (occ l L)) :=
  (fdscan_calls w g l hF h h160 none Cn.zero (Mo.none_ _ _) Cn.zero_room A c L hx hL).mono fun _ _ h => h.plain
theorem u8_byte {a : Int} (h : (Lit.int .u8 a).wf = true) : ∃ c : UInt8, a = (c.toNat : Int) := by
  exact ⟨_, (u8_in h).symm⟩
end Go.Proofs.Ytglalojbdlepfaa
end
