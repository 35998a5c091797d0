/- The walks of package trie: a tree in memory, and what grows it. -/
import Derived.Test.YtcajccknkjljfaaProg
import Derived.Test.YtcajccknkjljfaaBase2
import Derived.Test.YtcajccknkjljfaaMaps
import Derived.Test.YtcajccknkjljfaaTriePure
import Derived.Deep.QuietTactic
import Derived.BigQuiet
import Derived.Deep.DeepCutAuto
import Derived.StillTailTactics
import Derived.Deep.AppendLies
import Derived.Deep.RegionLaw
import Derived.WalkMore
import Derived.ProofKit
set_option linter.unusedVariables false
set_option linter.unusedSimpArgs false
namespace Go.Proofs.Ytcajccknkjljfaa
open Go.RowKit Go.Maps Seine.Trie

theorem laidOut' : laidOutB Try.prog = true := by kernel_rfl
theorem edge_law : Keyed Try.prog 67 := Keyed.of_law (deep_law_laid laidOut' (m := 3) (by omega) (of_decide_eq_true (by kernel_rfl)) (by kernel_rfl) (by kernel_rfl))
theorem zero_int (w : World) : (zeroValue 3).run Try.prog w = .ok (.int .i64 0) w := by kernel_rfl
theorem edge_key (a : Int) (c : UInt8) (h0 : 0 ≤ a) (h1 : a ≤ 1000000000) : ∃ kl, keyOf Try.prog 67 (.agg #[.int .i64 a, .int .u8 (c.toNat : Int)]) = some kl := by
  have hc := c.toNat_lt
  have hs : Try.prog.types.size = (Try.prog.types.size - 1) + 1 := by decide +kernel
  have w1 : (Lit.int .i64 a).wf = true := by simp [Lit.wf, IntKind.min, IntKind.max, IntKind.signed, IntKind.bits]; omega
  have w2 : (Lit.int .u8 (c.toNat : Int)).wf = true := by simp [Lit.wf, IntKind.min, IntKind.max, IntKind.signed, IntKind.bits]; omega
  have hk : Try.prog.keyType 67 = true := by kernel_rfl
  have hf : (Value.agg #[.int .i64 a, .int .u8 (c.toNat : Int)]).formed Try.prog 67 = true := by
    simp only [Value.formed, Try.underlying67]; kernel_rfl
  unfold keyOf
  simp only [Try.underlying67, hk, hf, Bool.and_self, if_true]
  have h2 : Try.prog.keyLits (Try.prog.types.size + 1) 67 [.int .i64 a, .int .u8 (c.toNat : Int)] = some [.int .i64 a, .int .u8 (c.toNat : Int)] := by
    rw [hs]
    generalize Try.prog.types.size - 1 = n
    have c3 : Try.prog.cellsOf 3 = 1 := by kernel_rfl
    have c5 : Try.prog.cellsOf 5 = 1 := by kernel_rfl
    have c67 : Try.prog.cellsOf 67 = 2 := by kernel_rfl
    have k1 : Try.prog.keyLits (n + 1) 3 [.int .i64 a] = some [.int .i64 a] := by simp only [Program.keyLits, Try.underlying3, w1, and_self, if_true]
    have k2 : Try.prog.keyLits (n + 1) 5 [.int .u8 (c.toNat : Int)] = some [.int .u8 (c.toNat : Int)] := by simp only [Program.keyLits, Try.underlying5, w2, and_self, if_true]
    unfold Program.keyLits
    rw [Try.underlying67]
    simp [c67, c3, c5, k1, k2]
  simp only [Value.cells]
  show ∃ kl, Option.map _ (Try.prog.keyLits (Try.prog.types.size + 1) 67 [.int .i64 a, .int .u8 (c.toNat : Int)]) = some kl
  rw [h2]
  exact ⟨_, rfl⟩

def tnode (P : List Txt) (W : Txt → Int) (p : Txt) : List Value := [.int .i64 (parent P p), .int .i64 p.length, .int .i64 (W p), .int .u8 ((lastB p).toNat : Int)]
def nodeCells (P : List Txt) (W : Txt → Int) : List Value := P.flatMap (tnode P W)
/-- where an edge leads -/
def edgeF (P : List Txt) : Value → Option Int
  | .agg ⟨[.int .i64 a, .int .u8 c]⟩ => if 0 ≤ a ∧ a < P.length ∧ 0 ≤ c ∧ c < 256 ∧ 0 ≤ place P (P.getD a.toNat [] ++ [UInt8.ofNat c.toNat]) then some (place P (P.getD a.toNat [] ++ [UInt8.ofNat c.toNat])) else none
  | _ => none
theorem getD_app (P m : List Txt) {i : Nat} (h : i < P.length) : (P ++ m).getD i [] = P.getD i [] := by
  rw [List.getD_eq_getElem?_getD, List.getElem?_append_left h, ← List.getD_eq_getElem?_getD]
theorem ofNat_toNat (c : UInt8) : UInt8.ofNat ((c.toNat : Int)).toNat = c := by simp
theorem edgeF_at (P : List Txt) (a : Nat) (c : UInt8) (ha : a < P.length) : edgeF P (.agg #[.int .i64 (a : Int), .int .u8 (c.toNat : Int)]) = if P.getD a [] ++ [c] ∈ P then some (place P (P.getD a [] ++ [c])) else none := by
  have hc := c.toNat_lt
  unfold edgeF
  simp only [Int.toNat_natCast, UInt8.ofNat_toNat]
  by_cases h : P.getD a [] ++ [c] ∈ P
  · rw [if_pos h, if_pos ⟨by omega, by omega, by omega, by omega, place_mem.2 h⟩]
  · rw [if_neg h, if_neg (fun hh => h (place_mem.1 hh.2.2.2.2))]
theorem edgeF_new {P : List Txt} (hT : Tree P) {a : Nat} {c : UInt8} (ha : a < P.length) (hq : P.getD a [] ++ [c] ∉ P) : edgeF (P ++ [P.getD a [] ++ [c]]) (.agg #[.int .i64 (a : Int), .int .u8 (c.toNat : Int)]) = some (P.length : Int) := by
  have e : (P ++ [P.getD a [] ++ [c]]).getD a [] = P.getD a [] := getD_app _ _ ha
  rw [edgeF_at _ a c (by simp; omega), e, if_pos (by simp), place_snoc, if_neg hq, if_pos rfl]
theorem edgeF_old {P : List Txt} (hT : Tree P) {a : Nat} {c : UInt8} (ha : a < P.length) (hq : P.getD a [] ++ [c] ∉ P) (x : Value) (hx : x ≠ .agg #[.int .i64 (a : Int), .int .u8 (c.toNat : Int)]) :
    edgeF (P ++ [P.getD a [] ++ [c]]) x = edgeF P x := by
  unfold edgeF
  split
  · rename_i b d
    by_cases hr : 0 ≤ b ∧ 0 ≤ d ∧ d < 256
    · obtain ⟨hb0, hd0, hd1⟩ := hr
      by_cases hbl : b < P.length
      · have e : (P ++ [P.getD a [] ++ [c]]).getD b.toNat [] = P.getD b.toNat [] := getD_app _ _ (by omega)
        have hpl : place (P ++ [P.getD a [] ++ [c]]) (P.getD b.toNat [] ++ [UInt8.ofNat d.toNat]) = place P (P.getD b.toNat [] ++ [UInt8.ofNat d.toNat]) := by
          rw [place_snoc]
          split
          · rfl
          · rename_i hn
            rw [if_neg, place_none hn]
            intro he
            have h1 := List.append_inj' he rfl
            have hba : b.toNat = a := by
              have p1 := place_at hT.nodup (i := a) (s := P.getD a []) (by simp [List.getD_eq_getElem?_getD, ha])
              have p2 := place_at hT.nodup (i := b.toNat) (s := P.getD b.toNat []) (by simp [List.getD_eq_getElem?_getD, show b.toNat < P.length by omega])
              rw [h1.1, p2] at p1; omega
            have hdc : c = UInt8.ofNat d.toNat := by simpa using h1.2
            apply hx
            have : (c.toNat : Int) = d := by
              rw [hdc]; simp; omega
            rw [this, ← hba, Int.toNat_of_nonneg hb0]
        rw [e, hpl]
        have : b < (P ++ [P.getD a [] ++ [c]]).length := by simp; omega
        simp only [hbl, this]
      · have hno : ∀ h : 0 ≤ b ∧ b < ((P ++ [P.getD a [] ++ [c]]).length : Int) ∧ 0 ≤ d ∧ d < 256 ∧ 0 ≤ place (P ++ [P.getD a [] ++ [c]]) ((P ++ [P.getD a [] ++ [c]]).getD b.toNat [] ++ [UInt8.ofNat d.toNat]), False := by
         intro h
         have hbeq : b.toNat = P.length := by have := h.2.1; simp at this; omega
         have e : (P ++ [P.getD a [] ++ [c]]).getD b.toNat [] = P.getD a [] ++ [c] := by rw [hbeq]; simp
         have hm := place_mem.1 h.2.2.2.2
         rw [e] at hm
         simp only [List.mem_append, List.mem_singleton] at hm
         rcases hm with hm | hm
         · have := hT.up _ hm (by simp)
           rw [List.dropLast_concat] at this
           exact hq this
         · have := congrArg List.length hm; simp at this
        rw [if_neg hno, if_neg (fun h => hbl h.2.1)]
    · rw [if_neg (fun h => hr ⟨h.1, h.2.2.1, h.2.2.2.1⟩), if_neg (fun h => hr ⟨h.1, h.2.2.1, h.2.2.2.1⟩)]
  · rfl

theorem nodeCells_length (P : List Txt) (W : Txt → Int) : (nodeCells P W).length = P.length * 4 := by
  unfold nodeCells
  have : ∀ Q : List Txt, (Q.flatMap (tnode P W)).length = Q.length * 4 := by
    intro Q
    induction Q with
    | nil => rfl
    | cons x Q ih => rw [List.flatMap_cons, List.length_append, ih]; simp only [tnode, List.length_cons, List.length_nil]; omega
  exact this P
theorem flat4_at : ∀ (Q : List Txt) (f : Txt → List Value), (∀ x, (f x).length = 4) → ∀ i x, Q[i]? = some x → ∀ j, j < 4 → (Q.flatMap f)[i * 4 + j]? = (f x)[j]?
  | [], _, _, i, x, h, _, _ => by simp at h
  | y :: Q, f, hf, i, x, h, j, hj => by
    rw [List.flatMap_cons]
    cases i with
    | zero =>
      simp at h; subst h
      rw [Nat.zero_mul, Nat.zero_add, List.getElem?_append_left (by rw [hf]; exact hj)]
    | succ i =>
      have := flat4_at Q f hf i x (by simpa using h) j hj
      rw [List.getElem?_append_right (by rw [hf]; omega), hf, show (i + 1) * 4 + j - 4 = i * 4 + j by omega]
      exact this
theorem nodeCells_at (P : List Txt) (W : Txt → Int) {i : Nat} {x : Txt} (h : P[i]? = some x) (j : Nat) (hj : j < 4) : (nodeCells P W)[i * 4 + j]? = (tnode P W x)[j]? := flat4_at P (tnode P W) (fun _ => rfl) i x h j hj
theorem fm_congr {α β : Type} {f g : α → List β} : ∀ {l : List α}, (∀ x ∈ l, f x = g x) → l.flatMap f = l.flatMap g
  | [], _ => rfl
  | x :: l, h => by rw [List.flatMap_cons, List.flatMap_cons, h x (by simp), fm_congr (fun y hy => h y (by simp [hy]))]
theorem nodeCells_put {P : List Txt} (hT : Tree P) (W : Txt → Int) (q : Txt) : nodeCells (P ++ [q]) W = nodeCells P W ++ tnode (P ++ [q]) W q := by
  unfold nodeCells
  rw [List.flatMap_append]
  congr 1
  · apply fm_congr
    intro p hp
    unfold tnode parent
    split
    · rfl
    · rename_i hne
      rw [place_append (hT.up p hp hne)]

/-- The tree of the beginnings P, whose words are W, at block g; all of it from block base on. -/
def TrieAt (w : World) (base g : Nat) (P : List Txt) (W : Txt → Int) : Prop :=
  ∃ v mb, w.heap[g]? = some (.cells #[v, .map (some mb)] 57 (0, 0)) ∧ base ≤ g ∧ base ≤ mb ∧ w.ownsRow base 53 4 v P.length (nodeCells P W) ∧
    MapIs Try.prog 67 3 w mb P.length (edgeF P) ∧ Tree P

theorem keeps_set (w : World) (p : Addr) (u : Value) : Keeps (fun k => k = p.block) w (w.setCell p u) := ⟨rfl, rfl, rfl, by simp [World.setCell], fun k _ hk => Below.heap_setCell _ _ _ _ hk⟩
/-- A block of the call's own rows is a row of cells: no map, and no block of another type. -/
theorem own_not_map {w : World} {base e size n b : Nat} {v : Value} {cs : List Value} {es : Array MapEntry} {cl : Nat} (h : w.ownsRow base e size v n cs) (hm : w.heap[b]? = some (.map es cl)) : some b ≠ v.ownBlock := fun hb => by
  rcases h.2 with ⟨rfl, _⟩ | ⟨g, cap, cur, rfl, _, hh, _⟩
  · simp [Value.ownBlock] at hb
  · simp [Value.ownBlock] at hb
    subst hb
    rw [hh] at hm; cases hm
theorem own_not_type {w : World} {base e size n b t : Nat} {v : Value} {cs : List Value} {c : Array Value} {fr : Nat × Nat} (h : w.ownsRow base e size v n cs) (hm : w.heap[b]? = some (.cells c t fr)) (hne : e ≠ t) : some b ≠ v.ownBlock := fun hb => by
  rcases h.2 with ⟨rfl, _⟩ | ⟨g, cap, cur, rfl, _, hh, _⟩
  · simp [Value.ownBlock] at hb
  · simp [Value.ownBlock] at hb
    subst hb
    rw [hh] at hm
    injection hm with hm
    injection hm with _ hm
    exact hne hm
theorem info_node : (Try.prog.info? 53).map (fun i => (i.zero, i.size, i.bytes)) = some (some (.agg #[(.int .i64 0), (.int .i64 0), (.int .i64 0), (.int .u8 0)]), 4, 32) := by kernel_rfl

set_option maxRecDepth 100000 in
set_option maxHeartbeats 1600000 in
theorem grow_calls (w : World) (base g : Nat) (P : List Txt) (W : Txt → Int) (a : Nat) (pa : Txt) (c : UInt8) (ht : TrieAt w base g P W) (hPa : P[a]? = some pa) (hl : P.length ≤ 1000000) (hd : pa.length ≤ 1000000) (hW : pa ++ [c] ∉ P → W (pa ++ [c]) = -1) :
    Calls Try.prog 31 #[.pointer (some ⟨g, 0, none⟩), .int .i64 (a : Int), .int .u8 (c.toNat : Int)] w fun e w' =>
      e = .returned (.int .i64 (place (addPath P (pa ++ [c])) (pa ++ [c]))) ∧ TrieAt w' base g (addPath P (pa ++ [c])) W ∧ Below base w w' := by
  obtain ⟨v, mb, hg, hbg, hbm, hown, hmap, hT⟩ := ht
  have ha : a < P.length := (List.getElem?_eq_some_iff.1 hPa).1
  have hgd : P.getD a [] = pa := by rw [List.getD_eq_getElem?_getD, hPa]; rfl
  have hg := As.mk hg
  have hown := As.mk hown
  have hmap := As.mk hmap
  have hT := As.mk hT
  have hlt : g < w.heap.size := block_lt hg.out
  have c0 : w.cell? ⟨g, 0, none⟩ = some v := cell_of_blk hg.out 0
  have c1 : w.cell? ⟨g, 1, none⟩ = some (.map (some mb)) := cell_of_blk hg.out 1
  obtain ⟨kl, hkey⟩ := edge_key (a : Int) c (by omega) (by omega)
  have hkey := As.mk hkey
  have hat := As.mk (edgeF_at P a c ha)
  have hfn : As (pa ++ [c] ∉ P → edgeF (P ++ [pa ++ [c]]) (.agg #[.int .i64 (a : Int), .int .u8 (c.toNat : Int)]) = some (P.length : Int)) := ⟨fun h => by have := edgeF_new (c := c) hT.out ha; rw [hgd] at this; exact this h⟩
  have hfo : As (pa ++ [c] ∉ P → ∀ x, x ≠ .agg #[.int .i64 (a : Int), .int .u8 (c.toNat : Int)] → edgeF (P ++ [pa ++ [c]]) x = edgeF P x) := ⟨fun h => by have := edgeF_old (c := c) hT.out ha; rw [hgd] at this; exact this h⟩
  rw [hgd] at hat
  clear hgd
  by_cases hq : pa ++ [c] ∈ P
  · have hadd : As (addPath P (pa ++ [c]) = P) := ⟨if_pos hq⟩
    rw [hadd.out]
    rw [if_pos hq] at hat
    have hlk : ∀ nq, (Instr.lookup 55 (.map (some mb)) (.agg #[.int .i64 (a : Int), .int .u8 (c.toNat : Int)]) true).run Try.prog ((w.alloc (.cells #[.int .i64 (a : Int), .int .u8 (c.toNat : Int)] 67)).drewN nq) =
        .ok (.tuple #[.int .i64 (place P (pa ++ [c])), .bool true]) ((w.alloc (.cells #[.int .i64 (a : Int), .int .u8 (c.toNat : Int)] 67)).drewN nq) := fun nq => by
      have := MapIs.look (w := (w.alloc (.cells #[.int .i64 (a : Int), .int .u8 (c.toNat : Int)] 67)).drewN nq) (hmap.out.below (below_drewN ((Below.refl _ _).alloc (Nat.le_refl _) _) nq)) edge_law Try.underlying55 Try.underlying3 (zero_int _) hkey.out
      rw [hat.out] at this
      exact this
    generalize place P (pa ++ [c]) = r at *
    clear hadd hq hW hfn hfo hPa
    go_enter Try.func31, Try.ntmps31
    go_wp2
    go_quiet (fail)
    go_wp2
    go_ret
    refine ⟨rfl, ⟨v, mb, blk_old hg.out, hbg, hbm, hown.out.alloc _, hmap.out.below (below_drewN ((Below.refl _ _).alloc (Nat.le_refl _) _) _), hT.out⟩, below_drewN ((Below.refl _ _).alloc (by omega) _) _⟩
  · have hW := hW hq
    have hadd : As (addPath P (pa ++ [c]) = P ++ [pa ++ [c]]) := ⟨if_neg hq⟩
    rw [hadd.out]
    rw [if_neg hq] at hat
    have hpl : As (place (P ++ [pa ++ [c]]) (pa ++ [c]) = (P.length : Int)) := ⟨by rw [place_snoc, if_neg hq, if_pos rfl]⟩
    rw [hpl.out]
    have hlk : ∀ nq, (Instr.lookup 55 (.map (some mb)) (.agg #[.int .i64 (a : Int), .int .u8 (c.toNat : Int)]) true).run Try.prog ((w.alloc (.cells #[.int .i64 (a : Int), .int .u8 (c.toNat : Int)] 67)).drewN nq) =
        .ok (.tuple #[.int .i64 0, .bool false]) ((w.alloc (.cells #[.int .i64 (a : Int), .int .u8 (c.toNat : Int)] 67)).drewN nq) := fun nq => by
      have := MapIs.look (w := (w.alloc (.cells #[.int .i64 (a : Int), .int .u8 (c.toNat : Int)] 67)).drewN nq) (hmap.out.below (below_drewN ((Below.refl _ _).alloc (Nat.le_refl _) _) nq)) edge_law Try.underlying55 Try.underlying3 (zero_int _) hkey.out
      rw [hat.out] at this
      exact this
    obtain ⟨A, cp, rfl, hcp⟩ := own_slice hown.out
    have hmq0 := As.mk hPa
    clear hPa
    go_enter Try.func31, Try.ntmps31
    go_wp2
    go_quiet (fail)
    clear hlk
    go_wp2
    have hbel1 : Below w.heap.size w ((w.alloc (.cells #[.int .i64 (a : Int), .int .u8 (c.toNat : Int)] 67)).drewN nq) := below_drewN ((Below.refl _ _).alloc (Nat.le_refl _) _) nq
    have hg1 := As.mk ((hbel1.block g hlt).trans hg.out)
    have hown1 := As.mk (own_below hown.out hbel1)
    have hmap1 := As.mk (hmap.out.below hbel1)
    have hlt1 : g < ((w.alloc (.cells #[.int .i64 (a : Int), .int .u8 (c.toNat : Int)] 67)).drewN nq).heap.size := block_lt hg1.out
    have hed1 : ((w.alloc (.cells #[.int .i64 (a : Int), .int .u8 (c.toNat : Int)] 67)).drewN nq).heap[w.heap.size]? = some (.cells #[.int .i64 (a : Int), .int .u8 (c.toNat : Int)] 67 (0, 0)) := heap_alloc_new w _
    have hed1 := As.mk hed1
    have hbb1 := As.mk (hbel1.mono (show base ≤ w.heap.size by omega))
    clear hbel1 hg hown hmap c0 c1 hlt
    generalize (w.alloc (.cells #[.int .i64 (a : Int), .int .u8 (c.toNat : Int)] 67)).drewN nq = w1 at *
    generalize w.heap.size = eb at *
    have c0 : w1.cell? ⟨g, 0, none⟩ = some (.slice A P.length cp) := cell_of_blk hg1.out 0
    have c1 : w1.cell? ⟨g, 1, none⟩ = some (.map (some mb)) := cell_of_blk hg1.out 1
    have d0 : w1.cell? ⟨eb, 0, none⟩ = some (.int .i64 (a : Int)) := cell_of_blk hed1.out 0
    have d1 : w1.cell? ⟨eb, 1, none⟩ = some (.int .u8 (c.toNat : Int)) := cell_of_blk hed1.out 1
    obtain ⟨w2, hrun, hmap2, hgr2⟩ := MapIs.put (w := w1.drew) (f' := edgeF (P ++ [pa ++ [c]])) (hmap1.out.below ((Below.refl _ _).drew)) edge_law Try.underlying55 Try.underlying3 (by simp only [maxLen]; omega) hkey.out (v := (P.length : Int)) (by simp [Lit.wf, IntKind.min, IntKind.max, IntKind.signed, IntKind.bits]; omega) (hfn.out hq) (hfo.out hq)
    have hmap2 := As.mk hmap2
    have hgr2 := As.mk hgr2
    go_region
    have hne1 : g ≠ mb := fun h => by
      subst h
      obtain ⟨es, cl, hm⟩ := hmap1.out.is_map
      have hx := hg1.out
      rw [hm] at hx
      cases hx
    have hg2 := As.mk ((hgr2.out.block g (by simpa using hlt1) (by simpa using hne1)).trans hg1.out)
    have hown2 : As (w2.ownsRow base 53 4 (.slice A P.length cp) P.length (nodeCells P W)) := ⟨own_keep (w := w1.drew) hown1.out (Keeps.of_grown hgr2.out) (fun b c' hb hh _ hS => by
      obtain ⟨es, cl, hm⟩ := hmap1.out.is_map
      injection hS with hS
      subst hS
      have hh' : w1.heap[b]? = _ := hh
      rw [hm] at hh'
      cases hh')⟩
    have hb2 : As (Below base w1 w2) := ⟨((Below.refl base w1).drew).grown hgr2.out (by have := hbg; have := hlt1; simp; omega) (fun k hk => by injection hk with hk; omega)⟩
    have hsz2 := hb2.out.size
    have hlt2 : g < w2.heap.size := block_lt hg2.out
    have c0' : w2.cell? ⟨g, 0, none⟩ = some (.slice A P.length cp) := cell_of_blk hg2.out 0
    have c1' : w2.cell? ⟨g, 1, none⟩ = some (.map (some mb)) := cell_of_blk hg2.out 1
    have f0' := free_of_blk hg2.out 0
    clear c0 c1 d0 d1 hrun
    obtain ⟨ad, rfl, hdep⟩ := Row.at_ (Row.of_own hown2.out) (j := a * 4 + 1) (by rw [nodeCells_length]; omega)
    have hdep1 : (nodeCells P W)[a * 4 + 1]'(by rw [nodeCells_length]; omega) = .int .i64 (pa.length : Int) := by
      have := nodeCells_at P W hmq0.out 1 (by omega)
      rw [List.getElem?_eq_getElem (by rw [nodeCells_length]; omega)] at this
      simpa [tnode] using this
    rw [hdep1, Addr.add_field _ _ _ (by omega)] at hdep
    clear hdep1
    go_wp2
    have hneg := own_not_type hown2.out hg2.out (by decide)
    obtain ⟨es2, cl2, hm2⟩ := hmap2.out.is_map
    have hneb := As.mk (own_not_map hown2.out hm2)
    have hm2 := As.mk hm2
    have hneg := As.mk hneg
    obtain ⟨i0, hi0, hz0, hz1, hz2⟩ := info_parts info_node
    have hmq := As.mk hmq0.out
    have hq := As.mk hq
    have hW := As.mk hW
    clear hkey hat hmap1 hg1 hown1 hed1 hgr2 hfn hfo
    have hwr : IntKind.i64.wrap ((pa.length : Int) + 1) = (pa.length : Int) + 1 := IntWalk.i64_in _ (by omega)
    have hbs2 : base ≤ w2.heap.size := by have := hbg; omega
    go_region_law (first
      | (refine step_append_lies (w2.drew.alloc (.cells #[.int .i64 (a : Int), .int .i64 ((pa.length : Int) + 1), .int .i64 (-1), .int .u8 (c.toNat : Int)] 53)) rfl (.tmp 40) (.tmp 53) 54 rfl base 53 i0 _ 4 32 Try.underlying54 hi0 hz0 hz1 hz2 rfl (by decide) (.slice (some ad) P.length cp) P.length (nodeCells P W) (by simp [Act.eval, Act.put]) (hown2.out.drew.alloc _) ⟨w2.heap.size, 0, none⟩ 1 1 [.int .i64 (a : Int), .int .i64 ((pa.length : Int) + 1), .int .i64 (-1), .int .u8 (c.toNat : Int)] (by simp [Act.eval, Act.put]) rfl (World.news_of_block (heap_alloc_new w2.drew _)) (by simp [Value.oneCell']) (by omega) (by simp only [maxLen]; omega) (by omega) (by simp; omega) (w2.heap.size + 1) (by simp) ?_
         intro g3 cap3 w3 ho3 hgr3 hloc3 hlt3
         have hbg3 := hgr3.block g (by simp; omega) hneg.out
         have hg3 := As.mk (hbg3.trans (blk_old hg2.out))
         have e0 : w3.cell? ⟨g, 0, none⟩ = some (.slice (some ad) P.length cp) := cell_of_blk hg3.out 0
         have ef0 := free_of_blk hg3.out 0))
    all_goals
      go_wp2
      go_ret
      have hk3 : Keeps (fun k => some k = (Value.slice (some ad) P.length cp).ownBlock) w2 w3 := (Keeps.of_below (((Below.refl _ _).drew).alloc (by simp) _) _).trans ((Keeps.of_grown hgr3).mono (fun _ _ h => h))
      have hmap3 := hmap2.out.keep hk3 hneb.out
      have hmb3 := hmap3.is_map
      have hmg : ¬ mb = g := fun h => by
        obtain ⟨es, cl, hm⟩ := hmb3
        have hx := hg3.out
        rw [← h, hm] at hx; cases hx
      refine ⟨rfl, ⟨_, mb, blk_set hg3.out 0 _, hbg, hbm, ?_, ?_, ?_⟩, ?_⟩
      · have hlen : (P ++ [pa ++ [c]]).length = P.length + 1 := by simp
        rw [hlen, nodeCells_put hT.out]
        have hq' : tnode (P ++ [pa ++ [c]]) W (pa ++ [c]) = [.int .i64 (a : Int), .int .i64 ((pa.length : Int) + 1), .int .i64 (-1), .int .u8 (c.toNat : Int)] := by
          have hpl : place (P ++ [pa ++ [c]]) pa = (a : Int) := by
            rw [place_append (List.mem_of_getElem? hmq.out), place_at hT.out.nodup hmq.out]
          unfold tnode parent lastB
          rw [if_neg (by simp), List.dropLast_concat, hpl, hW.out]
          simp
        rw [hq']
        exact own_keep ho3 (keeps_set w3 ⟨g, 0, none⟩ _) (fun b c' _ hh hb hS => own_not_type ho3 hg3.out (by decide) ((show b = g from hS) ▸ hb))
      · have hlen : (P ++ [pa ++ [c]]).length = P.length + 1 := by simp
        rw [hlen]
        exact hmap3.keep (keeps_set w3 ⟨g, 0, none⟩ _) hmg
      · have := hT.out.put (p := pa ++ [c]) (by simp) (by rw [List.dropLast_concat]; exact List.mem_of_getElem? hmq.out)
        unfold addPath at this
        rw [if_neg hq.out] at this
        exact this
      · refine Below.setCell ((hbb1.out.trans hb2.out).trans ?_) (by exact hbg) _
        refine (((Below.refl base w2).drew).alloc (by simpa using hbs2) _).grown hgr3 (by simp; omega) (fun k hk => ?_)
        exact (own_blk hown2.out hk.symm).1
end Go.Proofs.Ytcajccknkjljfaa
