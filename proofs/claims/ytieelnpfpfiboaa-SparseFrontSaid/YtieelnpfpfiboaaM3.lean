/- Joined texts: LinksWalk, LinksWalk2, Repeat, LinksWalk3, Str, LinksWalk4. -/
import Derived.Test.YtieelnpfpfiboaaM2
import Derived.Laws.CopyOwn
import Derived.Laws.Bits64b
import Derived.Laws.MakeOwn
import Derived.Deep.RegionHeld3
import Derived.Deep.LoopGhost
import Derived.Test.YtieelnpfpfiboaaM1
import Derived.Test.YtieelnpfpfiboaaWMore
section
/- The walks of package links: the words, the search for a fall. -/
set_option linter.unusedVariables false
set_option linter.unusedSimpArgs false
namespace Go.Proofs.Ytieelnpfpfiboaa
open Go.RowKit Go.Maps Seine.Trie Seine.Links

def intCells (P : List Txt) (F : Txt → Int) : List Value := P.map fun p => .int .i64 (F p)
theorem intCells_length (P : List Txt) (F : Txt → Int) : (intCells P F).length = P.length := by simp [intCells]
theorem intCells_at {P : List Txt} {F : Txt → Int} {i : Nat} {p : Txt} (h : P[i]? = some p) : (intCells P F)[i]? = some (.int .i64 (F p)) := by simp [intCells, h]
theorem intCells_set : ∀ {P : List Txt} {F F' : Txt → Int} {i : Nat} {p : Txt}, P.Nodup → P[i]? = some p → (∀ x, x ≠ p → F' x = F x) → intCells P F' = (intCells P F).set i (.int .i64 (F' p))
  | [], F, F', i, p, _, h, _ => by simp at h
  | y :: P, F, F', 0, p, hn, h, ho => by
    simp at h; subst h
    unfold intCells
    rw [List.map_cons, List.map_cons, List.set_cons_zero]
    congr 1
    exact List.map_congr_left fun x hx => by rw [ho x (fun e => (List.nodup_cons.1 hn).1 (e ▸ hx))]
  | y :: P, F, F', i + 1, p, hn, h, ho => by
    have hm : p ∈ P := List.mem_of_getElem? (by simpa using h)
    have ih := intCells_set (List.nodup_cons.1 hn).2 (by simpa using h : P[i]? = some p) ho
    unfold intCells at ih ⊢
    rw [List.map_cons, List.map_cons, List.set_cons_succ, ← ih, ho y (fun e => (List.nodup_cons.1 hn).1 (e ▸ hm))]
theorem intCells_congr {P : List Txt} {F F' : Txt → Int} (h : ∀ x, x ∈ P → F x = F' x) : intCells P F = intCells P F' := List.map_congr_left fun x hx => by rw [h x hx]

/-- A row of as many numbers as there are nodes, at block b, in memory from base on. -/
def IntRow (w : World) (base b c : Nat) (P : List Txt) (F : Txt → Int) : Prop := w.ownsRow base 3 1 (.slice (some ⟨b, 0, none⟩) P.length c) P.length (intCells P F)
/-- Where the falls' rows lie. -/
structure LB where
  bf : Nat
  cf : Nat
  bo : Nat
  co : Nat
  bu : Nat
  cu : Nat
  vr : Value
/-- The falls F, outs O, own lengths U, of a tree's nodes, and the order o (of paths), at block g. -/
def LinksIn (w : World) (base g : Nat) (P : List Txt) (F O U : Txt → Int) (o : List Txt) (B : LB) : Prop :=
  w.heap[g]? = some (.cells #[.slice (some ⟨B.bf, 0, none⟩) P.length B.cf, .slice (some ⟨B.bo, 0, none⟩) P.length B.co, .slice (some ⟨B.bu, 0, none⟩) P.length B.cu, B.vr] 84 (0, 0)) ∧ base ≤ g ∧
    IntRow w base B.bf B.cf P F ∧ IntRow w base B.bo B.co P O ∧ IntRow w base B.bu B.cu P U ∧ B.bf ≠ B.bo ∧ B.bf ≠ B.bu ∧ B.bo ≠ B.bu ∧ w.ownsRow base 3 1 B.vr o.length (intCells o (place P)) ∧ B.vr.ownBlock ≠ some B.bf ∧ B.vr.ownBlock ≠ some B.bo ∧ B.vr.ownBlock ≠ some B.bu
def LinksAt (w : World) (base g : Nat) (P : List Txt) (F O U : Txt → Int) (o : List Txt) : Prop := ∃ B, LinksIn w base g P F O U o B
theorem IntRow.at_ {w : World} {base b c : Nat} {P : List Txt} {F : Txt → Int} (h : IntRow w base b c P F) {i : Nat} {p : Txt} (hi : P[i]? = some p) : w.cell? ⟨b, i, none⟩ = some (.int .i64 (F p)) := by
  have hil := (List.getElem?_eq_some_iff.1 hi).1
  rw [World.ownsRow.cellAt h i (by omega)]
  exact intCells_at hi
theorem IntRow.cap {w : World} {base b c : Nat} {P : List Txt} {F : Txt → Int} (h : IntRow w base b c P F) : P.length ≤ c := by
  obtain ⟨A, c', e, hc⟩ := own_slice h
  injection e with e1 e2 e3
  omega
theorem IntRow.base {w : World} {base b c : Nat} {P : List Txt} {F : Txt → Int} (h : IntRow w base b c P F) : base ≤ b ∧ b < w.heap.size := own_blk h rfl
theorem IntRow.keep {S : Nat → Prop} {w w' : World} {base b c : Nat} {P : List Txt} {F : Txt → Int} (h : IntRow w base b c P F) (hk : Keeps S w w') (hS : ¬ S b) : IntRow w' base b c P F :=
  own_keep h hk (fun b' _ _ _ e => by injection e with e; subst e; exact hS)
theorem IntRow.set {w : World} {base b c : Nat} {P : List Txt} {F F' : Txt → Int} (h : IntRow w base b c P F) (hT : Tree P) {i : Nat} {p : Txt} (hi : P[i]? = some p) {x : Int} (hx : F' p = x) (ho : ∀ y, y ≠ p → F' y = F y) : IntRow (w.setCell ⟨b, i, none⟩ (.int .i64 x)) base b c P F' := by
  have s1 := World.ownsRow.stored h i (.int .i64 x)
  unfold IntRow
  rw [intCells_set hT.nodup hi ho, hx]
  exact s1.1
theorem IntRow.nfree {w : World} {base b c : Nat} {P : List Txt} {F : Txt → Int} (h : IntRow w base b c P F) (i : Nat) : w.frozen? ⟨b, i, none⟩ = false := World.ownsRow.frozenAt h _
/-- A block of another type is none of the row. -/
theorem IntRow.other {w : World} {base b c g t : Nat} {P : List Txt} {F : Txt → Int} {cs : Array Value} {fr : Nat × Nat} (h : IntRow w base b c P F) (hg : w.heap[g]? = some (.cells cs t fr)) (ht : 3 ≠ t) : g ≠ b := fun e => own_not_type h hg ht (by rw [e]; rfl)

theorem LinksIn.below {w w' : World} {base g : Nat} {P : List Txt} {F O U : Txt → Int} {o : List Txt} {B : LB} (h : LinksIn w base g P F O U o B) (hb : Below w.heap.size w w') : LinksIn w' base g P F O U o B := by
  obtain ⟨hg, h0, h1, h2, h3, h4, h5, h6, h7, h8⟩ := h
  exact ⟨(hb.block g (block_lt hg)).trans hg, h0, own_below h1 hb, own_below h2 hb, own_below h3 hb, h4, h5, h6, own_below h7 hb, h8⟩
theorem LinksAt.below {w w' : World} {base g : Nat} {P : List Txt} {F O U : Txt → Int} {o : List Txt} (h : LinksAt w base g P F O U o) (hb : Below w.heap.size w w') : LinksAt w' base g P F O U o := by
  obtain ⟨B, h⟩ := h
  exact ⟨B, h.below hb⟩

section
variable {w : World} {base g : Nat} {P : List Txt} {F O U : Txt → Int} {o : List Txt} {B : LB} (h : LinksIn w base g P F O U o B)
include h
theorem LinksIn.caps : P.length ≤ B.cf ∧ P.length ≤ B.co ∧ P.length ≤ B.cu := by
  obtain ⟨hg, h0, h1, h2, h3, _⟩ := h
  exact ⟨h1.cap, h2.cap, h3.cap⟩
theorem LinksIn.heads : w.cell? ⟨g, 0, none⟩ = some (.slice (some ⟨B.bf, 0, none⟩) P.length B.cf) ∧ w.cell? ⟨g, 1, none⟩ = some (.slice (some ⟨B.bo, 0, none⟩) P.length B.co) ∧ w.cell? ⟨g, 2, none⟩ = some (.slice (some ⟨B.bu, 0, none⟩) P.length B.cu) ∧ w.cell? ⟨g, 3, none⟩ = some B.vr ∧ w.frozen? ⟨g, 3, none⟩ = false := by
  obtain ⟨hg, _⟩ := h
  exact ⟨cell_of_blk hg 0, cell_of_blk hg 1, cell_of_blk hg 2, cell_of_blk hg 3, free_of_blk hg 3⟩
theorem LinksIn.rows {i : Nat} {p : Txt} (hi : P[i]? = some p) : w.cell? ⟨B.bf, i, none⟩ = some (.int .i64 (F p)) ∧ w.cell? ⟨B.bo, i, none⟩ = some (.int .i64 (O p)) ∧ w.cell? ⟨B.bu, i, none⟩ = some (.int .i64 (U p)) ∧ w.frozen? ⟨B.bf, i, none⟩ = false ∧ w.frozen? ⟨B.bo, i, none⟩ = false ∧ w.frozen? ⟨B.bu, i, none⟩ = false := by
  obtain ⟨hg, h0, h1, h2, h3, _⟩ := h
  exact ⟨h1.at_ hi, h2.at_ hi, h3.at_ hi, h1.nfree i, h2.nfree i, h3.nfree i⟩
theorem LinksIn.bases : base ≤ B.bf ∧ base ≤ B.bo ∧ base ≤ B.bu := by
  obtain ⟨hg, h0, h1, h2, h3, _⟩ := h
  exact ⟨h1.base.1, h2.base.1, h3.base.1⟩
theorem LinksIn.other {b t : Nat} {cs : Array Value} {fr : Nat × Nat} (hb : w.heap[b]? = some (.cells cs t fr)) (ht : 3 ≠ t) : b ≠ B.bf ∧ b ≠ B.bo ∧ b ≠ B.bu := by
  obtain ⟨hg, h0, h1, h2, h3, _⟩ := h
  exact ⟨h1.other hb ht, h2.other hb ht, h3.other hb ht⟩
theorem LinksIn.setF (hT : Tree P) {i : Nat} {p : Txt} (hi : P[i]? = some p) {x : Int} (F' : Txt → Int) (hx : F' p = x) (ho : ∀ y, y ≠ p → F' y = F y) : LinksIn (w.setCell ⟨B.bf, i, none⟩ (.int .i64 x)) base g P F' O U o B := by
  obtain ⟨hg, h0, h1, h2, h3, h4, h5, h6, h7, h8, h9, h10⟩ := h
  have hk := keeps_set w ⟨B.bf, i, none⟩ (.int .i64 x)
  exact ⟨(Below.heap_setCell _ _ _ _ (h1.other hg (by decide))).trans hg, h0, h1.set hT hi hx ho, h2.keep hk (fun e => h4 e.symm), h3.keep hk (fun e => h5 e.symm), h4, h5, h6, own_keep h7 hk (fun b c' _ _ e he => h8 (by rw [← e]; exact congrArg some he)), h8, h9, h10⟩
theorem LinksIn.setO (hT : Tree P) {i : Nat} {p : Txt} (hi : P[i]? = some p) {x : Int} (O' : Txt → Int) (hx : O' p = x) (ho : ∀ y, y ≠ p → O' y = O y) : LinksIn (w.setCell ⟨B.bo, i, none⟩ (.int .i64 x)) base g P F O' U o B := by
  obtain ⟨hg, h0, h1, h2, h3, h4, h5, h6, h7, h8, h9, h10⟩ := h
  have hk := keeps_set w ⟨B.bo, i, none⟩ (.int .i64 x)
  exact ⟨(Below.heap_setCell _ _ _ _ (h2.other hg (by decide))).trans hg, h0, h1.keep hk (fun e => h4 e), h2.set hT hi hx ho, h3.keep hk (fun e => h6 e.symm), h4, h5, h6, own_keep h7 hk (fun b c' _ _ e he => h9 (by rw [← e]; exact congrArg some he)), h8, h9, h10⟩
theorem LinksIn.setU (hT : Tree P) {i : Nat} {p : Txt} (hi : P[i]? = some p) {x : Int} (U' : Txt → Int) (hx : U' p = x) (ho : ∀ y, y ≠ p → U' y = U y) : LinksIn (w.setCell ⟨B.bu, i, none⟩ (.int .i64 x)) base g P F O U' o B := by
  obtain ⟨hg, h0, h1, h2, h3, h4, h5, h6, h7, h8, h9, h10⟩ := h
  have hk := keeps_set w ⟨B.bu, i, none⟩ (.int .i64 x)
  exact ⟨(Below.heap_setCell _ _ _ _ (h3.other hg (by decide))).trans hg, h0, h1.keep hk (fun e => h5 e), h2.keep hk (fun e => h6 e), h3.set hT hi hx ho, h4, h5, h6, own_keep h7 hk (fun b c' _ _ e he => h10 (by rw [← e]; exact congrArg some he)), h8, h9, h10⟩
theorem LinksIn.congr {F' O' U' : Txt → Int} (hF : ∀ x, x ∈ P → F x = F' x) (hO : ∀ x, x ∈ P → O x = O' x) (hU : ∀ x, x ∈ P → U x = U' x) : LinksIn w base g P F' O' U' o B := by
  obtain ⟨hg, h0, h1, h2, h3, h4⟩ := h
  refine ⟨hg, h0, ?_, ?_, ?_, h4⟩
  · unfold IntRow; rw [← intCells_congr hF]; exact h1
  · unfold IntRow; rw [← intCells_congr hO]; exact h2
  · unfold IntRow; rw [← intCells_congr hU]; exact h3
end

theorem stepF_at {P : List Txt} {a : Nat} {p : Txt} (h : P[a]? = some p) (c : UInt8) : stepF P (a : Int) c = place P (p ++ [c]) := by
  have hl := (List.getElem?_eq_some_iff.1 h).1
  unfold stepF
  rw [if_pos (by omega), Int.toNat_natCast, List.getD_eq_getElem?_getD, h]; rfl

def backM (P : List Txt) (v : Value) : Nat := if 0 ≤ intOf v then (P.getD (intOf v).toNat []).length + 1 else 0
theorem backM_nat (P : List Txt) (m : Nat) : backM P (.int .i64 (m : Int)) = (P.getD m []).length + 1 := by
  unfold backM intOf
  simp
set_option maxHeartbeats 1600000 in
theorem back_calls (w : World) (base g base2 tg : Nat) (P : List Txt) (W F O U : Txt → Int) (o : List Txt) (ht : TrieAt w base2 tg P W) (B : LB) (hk : LinksIn w base g P F O U o B) (hl : P.length ≤ 1000000) (b1 b2 b3 : Nat) (c : UInt8)
    (h1 : w.cell? ⟨b1, 0, none⟩ = some (.pointer (some ⟨g, 0, none⟩))) (h2 : w.cell? ⟨b2, 0, none⟩ = some (.pointer (some ⟨tg, 0, none⟩))) (h3 : w.cell? ⟨b3, 0, none⟩ = some (.int .u8 (c.toNat : Int)))
    (a : Nat) (q : Txt) (hq : P[a]? = some q) (hF : ∀ x, x ∈ P → x.length ≤ q.length → F x = failF P x) :
    Calls Try.prog 55 #[.int .i64 (a : Int), .pointer (some ⟨b1, 0, none⟩), .pointer (some ⟨b2, 0, none⟩), .pointer (some ⟨b3, 0, none⟩)] w fun e w' => e = .returned (.int .i64 (failF P (q ++ [c]))) ∧ w = w' := by
  have hT := As.mk ht.tree
  have hcs := As.mk (fun n x c h => step_calls w base2 tg P W ht hl n x c h)
  obtain ⟨c0, c1, c2, _⟩ := hk.heads
  obtain ⟨l1, l2, l3⟩ := hk.caps
  have hcell : As (∀ i p, P[i]? = some p → w.cell? ⟨B.bf, i, none⟩ = some (.int .i64 (F p))) := ⟨fun i p h => (hk.rows h).1⟩
  have hal := (List.getElem?_eq_some_iff.1 hq).1
  have d0 := hcell.out a q hq
  have hF := As.mk hF
  have hst := As.mk (back_start hT.out q c)
  have hstep := As.mk (fun n => back_step hT.out (q := q) (c := c) (n := n))
  have hend := As.mk (fun n => back_end hT.out (q := q) (c := c) (n := n))
  rw [← hF.out q (List.mem_of_getElem? hq) (Nat.le_refl _)] at hst
  obtain ⟨R, hR⟩ : ∃ R, failF P (q ++ [c]) = R := ⟨_, rfl⟩
  rw [hR] at hstep hend
  rw [hR]
  replace hst := As.mk hst.out
  clear hR hq c1 c2 l2 l3
  generalize F q = f0 at *
  go_enter Try.func55, Try.ntmps55
  go_wp2
  go_loop [0] (fun v => ∃ n : Int, v = .int .i64 n ∧ As (Back P q c n)) (fun v => backM P v)
  case atStart => exact ⟨f0, rfl, hst⟩
  case round =>
    obtain ⟨n, rfl, hb⟩ := hrel
    by_cases hn : 0 ≤ n
    · obtain ⟨r, hr1, hr2, hr3, hr4⟩ := hstep.out n hb.out hn
      obtain ⟨m, hm1, hm2⟩ := place_nat hr1
      have hnm : n = (m : Int) := hr2.trans hm1
      have hml := (List.getElem?_eq_some_iff.1 hm2).1
      have e0 := hcell.out m r hm2
      have hFr := hF.out r hr1 (by omega)
      have hsa := stepF_at hm2 c
      have hc2 := As.mk (hcs.out n (c.toNat : Int) c rfl)
      rw [hnm, hsa] at hc2
      have hgd : P.getD m [] = r := by rw [List.getD_eq_getElem?_getD, hm2]; rfl
      subst hnm
      rw [hFr] at e0
      have hfs : As (0 ≤ failF P r → (P.getD (failF P r).toNat []).length < r.length) := ⟨fun h => by
        obtain ⟨r', k1, k2, k3⟩ := fail_short h
        obtain ⟨m', j1, j2⟩ := place_nat k1
        rw [k2, j1, Int.toNat_natCast, List.getD_eq_getElem?_getD, j2]
        exact k3⟩
      have hgd := As.mk hgd
      replace hr4 := As.mk hr4
      clear hr2 hm1 hm2 hFr hsa hr1
      generalize hfr : failF P r = fr at *
      generalize hst2 : place P (r ++ [c]) = tv at *
      have hfr := As.mk hfr
      have hst2 := As.mk hst2
      by_cases hto : 0 ≤ tv
      · have hfin : As (tv = R) := ⟨by
          rcases hr4.out with ⟨_, h⟩ | ⟨h, _⟩
          · exact h.symm
          · omega⟩
        go_wp2_with (go_at_call 41; refine hc2.out.mono ?_; rintro e w' ⟨rfl, rfl⟩)
        go_ret
        exact ⟨ret_int hfin.out, rfl⟩
      · have hnext : As (Back P q c fr) := ⟨by
          rcases hr4.out with ⟨h, _⟩ | ⟨_, h⟩
          · exact absurd h hto
          · exact h⟩
        go_wp2_with (go_at_call 41; refine hc2.out.mono ?_; rintro e w' ⟨rfl, rfl⟩)
        go_round
        case rel => exact ⟨fr, rfl, hnext⟩
        case measure =>
          have h1 := hgd.out
          have h2 := hfs.out
          rw [backM_nat, h1]
          unfold backM
          split
          · rename_i h0
            have := h2 h0
            simp only [intOf] at *
            omega
          · omega
    · have hfin : As (0 = R) := ⟨(hend.out n hb.out (by omega)).symm⟩
      go_wp2
      go_ret
      exact ⟨ret_int hfin.out, rfl⟩
end Go.Proofs.Ytieelnpfpfiboaa
end
section
/- The walks of package links: one node's links. -/
set_option linter.unusedVariables false
set_option linter.unusedSimpArgs false
namespace Go.Proofs.Ytieelnpfpfiboaa
open Go.RowKit Go.Maps Seine.Trie Seine.Links

theorem blk_drew {w : World} {b : Nat} {o : Obj} (h : w.heap[b]? = some o) : w.drew.heap[b]? = some o := h
set_option maxRecDepth 100000 in
set_option maxHeartbeats 1600000 in
theorem link_calls (w0 w : World) (base g base2 tg : Nat) (P l : List Txt) (F O U F' O' U' : Txt → Int) (o : List Txt) (hw0 : w0.heap.size = base) (ht : TrieAt w0 base2 tg P (place l)) (hb : Below base w0 w) (B : LB) (hk : LinksIn w base g P F O U o B)
    (hl : P.length ≤ 1000000) (hd : ∀ p ∈ P, p.length ≤ 100000) (hlP : ∀ x, x ∈ l → x ∈ P) (a : Nat) (p : Txt) (hp : P[a]? = some p) (hne : p ≠ [])
    (hF : ∀ x, x ∈ P → x.length < p.length → F x = failF P x ∧ O x = outF P l x ∧ U x = ownF l x) (hU0 : U p = 0)
    (hF' : F' p = failF P p ∧ ∀ y, y ≠ p → F' y = F y) (hO' : O' p = outF P l p ∧ ∀ y, y ≠ p → O' y = O y) (hU' : U' p = ownF l p ∧ ∀ y, y ≠ p → U' y = U y) :
    Calls Try.prog 42 #[.pointer (some ⟨g, 0, none⟩), .pointer (some ⟨tg, 0, none⟩), .int .i64 (a : Int)] w fun e w' => e = .returned (.tuple #[]) ∧ LinksIn w' base g P F' O' U' o B ∧ Below base w w' := by
  have hT := As.mk ht.tree
  have hal := (List.getElem?_eq_some_iff.1 hp).1
  have htw : ∀ {v}, Below base w0 v → TrieAt v base2 tg P (place l) := fun h => ht.below (by rw [hw0]; exact h)
  have htw := As.mk @htw
  have hbs : base ≤ w.heap.size := by have := hb.size; omega
  obtain ⟨q, c, hqc⟩ : ∃ q c, p = q ++ [c] := ⟨_, _, (last_split hne).symm⟩
  have hpa : pathF P (a : Int) = p := by
    unfold pathF
    rw [if_pos (by omega), Int.toNat_natCast, List.getD_eq_getElem?_getD, hp]; rfl
  have hup : q ∈ P := by
    have := hT.out.up p (List.mem_of_getElem? hp) hne
    rwa [hqc, List.dropLast_concat] at this
  obtain ⟨b, hb1, hb2⟩ := place_nat hup
  have hpar : askF P (parent P) (-1) (a : Int) = (b : Int) := by
    unfold askF parent
    rw [if_pos (by omega), Int.toNat_natCast, List.getD_eq_getElem?_getD, hp]
    simp only [Option.getD_some]
    rw [if_neg hne, hqc, List.dropLast_concat, hb1]
  have hw : askF P (place l) (-1) (a : Int) = place l p := by
    unfold askF
    rw [if_pos (by omega), Int.toNat_natCast, List.getD_eq_getElem?_getD, hp]; rfl
  have hpl : p.length = q.length + 1 := by rw [hqc]; simp
  have hpd := hd p (List.mem_of_getElem? hp)
  have hpaths := As.mk (fun v hv => path_calls v base2 tg P (place l) (htw.out hv) (a : Int) hd)
  have hpars := As.mk (fun v hv => parent_calls v base2 tg P (place l) (htw.out hv) (a : Int))
  have hwords := As.mk (fun v hv => word_calls v base2 tg P (place l) (htw.out hv) (a : Int))
  rw [hpa] at hpaths
  rw [hpar] at hpars
  rw [hw] at hwords
  have hb := As.mk hb
  have hk := As.mk hk
  have hmf : ∀ (fn : Fn) (first cap : Array Value) (w : World), (Instr.makeFunc fn first cap).run Try.prog w = .ok (.func fn first cap) w := fun _ _ _ _ => rfl
  clear hpa hpar hw ht
  go_enter Try.func42, Try.ntmps42
  go_wp2_with fail
  have x1 := blk_old (o' := .cells #[.pointer (some ⟨tg, 0, none⟩)] 57) (heap_alloc_new w (.cells #[.pointer (some ⟨g, 0, none⟩)] 59))
  have x2 := blk_new1 w (.cells #[.pointer (some ⟨g, 0, none⟩)] 59) (.cells #[.pointer (some ⟨tg, 0, none⟩)] 57)
  have hbel2 : Below w.heap.size w ((w.alloc (.cells #[.pointer (some ⟨g, 0, none⟩)] 59)).alloc (.cells #[.pointer (some ⟨tg, 0, none⟩)] 57)) := (((Below.refl _ _).alloc (Nat.le_refl _) _).alloc (by simp) _)
  replace x1 := As.mk x1
  replace x2 := As.mk x2
  replace hbel2 := As.mk hbel2
  generalize (w.alloc (.cells #[.pointer (some ⟨g, 0, none⟩)] 59)).alloc (.cells #[.pointer (some ⟨tg, 0, none⟩)] 57) = w2 at *
  have hb02 := As.mk (hb.out.trans (hbel2.out.mono hbs))
  refine (hpaths.out w2 hb02.out).mono ?_
  intro e w3 hr
  obtain ⟨A, cp, rfl, hby, hbel3⟩ := hr.row
  rw [hpl]
  obtain ⟨ad, rfl, y0⟩ := Byt.at_ hby (i := q.length) (by omega)
  have hlast : p.getD q.length 0 = c := by rw [hqc]; simp [List.getD_eq_getElem?_getD]
  rw [hlast] at y0
  clear hlast hby hr hpaths
  have hbel3' := As.mk (hbel2.out.trans (hbel3.mono hbel2.out.size))
  replace x1 := As.mk ((hbel3.block _ (block_lt x1.out)).trans x1.out)
  replace x2 := As.mk ((hbel3.block _ (block_lt x2.out)).trans x2.out)
  have hw2 := block_lt x2.out
  clear hbel3 hbel2 hb02
  generalize hqn : q.length = n at *
  have z1 := blk_old (o' := .cells #[.int .u8 (c.toNat : Int)] 5) x1.out
  have z2 := blk_old (o' := .cells #[.int .u8 (c.toNat : Int)] 5) x2.out
  have z3 := heap_alloc_new w3 (.cells #[.int .u8 (c.toNat : Int)] 5)
  have hbel4 : Below w.heap.size w (w3.alloc (.cells #[.int .u8 (c.toNat : Int)] 5)) := hbel3'.out.alloc hbel3'.out.size _
  have v1 := cell_of_blk z1 0
  have v2 := cell_of_blk z2 0
  have v3 := cell_of_blk z3 0
  go_wp2_with fail
  replace z1 := As.mk z1
  replace z2 := As.mk z2
  replace z3 := As.mk z3
  replace hbel4 := As.mk hbel4
  clear x1 x2 hbel3' y0
  generalize w3.alloc (.cells #[.int .u8 (c.toNat : Int)] 5) = w4 at *
  generalize w3.heap.size = b3 at *
  have hb04 := As.mk (hb.out.trans (hbel4.out.mono hbs))
  have hb3 := block_lt z3.out
  have hk4 := As.mk (hk.out.below hbel4.out)
  refine (hpars.out w4 hb04.out).mono ?_
  rintro e w4' ⟨rfl, rfl⟩
  go_wp2_with fail
  have hcc := back_calls w4 base g base2 tg P (place l) F O U o (htw.out hb04.out) B hk4.out hl w.heap.size (w.heap.size + 1) b3 c v1 v2 v3 b q hb2 (fun x hx hle => (hF x hx (by omega)).1)
  rw [← hqc] at hcc
  refine hcc.mono ?_
  rintro e w4' ⟨rfl, rfl⟩
  obtain ⟨nn, hnn⟩ := fail_some hT.out hne
  obtain ⟨j1, j2, j3, _⟩ := failN_some hnn
  have hor := out_rec hlP hnn
  have hfp : failF P p = place P (p.drop nn) := by unfold failF; rw [hnn]
  have hrl : (p.drop nn).length < p.length := by rw [List.length_drop]; omega
  generalize p.drop nn = r at *
  obtain ⟨fi, hf1, hf2⟩ := place_nat j3
  obtain ⟨_, g2, g3⟩ := hF r j3 hrl
  have hrp : r ≠ p := fun e => by rw [e] at hrl; omega
  rw [hfp, hf1] at hF'
  rw [hfp, hf1]
  rw [hf1] at hor
  have k5 := hk4.out.setF hT.out hp F' hF'.1 hF'.2
  have k6 := k5.setO hT.out hp (x := (fi : Int)) (fun y => if y = p then (fi : Int) else O y) (if_pos rfl) (fun y h => if_neg h)
  have n1 := hk4.out.other z1.out (by decide)
  have n2 := hk4.out.other z2.out (by decide)
  have q1 := blk_far z1.out (p := ⟨B.bf, a, none⟩) n1.1 (.int .i64 (fi : Int))
  have q2 := blk_far z2.out (p := ⟨B.bf, a, none⟩) n2.1 (.int .i64 (fi : Int))
  have r1 := blk_far q1 (p := ⟨B.bo, a, none⟩) n1.2.1 (.int .i64 (fi : Int))
  have r2 := blk_far q2 (p := ⟨B.bo, a, none⟩) n2.2.1 (.int .i64 (fi : Int))
  have bb5 := (Below.refl base w4).setCell (p := ⟨B.bf, a, none⟩) hk4.out.bases.1 (.int .i64 (fi : Int))
  have bb6 := bb5.setCell (p := ⟨B.bo, a, none⟩) hk4.out.bases.2.1 (.int .i64 (fi : Int))
  obtain ⟨t0, t1, t2, t3, _⟩ := hk4.out.heads
  obtain ⟨u0, u1, u2, u3, _⟩ := k5.heads
  obtain ⟨s0, s1, s2, s3, _⟩ := k6.heads
  obtain ⟨_, _, _, f4, _, _⟩ := hk4.out.rows hp
  obtain ⟨_, _, _, _, f5, _⟩ := k5.rows hp
  obtain ⟨_, _, _, _, f6, _⟩ := k6.rows hp
  obtain ⟨_, m2, m3, _⟩ := k6.rows hf2
  rw [g3] at m3
  simp only [if_neg hrp] at m2
  rw [g2] at m2
  have e1 := cell_of_blk q1 0
  have e2 := cell_of_blk r1 0
  have l1 := hk4.out.caps
  have hfil := (List.getElem?_eq_some_iff.1 hf2).1
  clear hcc u0 u2 s0 n1 n2 q1 q2
  have k5 := As.mk k5
  have k6 := As.mk k6
  have bb6 := As.mk bb6
  have e3 := cell_of_blk r2 0
  by_cases ho : ownF l r = 0
  · rw [if_pos ho] at hor
    rw [ho] at m3
    have k7 := k6.out.setO hT.out hp (x := outF P l r) O' (hO'.1.trans hor) (fun y h => (hO'.2 y h).trans (if_neg h).symm)
    have y1 := blk_far r1 (p := ⟨B.bo, a, none⟩) (k6.out.other r1 (by decide)).2.1 (.int .i64 (outF P l r))
    have y2 := blk_far r2 (p := ⟨B.bo, a, none⟩) (k6.out.other r2 (by decide)).2.1 (.int .i64 (outF P l r))
    have bb7 := As.mk (bb6.out.setCell (p := ⟨B.bo, a, none⟩) k6.out.bases.2.1 (.int .i64 (outF P l r)))
    have e4 := cell_of_blk y2 0
    replace k7 := As.mk k7
    generalize outF P l r = ov at *
    go_wp2_with fail
    go_region
    all_goals
      go_wp2_with fail
      replace k7 := k7.out.below (Below.drew (Below.refl _ _))
      replace bb7 := As.mk (Below.drew bb7.out)
      have hb07 := hb04.out.trans bb7.out
      have y1' := blk_drew y1
      replace hb07 := As.mk hb07
      replace k7 := As.mk k7
      refine (hwords.out _ hb07.out).mono ?_
      rintro e w8 ⟨rfl, rfl⟩
      have p1 := cell_of_blk y1 0
      obtain ⟨_, _, i2, _⟩ := k7.out.heads
      obtain ⟨_, _, _, _, _, f8⟩ := k7.out.rows hp
      by_cases hin : p ∈ l
      · have hge := place_mem.2 hin
        have hown : ownF l p = ((n : Int) + 1) := by unfold ownF; rw [if_pos hin, hpl]; push_cast; rfl
        have k8 := k7.out.setU hT.out hp U' (x := (n : Int) + 1) (hU'.1.trans hown) hU'.2
        have bb8 := bb7.out.setCell (p := ⟨B.bu, a, none⟩) k7.out.bases.2.2 (.int .i64 ((n : Int) + 1))
        replace k8 := As.mk k8
        replace bb8 := As.mk bb8
        clear hown hin
        generalize place l p = wd at *
        go_wp2
        go_end0
        exact ⟨rfl, k8.out, (hbel4.out.mono hbs).trans bb8.out⟩
      · have hno := place_none hin
        have k8 := k7.out.congr (F' := F') (O' := O') (U' := U') (fun _ _ => rfl) (fun _ _ => rfl) (fun x _ => by
          by_cases hx : x = p
          · rw [hx, hU0, hU'.1]; unfold ownF; rw [if_neg hin]
          · exact (hU'.2 x hx).symm)
        replace k8 := As.mk k8
        rw [hno]
        clear hno hin
        go_wp2
        go_end0
        exact ⟨rfl, k8.out, (hbel4.out.mono hbs).trans bb7.out⟩
  · rw [if_neg ho] at hor
    have hO1 : ∀ x, x ∈ P → (if x = p then (fi : Int) else O x) = O' x := fun x _ => by
      by_cases hx : x = p
      · rw [if_pos hx, hx, hO'.1, hor]
      · rw [if_neg hx, hO'.2 x hx]
    have k7 := k6.out.congr (F' := F') (O' := O') (U' := U) (fun _ _ => rfl) hO1 (fun _ _ => rfl)
    have y1 := r1
    have bb7 := bb6
    clear hO1 hor
    replace k7 := As.mk k7
    go_wp2_with fail
    replace k7 := k7.out
    have hb07 := hb04.out.trans bb7.out
    replace hb07 := As.mk hb07
    replace k7 := As.mk k7
    refine (hwords.out _ hb07.out).mono ?_
    rintro e w8 ⟨rfl, rfl⟩
    have p1 := cell_of_blk y1 0
    obtain ⟨_, _, i2, _⟩ := k7.out.heads
    obtain ⟨_, _, _, _, _, f8⟩ := k7.out.rows hp
    by_cases hin : p ∈ l
    · have hge := place_mem.2 hin
      have hown : ownF l p = ((n : Int) + 1) := by unfold ownF; rw [if_pos hin, hpl]; push_cast; rfl
      have k8 := k7.out.setU hT.out hp U' (x := (n : Int) + 1) (hU'.1.trans hown) hU'.2
      have bb8 := bb7.out.setCell (p := ⟨B.bu, a, none⟩) k7.out.bases.2.2 (.int .i64 ((n : Int) + 1))
      replace k8 := As.mk k8
      replace bb8 := As.mk bb8
      clear hown hin
      generalize place l p = wd at *
      go_wp2
      go_end0
      exact ⟨rfl, k8.out, (hbel4.out.mono hbs).trans bb8.out⟩
    · have hno := place_none hin
      have k8 := k7.out.congr (F' := F') (O' := O') (U' := U') (fun _ _ => rfl) (fun _ _ => rfl) (fun x _ => by
        by_cases hx : x = p
        · rw [hx, hU0, hU'.1]; unfold ownF; rw [if_neg hin]
        · exact (hU'.2 x hx).symm)
      replace k8 := As.mk k8
      rw [hno]
      clear hno hin
      go_wp2
      go_end0
      exact ⟨rfl, k8.out, (hbel4.out.mono hbs).trans bb7.out⟩
end Go.Proofs.Ytieelnpfpfiboaa
end
section
/- slices.Repeat at one number, and slices.Clone. -/
set_option linter.unusedVariables false
set_option linter.unusedSimpArgs false
namespace Go.Proofs.Ytieelnpfpfiboaa
open Go.RowKit Go.Maps

section
variable (w : World) (n : Nat) (hn : n ≤ 1000000)
include hn
theorem mul64_calls : Calls Try.prog 58 #[.int .u64 1, .int .u64 (n : Int)] w fun e w' => e = .returned (.tuple #[.int .u64 0, .int .u64 (n : Int)]) ∧ w = w' := by
  have h1 : bits BinOp.and IntKind.u64 1 4294967295 = 1 := by decide
  have h0 : bits BinOp.and IntKind.u64 0 4294967295 = 0 := by decide
  have h2 : bits BinOp.and IntKind.u64 (n : Int) 4294967295 = (n : Int) := by
    have h := bits_and_u64_nat n 4294967295 (by omega) (by omega)
    have e : n &&& 4294967295 = n % 4294967296 := Nat.and_two_pow_sub_one_eq_mod n 32
    rw [e, Nat.mod_eq_of_lt (by omega)] at h
    exact h
  have h3 : (n : Int) / 4294967296 = 0 := by omega
  have h4 : IntKind.u64.wrap (n : Int) = n := by rw [IntKind.wrap_u64]; omega
  have h5 : IntKind.u64.wrap 0 = 0 := by decide
  go_enter Try.func58, Try.ntmps58
  go_wp2
  go_ret2
  simp [h1, h2, h3, h4, h5, h0]
theorem mul_calls : Calls Try.prog 54 #[.int .u64 1, .int .u64 (n : Int)] w fun e w' => e = .returned (.tuple #[.int .u64 0, .int .u64 (n : Int)]) ∧ w = w' := by
  have hc := As.mk (mul64_calls w n hn)
  go_enter Try.func54, Try.ntmps54
  go_wp2_with (go_at_call 58; refine hc.out.mono ?_; rintro e w' ⟨rfl, rfl⟩)
  go_ret2
  exact ⟨rfl, rfl⟩
end
set_option maxRecDepth 100000 in
theorem make_ints (n : Nat) (hn : n ≤ 1000000) : ∃ Z : List Value, Z = List.replicate n (.int .i64 0) ∧ ∀ w : World, (Instr.makeSlice 72 (.int .i64 (n : Int)) (.int .i64 (n : Int))).run Try.prog w = .ok (.slice (some ⟨w.heap.size, 0, none⟩) n n) (w.alloc (.cells Z.toArray 3)) := by
  refine ⟨_, rfl, fun w => ?_⟩
  have hi : (Try.prog.info? 3).map (fun i => (i.zero, i.size, i.bytes)) = some (some (.int .i64 0), 1, 8) := by kernel_rfl
  obtain ⟨i, hi0, hz0, hz1, hz2⟩ := info_parts hi
  have h := run_make (P := Try.prog) w 72 3 i _ Try.underlying72 hi0 hz0 .i64 .i64 (n : Int) (n : Int) (by omega) (Int.le_refl _) (by rw [hz2]; omega) (by omega)
  rw [h, hz1]
  congr 3
  simp only [Int.toNat_natCast, Nat.mul_one]
  apply Array.ext
  · simp [madeCells]
  · intro j h1 h2
    simp [madeCells, Value.cells, Nat.mod_one]

def repRow (u : Value) (n k : Nat) : List Value := List.replicate k u ++ List.replicate (n - k) (.int .i64 0)
theorem repRow_splice (u : Value) (n k m : Nat) (h : k + m ≤ n) : splice (repRow u n k) k (List.replicate m u) = repRow u n (k + m) := by
  unfold splice repRow
  rw [List.take_left' (by simp), List.length_replicate, List.drop_append, List.drop_of_length_le (by simp), List.nil_append, List.length_replicate, ← List.append_assoc, List.replicate_append_replicate, List.drop_replicate]
  congr 2
  omega
theorem repRow_start (u : Value) (n : Nat) (h : 1 ≤ n) : splice (List.replicate n (.int .i64 0)) 0 [u] = repRow u n 1 := by
  have := repRow_splice u n 0 1 (by omega)
  unfold repRow at this
  simpa [repRow] using this

set_option maxRecDepth 100000 in
set_option maxHeartbeats 1600000 in
theorem repeat_calls (w : World) (ad : Addr) (c : Nat) (u : Int) (hx : w.cell? (ad.add 0) = some (.int .i64 u)) (n : Nat) (hn : 1 ≤ n) (hn2 : n ≤ 1000000) :
    Calls Try.prog 39 #[.slice (some ad) 1 c, .int .i64 (n : Int)] w fun e w' => ∃ b, e = .returned (.slice (some ⟨b, 0, none⟩) n n) ∧ w.heap.size ≤ b ∧ w'.heap[b]? = some (.cells (repRow (.int .i64 u) n n).toArray 3 (0, 0)) ∧ Below w.heap.size w w' := by
  have hmu := As.mk (fun w => mul_calls w n hn2)
  obtain ⟨Z, hZ, hmk⟩ := make_ints n hn2
  have hst := repRow_start (.int .i64 u) n hn
  rw [← hZ] at hst
  have hZl : Z.length = n := by rw [hZ]; simp
  have hst := As.mk hst
  have hZl := As.mk hZl
  clear hZ
  have hx := As.mk hx
  go_enter Try.func39, Try.ntmps39
  have hsz : (Try.prog.info? 3).map (·.size) = some 1 := by kernel_rfl
  go_wp2_with (first
    | (go_at_call 54; refine (hmu.out _).mono ?_; rintro e w' ⟨rfl, rfl⟩)
    | (refine wpList_copy_splice rfl (.tmp 31) (.tmp 32) 72 72 rfl 3 Try.underlying72 hsz (some ⟨w.heap.size, 0, none⟩) (some ad) n n 1 c rfl rfl w.heap.size 0 Z 3 (heap_alloc_new w _) [.int .i64 u] (by show 1 = min 1 n; omega)
         (fun _ => ⟨rfl, ad, rfl, fun j v hj => by
           have hj0 : j = 0 := by
             have := (List.getElem?_eq_some_iff.1 hj).1
             simpa using this
           subst hj0
           simp at hj
           subst hj
           exact (Below.cell ((Below.refl w.heap.size w).alloc (Nat.le_refl _) _) (World.block_lt_of_cell? w _ hx.out)).trans hx.out⟩)
         (by show 0 + 1 ≤ Z.length; have := hZl.out; omega) (by simp [Value.oneCell']) w.heap.size w ((Below.refl _ _).alloc (Nat.le_refl _) _) (Nat.le_refl _) ?_
       intro w2 hg2 hb2))
  have hg2 := As.mk (show w2.heap[w.heap.size]? = some (.cells (repRow (.int .i64 u) n 1).toArray 3 (0, 0)) by rw [← hst.out]; exact hg2.out)
  go_loopw [8] (fun i wr => ∃ k : Nat, 1 ≤ k ∧ k ≤ n ∧ i = .int .i64 k ∧ As (wr.heap[w.heap.size]? = some (.cells (repRow (.int .i64 u) n k).toArray 3 (0, 0))) ∧ As (Below w.heap.size w wr)) (fun i _ => n - (intOf i).toNat)
  case atStart => exact ⟨1, Nat.le_refl _, hn, rfl, hg2, ⟨hb2⟩⟩
  case round =>
    obtain ⟨k, hk1, hk, rfl, hrow, hbel⟩ := hrel
    by_cases hlt : k < n
    · have hnk : ¬ n = k := by omega
      obtain ⟨m, hm⟩ : ∃ m, min k (n - k) = m := ⟨_, rfl⟩
      have hm1 : m ≤ k := by omega
      have hm2 : k + m ≤ n := by omega
      have hm3 : 0 < m := by omega
      have hms : m = Nat.min k (n - k) := hm.symm
      replace hms := As.mk hms
      have hwr : IntKind.i64.wrap ((k : Int) + (m : Int)) = (k : Int) + (m : Int) := IntWalk.i64_in _ (by omega)
      have hspl := As.mk (repRow_splice (.int .i64 u) n k m hm2)
      have hkw := As.mk hk
      clear hm
      have hcs : As (∀ j v, (List.replicate m (Value.int .i64 u))[j]? = some v → wr.cell? ((⟨w.heap.size, 0, none⟩ : Addr).add j) = some v) := ⟨fun j v hj => by
        have hjm : j < m := by
          have := (List.getElem?_eq_some_iff.1 hj).1
          simpa using this
        rw [List.getElem?_replicate, if_pos hjm] at hj
        rw [← hj]
        refine World.news_of_block hrow.out j _ ?_
        unfold repRow
        rw [List.getElem?_append_left (by simp; omega), List.getElem?_replicate, if_pos (by omega)]⟩
      have hlen : As (k + m ≤ (repRow (.int .i64 u) n k).length) := ⟨by unfold repRow; simp; omega⟩
      go_wp2
      go_region_law (refine step_copy_splice rfl (.tmp 41) (.tmp 44) 72 72 rfl 3 Try.underlying72 hsz (some ⟨w.heap.size, k, none⟩) (some ⟨w.heap.size, 0, none⟩) (n - k) (n - k) k n (by simp [Act.eval, Act.put, hnk]) (by simp [Act.eval, Act.put, hnk]) w.heap.size k (repRow (.int .i64 u) n k) 3 hrow.out (List.replicate m (.int .i64 u)) (by rw [List.length_replicate]; exact hms.out) (fun _ => ⟨rfl, _, rfl, hcs.out⟩) (by rw [List.length_replicate]; exact hlen.out) (by intro v hv; rw [List.eq_of_mem_replicate hv]; rfl) w.heap.size w (Below.drew hbel.out) (Nat.le_refl _) ?_
                     intro w4 hg4 hb4)
      all_goals
        go_wp2
        refine ⟨?_, ?measure⟩
        · (repeat apply Exists.intro)
          refine ⟨?rel, ?eq⟩
          case eq => (simp only [Act.put]; rfl)
          case rel => exact ⟨k + m, by omega, hm2, by go_num, ⟨by rw [← hspl.out]; exact hg4.out⟩, ⟨hb4⟩⟩
        case measure => simp [intOf, Act.put, hwr]; omega
    · obtain rfl : k = n := by omega
      go_wp2
      go_ret
      exact ⟨w.heap.size, rfl, Nat.le_refl _, hrow.out, hbel.out⟩
end Go.Proofs.Ytieelnpfpfiboaa
end
section
/- The walk of links.Build. -/
set_option linter.unusedVariables false
set_option linter.unusedSimpArgs false
namespace Go.Proofs.Ytieelnpfpfiboaa
open Go.RowKit Go.Maps Seine.Trie Seine.Links

theorem blk_below {w w' : World} {b : Nat} {o : Obj} (hb : Below w.heap.size w w') (h : w.heap[b]? = some o) : w'.heap[b]? = some o := (hb.block b (block_lt h)).trans h
theorem ownsRow_of_block {w : World} {base b n : Nat} {cs : List Value} {t : TypeId} (h : w.heap[b]? = some (.cells cs.toArray t (0, 0))) (hl : cs.length = n) (hb : base ≤ b) (hn : n ≤ maxLen) : w.ownsRow base t 1 (.slice (some ⟨b, 0, none⟩) n n) n cs := by
  refine ⟨by omega, .inr ⟨b, n, cs.toArray, rfl, hb, h, Nat.le_refl _, hn, by simp [hl], by rw [Nat.mul_one]; exact List.take_of_length_le (by simp; omega)⟩⟩
theorem new_zero {w : World} {cs : Array Value} {t : TypeId} {b : Nat} (h : w.heap[b]? = some (.cells cs t (0, 0))) : w.cell? ((⟨b, 0, none⟩ : Addr).add 0) = cs[0]? := by
  have : (⟨b, 0, none⟩ : Addr).add 0 = ⟨b, 0, none⟩ := by unfold Addr.add; split <;> simp_all
  rw [this]; exact cell_of_blk h 0
theorem heap_new_at {w : World} {o : Obj} {b : Nat} (h : b = w.heap.size) : (w.alloc o).heap[b]? = some o := by rw [h]; exact heap_alloc_new _ _
theorem intCells_const (P : List Txt) (x : Int) : intCells P (fun _ => x) = List.replicate P.length (.int .i64 x) := by simp [intCells, List.map_const']
theorem repRow_full (u : Value) (n : Nat) : repRow u n n = List.replicate n u := by simp [repRow]

theorem linksAt_new {w : World} {base g n bf bo bu : Nat} {P : List Txt} {Z : List Value} (hn : P.length = n) (hl : n ≤ 1000000) (hZ : Z = List.replicate n (.int .i64 0))
    (h0 : w.heap[g]? = some (.cells #[.slice (some ⟨bf, 0, none⟩) n n, .slice (some ⟨bo, 0, none⟩) n n, .slice (some ⟨bu, 0, none⟩) n n, .slice none 0 0] 84 (0, 0))) (hg : base ≤ g)
    (hf : w.heap[bf]? = some (.cells (repRow (.int .i64 (-1)) n n).toArray 3 (0, 0))) (ho : w.heap[bo]? = some (.cells (repRow (.int .i64 (-1)) n n).toArray 3 (0, 0))) (hu : w.heap[bu]? = some (.cells Z.toArray 3 (0, 0)))
    (b1 : base ≤ bf) (b2 : base ≤ bo) (b3 : base ≤ bu) (n1 : bf ≠ bo) (n2 : bf ≠ bu) (n3 : bo ≠ bu) : LinksAt w base g P (fun _ => -1) (fun _ => -1) (fun _ => 0) [] := by
  subst hn
  have hm : P.length ≤ maxLen := by simp only [maxLen]; omega
  refine ⟨⟨bf, P.length, bo, P.length, bu, P.length, .slice none 0 0⟩, h0, hg, ?_, ?_, ?_, n1, n2, n3, World.ownsRow_nil _ _ _ _, by simp [Value.ownBlock], by simp [Value.ownBlock], by simp [Value.ownBlock]⟩
  · unfold IntRow; rw [intCells_const, ← repRow_full]; exact ownsRow_of_block hf (by simp [repRow]) b1 hm
  · unfold IntRow; rw [intCells_const, ← repRow_full]; exact ownsRow_of_block ho (by simp [repRow]) b2 hm
  · unfold IntRow; rw [intCells_const, ← hZ]; exact ownsRow_of_block hu (by rw [hZ]; simp) b3 hm

theorem LinksIn.order {w w2 : World} {base g : Nat} {P : List Txt} {F O U : Txt → Int} {o o' : List Txt} {B : LB} (h : LinksIn w base g P F O U o B) (hk : Keeps (fun k => some k = B.vr.ownBlock) w w2) {v' : Value}
    (hown : w2.ownsRow base 3 1 v' o'.length (intCells o' (place P))) (hv : v'.ownBlock = B.vr.ownBlock ∨ ∃ k, v'.ownBlock = some k ∧ w.heap.size ≤ k) : LinksIn (w2.setCell ⟨g, 3, none⟩ v') base g P F O U o' { B with vr := v' } := by
  obtain ⟨hg, h0, h1, h2, h3, h4, h5, h6, h7, h8, h9, h10⟩ := h
  have b1 := h1.base.2
  have b2 := h2.base.2
  have b3 := h3.base.2
  have hgv : some g ≠ B.vr.ownBlock := own_not_type h7 hg (by decide)
  have hg2 : w2.heap[g]? = _ := (hk.block g (block_lt hg) hgv).trans hg
  have hs := keeps_set w2 ⟨g, 3, none⟩ v'
  have hne : ∀ b, b < w.heap.size → B.vr.ownBlock ≠ some b → v'.ownBlock ≠ some b := fun b hb hn e => by
    rcases hv with hv | ⟨k, hv, hk⟩
    · exact hn (hv ▸ e)
    · rw [hv] at e; injection e; omega
  refine ⟨?_, h0, (h1.keep hk (fun e => h8 e.symm)).keep hs ?_, (h2.keep hk (fun e => h9 e.symm)).keep hs ?_, (h3.keep hk (fun e => h10 e.symm)).keep hs ?_, h4, h5, h6, own_keep hown hs (fun b c' _ hb e he => ?_), hne _ b1 h8, hne _ b2 h9, hne _ b3 h10⟩
  · exact blk_set hg2 3 v'
  · exact fun e => h1.other hg (by decide) e.symm
  · exact fun e => h2.other hg (by decide) e.symm
  · exact fun e => h3.other hg (by decide) e.symm
  · subst he
    rw [hg2] at hb
    injection hb with hb
    injection hb with _ hb
    exact absurd hb (by decide)
/-- What the links' rows hold of the nodes that were gone through. -/
def doneF (D : List Txt) (f : Txt → Int) (d : Int) (x : Txt) : Int := if x ∈ D then f x else d
theorem doneF_snoc_same {D : List Txt} {s : Txt} (f : Txt → Int) (d : Int) : doneF (D ++ [s]) f d s = f s := by simp [doneF]
theorem doneF_snoc_other {D : List Txt} {s y : Txt} (f : Txt → Int) (d : Int) (h : y ≠ s) : doneF (D ++ [s]) f d y = doneF D f d y := by simp [doneF, h]
/-- The links of the tree, k nodes having been gone through. -/
def LinksTo (w : World) (base g : Nat) (P l : List Txt) (D o : List Txt) : Prop := LinksAt w base g P (doneF D (failF P) (-1)) (doneF D (outF P l) (-1)) (doneF D (ownF l) 0) o
theorem take_snoc_op {P : List Txt} {k : Nat} {s : Txt} (h : (op P k)[k]? = some s) : (op P (k + 1)).take (k + 1) = (op P k).take k ++ [s] := by
  obtain ⟨hl, hs⟩ := List.getElem?_eq_some_iff.1 h
  rw [op_next h, List.take_append_of_le_length (by omega), List.take_succ_eq_append_getElem hl, hs]

theorem kidsF_eq {P : List Txt} {a : Nat} {s : Txt} (h : P[a]? = some s) : kidsF P (a : Int) 256 = kids P s := by
  unfold kidsF kids
  refine List.filter_congr fun c _ => ?_
  rw [stepF_at h, decide_eq_decide]
  exact place_mem
theorem LinksAt.order {w : World} {base g : Nat} {P : List Txt} {F O U : Txt → Int} {o : List Txt} (h : LinksAt w base g P F O U o) : ∃ v, w.cell? ⟨g, 3, none⟩ = some v ∧ w.frozen? ⟨g, 3, none⟩ = false ∧ g < w.heap.size ∧ base ≤ g ∧ w.ownsRow base 3 1 v o.length (intCells o (place P)) ∧ some g ≠ v.ownBlock ∧
    ∀ w2 v' o', Keeps (fun k => some k = v.ownBlock) w w2 → w2.ownsRow base 3 1 v' o'.length (intCells o' (place P)) → (v'.ownBlock = v.ownBlock ∨ ∃ k, v'.ownBlock = some k ∧ w.heap.size ≤ k) → LinksAt (w2.setCell ⟨g, 3, none⟩ v') base g P F O U o' := by
  obtain ⟨B, h⟩ := h
  obtain ⟨q0, q1, q2, q3, q4⟩ := h.heads
  have h2 := h
  obtain ⟨hg, h0, h1, _, h3, h4, h5, h6, h7, h8⟩ := h2
  exact ⟨B.vr, q3, q4, block_lt hg, h0, h7, own_not_type h7 hg (by decide), fun w2 v' o' a b c => ⟨_, h.order a b c⟩⟩

theorem info_int : (Try.prog.info? 3).map (fun i => (i.zero, i.size, i.bytes)) = some (some (.int .i64 0), 1, 8) := by kernel_rfl
theorem step_call_eq {P : Program} {ops : Array Oper} {o : Oper} {a : Act} {w : World} {K : Act → World → Prop} {Q : Exit → Act → World → Prop} {E : Prop} (hg : o.guard = none) {f : FuncId} {vals : Array Value} {v : Value}
    (ho : (execOp a.eval o).run P w = .ok (.enter f vals) w) (hc : Calls P f vals w fun e w' => e = .returned v ∧ w = w') (h : K (a.put o.dst v) w) :
    if Region.wanted o (yielded ops a.tmps) = true then Oper.wp P o a w K Q else E := by
  have hw : Region.wanted o (yielded ops a.tmps) = true := by simp [Region.wanted, hg]
  rw [if_pos hw]
  unfold Oper.wp
  rw [ho, Oper.upon_enter]
  refine hc.mono ?_
  rintro e w' ⟨rfl, rfl⟩
  exact h
theorem LinksTo.root {w : World} {base g : Nat} {P l D o : List Txt} (h : LinksTo w base g P l D o) : LinksTo w base g P l (D ++ [[]]) o := by
  obtain ⟨B, h⟩ := h
  have key : ∀ (f : Txt → Int) (d : Int), f [] = d → ∀ x, x ∈ P → doneF D f d x = doneF (D ++ [[]]) f d x := fun f d hf x _ => by
    by_cases hx : x = []
    · subst hx; simp [doneF, hf]
    · rw [doneF_snoc_other f d hx]
  exact ⟨B, h.congr (key _ _ (failF_nil P)) (key _ _ (outF_nil P l)) (key _ _ (ownF_nil l))⟩
theorem LinksTo.full {w : World} {base g : Nat} {P l D o : List Txt} (h : LinksTo w base g P l D o) (hD : ∀ x, x ∈ P → x ∈ D) : LinksAt w base g P (failF P) (outF P l) (ownF l) o := by
  obtain ⟨B, h⟩ := h
  exact ⟨B, h.congr (fun x hx => if_pos (hD x hx)) (fun x hx => if_pos (hD x hx)) (fun x hx => if_pos (hD x hx))⟩
theorem kidsT_take {P : List Txt} {s : Txt} {m : Nat} (h : m < (kids P s).length) : (kidsT P s).take (m + 1) = (kidsT P s).take m ++ [s ++ [(kids P s).getD m 0]] := by
  unfold kidsT
  rw [List.take_succ_eq_append_getElem (by simpa using h)]
  simp [h]
theorem intCells_snoc (P : List Txt) (F : Txt → Int) (x : Txt) : intCells (P ++ [x]) F = intCells P F ++ [.int .i64 (F x)] := by simp [intCells]
theorem keeps_grown_set {w w1 : World} {row : Option Nat} (h : w.grownBy w1 row) (p : Addr) (u : Value) : Keeps (fun k => some k = row ∨ k = p.block) w (w1.setCell p u) :=
  ((Keeps.of_grown h).mono (fun _ _ h => .inl h)).trans ((keeps_set w1 p u).mono (fun _ _ h => .inr h))

set_option maxRecDepth 100000 in
set_option maxHeartbeats 1600000 in
theorem lbuild_calls (w : World) (base tg : Nat) (P l : List Txt) (ht : TrieAt w base tg P (place l)) (hl : P.length ≤ 1000000) (hd : ∀ p ∈ P, p.length ≤ 100000) (hlP : ∀ x, x ∈ l → x ∈ P) :
    Calls Try.prog 27 #[.pointer (some ⟨tg, 0, none⟩)] w fun e w' => ∃ g, e = .returned (.pointer (some ⟨g, 0, none⟩)) ∧ LinksAt w' w.heap.size g P (failF P) (outF P l) (ownF l) (op P P.length) ∧ Below w.heap.size w w' := by
  have hT := As.mk ht.tree
  have HT := As.mk ht
  have hnod := As.mk (fun v hv => nodes_calls v base tg P (place l) (HT.out.below hv))
  have hPl := hT.out.len
  obtain ⟨n, hn⟩ : ∃ n, P.length = n := ⟨_, rfl⟩
  rw [hn] at hnod hl hPl
  obtain ⟨Z, hZ, hmk⟩ := make_ints n hl
  replace hZ := As.mk hZ
  have hrep := As.mk (fun (v : World) (ad : Addr) (c : Nat) (h : v.cell? (ad.add 0) = some (.int .i64 (-1))) => repeat_calls v ad c (-1) h n hPl hl)
  go_enter Try.func27, Try.ntmps27
  go_wp2
  go_step3
  go_upto_region 2 with (go_at_call 28; refine (hnod.out _ (Below.refl _ _)).mono ?_; rintro e w' ⟨rfl, rfl⟩)
  go_cut [4] from 11 to 20 (fun v4 wx => ∃ g, v4 = .pointer (some ⟨g, 0, none⟩) ∧ As (LinksAt wx w.heap.size g P (fun _ => -1) (fun _ => -1) (fun _ => 0) []) ∧ As (Below w.heap.size w wx))
  case first =>
    go_region_with (go_at_call 39; refine (hrep.out _ _ _ ?hc).mono ?_; (case hc => exact (new_zero (cs := #[.int .i64 (-1)]) (t := 3) (by (repeat (first | (with_reducible assumption) | (with_reducible exact heap_alloc_new _ _) | (exact heap_new_at (by (first | omega | (simp only [World.size_alloc, World.size_drew]; done) | (simp only [World.size_alloc, World.size_drew]; omega)))) | (with_reducible refine blk_drew ?_) | (with_reducible refine blk_old ?_) | (refine blk_below (by with_reducible assumption) ?_))))).trans rfl); rintro e w' ⟨b, rfl, hb, hc, hbel⟩; have hs := hbel.size; have hlt := block_lt hc; (try simp only [World.size_alloc, World.size_drew] at hs hb))
    all_goals
      go_wp2_with fail
      go_meet
      case rel =>
        refine ⟨_, rfl, ⟨?_⟩, ⟨?_⟩⟩
        · apply linksAt_new hn hl hZ.out
          all_goals (first | ((repeat (first | (with_reducible assumption) | (with_reducible exact heap_alloc_new _ _) | (exact heap_new_at (by (first | omega | (simp only [World.size_alloc, World.size_drew]; done) | (simp only [World.size_alloc, World.size_drew]; omega)))) | (with_reducible refine blk_drew ?_) | (with_reducible refine blk_old ?_) | (refine blk_below (by with_reducible assumption) ?_))); done) | (first | omega | (simp only [World.size_alloc, World.size_drew]; done) | (simp only [World.size_alloc, World.size_drew]; omega)))
        · (repeat (first | (with_reducible assumption) | (with_reducible exact Below.refl _ _) | (with_reducible refine Below.drew ?_) | (with_reducible refine Below.alloc ?_ (by (first | omega | (simp only [World.size_alloc, World.size_drew]; done) | (simp only [World.size_alloc, World.size_drew]; omega))) _) | (refine Below.trans ?_ (Below.mono (by with_reducible assumption) (by (first | omega | (simp only [World.size_alloc, World.size_drew]; done) | (simp only [World.size_alloc, World.size_drew]; omega)))))))
  case rest =>
    obtain ⟨g, rfl, hk0, hb0⟩ := hcut
    have hn0 : ((n : Int) == 0) = false := by simp; omega
    obtain ⟨v0, q3, q4, hgl, hgb, ho0, hne0, hset⟩ := hk0.out.order
    have hbs := hb0.out.size
    have hsl : ((wc.alloc (.cells #[.int .i64 0] 3)).ownsRow w.heap.size 3 1 (.slice (some ⟨wc.heap.size, 0, none⟩) 1 1) 1 [.int .i64 0]) := ownsRow_of_block (heap_alloc_new wc _) rfl hbs (by unfold maxLen; omega)
    have hp0 : place P [] = 0 := place_at hT.out.nodup hT.out.root
    have hk1 := hset (wc.alloc (.cells #[.int .i64 0] 3)) (.slice (some ⟨wc.heap.size, 0, none⟩) 1 1) [[]] (Keeps.of_below ((Below.refl _ _).alloc (Nat.le_refl _) _) _) (by simpa [intCells, hp0] using hsl) (.inr ⟨wc.heap.size, rfl, Nat.le_refl _⟩)
    have hb1 := (hb0.out.alloc (by omega) (.cells #[.int .i64 0] 3)).setCell (p := ⟨g, 3, none⟩) (by show w.heap.size ≤ g; omega) (.slice (some ⟨wc.heap.size, 0, none⟩) 1 1)
    rw [World.setCell_alloc_past _ _ _ _ hgl] at hk1 hb1
    have hdn : ∀ (f : Txt → Int) (d : Int), doneF [] f d = fun _ => d := fun f d => by funext x; simp [doneF]
    have hk1 : As (LinksTo ((wc.setCell ⟨g, 3, none⟩ (.slice (some ⟨wc.heap.size, 0, none⟩) 1 1)).alloc (.cells #[.int .i64 0] 3)) w.heap.size g P l ((op P 0).take 0) (op P 0)) := ⟨by
      unfold LinksTo
      rw [List.take_zero, hdn, hdn, hdn]
      exact hk1⟩
    have hb1 := As.mk hb1
    have hopl := As.mk (fun k => op_len hT.out k)
    clear hsl hp0 hb0 hset ho0 hne0 hdn
    go_wp2
    go_step3
    go_wp2
    go_loopg [5] (n + 1) (fun gk i wr => ∃ k : Nat, As (gk + k = n + 1) ∧ As (k ≤ (op P k).length) ∧ i = .int .i64 k ∧ As (LinksTo wr w.heap.size g P l ((op P k).take k) (op P k)) ∧ As (Below w.heap.size w wr))
    case atStart => exact ⟨0, ⟨rfl⟩, ⟨Nat.zero_le _⟩, rfl, hk1, hb1⟩
    case round =>
      obtain ⟨k, hgk, hkl, rfl, hto, hbel⟩ := hrel
      obtain ⟨v3, q3, q4, hgl, hgb, ho3, hne3, hset⟩ := hto.out.order
      obtain ⟨ln, hln⟩ : ∃ ln, (op P k).length = ln := ⟨_, rfl⟩
      have hlnn : ln ≤ n := by have := hopl.out k; omega
      have hk' := hkl.out
      rw [hln] at hk'
      by_cases hlt : k < ln
      · obtain ⟨s, hs⟩ : ∃ s, (op P k)[k]? = some s := ⟨_, List.getElem?_eq_getElem (by omega)⟩
        have hsP := op_sub hT.out (List.mem_of_getElem? hs)
        obtain ⟨a, ha1, ha2⟩ := place_nat hsP
        obtain ⟨vb, cp, hv3, hvb1, hvb2⟩ := ho3.form (by omega)
        have hcell := World.ownsRow.cellAt (hv3 ▸ ho3) k (by omega)
        rw [intCells_at hs, ha1] at hcell
        rw [hln] at hv3
        subst hv3
        obtain ⟨kl, hkl2⟩ : ∃ kl, (kids P s).length = kl := ⟨_, rfl⟩
        have hkle : kl ≤ 256 := by
          have := kidsF_length P (a : Int) 256
          rw [kidsF_eq ha2, hkl2] at this
          exact this
        have hks := As.mk hkl2
        have hPn : P.length ≤ 1000000 := by omega
        have hs' := As.mk hs
        have hsP := As.mk hsP
        have ha1' := As.mk ha1
        have ha2' := As.mk ha2
        have hkd := As.mk (kidsF_eq ha2)
        have hto2 := hto
        have halt := (List.getElem?_eq_some_iff.1 ha2).1
        clear hkl2 hs ha1 ha2 hset ho3 hne3
        have hln := As.mk hln
        have hto0 : ∀ {v}, Below wr.heap.size wr v → LinksTo v w.heap.size g P l ((op P k).take k) (op P k) := fun h => LinksAt.below hto2.out h
        have hto0 := As.mk @hto0
        go_wp2_with (go_at_call 40; refine (kids_calls _ base tg P (place l) (HT.out.below hbel.out) (by omega) (a : Int)).mono ?_; intro e w1 hr; rw [hkd.out] at hr; obtain ⟨vk, rfl, hok, hbk⟩ := hr; obtain ⟨Ak, ck, hvk, hck, hbyt⟩ := hok.row; rw [hks.out] at hvk hck; subst hvk; replace hok := As.mk hok; replace hbyt := As.mk hbyt; replace hbk := As.mk hbk)
        have hst := As.mk (fun (v : World) (h : Below w.heap.size w v) (c : UInt8) (y : Int) (hy : place P (s ++ [c]) = y) => (by
          rw [← hy, ← stepF_at ha2'.out c]; exact step_calls v base tg P (place l) (HT.out.below h) hPn (a : Int) _ c rfl : Calls Try.prog 41 #[.pointer (some ⟨tg, 0, none⟩), .int .i64 (a : Int), .int .u8 (c.toNat : Int)] v fun e w' => e = .returned (.int .i64 y) ∧ v = w'))
        obtain ⟨wo, rfl⟩ : ∃ wo : World, wo = wr := ⟨_, rfl⟩
        obtain ⟨go, rfl⟩ : ∃ go : Nat, go = gk := ⟨_, rfl⟩
        go_loopg [48] (kl + 1) (fun g2 j wr2 => ∃ m : Nat, As (g2 + m = kl + 1) ∧ As (m ≤ kl) ∧ j = .int .i64 m ∧ As (LinksTo wr2 w.heap.size g P l ((op P k).take k) (op P k ++ (kidsT P s).take m)) ∧ As (OwnByt wr2 wo.heap.size (.slice Ak kl ck) (kids P s)) ∧ As (Below w.heap.size w wr2))
        case atStart => exact ⟨0, ⟨rfl⟩, ⟨Nat.zero_le _⟩, rfl, ⟨by rw [List.take_zero, List.append_nil]; exact hto0.out hbk.out⟩, hok, ⟨below_next' hbel.out hbk.out⟩⟩
        case round =>
          obtain ⟨m, hgm, hml, rfl, hto3, hok2, hbel2⟩ := hrel
          have hml' := hml.out
          obtain ⟨gp, rfl⟩ : ∃ gp, gk = gp + 1 := ⟨gk - 1, by have := hgm.out; omega⟩
          by_cases hmlt : m < kl
          · obtain ⟨v3, q3, q4, hgl, hgb, ho3, hne3, hset⟩ := hto3.out.order
            have hl2 : (op P k ++ (kidsT P s).take m).length = ln + m := by
              rw [List.length_append, hln.out, List.length_take, kidsT, List.length_map, hks.out]; omega
            have hl3 : ln + kl ≤ n := by
              have := hopl.out (k + 1)
              rw [op_next hs'.out, List.length_append, hln.out, kidsT, List.length_map, hks.out] at this
              omega
            rw [hl2] at ho3
            obtain ⟨vb2, cp2, hv3, hvb3, hvb4⟩ := ho3.form (by omega)
            subst hv3
            obtain ⟨A2, c2, e2, _, hby2⟩ := OwnByt.row hok2.out
            injection e2 with e2 e3 e4
            clear e3 e4
            subst e2
            obtain ⟨ad, rfl, hcm⟩ := Byt.at_ hby2 (i := m) (by rw [hks.out]; exact hmlt)
            have htk := kidsT_take (P := P) (s := s) (m := m) (by rw [hks.out]; exact hmlt)
            obtain ⟨x, hx⟩ : ∃ x, (kids P s).getD m 0 = x := ⟨_, rfl⟩
            rw [hx] at hcm htk
            obtain ⟨y, hy⟩ : ∃ y, place P (s ++ [x]) = y := ⟨_, rfl⟩
            obtain ⟨i0, hi, hz0, hz1, hz2⟩ := info_parts info_int
            have hst2 := As.mk (hst.out _ hbel2.out.drew x y hy)
            have hy' := As.mk hy
            have htk' := As.mk htk
            have hset' := As.mk hset
            have hown' := As.mk ho3
            have hown2 := As.mk ((ho3.alloc (.cells #[.int .i64 y] 3)).drew)
            have hfar : g ≠ vb2 := fun e => hne3 (by rw [e]; rfl)
            clear hl2 hset ho3 hne3 hby2 htk hx hy
            have K2 := (Below.frozen (p := ⟨g, 3, none⟩) ((Below.alloc (Below.refl wr.heap.size wr) (Nat.le_refl _) (.cells #[.int .i64 y] 3)).drew) hgl).trans q4
            have K1 := (Below.cell (p := ⟨g, 3, none⟩) ((Below.alloc (Below.refl wr.heap.size wr) (Nat.le_refl _) (.cells #[.int .i64 y] 3)).drew) hgl).trans q3
            replace K1 := As.mk K1
            replace K2 := As.mk K2
            have hsz1 : wr.heap.size < (wr.alloc (.cells #[.int .i64 y] 3)).drew.heap.size := by simp
            replace hsz1 := As.mk hsz1
            go_wp2_with fail
            go_region_law (first
              | (refine step_append_lies _ (by rfl) _ _ _ (by rfl) w.heap.size 3 i0 _ 1 8 Try.underlying72 hi hz0 hz1 hz2 rfl (by omega) (.slice (some ⟨vb2, 0, none⟩) (ln + m) cp2) (ln + m) _ (by rfl) hown2.out
                     ⟨wr.heap.size, 0, none⟩ 1 1 [.int .i64 y] (by rfl) (by rfl) (World.news_of_block (cs := #[.int .i64 y]) (t := 3) (fr := (0, 0)) (heap_alloc_new wr _)) (by simp [Value.oneCell'])
                     (by omega) (by unfold maxLen; omega) (by omega) (by simp; omega) (wr.heap.size + 1) (by simp) ?_
                 intro gg cap w4 hown4 hgrow hat hlt4
                 have e0 := (hgrow.cell_far ⟨g, 3, none⟩ (by have := hsz1.out; show g < _; omega) (by show some g ≠ some vb2; simpa using hfar)).trans K1.out
                 have e1 := (hgrow.frozen_far ⟨g, 3, none⟩ (by have := hsz1.out; show g < _; omega) (by show some g ≠ some vb2; simpa using hfar)).trans K2.out
                 replace hgrow := As.mk hgrow
                 replace hown4 := As.mk hown4)
              | (refine step_call_eq (by rfl) ?ho hst2.out ?_; (case ho => go_simp)))
            all_goals
              go_wp2_with fail
              have hkp : Keeps (fun k => some k = (Value.slice (some ⟨vb2, 0, none⟩) (ln + m) cp2).ownBlock) wr w4 := (Keeps.of_below (((Below.refl _ _).alloc (Nat.le_refl _) _).drew) _).trans ((Keeps.of_grown hgrow.out).mono (fun _ _ h => h))
              have hks5 := (hkp.mono (T := fun k => some k = (Value.slice (some ⟨vb2, 0, none⟩) (ln + m) cp2).ownBlock ∨ k = g) (fun _ _ h => .inl h)).trans ((keeps_set w4 ⟨g, 3, none⟩ (.slice (some ⟨gg, 0, none⟩) (ln + m + 1) cap)).mono (fun _ _ h => .inr h))
              have hto5 : LinksTo (w4.setCell ⟨g, 3, none⟩ (.slice (some ⟨gg, 0, none⟩) (ln + m + 1) cap)) w.heap.size g P l ((op P k).take k) (op P k ++ (kidsT P s).take (m + 1)) := by
                refine hset'.out w4 (.slice (some ⟨gg, 0, none⟩) (ln + m + 1) cap) _ hkp ?_ ?_
                · have hlo : (op P k ++ (kidsT P s).take (m + 1)).length = ln + m + 1 := by
                    rw [List.length_append, hln.out, List.length_take, kidsT, List.length_map, hks.out]; omega
                  rw [hlo, htk'.out, ← List.append_assoc, intCells_snoc, hy'.out]
                  exact hown4.out
                · rcases hat with h | h
                  · exact .inl h.symm
                  · exact .inr ⟨gg, rfl, by omega⟩
              have hok5 : OwnByt (w4.setCell ⟨g, 3, none⟩ (.slice (some ⟨gg, 0, none⟩) (ln + m + 1) cap)) wo.heap.size (.slice (some ad) kl ck) (kids P s) :=
                own_keep hok2.out hks5 (fun b c' _ hb _ hS => by
                  rcases hS with hS | hS
                  · exact own_not_type hown'.out hb (by decide) hS
                  · obtain ⟨B5, hin5⟩ := hto3.out
                    have := hin5.1
                    subst hS
                    rw [this] at hb
                    injection hb with hb
                    injection hb with _ hb
                    exact absurd hb (by decide))
              have hbel5 : Below w.heap.size w (w4.setCell ⟨g, 3, none⟩ (.slice (some ⟨gg, 0, none⟩) (ln + m + 1) cap)) :=
                hbel2.out.trans (hks5.below (fun k hk hS => by
                  rcases hS with hS | hS
                  · have hS : k = vb2 := Option.some.inj hS
                    omega
                  · omega) hbel2.out.size)
              go_roundg gp
              case rel => exact ⟨m + 1, ⟨by have := hgm.out; omega⟩, ⟨by omega⟩, by go_num, ⟨hto5⟩, ⟨hok5⟩, ⟨hbel5⟩⟩
              case measure => omega
          · obtain rfl : m = kl := by omega
            have hk1 : k + 1 ≤ (op P (k + 1)).length := by rw [op_next hs'.out, List.length_append, hln.out]; omega
            have hnx : op P k ++ (kidsT P s).take m = op P (k + 1) := by
              rw [op_next hs'.out, List.take_of_length_le (by rw [kidsT, List.length_map, hks.out]; omega)]
            have hto6 := hto3.out
            rw [hnx] at hto6
            replace hto6 := As.mk hto6
            replace hk1 := As.mk hk1
            have htk6 := As.mk (take_snoc_op hs'.out)
            obtain ⟨gq, rfl⟩ : ∃ gq, go = gq + 1 := ⟨go - 1, by have := hgk.out; omega⟩
            clear hnx
            by_cases ha0 : a = 0
            · have hsn : s = [] := by
                have := ha2'.out
                rw [ha0, hT.out.root] at this
                injection this with this
                exact this.symm
              subst ha0
              go_wp2_with fail
              go_roundg gq
              case rel => exact ⟨k + 1, ⟨by have := hgk.out; omega⟩, hk1, by go_num, ⟨by rw [htk6.out, hsn]; exact hto6.out.root⟩, hbel2⟩
              case measure => omega
            · have hsn : s ≠ [] := fun e => by
                have h1 := ha1'.out
                rw [e, place_at hT.out.nodup hT.out.root] at h1
                omega
              obtain ⟨B6, hin6⟩ := hto6.out
              have hlk := link_calls w wr w.heap.size g base tg P l _ _ _ (doneF ((op P k).take k ++ [s]) (failF P) (-1)) (doneF ((op P k).take k ++ [s]) (outF P l) (-1)) (doneF ((op P k).take k ++ [s]) (ownF l) 0) (op P (k + 1)) rfl HT.out hbel2.out B6 hin6 hPn hd hlP a s ha2'.out hsn
                (fun x hx hxl => by
                  obtain ⟨j, hj, hjx⟩ := op_before hT.out k hs'.out x hx hxl
                  have hm : x ∈ (op P k).take k := List.mem_of_getElem? (i := j) (by rw [List.getElem?_take_of_lt hj]; exact hjx)
                  exact ⟨if_pos hm, if_pos hm, if_pos hm⟩)
                (by
                  have : s ∉ (op P k).take k := fun hm => by
                    obtain ⟨j, hj⟩ := List.mem_iff_getElem?.1 hm
                    have hjk : j < k := by
                      have := (List.getElem?_eq_some_iff.1 hj).1
                      rw [List.length_take] at this; omega
                    rw [List.getElem?_take_of_lt hjk] at hj
                    have := nodup_get (op_nodup P k) hj hs'.out
                    omega
                  exact if_neg this)
                ⟨doneF_snoc_same _ _, fun y hy => doneF_snoc_other _ _ hy⟩ ⟨doneF_snoc_same _ _, fun y hy => doneF_snoc_other _ _ hy⟩ ⟨doneF_snoc_same _ _, fun y hy => doneF_snoc_other _ _ hy⟩
              replace hlk := As.mk hlk
              have ha0' : ((a : Int) == 0) = false := by simpa using ha0
              clear hin6
              go_wp2_with (go_at_call 42; refine hlk.out.mono ?_; rintro e w7 ⟨rfl, hin7, hb7⟩; replace hin7 := As.mk hin7; replace hb7 := As.mk hb7)
              go_roundg gq
              case rel => exact ⟨k + 1, ⟨by have := hgk.out; omega⟩, hk1, by go_num, ⟨by rw [htk6.out]; exact ⟨_, hin7.out⟩⟩, ⟨hbel2.out.trans hb7.out⟩⟩
              case measure => omega
      · obtain rfl : k = ln := by omega
        have hfull : op P k = op P P.length := op_full hT.out (by omega)
        have hto8 := hto.out.full (fun x hx => by rw [List.take_of_length_le (by omega), hfull]; exact op_all hT.out _ x rfl hx)
        rw [hfull] at hto8
        replace hto8 := As.mk hto8
        clear hset hne3 hfull
        rw [hln] at ho3
        obtain ⟨Av, cv, rfl, hcv⟩ := own_slice ho3
        replace ho3 := As.mk ho3
        replace hln := As.mk hln
        go_wp2
        try rw [Exit.noGoto_ret]
        go_ret
        exact ⟨g, rfl, hto8.out, hbel.out⟩
end Go.Proofs.Ytieelnpfpfiboaa
end
section
/- Texts as the printer's words tell them: byte arrays, lists of numbers. Plain facts. -/
set_option linter.unusedVariables false
set_option linter.unusedSimpArgs false
namespace Go.Proofs.Ytieelnpfpfiboaa
open Go.RowKit Seine.Trie Go.Proofs.YtieelnpfpfiboaaW.PrintWords

def bb (l : Txt) : ByteArray := ⟨l.toArray⟩
def nb (l : Txt) : List Int := l.map fun c => (c.toNat : Int)
theorem nb_length (l : Txt) : (nb l).length = l.length := by simp [nb]
theorem bb_data (l : Txt) : (bb l).data.toList = l := by simp [bb]
theorem bb_of (s : ByteArray) : bb s.data.toList = s := by cases s; simp [bb]
theorem bb_ext {a b : ByteArray} (h : a.data.toList = b.data.toList) : a = b := by rw [← bb_of a, ← bb_of b, h]
theorem bb_size (l : Txt) : (bb l).size = l.length := by simp [bb, ByteArray.size]
theorem bb_toList (l : Txt) : (bb l).toList = l := by rw [ByteArray.toList_eq, bb_data]
theorem bb_inj {a b : Txt} (h : bb a = bb b) : a = b := by rw [← bb_data a, h, bb_data]
theorem bb_append (a b : Txt) : bb a ++ bb b = bb (a ++ b) := bb_ext (by rw [bb_data, ByteArray.data_append, Array.toList_append, bb_data, bb_data])
theorem bb_extract (l : Txt) (a b : Nat) : (bb l).extract a b = bb ((l.drop a).take (b - a)) := bb_ext (by
  rw [bb_data, ByteArray.data_extract, Array.toList_extract, bb_data, List.extract_eq_take_drop])
theorem bb_from (l : Txt) (a : Nat) : (bb l).extract a (bb l).size = bb (l.drop a) := by
  rw [bb_extract, bb_size, List.take_of_length_le (by simp)]
theorem bb_to (l : Txt) (b : Nat) : (bb l).extract 0 b = bb (l.take b) := by rw [bb_extract]; simp
theorem bb_nums (l : Txt) : strOfNums (nb l) = bb l := by
  apply bb_ext
  rw [bb_data]
  simp [strOfNums, nb, Function.comp_def]
theorem bytesOf_bb (l : Txt) : bytesOf (bb l) = nb l := by unfold bytesOf; rw [bb_data]; rfl
theorem rdOf_bb (l : List Txt) (i : Nat) (h : i < l.length) : rdOf ByteArray.empty (l.map bb) (i : Int) = bb (l.getD i []) := by
  unfold rdOf
  rw [Int.toNat_natCast]
  simp [List.getD_eq_getElem?_getD, h]
theorem bt_bb (l : Txt) (i : Nat) (h : i < l.length) : bt (bb l) (i : Int) = ((l.getD i 0).toNat : Int) := by
  unfold bt
  rw [Int.toNat_natCast, dif_pos (by rw [bb_size]; exact h)]
  simp [bb, List.getD_eq_getElem?_getD, h, ByteArray.getElem_eq_getElem_data]
theorem w64s (m : Nat) (h : m ≤ 1000000000000) : wrap64 ((m : Int) + 1) = ((m + 1 : Nat) : Int) := by unfold wrap64; omega
theorem w64 {x : Int} (h0 : -9223372036854775808 ≤ x) (h1 : x < 9223372036854775808) : wrap64 x = x := by unfold wrap64; omega

/-- f answers r, with enough rounds. -/
def Evl {α : Type} (f : Nat → Option α) (r : α) : Prop := ∃ N, ∀ k, N ≤ k → f k = some r
theorem Evl.step {α : Type} {f g : Nat → Option α} {r : α} (h : Evl g r) (e : ∀ k, f (k + 1) = g k) : Evl f r := by
  obtain ⟨N, h⟩ := h
  exact ⟨N + 1, fun k hk => by obtain ⟨m, rfl⟩ : ∃ m, k = m + 1 := ⟨k - 1, by omega⟩; rw [e, h m (by omega)]⟩
theorem Evl.bind {α β : Type} {f : Nat → Option α} {g : Nat → α → Option β} {a : α} {r : β} (h : Evl f a) (k : Evl (fun n => g n a) r) : Evl (fun n => (f n).bind (g n)) r := by
  obtain ⟨N, h⟩ := h
  obtain ⟨M, k⟩ := k
  exact ⟨max N M, fun n hn => by
    show (f n).bind (g n) = some r
    rw [h n (by omega)]; exact k n (by omega)⟩
theorem Evl.of {α : Type} {f : Nat → Option α} {r : α} (h : ∀ k, f k = some r) : Evl f r := ⟨0, fun k _ => h k⟩
theorem Evl.congr {α : Type} {f g : Nat → Option α} {r : α} (h : Evl g r) (e : ∀ k, f k = g k) : Evl f r := by
  obtain ⟨N, h⟩ := h
  exact ⟨N, fun k hk => (e k).trans (h k hk)⟩
theorem Evl.get {α : Type} {f : Nat → Option α} {r : α} (h : Evl f r) : ∃ k, f k = some r := by
  obtain ⟨N, h⟩ := h
  exact ⟨N, h N (Nat.le_refl _)⟩

/-! ### rows -/
theorem kdU8 {w : World} {A : Option Addr} {b : Txt} (h : Byt w A b) (hl : b.length ≤ 9223372036854775807) : Kd.C (Kd.int .u8) w A b.length (nb b) := by
  refine ⟨nb_length b, hl, fun h0 => ?_⟩
  rcases h with h | ⟨ad, hA, _, hc⟩
  · have := congrArg List.length h; rw [byCells_length] at this; simp at this; simp [this] at h0
  · refine ⟨ad, hA, fun j p hp => ⟨[.int .u8 p], rfl, rfl, fun i u hu => ?_⟩⟩
    have hi : i = 0 := by
      have := (List.getElem?_eq_some_iff.1 hu).1
      simpa using this
    subst hi
    injection hu with hu
    subst hu
    have e : (Kd.int .u8).sz = 1 := rfl
    rw [e, Nat.mul_one, Nat.add_zero]
    refine hc j _ ?_
    unfold nb at hp
    unfold byCells
    rw [List.getElem?_map] at hp ⊢
    cases hb : b[j]? with
    | none => rw [hb] at hp; cases hp
    | some c => rw [hb] at hp; injection hp with hp; subst hp; rfl
/-- Rows of whole numbers. -/
def intVals (xs : List Int) : List Value := xs.map (Value.int .i64)
theorem intVals_length (xs : List Int) : (intVals xs).length = xs.length := by simp [intVals]
abbrev Ints (w : World) (A : Option Addr) (xs : List Int) : Prop := Row w A (intVals xs)
theorem kdInts {w : World} {A : Option Addr} {b : List Int} (h : Ints w A b) (hl : b.length ≤ 9223372036854775807) : Kd.C (Kd.int .i64) w A b.length b := by
  refine ⟨rfl, hl, fun h0 => ?_⟩
  rcases h with h | ⟨ad, hA, _, hc⟩
  · have := congrArg List.length h; rw [intVals_length] at this; simp at this; simp [this] at h0
  · refine ⟨ad, hA, fun j p hp => ⟨[.int .i64 p], rfl, rfl, fun i u hu => ?_⟩⟩
    have hi : i = 0 := by
      have := (List.getElem?_eq_some_iff.1 hu).1
      simpa using this
    subst hi
    injection hu with hu
    subst hu
    have e : (Kd.int .i64).sz = 1 := rfl
    rw [e, Nat.mul_one, Nat.add_zero]
    refine hc j _ ?_
    unfold intVals
    rw [List.getElem?_map, hp]; rfl
theorem conv_byt {w : World} {src : TypeId} {A : Option Addr} {b : Txt} {c : Nat} (hs : Try.prog.underlying src = some (.slice 5)) (h : Byt w A b) (hl : b.length ≤ 9223372036854775807) : (convert src 9 (.slice A b.length c)).run Try.prog w = .ok (.string (bb b)) w := by
  have := Kd.C_string (P := Try.prog) (src := src) (dst := 9) (c := c) hs Try.underlying5 Try.underlying9 (kdU8 h hl)
  rw [bb_nums] at this
  exact this
/-- A string of new bytes. -/
theorem strOf {w : World} {A : Option Addr} {b : Txt} {c : Nat} (h : Byt w A b) (hl : b.length ≤ 9223372036854775807) {s : ByteArray} (hs : bb b = s) : (convert 23 9 (.slice A b.length c)).run Try.prog w = .ok (.string s) w := by
  rw [conv_byt Try.underlying23 h hl, hs]
end Go.Proofs.Ytieelnpfpfiboaa
end
section
/- The walks of package links: what is asked of links. -/
set_option linter.unusedVariables false
set_option linter.unusedSimpArgs false
namespace Go.Proofs.Ytieelnpfpfiboaa
open Go.RowKit Go.Maps Seine.Trie Seine.Links

abbrev OwnInts (w : World) (base : Nat) (v : Value) (xs : List Int) : Prop := w.ownsRow base 3 1 v xs.length (intVals xs)
theorem Ints.at_ {w : World} {A : Option Addr} {xs : List Int} (h : Ints w A xs) {i : Nat} (hi : i < xs.length) : ∃ ad, A = some ad ∧ w.cell? (ad.add i) = some (.int .i64 (xs.getD i 0)) := by
  obtain ⟨ad, h1, h2⟩ := Row.at_ h (j := i) (by rw [intVals_length]; exact hi)
  exact ⟨ad, h1, by rw [h2]; simp [intVals, hi]⟩
theorem OwnInts.row {w : World} {base : Nat} {v : Value} {xs : List Int} (h : OwnInts w base v xs) : ∃ A c, v = .slice A xs.length c ∧ xs.length ≤ c ∧ Ints w A xs := by
  obtain ⟨A, c, rfl, hc⟩ := own_slice h
  exact ⟨A, c, rfl, hc, Row.of_own h⟩
/-- A row of whole numbers in new memory. -/
def RetInts (w : World) (xs : List Int) (e : Ending) (w' : World) : Prop := ∃ v, e = .returned v ∧ OwnInts w' w.heap.size v xs ∧ Below w.heap.size w w'
theorem RetInts.row {w w' : World} {xs : List Int} {e : Ending} (h : RetInts w xs e w') : ∃ A c, e = .returned (.slice A xs.length c) ∧ xs.length ≤ c ∧ Ints w' A xs ∧ Below w.heap.size w w' := by
  obtain ⟨v, rfl, ho, hb⟩ := h
  obtain ⟨A, c, rfl, hc, hr⟩ := OwnInts.row ho
  exact ⟨A, c, rfl, hc, hr, hb⟩

section
variable (w : World) (base g : Nat) (P : List Txt) (F O U : Txt → Int) (o : List Txt)
theorem lis_calls (h : LinksAt w base g P F O U o) (n : Int) (b : Bool) (hb : b = true ↔ 0 ≤ n ∧ n < P.length) : Calls Try.prog 50 #[.pointer (some ⟨g, 0, none⟩), .int .i64 n] w fun e w' => e = .returned (.bool b) ∧ w = w' := by
  obtain ⟨B, h⟩ := h
  obtain ⟨q0, q1, q2, q3, q4⟩ := h.heads
  clear q1 q2 q3 q4 h
  by_cases h0 : 0 ≤ n
  · have h0b : decide (0 ≤ n) = true := decide_eq_true h0
    by_cases h1 : n < P.length
    · obtain rfl : b = true := hb.2 ⟨h0, h1⟩
      clear hb
      go_enter Try.func50, Try.ntmps50
      go_wp2
      go_ret
      exact ⟨rfl, rfl⟩
    · obtain rfl : b = false := by cases b with
        | false => rfl
        | true => exact absurd (hb.1 rfl).2 h1
      clear hb
      have h1b : decide (n < (P.length : Int)) = false := decide_eq_false h1
      go_enter Try.func50, Try.ntmps50
      go_wp2
      go_ret
      exact ⟨rfl, rfl⟩
  · obtain rfl : b = false := by cases b with
      | false => rfl
      | true => exact absurd (hb.1 rfl).1 h0
    clear hb
    have h0b : decide (0 ≤ n) = false := decide_eq_false h0
    go_enter Try.func50, Try.ntmps50
    go_wp2
    go_ret
    exact ⟨rfl, rfl⟩

theorem lfail_calls (h : LinksAt w base g P F O U o) (n : Int) : Calls Try.prog 48 #[.pointer (some ⟨g, 0, none⟩), .int .i64 n] w fun e w' => e = .returned (.int .i64 (askF P F (-1) n)) ∧ w = w' := by
  have his := As.mk (lis_calls w base g P F O U o h n)
  obtain ⟨B, h⟩ := h
  obtain ⟨c1, c2, c3⟩ := h.caps
  obtain ⟨q0, q1, q2, q3, q4⟩ := h.heads
  clear q1 q2 q3 q4 c2 c3
  by_cases hn : 0 ≤ n ∧ n < P.length
  · have hi := As.mk (his.out true (by simp [hn]))
    have hask : askF P F (-1) n = F (P.getD n.toNat []) := if_pos hn
    obtain ⟨m, rfl⟩ : ∃ m : Nat, n = m := ⟨n.toNat, by omega⟩
    have hml : m < P.length := by omega
    obtain ⟨r1, r2, r3, _⟩ := h.rows (get_at hml)
    rw [Int.toNat_natCast] at hask
    rw [hask]
    clear r2 r3 hask hn h
    generalize F (P.getD m []) = fv at *
    go_enter Try.func48, Try.ntmps48
    go_wp2_with (go_at_call 50; refine hi.out.mono ?_; rintro e w' ⟨rfl, rfl⟩)
    go_ret
    exact ⟨rfl, rfl⟩
  · have hi := As.mk (his.out false (by simp; omega))
    have hask : askF P F (-1) n = -1 := if_neg hn
    rw [hask]
    clear hask hn h
    go_enter Try.func48, Try.ntmps48
    go_wp2_with (go_at_call 50; refine hi.out.mono ?_; rintro e w' ⟨rfl, rfl⟩)
    go_ret
    exact ⟨rfl, rfl⟩

end
/-- The links of a tree, whole. -/
def LinksOf (w : World) (base g : Nat) (P l : List Txt) : Prop := LinksAt w base g P (failF P) (outF P l) (ownF l) (op P P.length)
def endsAt (P l : List Txt) (n : Int) : List Int := if 0 ≤ n ∧ n < P.length then endsF l (P.getD n.toNat []) else []
theorem endsAt_place {P l : List Txt} (hT : Tree P) {a : Nat} {s : Txt} (h : P[a]? = some s) : endsAt P l (a : Int) = endsF l s := by
  have hl := (List.getElem?_eq_some_iff.1 h).1
  unfold endsAt
  rw [if_pos (by omega), Int.toNat_natCast, List.getD_eq_getElem?_getD, h]; rfl
theorem endsF_length (l : List Txt) (s : Txt) : (endsF l s).length ≤ s.length := by
  unfold endsF
  rw [List.length_map]
  exact Nat.le_trans (List.length_filter_le _ _) (by simp)
/-- A round of Ends. -/
theorem ends_round {P l : List Txt} (hT : Tree P) (hlP : ∀ x, x ∈ l → x ∈ P) {a : Nat} {s : Txt} (h : P[a]? = some s) : endsF l s = (if 0 < ownF l s then [ownF l s] else []) ++ endsAt P l (outF P l s) ∧ (0 ≤ outF P l s → outF P l s < P.length ∧ (P.getD (outF P l s).toNat []).length < s.length) := by
  rw [ends_rec]
  unfold outF
  cases ho : outN l s with
  | none =>
    refine ⟨?_, fun h0 => by simp at h0⟩
    simp [endsAt]
  | some n =>
    obtain ⟨h1, h2, h3, _⟩ := outN_some ho
    obtain ⟨b, hb1, hb2⟩ := place_nat (hlP _ h3)
    have hbl := (List.getElem?_eq_some_iff.1 hb2).1
    simp only [hb1]
    refine ⟨by rw [endsAt_place hT hb2], fun _ => ⟨by omega, ?_⟩⟩
    rw [Int.toNat_natCast, List.getD_eq_getElem?_getD, hb2]
    show (s.drop n).length < _
    rw [List.length_drop]; omega
theorem backM_lt {P : List Txt} {t : Int} {s : Txt} (h : 0 ≤ t → (P.getD t.toNat []).length < s.length) : backM P (.int .i64 t) < s.length + 1 := by
  unfold backM
  show (if 0 ≤ t then (P.getD t.toNat []).length + 1 else 0) < s.length + 1
  by_cases h0 : 0 ≤ t
  · rw [if_pos h0]; have := h h0; omega
  · rw [if_neg h0]; omega
theorem ownInts_snoc {w : World} {base : Nat} {v : Value} {xs : List Int} {x : Int} (h : w.ownsRow base 3 1 v (xs.length + 1) (intVals xs ++ [.int .i64 x])) : OwnInts w base v (xs ++ [x]) := by
  unfold OwnInts
  rw [List.length_append, show intVals (xs ++ [x]) = intVals xs ++ [.int .i64 x] by simp [intVals]]
  exact h

set_option maxHeartbeats 800000 in
theorem lends_calls (w : World) (base g : Nat) (P l : List Txt) (hT : Tree P) (hlP : ∀ x, x ∈ l → x ∈ P) (hd : ∀ p ∈ P, p.length ≤ 100000) (h : LinksOf w base g P l) (n : Int) :
    Calls Try.prog 36 #[.pointer (some ⟨g, 0, none⟩), .int .i64 n] w (RetInts w (endsAt P l n)) := by
  obtain ⟨R, hR⟩ : ∃ R, endsAt P l n = R := ⟨_, rfl⟩
  rw [hR]
  have hR := As.mk hR
  have HT := As.mk hT
  have HP := As.mk hlP
  have HD := As.mk hd
  obtain ⟨B, hB⟩ := h
  have HL := As.mk hB
  have hRl : As (R.length ≤ 100000) := ⟨by
    rw [← hR.out]
    unfold endsAt
    split
    · refine Nat.le_trans (endsF_length _ _) (hd _ ?_)
      rw [List.getD_eq_getElem?_getD, List.getElem?_eq_getElem (by omega)]
      exact List.getElem_mem _
    · simp⟩
  clear hT hlP hd hB
  obtain ⟨i0, hi, hz0, hz1, hz2⟩ := info_parts info_int
  go_enter Try.func36, Try.ntmps36
  go_wp2
  go_loopw [1, 5] (fun i v wr => ∃ (m : Int) (acc : List Int), i = .int .i64 m ∧ As (acc ++ endsAt P l m = R) ∧ As (OwnInts wr w.heap.size v acc) ∧ As (Below w.heap.size w wr)) (fun i _ _ => backM P i)
  case atStart => exact ⟨n, [], rfl, hR, ⟨World.ownsRow_nil _ _ _ _⟩, ⟨Below.refl _ _⟩⟩
  case round =>
    obtain ⟨m, acc, rfl, hacc, hown, hbel⟩ := hrel
    have hin := HL.out.below hbel.out
    have his := As.mk (lis_calls wr base g P _ _ _ _ ⟨B, hin⟩ m)
    obtain ⟨c1, c2, c3⟩ := hin.caps
    obtain ⟨q0, q1, q2, q3, q4⟩ := hin.heads
    clear q0 q3 q4 c1
    have haccl : As (acc.length ≤ 100000) := ⟨by have := hRl.out; rw [← hacc.out, List.length_append] at this; omega⟩
    by_cases hm : 0 ≤ m ∧ m < P.length
    · have hi1 := As.mk (his.out true (by simp [hm]))
      obtain ⟨a, rfl⟩ : ∃ a : Nat, m = a := ⟨m.toNat, by omega⟩
      have hal : a < P.length := by omega
      have hs := get_at hal
      obtain ⟨s, hs2⟩ : ∃ s, P.getD a [] = s := ⟨_, rfl⟩
      rw [hs2] at hs
      obtain ⟨r1, r2, r3, _⟩ := hin.rows hs
      obtain ⟨e1, e2⟩ := ends_round HT.out HP.out (l := l) hs
      have hea := endsAt_place (l := l) HT.out hs
      obtain ⟨u, hu⟩ : ∃ u, ownF l s = u := ⟨_, rfl⟩
      obtain ⟨t, ht⟩ : ∃ t, outF P l s = t := ⟨_, rfl⟩
      rw [hu] at r3 e1
      rw [ht] at r2 e1 e2
      have hnext : As (∀ v, Below w.heap.size w v → v.cell? ⟨g, 1, none⟩ = some (.slice (some ⟨B.bo, 0, none⟩) P.length B.co) ∧ v.cell? ⟨B.bo, a, none⟩ = some (.int .i64 t)) := ⟨fun v hv => by
        have hin2 := HL.out.below hv
        refine ⟨hin2.heads.2.1, ?_⟩
        rw [← ht]; exact (hin2.rows hs).2.1⟩
      rw [hea, e1] at hacc
      have e2 := As.mk e2
      have hs2 := As.mk hs2
      replace hin := As.mk hin
      clear r1 e1 hea hu ht hm hs
      by_cases hu0 : 0 < u
      · have hu1 : decide (0 < u) = true := decide_eq_true hu0
        rw [if_pos hu0] at hacc
        go_wp2_with (first
          | (go_at_call 50; refine hi1.out.mono ?_; rintro e w' ⟨rfl, rfl⟩)
          | (at_builtin
             refine wpList_app1 _ rfl (.tmp 17) (.tmp 25) 72 rfl w.heap.size 3 _ 1 8 Try.underlying72 info_int rfl (by decide) _ acc.length (intVals acc) rfl hown.out [.int .i64 u] rfl (by simp [Value.oneCell']) _ rfl (by simp) (by have := haccl.out; omega) (by decide) hbel.out.size ?_
             intro v' w2 hown2 hk2 hat2 hb2
             obtain ⟨n1, n2⟩ := hnext.out w2 (hbel.out.trans hb2)))
        go_roundw
        case rel => exact ⟨t, acc ++ [u], rfl, ⟨by rw [← hacc.out, List.append_assoc]⟩, ⟨ownInts_snoc hown2⟩, ⟨hbel.out.trans hb2⟩⟩
        case measure =>
          show backM P (.int .i64 t) < backM P (.int .i64 (a : Int))
          rw [backM_nat, hs2.out]
          exact backM_lt (fun h0 => (e2.out h0).2)
      · have hu1 : decide (0 < u) = false := decide_eq_false hu0
        rw [if_neg hu0] at hacc
        go_wp2_with (go_at_call 50; refine hi1.out.mono ?_; rintro e w' ⟨rfl, rfl⟩)
        go_roundw
        case rel => exact ⟨t, acc, rfl, ⟨by rw [← hacc.out, List.nil_append]⟩, hown, hbel⟩
        case measure =>
          show backM P (.int .i64 t) < backM P (.int .i64 (a : Int))
          rw [backM_nat, hs2.out]
          exact backM_lt (fun h0 => (e2.out h0).2)
    · have hi1 := As.mk (his.out false (by simp; omega))
      have hfin : As (acc = R) := ⟨by rw [← hacc.out]; unfold endsAt; rw [if_neg hm, List.append_nil]⟩
      clear hm
      go_wp2_with (go_at_call 50; refine hi1.out.mono ?_; rintro e w' ⟨rfl, rfl⟩)
      go_ret
      exact ⟨_, rfl, hfin.out ▸ hown.out, hbel.out⟩

end Go.Proofs.Ytieelnpfpfiboaa
end
