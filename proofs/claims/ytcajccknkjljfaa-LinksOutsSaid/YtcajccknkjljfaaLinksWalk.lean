/- The walks of package links: the words, the search for a fall. -/
import Derived.Test.YtcajccknkjljfaaTrieBuild
import Derived.Test.YtcajccknkjljfaaLinksOrder
set_option linter.unusedVariables false
set_option linter.unusedSimpArgs false
namespace Go.Proofs.Ytcajccknkjljfaa
open Go.RowKit Go.Maps Seine.Trie Seine.Links

def intCells (P : List Txt) (F : Txt → Int) : List Value := P.map fun p => .int .i64 (F p)
theorem intCells_length (P : List Txt) (F : Txt → Int) : (intCells P F).length = P.length := by simp [intCells]
theorem intCells_at {P : List Txt} {F : Txt → Int} {i : Nat} {p : Txt} (h : P[i]? = some p) : (intCells P F)[i]? = some (.int .i64 (F p)) := by simp [intCells, h]
theorem intCells_set : ∀ {P : List Txt} {F F' : Txt → Int} {i : Nat} {p : Txt}, P.Nodup → P[i]? = some p → (∀ x, x ≠ p → F' x = F x) → intCells P F' = (intCells P F).set i (.int .i64 (F' p))
  | [], F, F', i, p, _, h, _ => by simp at h
  | y :: P, F, F', 0, p, hn, h, ho => by
    simp at h; subst h
    unfold intCells
    rw [List.map_cons, List.map_cons, List.set_cons_zero]
    congr 1
    exact List.map_congr_left fun x hx => by rw [ho x (fun e => (List.nodup_cons.1 hn).1 (e ▸ hx))]
  | y :: P, F, F', i + 1, p, hn, h, ho => by
    have hm : p ∈ P := List.mem_of_getElem? (by simpa using h)
    have ih := intCells_set (List.nodup_cons.1 hn).2 (by simpa using h : P[i]? = some p) ho
    unfold intCells at ih ⊢
    rw [List.map_cons, List.map_cons, List.set_cons_succ, ← ih, ho y (fun e => (List.nodup_cons.1 hn).1 (e ▸ hm))]
theorem intCells_congr {P : List Txt} {F F' : Txt → Int} (h : ∀ x, x ∈ P → F x = F' x) : intCells P F = intCells P F' := List.map_congr_left fun x hx => by rw [h x hx]

/-- A row of as many numbers as there are nodes, at block b, in memory from base on. -/
def IntRow (w : World) (base b c : Nat) (P : List Txt) (F : Txt → Int) : Prop := w.ownsRow base 3 1 (.slice (some ⟨b, 0, none⟩) P.length c) P.length (intCells P F)
/-- Where the falls' rows lie. -/
structure LB where
  bf : Nat
  cf : Nat
  bo : Nat
  co : Nat
  bu : Nat
  cu : Nat
  vr : Value
/-- The falls F, outs O, own lengths U, of a tree's nodes, and the order o (of paths), at block g. -/
def LinksIn (w : World) (base g : Nat) (P : List Txt) (F O U : Txt → Int) (o : List Txt) (B : LB) : Prop :=
  w.heap[g]? = some (.cells #[.slice (some ⟨B.bf, 0, none⟩) P.length B.cf, .slice (some ⟨B.bo, 0, none⟩) P.length B.co, .slice (some ⟨B.bu, 0, none⟩) P.length B.cu, B.vr] 49 (0, 0)) ∧ base ≤ g ∧
    IntRow w base B.bf B.cf P F ∧ IntRow w base B.bo B.co P O ∧ IntRow w base B.bu B.cu P U ∧ B.bf ≠ B.bo ∧ B.bf ≠ B.bu ∧ B.bo ≠ B.bu ∧ w.ownsRow base 3 1 B.vr o.length (intCells o (place P)) ∧ B.vr.ownBlock ≠ some B.bf ∧ B.vr.ownBlock ≠ some B.bo ∧ B.vr.ownBlock ≠ some B.bu
def LinksAt (w : World) (base g : Nat) (P : List Txt) (F O U : Txt → Int) (o : List Txt) : Prop := ∃ B, LinksIn w base g P F O U o B
theorem IntRow.at_ {w : World} {base b c : Nat} {P : List Txt} {F : Txt → Int} (h : IntRow w base b c P F) {i : Nat} {p : Txt} (hi : P[i]? = some p) : w.cell? ⟨b, i, none⟩ = some (.int .i64 (F p)) := by
  have hil := (List.getElem?_eq_some_iff.1 hi).1
  rw [World.ownsRow.cellAt h i (by omega)]
  exact intCells_at hi
theorem IntRow.cap {w : World} {base b c : Nat} {P : List Txt} {F : Txt → Int} (h : IntRow w base b c P F) : P.length ≤ c := by
  obtain ⟨A, c', e, hc⟩ := own_slice h
  injection e with e1 e2 e3
  omega
theorem IntRow.base {w : World} {base b c : Nat} {P : List Txt} {F : Txt → Int} (h : IntRow w base b c P F) : base ≤ b ∧ b < w.heap.size := own_blk h rfl
theorem IntRow.keep {S : Nat → Prop} {w w' : World} {base b c : Nat} {P : List Txt} {F : Txt → Int} (h : IntRow w base b c P F) (hk : Keeps S w w') (hS : ¬ S b) : IntRow w' base b c P F :=
  own_keep h hk (fun b' _ _ _ e => by injection e with e; subst e; exact hS)
theorem IntRow.set {w : World} {base b c : Nat} {P : List Txt} {F F' : Txt → Int} (h : IntRow w base b c P F) (hT : Tree P) {i : Nat} {p : Txt} (hi : P[i]? = some p) {x : Int} (hx : F' p = x) (ho : ∀ y, y ≠ p → F' y = F y) : IntRow (w.setCell ⟨b, i, none⟩ (.int .i64 x)) base b c P F' := by
  have s1 := World.ownsRow.stored h i (.int .i64 x)
  unfold IntRow
  rw [intCells_set hT.nodup hi ho, hx]
  exact s1.1
theorem IntRow.nfree {w : World} {base b c : Nat} {P : List Txt} {F : Txt → Int} (h : IntRow w base b c P F) (i : Nat) : w.frozen? ⟨b, i, none⟩ = false := World.ownsRow.frozenAt h _
/-- A block of another type is none of the row. -/
theorem IntRow.other {w : World} {base b c g t : Nat} {P : List Txt} {F : Txt → Int} {cs : Array Value} {fr : Nat × Nat} (h : IntRow w base b c P F) (hg : w.heap[g]? = some (.cells cs t fr)) (ht : 3 ≠ t) : g ≠ b := fun e => own_not_type h hg ht (by rw [e]; rfl)

theorem LinksIn.below {w w' : World} {base g : Nat} {P : List Txt} {F O U : Txt → Int} {o : List Txt} {B : LB} (h : LinksIn w base g P F O U o B) (hb : Below w.heap.size w w') : LinksIn w' base g P F O U o B := by
  obtain ⟨hg, h0, h1, h2, h3, h4, h5, h6, h7, h8⟩ := h
  exact ⟨(hb.block g (block_lt hg)).trans hg, h0, own_below h1 hb, own_below h2 hb, own_below h3 hb, h4, h5, h6, own_below h7 hb, h8⟩
theorem LinksAt.below {w w' : World} {base g : Nat} {P : List Txt} {F O U : Txt → Int} {o : List Txt} (h : LinksAt w base g P F O U o) (hb : Below w.heap.size w w') : LinksAt w' base g P F O U o := by
  obtain ⟨B, h⟩ := h
  exact ⟨B, h.below hb⟩

section
variable {w : World} {base g : Nat} {P : List Txt} {F O U : Txt → Int} {o : List Txt} {B : LB} (h : LinksIn w base g P F O U o B)
include h
theorem LinksIn.caps : P.length ≤ B.cf ∧ P.length ≤ B.co ∧ P.length ≤ B.cu := by
  obtain ⟨hg, h0, h1, h2, h3, _⟩ := h
  exact ⟨h1.cap, h2.cap, h3.cap⟩
theorem LinksIn.heads : w.cell? ⟨g, 0, none⟩ = some (.slice (some ⟨B.bf, 0, none⟩) P.length B.cf) ∧ w.cell? ⟨g, 1, none⟩ = some (.slice (some ⟨B.bo, 0, none⟩) P.length B.co) ∧ w.cell? ⟨g, 2, none⟩ = some (.slice (some ⟨B.bu, 0, none⟩) P.length B.cu) ∧ w.cell? ⟨g, 3, none⟩ = some B.vr ∧ w.frozen? ⟨g, 3, none⟩ = false := by
  obtain ⟨hg, _⟩ := h
  exact ⟨cell_of_blk hg 0, cell_of_blk hg 1, cell_of_blk hg 2, cell_of_blk hg 3, free_of_blk hg 3⟩
theorem LinksIn.rows {i : Nat} {p : Txt} (hi : P[i]? = some p) : w.cell? ⟨B.bf, i, none⟩ = some (.int .i64 (F p)) ∧ w.cell? ⟨B.bo, i, none⟩ = some (.int .i64 (O p)) ∧ w.cell? ⟨B.bu, i, none⟩ = some (.int .i64 (U p)) ∧ w.frozen? ⟨B.bf, i, none⟩ = false ∧ w.frozen? ⟨B.bo, i, none⟩ = false ∧ w.frozen? ⟨B.bu, i, none⟩ = false := by
  obtain ⟨hg, h0, h1, h2, h3, _⟩ := h
  exact ⟨h1.at_ hi, h2.at_ hi, h3.at_ hi, h1.nfree i, h2.nfree i, h3.nfree i⟩
theorem LinksIn.bases : base ≤ B.bf ∧ base ≤ B.bo ∧ base ≤ B.bu := by
  obtain ⟨hg, h0, h1, h2, h3, _⟩ := h
  exact ⟨h1.base.1, h2.base.1, h3.base.1⟩
theorem LinksIn.other {b t : Nat} {cs : Array Value} {fr : Nat × Nat} (hb : w.heap[b]? = some (.cells cs t fr)) (ht : 3 ≠ t) : b ≠ B.bf ∧ b ≠ B.bo ∧ b ≠ B.bu := by
  obtain ⟨hg, h0, h1, h2, h3, _⟩ := h
  exact ⟨h1.other hb ht, h2.other hb ht, h3.other hb ht⟩
theorem LinksIn.setF (hT : Tree P) {i : Nat} {p : Txt} (hi : P[i]? = some p) {x : Int} (F' : Txt → Int) (hx : F' p = x) (ho : ∀ y, y ≠ p → F' y = F y) : LinksIn (w.setCell ⟨B.bf, i, none⟩ (.int .i64 x)) base g P F' O U o B := by
  obtain ⟨hg, h0, h1, h2, h3, h4, h5, h6, h7, h8, h9, h10⟩ := h
  have hk := keeps_set w ⟨B.bf, i, none⟩ (.int .i64 x)
  exact ⟨(Below.heap_setCell _ _ _ _ (h1.other hg (by decide))).trans hg, h0, h1.set hT hi hx ho, h2.keep hk (fun e => h4 e.symm), h3.keep hk (fun e => h5 e.symm), h4, h5, h6, own_keep h7 hk (fun b c' _ _ e he => h8 (by rw [← e]; exact congrArg some he)), h8, h9, h10⟩
theorem LinksIn.setO (hT : Tree P) {i : Nat} {p : Txt} (hi : P[i]? = some p) {x : Int} (O' : Txt → Int) (hx : O' p = x) (ho : ∀ y, y ≠ p → O' y = O y) : LinksIn (w.setCell ⟨B.bo, i, none⟩ (.int .i64 x)) base g P F O' U o B := by
  obtain ⟨hg, h0, h1, h2, h3, h4, h5, h6, h7, h8, h9, h10⟩ := h
  have hk := keeps_set w ⟨B.bo, i, none⟩ (.int .i64 x)
  exact ⟨(Below.heap_setCell _ _ _ _ (h2.other hg (by decide))).trans hg, h0, h1.keep hk (fun e => h4 e), h2.set hT hi hx ho, h3.keep hk (fun e => h6 e.symm), h4, h5, h6, own_keep h7 hk (fun b c' _ _ e he => h9 (by rw [← e]; exact congrArg some he)), h8, h9, h10⟩
theorem LinksIn.setU (hT : Tree P) {i : Nat} {p : Txt} (hi : P[i]? = some p) {x : Int} (U' : Txt → Int) (hx : U' p = x) (ho : ∀ y, y ≠ p → U' y = U y) : LinksIn (w.setCell ⟨B.bu, i, none⟩ (.int .i64 x)) base g P F O U' o B := by
  obtain ⟨hg, h0, h1, h2, h3, h4, h5, h6, h7, h8, h9, h10⟩ := h
  have hk := keeps_set w ⟨B.bu, i, none⟩ (.int .i64 x)
  exact ⟨(Below.heap_setCell _ _ _ _ (h3.other hg (by decide))).trans hg, h0, h1.keep hk (fun e => h5 e), h2.keep hk (fun e => h6 e), h3.set hT hi hx ho, h4, h5, h6, own_keep h7 hk (fun b c' _ _ e he => h10 (by rw [← e]; exact congrArg some he)), h8, h9, h10⟩
theorem LinksIn.congr {F' O' U' : Txt → Int} (hF : ∀ x, x ∈ P → F x = F' x) (hO : ∀ x, x ∈ P → O x = O' x) (hU : ∀ x, x ∈ P → U x = U' x) : LinksIn w base g P F' O' U' o B := by
  obtain ⟨hg, h0, h1, h2, h3, h4⟩ := h
  refine ⟨hg, h0, ?_, ?_, ?_, h4⟩
  · unfold IntRow; rw [← intCells_congr hF]; exact h1
  · unfold IntRow; rw [← intCells_congr hO]; exact h2
  · unfold IntRow; rw [← intCells_congr hU]; exact h3
end

theorem stepF_at {P : List Txt} {a : Nat} {p : Txt} (h : P[a]? = some p) (c : UInt8) : stepF P (a : Int) c = place P (p ++ [c]) := by
  have hl := (List.getElem?_eq_some_iff.1 h).1
  unfold stepF
  rw [if_pos (by omega), Int.toNat_natCast, List.getD_eq_getElem?_getD, h]; rfl

def backM (P : List Txt) (v : Value) : Nat := if 0 ≤ intOf v then (P.getD (intOf v).toNat []).length + 1 else 0
theorem backM_nat (P : List Txt) (m : Nat) : backM P (.int .i64 (m : Int)) = (P.getD m []).length + 1 := by
  unfold backM intOf
  simp
set_option maxHeartbeats 1600000 in
theorem back_calls (w : World) (base g base2 tg : Nat) (P : List Txt) (W F O U : Txt → Int) (o : List Txt) (ht : TrieAt w base2 tg P W) (B : LB) (hk : LinksIn w base g P F O U o B) (hl : P.length ≤ 1000000) (b1 b2 b3 : Nat) (c : UInt8)
    (h1 : w.cell? ⟨b1, 0, none⟩ = some (.pointer (some ⟨g, 0, none⟩))) (h2 : w.cell? ⟨b2, 0, none⟩ = some (.pointer (some ⟨tg, 0, none⟩))) (h3 : w.cell? ⟨b3, 0, none⟩ = some (.int .u8 (c.toNat : Int)))
    (a : Nat) (q : Txt) (hq : P[a]? = some q) (hF : ∀ x, x ∈ P → x.length ≤ q.length → F x = failF P x) :
    Calls Try.prog 39 #[.int .i64 (a : Int), .pointer (some ⟨b1, 0, none⟩), .pointer (some ⟨b2, 0, none⟩), .pointer (some ⟨b3, 0, none⟩)] w fun e w' => e = .returned (.int .i64 (failF P (q ++ [c]))) ∧ w = w' := by
  have hT := As.mk ht.tree
  have hcs := As.mk (fun n x c h => step_calls w base2 tg P W ht hl n x c h)
  obtain ⟨c0, c1, c2, _⟩ := hk.heads
  obtain ⟨l1, l2, l3⟩ := hk.caps
  have hcell : As (∀ i p, P[i]? = some p → w.cell? ⟨B.bf, i, none⟩ = some (.int .i64 (F p))) := ⟨fun i p h => (hk.rows h).1⟩
  have hal := (List.getElem?_eq_some_iff.1 hq).1
  have d0 := hcell.out a q hq
  have hF := As.mk hF
  have hst := As.mk (back_start hT.out q c)
  have hstep := As.mk (fun n => back_step hT.out (q := q) (c := c) (n := n))
  have hend := As.mk (fun n => back_end hT.out (q := q) (c := c) (n := n))
  rw [← hF.out q (List.mem_of_getElem? hq) (Nat.le_refl _)] at hst
  obtain ⟨R, hR⟩ : ∃ R, failF P (q ++ [c]) = R := ⟨_, rfl⟩
  rw [hR] at hstep hend
  rw [hR]
  replace hst := As.mk hst.out
  clear hR hq c1 c2 l2 l3
  generalize F q = f0 at *
  go_enter Try.func39, Try.ntmps39
  go_wp2
  go_loop [0] (fun v => ∃ n : Int, v = .int .i64 n ∧ As (Back P q c n)) (fun v => backM P v)
  case atStart => exact ⟨f0, rfl, hst⟩
  case round =>
    obtain ⟨n, rfl, hb⟩ := hrel
    by_cases hn : 0 ≤ n
    · obtain ⟨r, hr1, hr2, hr3, hr4⟩ := hstep.out n hb.out hn
      obtain ⟨m, hm1, hm2⟩ := place_nat hr1
      have hnm : n = (m : Int) := hr2.trans hm1
      have hml := (List.getElem?_eq_some_iff.1 hm2).1
      have e0 := hcell.out m r hm2
      have hFr := hF.out r hr1 (by omega)
      have hsa := stepF_at hm2 c
      have hc2 := As.mk (hcs.out n (c.toNat : Int) c rfl)
      rw [hnm, hsa] at hc2
      have hgd : P.getD m [] = r := by rw [List.getD_eq_getElem?_getD, hm2]; rfl
      subst hnm
      rw [hFr] at e0
      have hfs : As (0 ≤ failF P r → (P.getD (failF P r).toNat []).length < r.length) := ⟨fun h => by
        obtain ⟨r', k1, k2, k3⟩ := fail_short h
        obtain ⟨m', j1, j2⟩ := place_nat k1
        rw [k2, j1, Int.toNat_natCast, List.getD_eq_getElem?_getD, j2]
        exact k3⟩
      have hgd := As.mk hgd
      replace hr4 := As.mk hr4
      clear hr2 hm1 hm2 hFr hsa hr1
      generalize hfr : failF P r = fr at *
      generalize hst2 : place P (r ++ [c]) = tv at *
      have hfr := As.mk hfr
      have hst2 := As.mk hst2
      by_cases hto : 0 ≤ tv
      · have hfin : As (tv = R) := ⟨by
          rcases hr4.out with ⟨_, h⟩ | ⟨h, _⟩
          · exact h.symm
          · omega⟩
        go_wp2_with (go_at_call 29; refine hc2.out.mono ?_; rintro e w' ⟨rfl, rfl⟩)
        go_ret
        exact ⟨ret_int hfin.out, rfl⟩
      · have hnext : As (Back P q c fr) := ⟨by
          rcases hr4.out with ⟨h, _⟩ | ⟨_, h⟩
          · exact absurd h hto
          · exact h⟩
        go_wp2_with (go_at_call 29; refine hc2.out.mono ?_; rintro e w' ⟨rfl, rfl⟩)
        go_round
        case rel => exact ⟨fr, rfl, hnext⟩
        case measure =>
          have h1 := hgd.out
          have h2 := hfs.out
          rw [backM_nat, h1]
          unfold backM
          split
          · rename_i h0
            have := h2 h0
            simp only [intOf] at *
            omega
          · omega
    · have hfin : As (0 = R) := ⟨(hend.out n hb.out (by omega)).symm⟩
      go_wp2
      go_ret
      exact ⟨ret_int hfin.out, rfl⟩
end Go.Proofs.Ytcajccknkjljfaa
