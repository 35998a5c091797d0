/- The walk of links.Build. -/
import Derived.Test.YtcajccknkjljfaaLinksWalk2
import Derived.Test.YtcajccknkjljfaaRepeat
import Derived.Deep.RegionHeld3
import Derived.Deep.LoopGhost
set_option linter.unusedVariables false
set_option linter.unusedSimpArgs false
namespace Go.Proofs.Ytcajccknkjljfaa
open Go.RowKit Go.Maps Seine.Trie Seine.Links

theorem blk_below {w w' : World} {b : Nat} {o : Obj} (hb : Below w.heap.size w w') (h : w.heap[b]? = some o) : w'.heap[b]? = some o := (hb.block b (block_lt h)).trans h
theorem ownsRow_of_block {w : World} {base b n : Nat} {cs : List Value} {t : TypeId} (h : w.heap[b]? = some (.cells cs.toArray t (0, 0))) (hl : cs.length = n) (hb : base ≤ b) (hn : n ≤ maxLen) : w.ownsRow base t 1 (.slice (some ⟨b, 0, none⟩) n n) n cs := by
  refine ⟨by omega, .inr ⟨b, n, cs.toArray, rfl, hb, h, Nat.le_refl _, hn, by simp [hl], by rw [Nat.mul_one]; exact List.take_of_length_le (by simp; omega)⟩⟩
theorem new_zero {w : World} {cs : Array Value} {t : TypeId} {b : Nat} (h : w.heap[b]? = some (.cells cs t (0, 0))) : w.cell? ((⟨b, 0, none⟩ : Addr).add 0) = cs[0]? := by
  have : (⟨b, 0, none⟩ : Addr).add 0 = ⟨b, 0, none⟩ := by unfold Addr.add; split <;> simp_all
  rw [this]; exact cell_of_blk h 0
theorem heap_new_at {w : World} {o : Obj} {b : Nat} (h : b = w.heap.size) : (w.alloc o).heap[b]? = some o := by rw [h]; exact heap_alloc_new _ _
theorem intCells_const (P : List Txt) (x : Int) : intCells P (fun _ => x) = List.replicate P.length (.int .i64 x) := by simp [intCells, List.map_const']
theorem repRow_full (u : Value) (n : Nat) : repRow u n n = List.replicate n u := by simp [repRow]

theorem linksAt_new {w : World} {base g n bf bo bu : Nat} {P : List Txt} {Z : List Value} (hn : P.length = n) (hl : n ≤ 1000000) (hZ : Z = List.replicate n (.int .i64 0))
    (h0 : w.heap[g]? = some (.cells #[.slice (some ⟨bf, 0, none⟩) n n, .slice (some ⟨bo, 0, none⟩) n n, .slice (some ⟨bu, 0, none⟩) n n, .slice none 0 0] 49 (0, 0))) (hg : base ≤ g)
    (hf : w.heap[bf]? = some (.cells (repRow (.int .i64 (-1)) n n).toArray 3 (0, 0))) (ho : w.heap[bo]? = some (.cells (repRow (.int .i64 (-1)) n n).toArray 3 (0, 0))) (hu : w.heap[bu]? = some (.cells Z.toArray 3 (0, 0)))
    (b1 : base ≤ bf) (b2 : base ≤ bo) (b3 : base ≤ bu) (n1 : bf ≠ bo) (n2 : bf ≠ bu) (n3 : bo ≠ bu) : LinksAt w base g P (fun _ => -1) (fun _ => -1) (fun _ => 0) [] := by
  subst hn
  have hm : P.length ≤ maxLen := by simp only [maxLen]; omega
  refine ⟨⟨bf, P.length, bo, P.length, bu, P.length, .slice none 0 0⟩, h0, hg, ?_, ?_, ?_, n1, n2, n3, World.ownsRow_nil _ _ _ _, by simp [Value.ownBlock], by simp [Value.ownBlock], by simp [Value.ownBlock]⟩
  · unfold IntRow; rw [intCells_const, ← repRow_full]; exact ownsRow_of_block hf (by simp [repRow]) b1 hm
  · unfold IntRow; rw [intCells_const, ← repRow_full]; exact ownsRow_of_block ho (by simp [repRow]) b2 hm
  · unfold IntRow; rw [intCells_const, ← hZ]; exact ownsRow_of_block hu (by rw [hZ]; simp) b3 hm

theorem LinksIn.order {w w2 : World} {base g : Nat} {P : List Txt} {F O U : Txt → Int} {o o' : List Txt} {B : LB} (h : LinksIn w base g P F O U o B) (hk : Keeps (fun k => some k = B.vr.ownBlock) w w2) {v' : Value}
    (hown : w2.ownsRow base 3 1 v' o'.length (intCells o' (place P))) (hv : v'.ownBlock = B.vr.ownBlock ∨ ∃ k, v'.ownBlock = some k ∧ w.heap.size ≤ k) : LinksIn (w2.setCell ⟨g, 3, none⟩ v') base g P F O U o' { B with vr := v' } := by
  obtain ⟨hg, h0, h1, h2, h3, h4, h5, h6, h7, h8, h9, h10⟩ := h
  have b1 := h1.base.2
  have b2 := h2.base.2
  have b3 := h3.base.2
  have hgv : some g ≠ B.vr.ownBlock := own_not_type h7 hg (by decide)
  have hg2 : w2.heap[g]? = _ := (hk.block g (block_lt hg) hgv).trans hg
  have hs := keeps_set w2 ⟨g, 3, none⟩ v'
  have hne : ∀ b, b < w.heap.size → B.vr.ownBlock ≠ some b → v'.ownBlock ≠ some b := fun b hb hn e => by
    rcases hv with hv | ⟨k, hv, hk⟩
    · exact hn (hv ▸ e)
    · rw [hv] at e; injection e; omega
  refine ⟨?_, h0, (h1.keep hk (fun e => h8 e.symm)).keep hs ?_, (h2.keep hk (fun e => h9 e.symm)).keep hs ?_, (h3.keep hk (fun e => h10 e.symm)).keep hs ?_, h4, h5, h6, own_keep hown hs (fun b c' _ hb e he => ?_), hne _ b1 h8, hne _ b2 h9, hne _ b3 h10⟩
  · exact blk_set hg2 3 v'
  · exact fun e => h1.other hg (by decide) e.symm
  · exact fun e => h2.other hg (by decide) e.symm
  · exact fun e => h3.other hg (by decide) e.symm
  · subst he
    rw [hg2] at hb
    injection hb with hb
    injection hb with _ hb
    exact absurd hb (by decide)
/-- What the links' rows hold of the nodes that were gone through. -/
def doneF (D : List Txt) (f : Txt → Int) (d : Int) (x : Txt) : Int := if x ∈ D then f x else d
theorem doneF_snoc_same {D : List Txt} {s : Txt} (f : Txt → Int) (d : Int) : doneF (D ++ [s]) f d s = f s := by simp [doneF]
theorem doneF_snoc_other {D : List Txt} {s y : Txt} (f : Txt → Int) (d : Int) (h : y ≠ s) : doneF (D ++ [s]) f d y = doneF D f d y := by simp [doneF, h]
/-- The links of the tree, k nodes having been gone through. -/
def LinksTo (w : World) (base g : Nat) (P l : List Txt) (D o : List Txt) : Prop := LinksAt w base g P (doneF D (failF P) (-1)) (doneF D (outF P l) (-1)) (doneF D (ownF l) 0) o
theorem take_snoc_op {P : List Txt} {k : Nat} {s : Txt} (h : (op P k)[k]? = some s) : (op P (k + 1)).take (k + 1) = (op P k).take k ++ [s] := by
  obtain ⟨hl, hs⟩ := List.getElem?_eq_some_iff.1 h
  rw [op_next h, List.take_append_of_le_length (by omega), List.take_succ_eq_append_getElem hl, hs]

theorem kidsF_eq {P : List Txt} {a : Nat} {s : Txt} (h : P[a]? = some s) : kidsF P (a : Int) 256 = kids P s := by
  unfold kidsF kids
  refine List.filter_congr fun c _ => ?_
  rw [stepF_at h, decide_eq_decide]
  exact place_mem
theorem LinksAt.order {w : World} {base g : Nat} {P : List Txt} {F O U : Txt → Int} {o : List Txt} (h : LinksAt w base g P F O U o) : ∃ v, w.cell? ⟨g, 3, none⟩ = some v ∧ w.frozen? ⟨g, 3, none⟩ = false ∧ g < w.heap.size ∧ base ≤ g ∧ w.ownsRow base 3 1 v o.length (intCells o (place P)) ∧ some g ≠ v.ownBlock ∧
    ∀ w2 v' o', Keeps (fun k => some k = v.ownBlock) w w2 → w2.ownsRow base 3 1 v' o'.length (intCells o' (place P)) → (v'.ownBlock = v.ownBlock ∨ ∃ k, v'.ownBlock = some k ∧ w.heap.size ≤ k) → LinksAt (w2.setCell ⟨g, 3, none⟩ v') base g P F O U o' := by
  obtain ⟨B, h⟩ := h
  obtain ⟨q0, q1, q2, q3, q4⟩ := h.heads
  have h2 := h
  obtain ⟨hg, h0, h1, _, h3, h4, h5, h6, h7, h8⟩ := h2
  exact ⟨B.vr, q3, q4, block_lt hg, h0, h7, own_not_type h7 hg (by decide), fun w2 v' o' a b c => ⟨_, h.order a b c⟩⟩

theorem info_int : (Try.prog.info? 3).map (fun i => (i.zero, i.size, i.bytes)) = some (some (.int .i64 0), 1, 8) := by kernel_rfl
theorem step_call_eq {P : Program} {ops : Array Oper} {o : Oper} {a : Act} {w : World} {K : Act → World → Prop} {Q : Exit → Act → World → Prop} {E : Prop} (hg : o.guard = none) {f : FuncId} {vals : Array Value} {v : Value}
    (ho : (execOp a.eval o).run P w = .ok (.enter f vals) w) (hc : Calls P f vals w fun e w' => e = .returned v ∧ w = w') (h : K (a.put o.dst v) w) :
    if Region.wanted o (yielded ops a.tmps) = true then Oper.wp P o a w K Q else E := by
  have hw : Region.wanted o (yielded ops a.tmps) = true := by simp [Region.wanted, hg]
  rw [if_pos hw]
  unfold Oper.wp
  rw [ho, Oper.upon_enter]
  refine hc.mono ?_
  rintro e w' ⟨rfl, rfl⟩
  exact h
theorem LinksTo.root {w : World} {base g : Nat} {P l D o : List Txt} (h : LinksTo w base g P l D o) : LinksTo w base g P l (D ++ [[]]) o := by
  obtain ⟨B, h⟩ := h
  have key : ∀ (f : Txt → Int) (d : Int), f [] = d → ∀ x, x ∈ P → doneF D f d x = doneF (D ++ [[]]) f d x := fun f d hf x _ => by
    by_cases hx : x = []
    · subst hx; simp [doneF, hf]
    · rw [doneF_snoc_other f d hx]
  exact ⟨B, h.congr (key _ _ (failF_nil P)) (key _ _ (outF_nil P l)) (key _ _ (ownF_nil l))⟩
theorem LinksTo.full {w : World} {base g : Nat} {P l D o : List Txt} (h : LinksTo w base g P l D o) (hD : ∀ x, x ∈ P → x ∈ D) : LinksAt w base g P (failF P) (outF P l) (ownF l) o := by
  obtain ⟨B, h⟩ := h
  exact ⟨B, h.congr (fun x hx => if_pos (hD x hx)) (fun x hx => if_pos (hD x hx)) (fun x hx => if_pos (hD x hx))⟩
theorem kidsT_take {P : List Txt} {s : Txt} {m : Nat} (h : m < (kids P s).length) : (kidsT P s).take (m + 1) = (kidsT P s).take m ++ [s ++ [(kids P s).getD m 0]] := by
  unfold kidsT
  rw [List.take_succ_eq_append_getElem (by simpa using h)]
  simp [h]
theorem intCells_snoc (P : List Txt) (F : Txt → Int) (x : Txt) : intCells (P ++ [x]) F = intCells P F ++ [.int .i64 (F x)] := by simp [intCells]
theorem keeps_grown_set {w w1 : World} {row : Option Nat} (h : w.grownBy w1 row) (p : Addr) (u : Value) : Keeps (fun k => some k = row ∨ k = p.block) w (w1.setCell p u) :=
  ((Keeps.of_grown h).mono (fun _ _ h => .inl h)).trans ((keeps_set w1 p u).mono (fun _ _ h => .inr h))

set_option maxRecDepth 100000 in
set_option maxHeartbeats 1600000 in
theorem lbuild_calls (w : World) (base tg : Nat) (P l : List Txt) (ht : TrieAt w base tg P (place l)) (hl : P.length ≤ 1000000) (hd : ∀ p ∈ P, p.length ≤ 100000) (hlP : ∀ x, x ∈ l → x ∈ P) :
    Calls Try.prog 9 #[.pointer (some ⟨tg, 0, none⟩)] w fun e w' => ∃ g, e = .returned (.pointer (some ⟨g, 0, none⟩)) ∧ LinksAt w' w.heap.size g P (failF P) (outF P l) (ownF l) (op P P.length) ∧ Below w.heap.size w w' := by
  have hT := As.mk ht.tree
  have HT := As.mk ht
  have hnod := As.mk (fun v hv => nodes_calls v base tg P (place l) (HT.out.below hv))
  have hPl := hT.out.len
  obtain ⟨n, hn⟩ : ∃ n, P.length = n := ⟨_, rfl⟩
  rw [hn] at hnod hl hPl
  obtain ⟨Z, hZ, hmk⟩ := make_ints n hl
  replace hZ := As.mk hZ
  have hrep := As.mk (fun (v : World) (ad : Addr) (c : Nat) (h : v.cell? (ad.add 0) = some (.int .i64 (-1))) => repeat_calls v ad c (-1) h n hPl hl)
  go_enter Try.func9, Try.ntmps9
  go_wp2
  go_step3
  go_upto_region 2 with (go_at_call 22; refine (hnod.out _ (Below.refl _ _)).mono ?_; rintro e w' ⟨rfl, rfl⟩)
  go_cut [4] from 11 to 20 (fun v4 wx => ∃ g, v4 = .pointer (some ⟨g, 0, none⟩) ∧ As (LinksAt wx w.heap.size g P (fun _ => -1) (fun _ => -1) (fun _ => 0) []) ∧ As (Below w.heap.size w wx))
  case first =>
    go_region_with (go_at_call 27; refine (hrep.out _ _ _ ?hc).mono ?_; (case hc => exact (new_zero (cs := #[.int .i64 (-1)]) (t := 3) (by (repeat (first | (with_reducible assumption) | (with_reducible exact heap_alloc_new _ _) | (exact heap_new_at (by (first | omega | (simp only [World.size_alloc, World.size_drew]; done) | (simp only [World.size_alloc, World.size_drew]; omega)))) | (with_reducible refine blk_drew ?_) | (with_reducible refine blk_old ?_) | (refine blk_below (by with_reducible assumption) ?_))))).trans rfl); rintro e w' ⟨b, rfl, hb, hc, hbel⟩; have hs := hbel.size; have hlt := block_lt hc; (try simp only [World.size_alloc, World.size_drew] at hs hb))
    all_goals
      go_wp2_with fail
      go_meet
      case rel =>
        refine ⟨_, rfl, ⟨?_⟩, ⟨?_⟩⟩
        · apply linksAt_new hn hl hZ.out
          all_goals (first | ((repeat (first | (with_reducible assumption) | (with_reducible exact heap_alloc_new _ _) | (exact heap_new_at (by (first | omega | (simp only [World.size_alloc, World.size_drew]; done) | (simp only [World.size_alloc, World.size_drew]; omega)))) | (with_reducible refine blk_drew ?_) | (with_reducible refine blk_old ?_) | (refine blk_below (by with_reducible assumption) ?_))); done) | (first | omega | (simp only [World.size_alloc, World.size_drew]; done) | (simp only [World.size_alloc, World.size_drew]; omega)))
        · (repeat (first | (with_reducible assumption) | (with_reducible exact Below.refl _ _) | (with_reducible refine Below.drew ?_) | (with_reducible refine Below.alloc ?_ (by (first | omega | (simp only [World.size_alloc, World.size_drew]; done) | (simp only [World.size_alloc, World.size_drew]; omega))) _) | (refine Below.trans ?_ (Below.mono (by with_reducible assumption) (by (first | omega | (simp only [World.size_alloc, World.size_drew]; done) | (simp only [World.size_alloc, World.size_drew]; omega)))))))
  case rest =>
    obtain ⟨g, rfl, hk0, hb0⟩ := hcut
    have hn0 : ((n : Int) == 0) = false := by simp; omega
    obtain ⟨v0, q3, q4, hgl, hgb, ho0, hne0, hset⟩ := hk0.out.order
    have hbs := hb0.out.size
    have hsl : ((wc.alloc (.cells #[.int .i64 0] 3)).ownsRow w.heap.size 3 1 (.slice (some ⟨wc.heap.size, 0, none⟩) 1 1) 1 [.int .i64 0]) := ownsRow_of_block (heap_alloc_new wc _) rfl hbs (by unfold maxLen; omega)
    have hp0 : place P [] = 0 := place_at hT.out.nodup hT.out.root
    have hk1 := hset (wc.alloc (.cells #[.int .i64 0] 3)) (.slice (some ⟨wc.heap.size, 0, none⟩) 1 1) [[]] (Keeps.of_below ((Below.refl _ _).alloc (Nat.le_refl _) _) _) (by simpa [intCells, hp0] using hsl) (.inr ⟨wc.heap.size, rfl, Nat.le_refl _⟩)
    have hb1 := (hb0.out.alloc (by omega) (.cells #[.int .i64 0] 3)).setCell (p := ⟨g, 3, none⟩) (by show w.heap.size ≤ g; omega) (.slice (some ⟨wc.heap.size, 0, none⟩) 1 1)
    rw [World.setCell_alloc_past _ _ _ _ hgl] at hk1 hb1
    have hdn : ∀ (f : Txt → Int) (d : Int), doneF [] f d = fun _ => d := fun f d => by funext x; simp [doneF]
    have hk1 : As (LinksTo ((wc.setCell ⟨g, 3, none⟩ (.slice (some ⟨wc.heap.size, 0, none⟩) 1 1)).alloc (.cells #[.int .i64 0] 3)) w.heap.size g P l ((op P 0).take 0) (op P 0)) := ⟨by
      unfold LinksTo
      rw [List.take_zero, hdn, hdn, hdn]
      exact hk1⟩
    have hb1 := As.mk hb1
    have hopl := As.mk (fun k => op_len hT.out k)
    clear hsl hp0 hb0 hset ho0 hne0 hdn
    go_wp2
    go_step3
    go_wp2
    go_loopg [5] (n + 1) (fun gk i wr => ∃ k : Nat, As (gk + k = n + 1) ∧ As (k ≤ (op P k).length) ∧ i = .int .i64 k ∧ As (LinksTo wr w.heap.size g P l ((op P k).take k) (op P k)) ∧ As (Below w.heap.size w wr))
    case atStart => exact ⟨0, ⟨rfl⟩, ⟨Nat.zero_le _⟩, rfl, hk1, hb1⟩
    case round =>
      obtain ⟨k, hgk, hkl, rfl, hto, hbel⟩ := hrel
      obtain ⟨v3, q3, q4, hgl, hgb, ho3, hne3, hset⟩ := hto.out.order
      obtain ⟨ln, hln⟩ : ∃ ln, (op P k).length = ln := ⟨_, rfl⟩
      have hlnn : ln ≤ n := by have := hopl.out k; omega
      have hk' := hkl.out
      rw [hln] at hk'
      by_cases hlt : k < ln
      · obtain ⟨s, hs⟩ : ∃ s, (op P k)[k]? = some s := ⟨_, List.getElem?_eq_getElem (by omega)⟩
        have hsP := op_sub hT.out (List.mem_of_getElem? hs)
        obtain ⟨a, ha1, ha2⟩ := place_nat hsP
        obtain ⟨vb, cp, hv3, hvb1, hvb2⟩ := ho3.form (by omega)
        have hcell := World.ownsRow.cellAt (hv3 ▸ ho3) k (by omega)
        rw [intCells_at hs, ha1] at hcell
        rw [hln] at hv3
        subst hv3
        obtain ⟨kl, hkl2⟩ : ∃ kl, (kids P s).length = kl := ⟨_, rfl⟩
        have hkle : kl ≤ 256 := by
          have := kidsF_length P (a : Int) 256
          rw [kidsF_eq ha2, hkl2] at this
          exact this
        have hks := As.mk hkl2
        have hPn : P.length ≤ 1000000 := by omega
        have hs' := As.mk hs
        have hsP := As.mk hsP
        have ha1' := As.mk ha1
        have ha2' := As.mk ha2
        have hkd := As.mk (kidsF_eq ha2)
        have hto2 := hto
        have halt := (List.getElem?_eq_some_iff.1 ha2).1
        clear hkl2 hs ha1 ha2 hset ho3 hne3
        have hln := As.mk hln
        have hto0 : ∀ {v}, Below wr.heap.size wr v → LinksTo v w.heap.size g P l ((op P k).take k) (op P k) := fun h => LinksAt.below hto2.out h
        have hto0 := As.mk @hto0
        go_wp2_with (go_at_call 28; refine (kids_calls _ base tg P (place l) (HT.out.below hbel.out) (by omega) (a : Int)).mono ?_; intro e w1 hr; rw [hkd.out] at hr; obtain ⟨vk, rfl, hok, hbk⟩ := hr; obtain ⟨Ak, ck, hvk, hck, hbyt⟩ := hok.row; rw [hks.out] at hvk hck; subst hvk; replace hok := As.mk hok; replace hbyt := As.mk hbyt; replace hbk := As.mk hbk)
        have hst := As.mk (fun (v : World) (h : Below w.heap.size w v) (c : UInt8) (y : Int) (hy : place P (s ++ [c]) = y) => (by
          rw [← hy, ← stepF_at ha2'.out c]; exact step_calls v base tg P (place l) (HT.out.below h) hPn (a : Int) _ c rfl : Calls Try.prog 29 #[.pointer (some ⟨tg, 0, none⟩), .int .i64 (a : Int), .int .u8 (c.toNat : Int)] v fun e w' => e = .returned (.int .i64 y) ∧ v = w'))
        obtain ⟨wo, rfl⟩ : ∃ wo : World, wo = wr := ⟨_, rfl⟩
        obtain ⟨go, rfl⟩ : ∃ go : Nat, go = gk := ⟨_, rfl⟩
        go_loopg [48] (kl + 1) (fun g2 j wr2 => ∃ m : Nat, As (g2 + m = kl + 1) ∧ As (m ≤ kl) ∧ j = .int .i64 m ∧ As (LinksTo wr2 w.heap.size g P l ((op P k).take k) (op P k ++ (kidsT P s).take m)) ∧ As (OwnByt wr2 wo.heap.size (.slice Ak kl ck) (kids P s)) ∧ As (Below w.heap.size w wr2))
        case atStart => exact ⟨0, ⟨rfl⟩, ⟨Nat.zero_le _⟩, rfl, ⟨by rw [List.take_zero, List.append_nil]; exact hto0.out hbk.out⟩, hok, ⟨below_next' hbel.out hbk.out⟩⟩
        case round =>
          obtain ⟨m, hgm, hml, rfl, hto3, hok2, hbel2⟩ := hrel
          have hml' := hml.out
          obtain ⟨gp, rfl⟩ : ∃ gp, gk = gp + 1 := ⟨gk - 1, by have := hgm.out; omega⟩
          by_cases hmlt : m < kl
          · obtain ⟨v3, q3, q4, hgl, hgb, ho3, hne3, hset⟩ := hto3.out.order
            have hl2 : (op P k ++ (kidsT P s).take m).length = ln + m := by
              rw [List.length_append, hln.out, List.length_take, kidsT, List.length_map, hks.out]; omega
            have hl3 : ln + kl ≤ n := by
              have := hopl.out (k + 1)
              rw [op_next hs'.out, List.length_append, hln.out, kidsT, List.length_map, hks.out] at this
              omega
            rw [hl2] at ho3
            obtain ⟨vb2, cp2, hv3, hvb3, hvb4⟩ := ho3.form (by omega)
            subst hv3
            obtain ⟨A2, c2, e2, _, hby2⟩ := OwnByt.row hok2.out
            injection e2 with e2 e3 e4
            clear e3 e4
            subst e2
            obtain ⟨ad, rfl, hcm⟩ := Byt.at_ hby2 (i := m) (by rw [hks.out]; exact hmlt)
            have htk := kidsT_take (P := P) (s := s) (m := m) (by rw [hks.out]; exact hmlt)
            obtain ⟨x, hx⟩ : ∃ x, (kids P s).getD m 0 = x := ⟨_, rfl⟩
            rw [hx] at hcm htk
            obtain ⟨y, hy⟩ : ∃ y, place P (s ++ [x]) = y := ⟨_, rfl⟩
            obtain ⟨i0, hi, hz0, hz1, hz2⟩ := info_parts info_int
            have hst2 := As.mk (hst.out _ hbel2.out.drew x y hy)
            have hy' := As.mk hy
            have htk' := As.mk htk
            have hset' := As.mk hset
            have hown' := As.mk ho3
            have hown2 := As.mk ((ho3.alloc (.cells #[.int .i64 y] 3)).drew)
            have hfar : g ≠ vb2 := fun e => hne3 (by rw [e]; rfl)
            clear hl2 hset ho3 hne3 hby2 htk hx hy
            have K2 := (Below.frozen (p := ⟨g, 3, none⟩) ((Below.alloc (Below.refl wr.heap.size wr) (Nat.le_refl _) (.cells #[.int .i64 y] 3)).drew) hgl).trans q4
            have K1 := (Below.cell (p := ⟨g, 3, none⟩) ((Below.alloc (Below.refl wr.heap.size wr) (Nat.le_refl _) (.cells #[.int .i64 y] 3)).drew) hgl).trans q3
            replace K1 := As.mk K1
            replace K2 := As.mk K2
            have hsz1 : wr.heap.size < (wr.alloc (.cells #[.int .i64 y] 3)).drew.heap.size := by simp
            replace hsz1 := As.mk hsz1
            go_wp2_with fail
            go_region_law (first
              | (refine step_append_lies _ (by rfl) _ _ _ (by rfl) w.heap.size 3 i0 _ 1 8 Try.underlying32 hi hz0 hz1 hz2 rfl (by omega) (.slice (some ⟨vb2, 0, none⟩) (ln + m) cp2) (ln + m) _ (by rfl) hown2.out
                     ⟨wr.heap.size, 0, none⟩ 1 1 [.int .i64 y] (by rfl) (by rfl) (World.news_of_block (cs := #[.int .i64 y]) (t := 3) (fr := (0, 0)) (heap_alloc_new wr _)) (by simp [Value.oneCell'])
                     (by omega) (by unfold maxLen; omega) (by omega) (by simp; omega) (wr.heap.size + 1) (by simp) ?_
                 intro gg cap w4 hown4 hgrow hat hlt4
                 have e0 := (hgrow.cell_far ⟨g, 3, none⟩ (by have := hsz1.out; show g < _; omega) (by show some g ≠ some vb2; simpa using hfar)).trans K1.out
                 have e1 := (hgrow.frozen_far ⟨g, 3, none⟩ (by have := hsz1.out; show g < _; omega) (by show some g ≠ some vb2; simpa using hfar)).trans K2.out
                 replace hgrow := As.mk hgrow
                 replace hown4 := As.mk hown4)
              | (refine step_call_eq (by rfl) ?ho hst2.out ?_; (case ho => go_simp)))
            all_goals
              go_wp2_with fail
              have hkp : Keeps (fun k => some k = (Value.slice (some ⟨vb2, 0, none⟩) (ln + m) cp2).ownBlock) wr w4 := (Keeps.of_below (((Below.refl _ _).alloc (Nat.le_refl _) _).drew) _).trans ((Keeps.of_grown hgrow.out).mono (fun _ _ h => h))
              have hks5 := (hkp.mono (T := fun k => some k = (Value.slice (some ⟨vb2, 0, none⟩) (ln + m) cp2).ownBlock ∨ k = g) (fun _ _ h => .inl h)).trans ((keeps_set w4 ⟨g, 3, none⟩ (.slice (some ⟨gg, 0, none⟩) (ln + m + 1) cap)).mono (fun _ _ h => .inr h))
              have hto5 : LinksTo (w4.setCell ⟨g, 3, none⟩ (.slice (some ⟨gg, 0, none⟩) (ln + m + 1) cap)) w.heap.size g P l ((op P k).take k) (op P k ++ (kidsT P s).take (m + 1)) := by
                refine hset'.out w4 (.slice (some ⟨gg, 0, none⟩) (ln + m + 1) cap) _ hkp ?_ ?_
                · have hlo : (op P k ++ (kidsT P s).take (m + 1)).length = ln + m + 1 := by
                    rw [List.length_append, hln.out, List.length_take, kidsT, List.length_map, hks.out]; omega
                  rw [hlo, htk'.out, ← List.append_assoc, intCells_snoc, hy'.out]
                  exact hown4.out
                · rcases hat with h | h
                  · exact .inl h.symm
                  · exact .inr ⟨gg, rfl, by omega⟩
              have hok5 : OwnByt (w4.setCell ⟨g, 3, none⟩ (.slice (some ⟨gg, 0, none⟩) (ln + m + 1) cap)) wo.heap.size (.slice (some ad) kl ck) (kids P s) :=
                own_keep hok2.out hks5 (fun b c' _ hb _ hS => by
                  rcases hS with hS | hS
                  · exact own_not_type hown'.out hb (by decide) hS
                  · obtain ⟨B5, hin5⟩ := hto3.out
                    have := hin5.1
                    subst hS
                    rw [this] at hb
                    injection hb with hb
                    injection hb with _ hb
                    exact absurd hb (by decide))
              have hbel5 : Below w.heap.size w (w4.setCell ⟨g, 3, none⟩ (.slice (some ⟨gg, 0, none⟩) (ln + m + 1) cap)) :=
                hbel2.out.trans (hks5.below (fun k hk hS => by
                  rcases hS with hS | hS
                  · have hS : k = vb2 := Option.some.inj hS
                    omega
                  · omega) hbel2.out.size)
              go_roundg gp
              case rel => exact ⟨m + 1, ⟨by have := hgm.out; omega⟩, ⟨by omega⟩, by go_num, ⟨hto5⟩, ⟨hok5⟩, ⟨hbel5⟩⟩
              case measure => omega
          · obtain rfl : m = kl := by omega
            have hk1 : k + 1 ≤ (op P (k + 1)).length := by rw [op_next hs'.out, List.length_append, hln.out]; omega
            have hnx : op P k ++ (kidsT P s).take m = op P (k + 1) := by
              rw [op_next hs'.out, List.take_of_length_le (by rw [kidsT, List.length_map, hks.out]; omega)]
            have hto6 := hto3.out
            rw [hnx] at hto6
            replace hto6 := As.mk hto6
            replace hk1 := As.mk hk1
            have htk6 := As.mk (take_snoc_op hs'.out)
            obtain ⟨gq, rfl⟩ : ∃ gq, go = gq + 1 := ⟨go - 1, by have := hgk.out; omega⟩
            clear hnx
            by_cases ha0 : a = 0
            · have hsn : s = [] := by
                have := ha2'.out
                rw [ha0, hT.out.root] at this
                injection this with this
                exact this.symm
              subst ha0
              go_wp2_with fail
              go_roundg gq
              case rel => exact ⟨k + 1, ⟨by have := hgk.out; omega⟩, hk1, by go_num, ⟨by rw [htk6.out, hsn]; exact hto6.out.root⟩, hbel2⟩
              case measure => omega
            · have hsn : s ≠ [] := fun e => by
                have h1 := ha1'.out
                rw [e, place_at hT.out.nodup hT.out.root] at h1
                omega
              obtain ⟨B6, hin6⟩ := hto6.out
              have hlk := link_calls w wr w.heap.size g base tg P l _ _ _ (doneF ((op P k).take k ++ [s]) (failF P) (-1)) (doneF ((op P k).take k ++ [s]) (outF P l) (-1)) (doneF ((op P k).take k ++ [s]) (ownF l) 0) (op P (k + 1)) rfl HT.out hbel2.out B6 hin6 hPn hd hlP a s ha2'.out hsn
                (fun x hx hxl => by
                  obtain ⟨j, hj, hjx⟩ := op_before hT.out k hs'.out x hx hxl
                  have hm : x ∈ (op P k).take k := List.mem_of_getElem? (i := j) (by rw [List.getElem?_take_of_lt hj]; exact hjx)
                  exact ⟨if_pos hm, if_pos hm, if_pos hm⟩)
                (by
                  have : s ∉ (op P k).take k := fun hm => by
                    obtain ⟨j, hj⟩ := List.mem_iff_getElem?.1 hm
                    have hjk : j < k := by
                      have := (List.getElem?_eq_some_iff.1 hj).1
                      rw [List.length_take] at this; omega
                    rw [List.getElem?_take_of_lt hjk] at hj
                    have := nodup_get (op_nodup P k) hj hs'.out
                    omega
                  exact if_neg this)
                ⟨doneF_snoc_same _ _, fun y hy => doneF_snoc_other _ _ hy⟩ ⟨doneF_snoc_same _ _, fun y hy => doneF_snoc_other _ _ hy⟩ ⟨doneF_snoc_same _ _, fun y hy => doneF_snoc_other _ _ hy⟩
              replace hlk := As.mk hlk
              have ha0' : ((a : Int) == 0) = false := by simpa using ha0
              clear hin6
              go_wp2_with (go_at_call 30; refine hlk.out.mono ?_; rintro e w7 ⟨rfl, hin7, hb7⟩; replace hin7 := As.mk hin7; replace hb7 := As.mk hb7)
              go_roundg gq
              case rel => exact ⟨k + 1, ⟨by have := hgk.out; omega⟩, hk1, by go_num, ⟨by rw [htk6.out]; exact ⟨_, hin7.out⟩⟩, ⟨hbel2.out.trans hb7.out⟩⟩
              case measure => omega
      · obtain rfl : k = ln := by omega
        have hfull : op P k = op P P.length := op_full hT.out (by omega)
        have hto8 := hto.out.full (fun x hx => by rw [List.take_of_length_le (by omega), hfull]; exact op_all hT.out _ x rfl hx)
        rw [hfull] at hto8
        replace hto8 := As.mk hto8
        clear hset hne3 hfull
        rw [hln] at ho3
        obtain ⟨Av, cv, rfl, hcv⟩ := own_slice ho3
        replace ho3 := As.mk ho3
        replace hln := As.mk hln
        go_wp2
        try rw [Exit.noGoto_ret]
        go_ret
        exact ⟨g, rfl, hto8.out, hbel.out⟩
end Go.Proofs.Ytcajccknkjljfaa
