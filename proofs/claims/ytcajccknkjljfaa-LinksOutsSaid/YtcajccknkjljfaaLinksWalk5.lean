/- The walks of slices.Clone at whole numbers and of the nodes' order. -/
import Derived.Test.YtcajccknkjljfaaLinksWalk4
import Derived.WalkSpells
set_option linter.unusedVariables false
set_option linter.unusedSimpArgs false
namespace Go.Proofs.Ytcajccknkjljfaa
open Go.RowKit Go.Maps Seine.Trie Seine.Links

set_option maxHeartbeats 400000 in
theorem cloneInts_calls (w : World) (ad : Addr) (c : Nat) (xs : List Int) (h : Ints w (some ad) xs) (hl : xs.length ≤ 1000000) :
    Calls Try.prog 34 #[.slice (some ad) xs.length c] w (RetInts w xs) := by
  obtain ⟨n, hn⟩ : ∃ n, xs.length = n := ⟨_, rfl⟩
  rw [hn] at hl ⊢
  have hn := As.mk hn
  have H := As.mk h
  clear h
  obtain ⟨i0, hi, hz0, hz1, hz2⟩ := info_parts info_int
  have hown : As ((w.alloc (.cells #[] 3)).ownsRow w.heap.size 3 1 (.slice (some ⟨w.heap.size, 0, none⟩) 0 0) 0 []) := ⟨ownsRow_of_block (cs := []) (heap_alloc_new w _) rfl (Nat.le_refl _) (Nat.zero_le _)⟩

  have hcells : As (∀ j u, (intVals xs)[j]? = some u → (w.alloc (.cells #[] 3)).cell? (ad.add j) = some u) := ⟨fun j u hj => by
    have hjl : j < (intVals xs).length := (List.getElem?_eq_some_iff.1 hj).1
    obtain ⟨ad2, e2, hc2⟩ := Row.at_ (H.out.alloc (.cells #[] 3)) hjl
    injection e2 with e2
    subst e2
    rw [hc2, ← hj]; exact (List.getElem?_eq_getElem hjl).symm⟩
  have hone : As (∀ u ∈ intVals xs, u.oneCell' = true) := ⟨fun u hu => by obtain ⟨x, _, rfl⟩ := List.mem_map.1 hu; rfl⟩
  have hnl : As ((intVals xs).length = n * 1) := ⟨by rw [intVals_length, hn.out, Nat.mul_one]⟩
  have hnil : ∀ (w : World) (a : Addr) (n c : Nat), (binOp .eql 32 (.slice (some a) n c) (.slice none 0 0)).run Try.prog w = .ok (.bool false) w := fun w a n c => Lib.run_eql_slice_nil w _ _ (some a) n c 0 0 Try.underlying32
  go_enter Try.func34, Try.ntmps34
  go_wp2_with (at_builtin
               refine wpList_append_own_at _ rfl (.tmp 5) (.tmp 6) 32 rfl w.heap.size 3 i0 _ 1 8 Try.underlying32 hi hz0 hz1 hz2 rfl (by decide) (.slice (some ⟨w.heap.size, 0, none⟩) 0 0) 0 [] rfl hown.out ad n c (intVals xs) rfl hnl.out hcells.out hone.out (by unfold maxLen; omega) (by omega) (by simp) ?_
               intro v' w' h2 h3 h4 h5)
  go_ret
  refine ⟨v', rfl, ?_, ?_⟩
  · unfold OwnInts; rw [hn.out]; simpa using h2
  · exact ((Below.refl _ _).alloc (Nat.le_refl _) _).grown h3 (by simp) (fun k hk => Nat.le_of_eq (Option.some.inj hk))

/-- The nodes' order, by numbers. -/
def orderF (P : List Txt) : List Int := (op P P.length).map (place P)
theorem orderF_length {P : List Txt} (hT : Tree P) : (orderF P).length = P.length := by
  unfold orderF
  rw [List.length_map]
  have h1 := op_len hT P.length
  have h2 := nodup_len hT.nodup (fun x hx => op_all hT _ x rfl hx)
  omega
theorem lorder_calls (w : World) (base g : Nat) (P l : List Txt) (hT : Tree P) (hl : P.length ≤ 1000000) (h : LinksOf w base g P l) :
    Calls Try.prog 20 #[.pointer (some ⟨g, 0, none⟩)] w (RetInts w (orderF P)) := by
  obtain ⟨v, q3, q4, hgl, hgb, ho, hne, _⟩ := LinksAt.order h
  have hlen := op_len hT P.length
  have hpos : 0 < (op P P.length).length := (List.getElem?_eq_some_iff.1 (op_root P P.length)).1
  have hoi : OwnInts w base v (orderF P) := by unfold OwnInts orderF; rw [List.length_map]; simpa [intVals, intCells, Function.comp_def] using ho
  have hol : (orderF P).length = (op P P.length).length := by unfold orderF; rw [List.length_map]
  obtain ⟨b, cp, rfl, _, _⟩ := hoi.form (by omega)
  have hcl := As.mk (cloneInts_calls w ⟨b, 0, none⟩ cp (orderF P) (Row.of_own hoi) (by omega))
  clear hoi ho hne hol hpos hlen
  go_enter Try.func20, Try.ntmps20
  go_wp2_with (go_at_call 34; refine hcl.out.mono ?_; rintro e w' ⟨v, rfl, ho2, hb2⟩)
  go_ret
  exact ⟨v, rfl, ho2, hb2⟩
end Go.Proofs.Ytcajccknkjljfaa
