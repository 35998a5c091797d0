/- The walks of package twoway: a finder, the next place, all places. -/
import Derived.Test.YtpkapgjpnkcffaaTwoWalk3
import Derived.Test.YtpkapgjpnkcffaaPairs
import Derived.WalkSpells
set_option linter.unusedVariables false
set_option linter.unusedSimpArgs false
namespace Go.Proofs.Ytpkapgjpnkcffaa
open Go.RowKit Seine.Trie Seine.Two Go.Proofs.YtpkapgjpnkcffaaW.PrintWords

theorem ownsRow_blk {w : World} {base b n : Nat} {cs : List Value} {t : TypeId} (h : w.heap[b]? = some (.cells cs.toArray t (0, 0))) (hl : cs.length = n) (hb : base ≤ b) (hn : n ≤ maxLen) : w.ownsRow base t 1 (.slice (some ⟨b, 0, none⟩) n n) n cs := by
  refine ⟨by omega, .inr ⟨b, n, cs.toArray, rfl, hb, h, Nat.le_refl _, hn, by simp [hl], by rw [Nat.mul_one]; exact List.take_of_length_le (by simp; omega)⟩⟩
set_option maxRecDepth 100000 in
set_option maxHeartbeats 400000 in
theorem cloneByt_calls (w : World) (ad : Addr) (c : Nat) (b : Txt) (h : Byt w (some ad) b) (hl : b.length ≤ 1000000) (hne : 0 < b.length) :
    Calls Try.prog 18 #[.slice (some ad) b.length c] w fun e w' => ∃ bl cp, e = .returned (.slice (some ⟨bl, 0, none⟩) b.length cp) ∧ b.length ≤ cp ∧ Byt w' (some ⟨bl, 0, none⟩) b ∧ w.heap.size ≤ bl ∧ Below w.heap.size w w' := by
  obtain ⟨n, hn⟩ : ∃ n, b.length = n := ⟨_, rfl⟩
  rw [hn] at hl hne ⊢
  have hn := As.mk hn
  have H := As.mk h
  clear h
  obtain ⟨i0, hi, hz0, hz1, hz2⟩ := info_parts info_u8
  have hown : As ((w.alloc (.cells #[] 5)).ownsRow w.heap.size 5 1 (.slice (some ⟨w.heap.size, 0, none⟩) 0 0) 0 []) := ⟨ownsRow_blk (cs := []) (heap_alloc_new w _) rfl (Nat.le_refl _) (Nat.zero_le _)⟩
  have hcells : As (∀ j u, (byCells b)[j]? = some u → (w.alloc (.cells #[] 5)).cell? (ad.add j) = some u) := ⟨fun j u hj => by
    have hjl : j < (byCells b).length := (List.getElem?_eq_some_iff.1 hj).1
    obtain ⟨ad2, e2, hc2⟩ := Row.at_ (H.out.alloc (.cells #[] 5)) hjl
    injection e2 with e2
    subst e2
    rw [hc2, ← hj]; exact (List.getElem?_eq_getElem hjl).symm⟩
  have hone : As (∀ u ∈ byCells b, u.oneCell' = true) := ⟨fun u hu => by obtain ⟨x, _, rfl⟩ := List.mem_map.1 hu; rfl⟩
  have hnl : As ((byCells b).length = n * 1) := ⟨by rw [byCells_length, hn.out, Nat.mul_one]⟩
  have hnil : ∀ (w : World) (a : Addr) (n c : Nat), (binOp .eql 22 (.slice (some a) n c) (.slice none 0 0)).run Try.prog w = .ok (.bool false) w := fun w a n c => Lib.run_eql_slice_nil w _ _ (some a) n c 0 0 Try.underlying22
  go_enter Try.func18, Try.ntmps18
  go_wp2_with (at_builtin
               refine wpList_append_own_at _ rfl (.tmp 5) (.tmp 6) 22 rfl w.heap.size 5 i0 _ 1 1 Try.underlying22 hi hz0 hz1 hz2 rfl (by decide) (.slice (some ⟨w.heap.size, 0, none⟩) 0 0) 0 [] rfl hown.out ad n c (byCells b) rfl hnl.out hcells.out hone.out (by unfold maxLen; omega) (by omega) (by simp) ?_
               intro v' w' h2 h3 h4 h5)
  go_ret
  have h2 : w'.ownsRow w.heap.size 5 1 v' n (byCells b) := by simpa using h2
  obtain ⟨bl, cp, rfl, hbl, _⟩ := h2.form hne
  obtain ⟨A, c2, e2, hc2⟩ := own_slice h2
  injection e2 with _ _ e2
  exact ⟨bl, cp, rfl, by omega, Row.of_own h2, (own_blk h2 rfl).1, ((Below.refl _ _).alloc (Nat.le_refl _) _).grown h3 (by simp) (fun k hk => Nat.le_of_eq (Option.some.inj hk))⟩

theorem new_empty_calls (w : World) (A : Option Addr) (c : Nat) : Calls Try.prog 11 #[.slice A 0 c] w fun e w' => e = .returned (.tuple #[.pointer none, .int .i64 1]) ∧ w = w' := by
  go_enter Try.func11, Try.ntmps11
  go_wp2
  go_ret2
  exact ⟨rfl, rfl⟩
def NewPost2 (w : World) (b : Txt) (e : Ending) (w' : World) : Prop := ∃ g ad cb a s sm, e = .returned (.tuple #[.pointer (some ⟨g, 0, none⟩), .int .i64 0]) ∧ TwoIn w' g b ad cb a s sm ∧ (w.heap.size ≤ g ∧ w.heap.size ≤ ad.block) ∧ Below w.heap.size w w'
def NewPost (w : World) (b : Txt) (e : Ending) (w' : World) : Prop := ∃ g ad cb a s sm, e = .returned (.tuple #[.pointer (some ⟨g, 0, none⟩), .int .i64 0]) ∧ TwoIn w' g b ad cb a s sm ∧ Below w.heap.size w w'
set_option maxRecDepth 100000 in
set_option maxHeartbeats 1600000 in
theorem new_calls2 (w : World) (ad : Addr) (c : Nat) (b : Txt) (hb : Byt w (some ad) b) (hl : b.length ≤ 1000000) (hne : 0 < b.length) (hc : b.length ≤ c) : Calls Try.prog 11 #[.slice (some ad) b.length c] w (NewPost2 w b) := by
  have HX := As.mk hb
  clear hb
  have ccl := As.mk (fun (v : World) (h : Byt v (some ad) b) => cloneByt_calls v ad c b h hl hne)
  have cfa := As.mk (fun (v : World) (h : Byt v (some ad) b) => factor_calls v ad c b h hl hne hc)
  obtain ⟨n, hn⟩ : ∃ n, b.length = n := ⟨_, rfl⟩
  rw [hn] at ccl cfa hl hne hc
  rw [hn]
  have hn := As.mk hn
  have hn0 : ((n : Int) == 0) = false := by simp; omega
  go_enter Try.func11, Try.ntmps11
  go_wp2_with fail
  refine Calls.mono (ccl.out w HX.out) ?_
  rintro e w1 ⟨bl, cp, rfl, hcp, hby, hfr, hb1⟩
  have HX1 := As.mk (HX.out.below hb1)
  replace hby := As.mk hby
  replace hb1 := As.mk hb1
  go_wp2_with fail
  refine Calls.mono (cfa.out w1 HX1.out) ?_
  rintro e w2 ⟨a, s, sm, rfl, hcut, hb2⟩
  have hB2 := As.mk (belowNext hb1.out hb2)
  have hby2 := As.mk (Row.below hby.out hb2)
  replace hcut := As.mk hcut
  replace hb2 := As.mk hb2
  have hsz : w.heap.size ≤ w2.heap.size := hB2.out.size
  have z := heap_alloc_new w2 (.cells #[.slice (some ⟨bl, 0, none⟩) n cp, .int .i64 (a : Int), .int .i64 (s : Int), .bool sm, .func (.func 20) #[] #[]] 49)
  have y3 := cell_of_blk z 3
  have y4 := cell_of_blk z 4
  have f4 := free_of_blk z 4
  simp at y3 y4
  cases sm with
  | true =>
    replace z := As.mk z
    go_wp2
    go_ret2
    refine ⟨w2.heap.size, ⟨bl, 0, none⟩, cp, a, s, true, rfl, ⟨?_, by rw [hn.out]; exact hcp, ?_, by rw [hn.out]; exact hcut.out⟩, ⟨hsz, hfr⟩, ?_⟩
    · rw [hn.out]; exact heap_alloc_new w2 _
    · exact Row.alloc hby2.out _
    · exact hB2.out.alloc hsz _
  | false =>
    replace z := As.mk z
    go_wp2
    go_ret2
    refine ⟨w2.heap.size, ⟨bl, 0, none⟩, cp, a, s, false, rfl, ⟨?_, by rw [hn.out]; exact hcp, ?_, by rw [hn.out]; exact hcut.out⟩, ⟨hsz, hfr⟩, ?_⟩
    · rw [hn.out]; exact heap_alloc_new w2 _
    · exact Row.alloc hby2.out _
    · exact hB2.out.alloc hsz _
theorem new_calls (w : World) (ad : Addr) (c : Nat) (b : Txt) (hb : Byt w (some ad) b) (hl : b.length ≤ 1000000) (hne : 0 < b.length) (hc : b.length ≤ c) : Calls Try.prog 11 #[.slice (some ad) b.length c] w (NewPost w b) :=
  (new_calls2 w ad c b hb hl hne hc).mono fun e w' ⟨g, ad, cb, a, s, sm, h1, h2, _, h4⟩ => ⟨g, ad, cb, a, s, sm, h1, h2, h4⟩
end Go.Proofs.Ytpkapgjpnkcffaa
