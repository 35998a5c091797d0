/- A map of the call's own with whole numbers as elements, told as a function of its keys. -/
import Derived.Test.YtcajccknkjljfaaBase
import Derived.Maps.OwnSet
import Derived.Maps.OwnOps
set_option linter.unusedVariables false
namespace Go.Proofs.Ytcajccknkjljfaa
open Go.RowKit Go.Maps

/-- Block b of w is a map that holds just f. -/
def MapIs (P : Program) (k e : TypeId) (w : World) (b n : Nat) (f : Value → Option Int) : Prop :=
  ∃ D : DataW Unit, w.ownsMap P k (plainElem P e) b n D ∧ IsMap D ∧ (∀ key kl, keyOf P k key = some kl → Maps.has D kl = (f key).isSome ∧ ∀ c, f key = some c → D.atKey kl (.lit (.int .i64 0)) = .lit (.int .i64 c))

section
variable {P : Program} {t k e : TypeId} {w w' : World} {b n : Nat} {f : Value → Option Int}
theorem MapIs.made (w : World) (P : Program) (k e : TypeId) : MapIs P k e (w.alloc (.map #[] 0)) w.heap.size 0 (fun _ => none) :=
  ⟨.map [], World.ownsMap_made _ _ _ _, isMap_empty, fun key kl h => ⟨rfl, by simp⟩⟩
theorem MapIs.lt (h : MapIs P k e w b n f) : b < w.heap.size := by obtain ⟨D, h, _⟩ := h; exact h.lt
theorem MapIs.kept {row : Option Nat} (h : MapIs P k e w b n f) (hg : w.grownBy w' row) (hne : some b ≠ row) : MapIs P k e w' b n f := by
  obtain ⟨D, h1, h2⟩ := h; exact ⟨D, h1.kept hg hne, h2⟩
theorem MapIs.keep {S : Nat → Prop} (h : MapIs P k e w b n f) (hk : Keeps S w w') (hS : ¬ S b) : MapIs P k e w' b n f := by
  obtain ⟨D, ⟨es, clock, hb, r⟩, h2⟩ := h
  exact ⟨D, ⟨es, clock, (hk.block b (block_lt hb) hS).trans hb, r⟩, h2⟩
theorem MapIs.below (h : MapIs P k e w b n f) (hb : Below w.heap.size w w') : MapIs P k e w' b n f := h.keep (Keeps.of_below hb (fun _ => False)) (fun h => h)
theorem MapIs.is_map (h : MapIs P k e w b n f) : ∃ es clock, w.heap[b]? = some (.map es clock) := by
  obtain ⟨D, ⟨es, clock, hb, r⟩, h2⟩ := h; exact ⟨es, clock, hb⟩
theorem MapIs.mono {n' : Nat} (h : MapIs P k e w b n f) (hn : n ≤ n') : MapIs P k e w b n' f := by
  obtain ⟨D, h1, h2⟩ := h; exact ⟨D, h1.mono hn, h2⟩

/-- A look-up, with ok. -/
theorem MapIs.look (h : MapIs P k e w b n f) (K : Keyed P k) (ht : P.underlying t = some (.map k e)) (he : P.underlying e = some (.int .i64)) (hz : (zeroValue e).run P w = .ok (.int .i64 0) w) {key : Value} {kl : Lit} (hkey : keyOf P k key = some kl) :
    (Instr.lookup t (.map (some b)) key true).run P w = .ok (.tuple #[.int .i64 ((f key).getD 0), .bool (f key).isSome]) w := by
  obtain ⟨D, h1, _, h2⟩ := h
  obtain ⟨v, ps, hrun, hv⟩ := h1.look_ok K ht hz (plainElem_int (H := Unit) he (by decide)) hkey
  obtain ⟨c, rfl, hc, hwc⟩ := plainElem_int_inv he hv
  have hc : D.atKey kl (.lit (.int .i64 0)) = .lit (.int .i64 c) := congrArg Prod.fst hc
  obtain ⟨a1, a2⟩ := h2 key kl hkey
  rw [hrun, a1]
  cases hf : f key with
  | none =>
    rw [hf] at a1
    have := atKey_of_not_has a1 (.lit (.int .i64 0))
    rw [hc] at this
    injection this with this
    injection this with _ this
    subst this; rfl
  | some d =>
    have := a2 d hf
    rw [hc] at this
    injection this with this
    injection this with _ this
    subst this; rfl

/-- A store. -/
theorem MapIs.put (h : MapIs P k e w b n f) (K : Keyed P k) (ht : P.underlying t = some (.map k e)) (he : P.underlying e = some (.int .i64)) (hn : n < maxLen) {key : Value} {kl : Lit} (hkey : keyOf P k key = some kl) {v : Int} (hv : (Lit.int .i64 v).wf = true) {f' : Value → Option Int} (hf1 : f' key = some v) (hf2 : ∀ x, x ≠ key → f' x = f x) :
    ∃ w', (Instr.mapUpdate t (.map (some b)) key (.int .i64 v)).run P w = .ok () w' ∧ MapIs P k e w' b (n + 1) f' ∧ w.grownBy w' (some b) := by
  obtain ⟨D, h1, hm, h2⟩ := h
  obtain ⟨w', hrun, r1, r2⟩ := h1.update K ht hn hkey (plainElem_int (H := Unit) he hv)
  refine ⟨w', hrun, ⟨_, r1, hm.put _ _, fun key' kl' hkey' => ?_⟩, r2⟩
  by_cases hx : key' = key
  · subst hx
    rw [hkey] at hkey'
    injection hkey' with hkey'
    subst hkey'
    rw [hf1]
    refine ⟨has_put_same hm (K.key hkey) _, fun c hc => ?_⟩
    injection hc with hc
    subst hc
    exact atKey_put_same hm (K.key hkey) _ _
  · rw [hf2 _ hx]
    have hne : kl' ≠ kl := fun hh => by subst hh; exact hx (K.inj hkey' hkey)
    rw [has_put_other hne, atKey_put_other hne]
    exact h2 key' kl' hkey'
end
end Go.Proofs.Ytcajccknkjljfaa
