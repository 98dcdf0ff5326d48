/- Maps with whole numbers as keys and values as elements. -/
import Derived.Test.YtcidccifnaecaaaDoorTree
import Derived.Maps.OwnOps
import Derived.Maps.OwnSet
import Derived.Maps.OwnIn
namespace Go.Proofs.YtcidccifnaecaaaDoor
open Go.RowKit

def heldI : Value → Option (DataW Value × List MemPlace) := fun v => some (.held v, [])

/-- Block b is a map with numbers for keys, of at most n entries, that holds what f says. -/
def IMap (P : Program) (k : TypeId) (w : World) (b n : Nat) (f : Int → Option Value) : Prop :=
  ∃ D : DataW Value, w.ownsMap P k heldI b n D ∧ (∀ s : Int, (Lit.int .i64 s).wf = true → Maps.has D (.int .i64 s) = (f s).isSome) ∧ ∀ (s : Int) v, (Lit.int .i64 s).wf = true → f s = some v → ∀ z, D.atKey (.int .i64 s) z = .held v

section
variable {P : Program} {k : TypeId} {w w' : World} {b n : Nat} {f : Int → Option Value}
theorem IMap.isMap (h : IMap P k w b n f) : ∃ es clock, w.heap[b]? = some (.map es clock) := by
  obtain ⟨D, ⟨es, clock, hb, _⟩, _⟩ := h
  exact ⟨es, clock, hb⟩
theorem IMap.lt (h : IMap P k w b n f) : b < w.heap.size := by
  obtain ⟨es, clock, hb⟩ := h.isMap
  exact (Array.getElem?_eq_some_iff.1 hb).1
theorem IMap.keep (h : IMap P k w b n f) (hk : w'.heap[b]? = w.heap[b]?) : IMap P k w' b n f := by
  obtain ⟨D, ⟨es, clock, hb, r⟩, h2⟩ := h
  exact ⟨D, ⟨es, clock, hk.trans hb, r⟩, h2⟩
theorem IMap.made (w : World) (P : Program) (k : TypeId) : IMap P k (w.alloc (.map #[] 0)) w.heap.size 0 (fun _ => none) :=
  ⟨.map [], World.ownsMap_made w P k heldI, fun s _ => rfl, fun s v _ h => by cases h⟩
theorem IMap.look (h : IMap P k w b n f) (hu : P.underlying k = some (.int .i64)) {t e : TypeId} (ht : P.underlying t = some (.map k e)) {z : Value} (hz : (zeroValue e).run P w = .ok z w)
    {s : Int} (hs : (Lit.int .i64 s).wf = true) : (Instr.lookup t (.map (some b)) (.int .i64 s) true).run P w = .ok (.tuple #[(f s).getD z, .bool (f s).isSome]) w := by
  obtain ⟨D, h1, h2, h3⟩ := h
  obtain ⟨v, ps, hrun, hv⟩ := h1.look_ok (Maps.int_keyed hu) ht hz (zd := .held z) (zp := []) rfl (Maps.keyOf_int_mk hu hs)
  rw [hrun, h2 s hs]
  cases hf : f s with
  | none =>
    have := Maps.atKey_of_not_has (D := D) (k := .int .i64 s) (by rw [h2 s hs, hf]; rfl) (.held z)
    rw [this] at hv
    simp only [heldI, Option.some.injEq, Prod.mk.injEq, DataW.held.injEq] at hv
    rw [hv.1]
    rfl
  | some u =>
    rw [h3 _ _ hs hf] at hv
    simp only [heldI, Option.some.injEq, Prod.mk.injEq, DataW.held.injEq] at hv
    rw [hv.1]
    rfl
theorem IMap.store (h : IMap P k w b n f) (hu : P.underlying k = some (.int .i64)) {t e : TypeId} (ht : P.underlying t = some (.map k e)) (hn : n < maxLen)
    {s : Int} (hs : (Lit.int .i64 s).wf = true) (u : Value) : ∃ w', (Instr.mapUpdate t (.map (some b)) (.int .i64 s) u).run P w = .ok () w' ∧
      IMap P k w' b (n + 1) (fun x => if x = s then some u else f x) ∧ w.grownBy w' (some b) := by
  obtain ⟨D, h1, h2, h3⟩ := h
  obtain ⟨w', hrun, ho, hg⟩ := h1.update (Maps.int_keyed hu) ht hn (Maps.keyOf_int_mk hu hs) (val := u) (d := .held u) (ps := []) rfl
  refine ⟨w', hrun, ⟨_, ho, fun x hx => ?_, fun x v hx hv z => ?_⟩, hg⟩
  · by_cases hxs : x = s
    · subst hxs
      rw [Maps.has_put_same h1.isMap (show WideAt.IsKeyLit (.int .i64 x) from True.intro)]
      simp
    · rw [Maps.has_put_other (by simpa using hxs), h2 x hx]
      simp [hxs]
  · by_cases hxs : x = s
    · subst hxs
      simp only [if_true, Option.some.injEq] at hv
      rw [Maps.atKey_put_same h1.isMap (show WideAt.IsKeyLit (.int .i64 x) from True.intro), hv]
    · rw [Maps.atKey_put_other (by simpa using hxs)]
      exact h3 x v hx (by simpa [hxs] using hv) z
end

end Go.Proofs.YtcidccifnaecaaaDoor
