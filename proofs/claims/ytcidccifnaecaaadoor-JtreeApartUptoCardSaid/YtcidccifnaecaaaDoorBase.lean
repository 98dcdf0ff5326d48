/- Plain words on worlds: what a call may turn (Turn), a map whose elements are values (VMap). No program in sight. -/
import Derived.WalkKit
import Derived.WalkSpells
import Derived.WalkLawsBesides
import Derived.Maps.OwnOps
import Derived.Maps.OwnSet
import Derived.Maps.OwnIn
import Derived.Deep.Draws
import Derived.StringKeys
namespace Go.Proofs.YtcidccifnaecaaaDoor
open Go.RowKit

/-- w' is w with new blocks, and with turns in the blocks of F alone. -/
structure Turn (F : Nat → Prop) (w w' : World) : Prop where
  os : w'.os = w.os
  tape : w'.tape = w.tape
  output : w'.output = w.output
  size : w.heap.size ≤ w'.heap.size
  block : ∀ k, k < w.heap.size → ¬ F k → w'.heap[k]? = w.heap[k]?

theorem Turn.refl (F : Nat → Prop) (w : World) : Turn F w w := ⟨rfl, rfl, rfl, Nat.le_refl _, fun _ _ _ => rfl⟩
theorem Turn.trans {F G : Nat → Prop} {a b c : World} (h : Turn F a b) (k : Turn G b c) (hG : ∀ i, i < a.heap.size → G i → F i) : Turn F a c :=
  ⟨k.os.trans h.os, k.tape.trans h.tape, k.output.trans h.output, Nat.le_trans h.size k.size, fun i hi hf =>
    (k.block i (Nat.lt_of_lt_of_le hi h.size) (fun hg => hf (hG i hi hg))).trans (h.block i hi hf)⟩
theorem Turn.mono {F G : Nat → Prop} {a b : World} (h : Turn F a b) (hG : ∀ i, i < a.heap.size → F i → G i) : Turn G a b :=
  ⟨h.os, h.tape, h.output, h.size, fun i hi hf => h.block i hi (fun hg => hf (hG i hi hg))⟩
theorem Turn.drew {F : Nat → Prop} {a w : World} (h : Turn F a w) : Turn F a w.drew := ⟨h.os, h.tape, h.output, h.size, h.block⟩
theorem Turn.drewN {F : Nat → Prop} {a w : World} (h : Turn F a w) (n : Nat) : Turn F a (w.drewN n) := ⟨h.os, h.tape, h.output, h.size, h.block⟩
theorem Turn.alloc {F : Nat → Prop} {a w : World} (h : Turn F a w) (o : Obj) : Turn F a (w.alloc o) :=
  h.trans (G := fun _ => False) ⟨rfl, rfl, rfl, by simp, fun k hk _ => Below.heap_alloc _ _ _ hk⟩ (fun _ _ x => x.elim)
theorem Turn.setCell {F : Nat → Prop} {a w : World} (h : Turn F a w) {p : Addr} (hp : p.block < a.heap.size → F p.block) (u : Value) : Turn F a (w.setCell p u) :=
  h.trans (G := fun k => k = p.block) ⟨rfl, rfl, rfl, by simp [World.setCell], fun k _ hk => Below.heap_setCell _ _ _ _ hk⟩ (fun i hi e => by subst e; exact hp hi)
theorem Turn.grown {F : Nat → Prop} {a w w' : World} {row : Option Nat} (h : Turn F a w) (hg : w.grownBy w' row) (hr : ∀ k, k < a.heap.size → row = some k → F k) : Turn F a w' :=
  h.trans (G := fun k => row = some k) ⟨hg.os, hg.tape, hg.output, hg.size, fun k hk hn => hg.block k hk (fun e => hn e.symm)⟩ hr
theorem Turn.below {F : Nat → Prop} {w w' : World} {B : Nat} (h : Turn F w w') (hB : B ≤ w.heap.size) (hF : ∀ k, F k → B ≤ k) : Below B w w' :=
  ⟨h.os, h.tape, h.output, h.size, fun k hk => h.block k (by omega) (fun hf => by have := hF k hf; omega)⟩
theorem Turn.none_below {w w' : World} (h : Turn (fun _ => False) w w') : Below w.heap.size w w' := h.below (Nat.le_refl _) (fun _ x => x.elim)
theorem Turn.of_below {w w' : World} (h : Below w.heap.size w w') : Turn (fun _ => False) w w' := ⟨h.os, h.tape, h.output, h.size, fun k hk _ => h.block k hk⟩

/-- Block g is just these cells. -/
def Blk (w : World) (g : Nat) (t : TypeId) (cs : Array Value) : Prop := w.heap[g]? = some (.cells cs t (0, 0))
section
variable {w w' : World} {g : Nat} {t : TypeId} {cs : Array Value}
theorem Blk.lt (h : Blk w g t cs) : g < w.heap.size := (Array.getElem?_eq_some_iff.1 h).1
theorem Blk.cell (h : Blk w g t cs) (i : Nat) : w.cell? ⟨g, i, none⟩ = cs[i]? := cell_of_row w g i cs t (0, 0) h
theorem Blk.frozen (h : Blk w g t cs) (i : Nat) : w.frozen? ⟨g, i, none⟩ = false := by
  unfold Blk at h
  simp [World.frozen?, h]
theorem Blk.new (w : World) (t : TypeId) (cs : Array Value) : Blk (w.alloc (.cells cs t)) w.heap.size t cs := heap_alloc_new w _
theorem Blk.set_ (h : Blk w g t cs) (i : Nat) (u : Value) : Blk (w.setCell ⟨g, i, none⟩ u) g t (cs.setIfInBounds i u) := by
  unfold Blk at h ⊢
  simp [World.setCell, Array.getElem?_modify, h]
theorem Blk.keep (h : Blk w g t cs) (hk : w'.heap[g]? = w.heap[g]?) : Blk w' g t cs := hk.trans h
theorem Blk.alloc (h : Blk w g t cs) (o : Obj) : Blk (w.alloc o) g t cs := h.keep (Below.heap_alloc w o g h.lt)
theorem Blk.far (h : Blk w g t cs) {p : Addr} (hp : g ≠ p.block) (u : Value) : Blk (w.setCell p u) g t cs := h.keep (Below.heap_setCell w p u g hp)
theorem Blk.grown (h : Blk w g t cs) {row : Option Nat} (hb : w.grownBy w' row) (hg : some g ≠ row) : Blk w' g t cs := h.keep (hb.block g h.lt hg)
theorem Blk.turn (h : Blk w g t cs) {F : Nat → Prop} (hb : Turn F w w') (hg : ¬ F g) : Blk w' g t cs := h.keep (hb.block g h.lt hg)
theorem Blk.eq {t' : TypeId} {cs' : Array Value} (h : Blk w g t cs) (h' : Blk w g t' cs') : t = t' ∧ cs = cs' := by
  unfold Blk at h h'
  rw [h] at h'
  injection h' with h'
  injection h' with h1 h2
  exact ⟨h2, h1⟩
end

/-- An owned row, carried by the equality of its block. -/
theorem own_keep {w w' : World} {base : Nat} {e : TypeId} {size n : Nat} {v : Value} {xs : List Value} (h : w.ownsRow base e size v n xs)
    (hk : ∀ g, v.ownBlock = some g → w'.heap[g]? = w.heap[g]?) : w'.ownsRow base e size v n xs := by
  refine ⟨h.1, ?_⟩
  rcases h.2 with h2 | ⟨g, cap, cur, rfl, hg, hh, r⟩
  · exact .inl h2
  · exact .inr ⟨g, cap, cur, rfl, hg, (hk g rfl).trans hh, r⟩
/-- .. and the kind of its block. -/
theorem own_blk {w : World} {base : Nat} {e : TypeId} {size n : Nat} {v : Value} {xs : List Value} (h : w.ownsRow base e size v n xs) {g : Nat} (hg : v.ownBlock = some g) :
    ∃ cur, Blk w g e cur := by
  rcases h.2 with ⟨rfl, _⟩ | ⟨g', cap, cur, rfl, _, hh, _⟩
  · simp [Value.ownBlock] at hg
  · simp [Value.ownBlock] at hg
    subst hg
    exact ⟨cur, hh⟩
theorem own_slice {w : World} {base : Nat} {e : TypeId} {size n : Nat} {v : Value} {xs : List Value} (h : w.ownsRow base e size v n xs) : ∃ A cap, v = .slice A n cap := by
  rcases h.2 with ⟨rfl, rfl⟩ | ⟨g', cap, cur, rfl, _, hh, _⟩
  · exact ⟨_, _, rfl⟩
  · exact ⟨_, _, rfl⟩
theorem own_mono {w : World} {base base' : Nat} {e : TypeId} {size n : Nat} {v : Value} {xs : List Value} (h : w.ownsRow base e size v n xs) (hb : ∀ g, v.ownBlock = some g → base' ≤ g) : w.ownsRow base' e size v n xs := by
  refine ⟨h.1, ?_⟩
  rcases h.2 with h2 | ⟨g, cap, cur, rfl, hg, r⟩
  · exact .inl h2
  · exact .inr ⟨g, cap, cur, rfl, hb g rfl, r⟩

/-! ### maps whose elements are values -/
def heldR : Value → Option (DataW Value × List MemPlace) := fun v => some (.held v, [])

/-- Block b is a map with string keys, of at most n entries, that holds what f says. -/
def VMap (P : Program) (k : TypeId) (w : World) (b n : Nat) (f : List UInt8 → Option Value) : Prop :=
  ∃ D : DataW Value, w.ownsMap P k heldR b n D ∧ (∀ s, Maps.has D (.string s) = (f s).isSome) ∧ ∀ s v, f s = some v → ∀ z, D.atKey (.string s) z = .held v

section
variable {P : Program} {k : TypeId} {w w' : World} {b n : Nat} {f : List UInt8 → Option Value}
theorem VMap.isMap (h : VMap P k w b n f) : ∃ es clock, w.heap[b]? = some (.map es clock) := by
  obtain ⟨D, ⟨es, clock, hb, _⟩, _⟩ := h
  exact ⟨es, clock, hb⟩
theorem VMap.lt (h : VMap P k w b n f) : b < w.heap.size := by
  obtain ⟨es, clock, hb⟩ := h.isMap
  exact (Array.getElem?_eq_some_iff.1 hb).1
theorem VMap.keep (h : VMap P k w b n f) (hk : w'.heap[b]? = w.heap[b]?) : VMap P k w' b n f := by
  obtain ⟨D, ⟨es, clock, hb, r⟩, h2⟩ := h
  exact ⟨D, ⟨es, clock, hk.trans hb, r⟩, h2⟩
theorem VMap.mono (h : VMap P k w b n f) {n' : Nat} (hn : n ≤ n') : VMap P k w b n' f := by
  obtain ⟨D, h1, h2⟩ := h
  exact ⟨D, h1.mono hn, h2⟩
theorem VMap.made (w : World) (P : Program) (k : TypeId) : VMap P k (w.alloc (.map #[] 0)) w.heap.size 0 (fun _ => none) :=
  ⟨.map [], World.ownsMap_made w P k heldR, fun s => rfl, fun s v h => by cases h⟩
theorem VMap.look (h : VMap P k w b n f) (hu : P.underlying k = some .string) {t e : TypeId} (ht : P.underlying t = some (.map k e)) {z : Value} (hz : (zeroValue e).run P w = .ok z w)
    {s : ByteArray} (hs : s.size ≤ maxLen) : (Instr.lookup t (.map (some b)) (.string s) true).run P w = .ok (.tuple #[(f s.data.toList).getD z, .bool (f s.data.toList).isSome]) w := by
  obtain ⟨D, h1, h2, h3⟩ := h
  obtain ⟨v, ps, hrun, hv⟩ := h1.look_ok (Maps.string_keyed hu) ht hz (zd := .held z) (zp := []) rfl (Go.WideMaps.keyOf_string_mk hu hs)
  rw [hrun, h2]
  cases hf : f s.data.toList with
  | none =>
    have := Maps.atKey_of_not_has (D := D) (k := .string s.data.toList) (by rw [h2, hf]; rfl) (.held z)
    rw [this] at hv
    simp only [heldR, Option.some.injEq, Prod.mk.injEq, DataW.held.injEq] at hv
    rw [hv.1]
    rfl
  | some u =>
    rw [h3 _ _ hf] at hv
    simp only [heldR, Option.some.injEq, Prod.mk.injEq, DataW.held.injEq] at hv
    rw [hv.1]
    rfl
theorem ownsMap_exact {H : Type} {R : Value → Option (DataW H × List MemPlace)} {D : DataW H} (h : w.ownsMap P k R b n D) {n' : Nat} (hn : Maps.size D ≤ n') : w.ownsMap P k R b n' D := by
  obtain ⟨es, clock, hb, F, hs, rfl⟩ := h
  refine ⟨es, clock, hb, F, ?_, rfl⟩
  have e1 : Maps.size (DataW.map ((es.toList.map (WideElems.rg P k R)).foldr DataW.insert [])) = es.size := by simp [Maps.size, length_sorted]
  rw [← e1]
  exact hn
theorem VMap.store (h : VMap P k w b n f) (hu : P.underlying k = some .string) {t e : TypeId} (ht : P.underlying t = some (.map k e)) (hn : n < maxLen)
    {s : ByteArray} (hs : s.size ≤ maxLen) (u : Value) : ∃ w', (Instr.mapUpdate t (.map (some b)) (.string s) u).run P w = .ok () w' ∧
      VMap P k w' b (if (f s.data.toList).isSome then n else n + 1) (fun x => if x = s.data.toList then some u else f x) ∧ w.grownBy w' (some b) := by
  obtain ⟨D, h1, h2, h3⟩ := h
  obtain ⟨w', hrun, ho, hg⟩ := h1.update (Maps.string_keyed hu) ht hn (Go.WideMaps.keyOf_string_mk hu hs) (val := u) (d := .held u) (ps := []) rfl
  refine ⟨w', hrun, ⟨_, ownsMap_exact ho ?_, fun x => ?_, fun x v hv z => ?_⟩, hg⟩
  · rw [Maps.size_put (h1.tidy (Maps.string_keyed hu)), h2]
    have := h1.size_le
    cases (f s.data.toList).isSome <;> simp <;> omega
  · by_cases hx : x = s.data.toList
    · subst hx
      rw [Maps.has_put_same h1.isMap (show WideAt.IsKeyLit (.string s.data.toList) from True.intro)]
      simp
    · rw [Maps.has_put_other (by simpa using hx), h2]
      simp [hx]
  · by_cases hx : x = s.data.toList
    · subst hx
      simp only [if_true, Option.some.injEq] at hv
      rw [Maps.atKey_put_same h1.isMap (show WideAt.IsKeyLit (.string s.data.toList) from True.intro), hv]
    · rw [Maps.atKey_put_other (by simpa using hx)]
      exact h3 x v (by simpa [hx] using hv) z
end

end Go.Proofs.YtcidccifnaecaaaDoor
