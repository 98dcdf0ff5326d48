/- What HeapChains says, on the objects alone. -/
import Derived.Test.YtbdkbjfaialeoaaActs
import Derived.Test.YtbdkbjfaialeoaaOrder
namespace Go.Proofs.Ytbdkbjfaialeoaa
open Go.RowKit Go.Sort

/-- An object's keys have values. -/
def Keyed (os : List Ob) : Prop := ∀ o ∈ os, ∀ key ∈ o.keys, (o.vals key.data.toList).isSome = true ∧ key.size ≤ maxLen

theorem keyed4 : Keyed first4 := by
  intro o ho key hk
  simp [first4] at ho
  rcases ho with rfl | rfl | rfl | rfl
  · simp [Ob.fresh] at hk
  · have e : ob1.keys = [kCall, kApply] := by decide
    rw [e] at hk
    simp at hk
    rcases hk with rfl | rfl <;> exact ⟨by decide, by simp [kCall, kApply, maxLen, ByteArray.size]⟩
  · simp [Ob.fresh] at hk
  · simp [Ob.fresh] at hk
theorem keyed_alloc {os : List Ob} (h : Keyed os) (o : Ox) : Keyed (allocT os o).2 := by
  unfold allocT
  split
  · exact h
  · split
    · exact h
    · intro x hx
      rcases List.mem_append.1 hx with hx | hx
      · exact h x hx
      · simp at hx
        subst hx
        simp [Ob.fresh]
theorem objT_mem {os : List Ob} {p : Int} {o : Ob} (h : objT os p = some o) : o ∈ os := by
  unfold objT at h
  split at h
  · exact List.mem_of_getElem? h
  · cases h
theorem keyed_put {os : List Ob} (h : Keyed os) (p : Int) (key : ByteArray) (v : Vl) (hk : key.size ≤ maxLen) : Keyed (putT os p key v).2 := by
  unfold putT
  cases ho : objT os p with
  | none => exact h
  | some o =>
    show Keyed (if _ then _ else _ : Int × List Ob).2
    split
    · exact h
    · intro x hx k hkx
      rcases List.mem_or_eq_of_mem_set hx with hx | rfl
      · exact h x hx k hkx
      · have ho' := h o (objT_mem ho)
        unfold Ob.put at hkx ⊢
        dsimp only at hkx ⊢
        by_cases hkk : k.data.toList = key.data.toList
        · rw [if_pos hkk]
          have : k = key := Go.WideShapes.bytes_inj hkk
          subst this
          exact ⟨rfl, hk⟩
        · rw [if_neg hkk]
          split at hkx
          · exact ho' k hkx
          · rcases List.mem_append.1 hkx with hkx | hkx
            · exact ho' k hkx
            · simp at hkx
              exact absurd (by rw [hkx]) hkk

theorem mem_addK {out : List ByteArray} {k x : ByteArray} : x ∈ addK out k ↔ x ∈ out ∨ x = k := by
  unfold addK
  cases hm : memS k out with
  | true =>
    simp only [if_true]
    refine ⟨.inl, fun h => ?_⟩
    rcases h with h | rfl
    · exact h
    · exact memS_iff.1 hm
  | false => simp
theorem mem_addAll {x : ByteArray} : ∀ (ks out : List ByteArray), x ∈ addAll out ks ↔ x ∈ out ∨ x ∈ ks
  | [], out => by simp [addAll]
  | k :: ks, out => by
    show x ∈ addAll (addK out k) ks ↔ _
    rw [mem_addAll ks, mem_addK]
    simp only [List.mem_cons]
    exact or_assoc
theorem mem_allK {os : List Ob} {x : ByteArray} : ∀ (ps : List Nat) (out : List ByteArray), x ∈ ps.foldl (fun out i => addAll out (keysAt os i)) out ↔ x ∈ out ∨ ∃ i ∈ ps, x ∈ keysAt os i
  | [], out => by simp
  | i :: ps, out => by
    rw [List.foldl_cons, mem_allK ps, mem_addAll]
    simp only [List.mem_cons, exists_eq_or_imp]
    exact or_assoc
theorem allK_nodup {os : List Ob} : ∀ (ps : List Nat) {out : List ByteArray}, out.Nodup → (ps.foldl (fun out i => addAll out (keysAt os i)) out).Nodup
  | [], _, h => h
  | _ :: ps, _, h => allK_nodup ps (addAll_nodup _ h)

theorem nodup_sub_len : ∀ (l m : List ByteArray), l.Nodup → (∀ x ∈ l, x ∈ m) → l.length ≤ m.length
  | [], _, _, _ => by simp
  | x :: l, m, h, hs => by
    obtain ⟨s, t, rfl⟩ := List.append_of_mem (hs x (by simp))
    have h2 := nodup_sub_len l (s ++ t) (List.nodup_cons.1 h).2 (fun y hy => by
      have := hs y (by simp [hy])
      have hne : y ≠ x := fun e => (List.nodup_cons.1 h).1 (e ▸ hy)
      simp only [List.mem_append, List.mem_cons] at this ⊢
      rcases this with h | h | h
      · exact .inl h
      · exact absurd h hne
      · exact .inr h)
    simp only [List.length_append, List.length_cons] at h2 ⊢
    omega

theorem allT_get {os : List Ob} (hK : Keyed os) {p : Int} {x : ByteArray} (h : x ∈ allT os p) : (getT os p x).isSome = true ∧ x.size ≤ maxLen := by
  unfold allT allK at h
  rcases (mem_allK _ _).1 h with h | ⟨i, hi, hx⟩
  · simp at h
  · unfold keysAt at hx
    cases ho : os[i]? with
    | none => rw [ho] at hx; simp at hx
    | some o =>
      rw [ho] at hx
      have h1 := hK o (List.mem_of_getElem? ho) x hx
      refine ⟨?_, h1.2⟩
      unfold getT
      rw [List.findSome?_isSome_iff]
      exact ⟨i, hi, by rw [ho]; exact h1.1⟩

theorem chainT_step {os : List Ob} (h : Tied os) {p : Nat} {o : Ob} (ho : os[p]? = some o) : chainT os p = p :: chainT os o.o.proto :=
  (chainT_chain h p).uniq (.step ho (chainT_chain h _))
theorem allT_less {os : List Ob} (h : Tied os) {p : Nat} {o : Ob} (ho : os[p]? = some o) : (allT os o.o.proto).length ≤ (allT os p).length := by
  refine nodup_sub_len _ _ (allK_nodup _ (by simp)) (fun x hx => ?_)
  unfold allT allK at hx ⊢
  rw [chainT_step h ho]
  rcases (mem_allK _ _).1 hx with h | ⟨i, hi, h⟩
  · simp at h
  · exact (mem_allK _ _).2 (.inr ⟨i, by simp [hi], h⟩)

end Go.Proofs.Ytbdkbjfaialeoaa
