/- Put and New of package heap. -/
import Derived.Test.YtbdkbjfaialeoaaHeapP
namespace Go.Proofs.Ytbdkbjfaialeoaa
open Go.RowKit

theorem blk_not_map {w : World} {k : Nat} {t : TypeId} {cs : Array Value} (h : Blk w k t cs) {b n : Nat} {f : List UInt8 → Option Value} (hm : VMap Try.prog 9 w b n f) : k ≠ b := by
  rintro rfl
  obtain ⟨es, clock, hm0⟩ := hm.isMap
  unfold Blk at h
  rw [hm0] at h
  cases h
theorem blk_ne {w : World} {k k' : Nat} {t t' : TypeId} {cs cs' : Array Value} (h : Blk w k t cs) (h' : Blk w k' t' cs') (hne : t ≠ t') : k ≠ k' := by
  rintro rfl
  exact hne (h.eq h').1

theorem HpAt.upd {w w' : World} {B hb : Nat} {lv : Value} {Ls : List Lo} {os : List Ob} (h : HpAt w B hb lv Ls os) {p : Nat} {L : Lo} {o o' : Ob} {kv' : Value} (hL : Ls[p]? = some L) (ho : os[p]? = some o)
    (hO' : ObjAt w' B ⟨L.ob, L.mb, kv'⟩ o') (hT : Turn (Own1 L) w w') (hkv : kv'.ownBlock = L.kv.ownBlock ∨ ∃ g, kv'.ownBlock = some g ∧ w.heap.size ≤ g) :
    HpAt w' B hb lv (Ls.set p ⟨L.ob, L.mb, kv'⟩) (os.set p o') ∧ ∀ k, Foot hb lv (Ls.set p ⟨L.ob, L.mb, kv'⟩) k → Foot hb lv Ls k ∨ w.heap.size ≤ k := by
  have hO := h.obj p L o hL ho
  have hp : p < Ls.length := (List.getElem?_eq_some_iff.1 hL).1
  have hpo : p < os.length := (List.getElem?_eq_some_iff.1 ho).1
  have hLg : Ls[p] = L := (List.getElem?_eq_some_iff.1 hL).2
  -- what is none of this object's
  have hhb : ¬ Own1 L hb := by
    rintro (e | e | e)
    · exact blk_ne h.blk hO.blk (by decide) e
    · exact blk_not_map h.blk hO.map e
    · obtain ⟨c, hc⟩ := own_blk hO.row e
      exact blk_ne h.blk hc (by decide) rfl
  have hrow : ∀ g, lv.ownBlock = some g → ¬ Own1 L g := by
    intro g hg
    obtain ⟨c, hc⟩ := own_blk h.row hg
    rintro (e | e | e)
    · exact blk_ne hc hO.blk (by decide) e
    · exact blk_not_map hc hO.map e
    · obtain ⟨c2, hc2⟩ := own_blk hO.row e
      exact blk_ne hc hc2 (by decide) rfl
  have hobj : ∀ (i : Nat) (M : Lo) (m : Ob), i ≠ p → Ls[i]? = some M → os[i]? = some m → ObjAt w' B M m := by
    intro i M m hi hM hm
    have hQ := h.obj i M m hM hm
    obtain ⟨a1, a2, a3⟩ := h.apart i p M L hi hM hL
    refine hQ.keep (hT.block _ hQ.blk.lt ?_) (hT.block _ hQ.map.lt ?_) (fun g hg => hT.block _ (hQ.row.lt g hg).2 ?_)
    · rintro (e | e | e)
      · exact a1 e
      · exact blk_not_map hQ.blk hO.map e
      · obtain ⟨c, hc⟩ := own_blk hO.row e
        exact blk_ne hQ.blk hc (by decide) rfl
    · rintro (e | e | e)
      · exact blk_not_map hO.blk hQ.map e.symm
      · exact a2 e
      · obtain ⟨c, hc⟩ := own_blk hO.row e
        exact blk_not_map hc hQ.map rfl
    · rintro (e | e | e)
      · obtain ⟨c, hc⟩ := own_blk hQ.row hg
        exact blk_ne hc hO.blk (by decide) e
      · obtain ⟨c, hc⟩ := own_blk hQ.row hg
        exact blk_not_map hc hO.map e
      · exact a3 g hg e
  have hset : ∀ (i : Nat) (M : Lo), (Ls.set p (⟨L.ob, L.mb, kv'⟩ : Lo))[i]? = some M → (i = p ∧ M = ⟨L.ob, L.mb, kv'⟩) ∨ (i ≠ p ∧ Ls[i]? = some M) := by
    intro i M hM
    rw [List.getElem?_set] at hM
    by_cases hi : p = i
    · rw [if_pos hi] at hM
      subst hi
      rw [if_pos hp] at hM
      injection hM with hM
      exact .inl ⟨rfl, hM.symm⟩
    · rw [if_neg hi] at hM
      exact .inr ⟨fun e => hi e.symm, hM⟩
  have hkvlt : ∀ (M : Lo) (m : Ob) (i : Nat), Ls[i]? = some M → os[i]? = some m → ∀ g, M.kv.ownBlock = some g → g < w.heap.size := fun M m i hM hm g hg => ((h.obj i M m hM hm).row.lt g hg).2
  refine ⟨⟨h.blk.turn hT hhb, ?_, ?_, ?_, h.low⟩, ?_⟩
  · have h1 := own_keep (w' := w') h.row (fun g hg => hT.block g (h.row.lt g hg).2 (hrow g hg))
    have e1 : (Ls.set p (⟨L.ob, L.mb, kv'⟩ : Lo)).map Lo.ptr = Ls.map Lo.ptr := by
      rw [List.map_set]
      have : Lo.ptr ⟨L.ob, L.mb, kv'⟩ = (Ls.map Lo.ptr)[p]'(by simpa using hp) := by simp [Lo.ptr, hLg]
      rw [this, List.set_getElem_self]
    rw [e1, List.length_set]
    exact h1
  · intro i M m hM hm
    rcases hset i M hM with ⟨rfl, rfl⟩ | ⟨hi, hM'⟩
    · rw [List.getElem?_set, if_pos rfl, if_pos hpo] at hm
      injection hm with hm
      subst hm
      exact hO'
    · rw [List.getElem?_set, if_neg (fun e => hi e.symm)] at hm
      exact hobj i M m hi hM' hm
  · intro i j M M2 hij hM hM2
    rcases hset i M hM with ⟨rfl, rfl⟩ | ⟨hi, hM'⟩ <;> rcases hset j M2 hM2 with ⟨rfl, rfl⟩ | ⟨hj, hM2'⟩
    · exact absurd rfl hij
    · obtain ⟨a1, a2, a3⟩ := h.apart _ j L M2 hij hL hM2'
      refine ⟨a1, a2, fun g hg => ?_⟩
      rcases hkv with e | ⟨g', e, hg'⟩
      · exact a3 g (e.symm.trans hg)
      · intro e2
        have : j < os.length := by rw [← h.len]; exact (List.getElem?_eq_some_iff.1 hM2').1
        have := hkvlt M2 _ j hM2' (List.getElem?_eq_getElem this) g e2
        have e3 : g = g' := by
          have : some g = some g' := hg.symm.trans e
          injection this
        omega
    · obtain ⟨a1, a2, a3⟩ := h.apart i _ M L hij hM' hL
      refine ⟨a1, a2, fun g hg => ?_⟩
      rcases hkv with e | ⟨g', e, hg'⟩
      · intro e2
        exact a3 g hg (e.symm.trans e2)
      · intro e2
        have : i < os.length := by rw [← h.len]; exact (List.getElem?_eq_some_iff.1 hM').1
        have := hkvlt M _ i hM' (List.getElem?_eq_getElem this) g hg
        have e3 : g' = g := by
          have : some g' = some g := e.symm.trans e2
          injection this
        omega
    · exact h.apart i j M M2 hij hM' hM2'
  · rintro k (e | e | ⟨M, hM, hk⟩)
    · exact .inl (.inl e)
    · exact .inl (.inr (.inl e))
    · obtain ⟨i, hi⟩ := List.mem_iff_getElem?.1 hM
      rcases hset i M hi with ⟨rfl, rfl⟩ | ⟨hi', hM'⟩
      · have hmem : L ∈ Ls := List.mem_of_getElem? hL
        rcases hk with e | e | e
        · exact .inl (.inr (.inr ⟨L, hmem, .inl e⟩))
        · exact .inl (.inr (.inr ⟨L, hmem, .inr (.inl e)⟩))
        · rcases hkv with e2 | ⟨g', e2, hg'⟩
          · exact .inl (.inr (.inr ⟨L, hmem, .inr (.inr (e2.symm.trans e))⟩))
          · right
            have : some g' = some k := e2.symm.trans e
            injection this with this
            omega
      · exact .inl (.inr (.inr ⟨M, List.mem_of_getElem? hM', hk⟩))

/-- A put into one object of a heap. -/
theorem Hp.upd {w w' : World} {B hb : Nat} {lv : Value} {Ls : List Lo} {os : List Ob} {F : Nat → Prop} (h : HpAt w B hb lv Ls os) (hF : ∀ k, F k ↔ Foot hb lv Ls k) {p : Nat} {L : Lo} {o o' : Ob} {e : Ending} (hL : Ls[p]? = some L) (ho : os[p]? = some o)
    (hP : PutAt w B L o' e w') : Grew w B hb F (os.set p o') w' := by
  obtain ⟨_, kv', hO', hT, hkv⟩ := hP
  obtain ⟨h1, h2⟩ := h.upd hL ho hO' hT hkv
  refine ⟨_, ⟨lv, _, h1, fun _ => Iff.rfl⟩, hT.mono (fun i _ hi => (hF i).2 (.inr (.inr ⟨L, List.mem_of_getElem? hL, hi⟩))), fun k hk => ?_⟩
  rcases h2 k hk with h | h
  · exact .inl ((hF k).2 h)
  · exact .inr h

end Go.Proofs.Ytbdkbjfaialeoaa
