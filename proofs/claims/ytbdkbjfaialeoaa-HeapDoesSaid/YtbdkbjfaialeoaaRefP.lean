/- The document's heap: what a put, a new object make of it, by plain words on worlds. -/
import Derived.Test.YtbdkbjfaialeoaaRef
namespace Go.Proofs.Ytbdkbjfaialeoaa
open Go.RowKit

theorem own_set {w : World} {B : Nat} {e : TypeId} {size n : Nat} {v : Value} {xs : List Value} (h : w.ownsRow B e size v n xs) {g : Nat} (hg : v.ownBlock = some g) {i : Nat} (hi : i < n * size) (u : Value) :
    (w.setCell ⟨g, i, none⟩ u).ownsRow B e size v n (xs.set i u) := by
  refine ⟨by rw [List.length_set]; exact h.1, ?_⟩
  rcases h.2 with ⟨rfl, rfl⟩ | ⟨g', cap, cur, rfl, hb, hh, hnc, hcm, hcs, ht⟩
  · simp at hi
  · simp [Value.ownBlock] at hg
    subst hg
    have hB : Blk w g' e cur := hh
    refine .inr ⟨g', cap, _, rfl, hb, hB.set_ i u, hnc, hcm, by simp [hcs], ?_⟩
    rw [Array.toList_setIfInBounds, ← ht, List.take_set]

theorem rowCells_set : ∀ {Ls : List Ro} {os : List Ob} {p : Nat} {L : Ro} {o : Ob} (L' : Ro) (o' : Ob), Ls[p]? = some L → os[p]? = some o → o'.o = o.o →
    rowCells (Ls.set p L') (os.set p o') = ((rowCells Ls os).set (p * 6 + 4) L'.kv).set (p * 6 + 5) L'.vv
  | M :: Ls, q :: os, 0, L, o, L', o', hL, ho, he => by
    simp at hL ho
    subst hL ho
    simp [rowCells, roCells, he]
  | M :: Ls, q :: os, p + 1, L, o, L', o', hL, ho, he => by
    simp only [List.set_cons_succ, rowCells]
    rw [rowCells_set L' o' (by simpa using hL) (by simpa using ho) he]
    have e4 : (p + 1) * 6 + 4 = (roCells M q.o).length + (p * 6 + 4) := by simp [roCells]; omega
    have e5 : (p + 1) * 6 + 5 = (roCells M q.o).length + (p * 6 + 5) := by simp [roCells]; omega
    rw [e4, e5, List.set_append_right _ _ (by omega), List.set_append_right _ _ (by omega)]
    simp
  | [], _, _, _, _, _, _, hL, _, _ => by simp at hL
  | _ :: _, [], _, _, _, _, _, _, ho, _ => by simp at ho

theorem set_same {α : Type} {xs : List α} {i : Nat} {u : α} (h : xs[i]? = some u) : xs.set i u = xs := by
  obtain ⟨hlt, rfl⟩ := List.getElem?_eq_some_iff.1 h
  exact List.set_getElem_self hlt
theorem valAt_put_same (o : Ob) (key : ByteArray) (v : Vl) : valAt (o.put key v) key = v := by
  simp [valAt, Ob.put]
theorem valAt_put_other (o : Ob) {key x : ByteArray} (v : Vl) (h : x ≠ key) : valAt (o.put key v) x = valAt o x := by
  have : ¬ x.data.toList = key.data.toList := fun e => h (Go.WideShapes.bytes_inj e)
  simp only [valAt, Ob.put, if_neg this]
theorem valsOf_put_other (o : Ob) {key : ByteArray} (v : Vl) : ∀ {ks : List ByteArray}, key ∉ ks → valsOf (o.put key v) ks = valsOf o ks
  | [], _ => rfl
  | x :: ks, h => by
    simp only [List.mem_cons, not_or] at h
    have h2 := valsOf_put_other o v h.2
    simp only [valsOf, List.flatMap_cons] at h2 ⊢
    rw [valAt_put_other o v (fun e => h.1 e.symm), h2]
theorem valsOf_put_at (o : Ob) {key : ByteArray} (v : Vl) : ∀ {ks : List ByteArray} {m : Nat}, ks.Nodup → ks[m]? = some key →
    valsOf (o.put key v) ks = (((valsOf o ks).set (m * 3) (.int .i64 v.kind)).set (m * 3 + 1) (.int .i64 v.n)).set (m * 3 + 2) (.string v.s)
  | x :: ks, 0, hn, hk => by
    simp at hk
    subst hk
    have h2 := valsOf_put_other o v (List.nodup_cons.1 hn).1
    simp only [valsOf, List.flatMap_cons] at h2 ⊢
    rw [valAt_put_same, h2]
    simp [Vl.cells]
  | x :: ks, m + 1, hn, hk => by
    have hk' : ks[m]? = some key := by simpa using hk
    have h2 := valsOf_put_at o v (m := m) (List.nodup_cons.1 hn).2 hk'
    have hne : x ≠ key := fun e => (List.nodup_cons.1 hn).1 (e ▸ List.mem_of_getElem? hk')
    simp only [valsOf, List.flatMap_cons] at h2 ⊢
    rw [valAt_put_other o v hne, h2]
    have e0 : (m + 1) * 3 = (valAt o x).cells.length + m * 3 := by simp [Vl.cells]; omega
    have e1 : (m + 1) * 3 + 1 = (valAt o x).cells.length + (m * 3 + 1) := by simp [Vl.cells]; omega
    have e2 : (m + 1) * 3 + 2 = (valAt o x).cells.length + (m * 3 + 2) := by simp [Vl.cells]; omega
    rw [e1, e2, e0, List.set_append_right _ _ (by omega), List.set_append_right _ _ (by omega), List.set_append_right _ _ (by omega)]
    simp
  | [], _, _, hk => by simp at hk

theorem RAt.upd {w w' : World} {B rb : Nat} {lv : Value} {Ls : List Ro} {os : List Ob} (h : RAt w B rb lv Ls os) {p : Nat} {L L' : Ro} {o o' : Ob} (hL : Ls[p]? = some L) (ho : os[p]? = some o)
    (hT : Turn (fun k => lv.ownBlock = some k ∨ L.kv.ownBlock = some k ∨ L.vv.ownBlock = some k) w w') (hrow : w'.ownsRow B 74 6 lv os.length (rowCells (Ls.set p L') (os.set p o'))) (hobj : RObj w' B L' o')
    (hkv : ∀ g, L'.kv.ownBlock = some g → L.kv.ownBlock = some g ∨ w.heap.size ≤ g) (hvv : ∀ g, L'.vv.ownBlock = some g → L.vv.ownBlock = some g ∨ w.heap.size ≤ g) :
    RAt w' B rb lv (Ls.set p L') (os.set p o') ∧ Turn (RFoot rb lv Ls) w w' ∧ ∀ k, RFoot rb lv (Ls.set p L') k → RFoot rb lv Ls k ∨ w.heap.size ≤ k := by
  have hpl : p < Ls.length := (List.getElem?_eq_some_iff.1 hL).1
  have hpo : p < os.length := (List.getElem?_eq_some_iff.1 ho).1
  have hO := h.obj p L o hL ho
  have hLm : L ∈ Ls := List.mem_of_getElem? hL
  have hG : ∀ k, (lv.ownBlock = some k ∨ L.kv.ownBlock = some k ∨ L.vv.ownBlock = some k) → RFoot rb lv Ls k := by
    rintro k (hk | hk | hk)
    · exact .inr (.inl hk)
    · exact .inr (.inr ⟨L, hLm, .inl hk⟩)
    · exact .inr (.inr ⟨L, hLm, .inr hk⟩)
  -- what the others hold
  have hoth : ∀ (i : Nat) (M : Ro), i ≠ p → Ls[i]? = some M → ∀ g, (M.kv.ownBlock = some g ∨ M.vv.ownBlock = some g) → g < w.heap.size ∧ w'.heap[g]? = w.heap[g]? := by
    intro i M hi hM g hg
    obtain ⟨i', q, hM', hq, hQ⟩ := h.at_ (List.mem_of_getElem? hM)
    have hap := h.apart i p M L hi hM hL
    rcases hg with hg | hg
    · have hlt := (hQ.krow.lt g hg).2
      refine ⟨hlt, hT.block g hlt ?_⟩
      obtain ⟨c1, hc1⟩ := own_blk hQ.krow hg
      rintro (e | e | e)
      · obtain ⟨c2, hc2⟩ := own_blk h.row e
        exact absurd (hc1.eq hc2).1 (by decide)
      · exact hap.1 g hg e
      · obtain ⟨c2, hc2⟩ := own_blk hO.vrow e
        exact absurd (hc1.eq hc2).1 (by decide)
    · have hlt := (hQ.vrow.lt g hg).2
      refine ⟨hlt, hT.block g hlt ?_⟩
      obtain ⟨c1, hc1⟩ := own_blk hQ.vrow hg
      rintro (e | e | e)
      · obtain ⟨c2, hc2⟩ := own_blk h.row e
        exact absurd (hc1.eq hc2).1 (by decide)
      · obtain ⟨c2, hc2⟩ := own_blk hO.krow e
        exact absurd (hc1.eq hc2).1 (by decide)
      · exact hap.2 g hg e
  have hset : ∀ (i : Nat) (M : Ro), (Ls.set p L')[i]? = some M → (i = p ∧ M = L') ∨ (i ≠ p ∧ Ls[i]? = some M) := by
    intro i M hM
    by_cases hi : p = i
    · subst hi
      rw [List.getElem?_set_self hpl] at hM
      injection hM with hM
      exact .inl ⟨rfl, hM.symm⟩
    · rw [List.getElem?_set_ne hi] at hM
      exact .inr ⟨fun e => hi e.symm, hM⟩
  refine ⟨⟨?_, by simpa using hrow, by simp [h.len], ?_, ?_, h.low⟩, hT.mono (fun k _ hk => hG k hk), ?_⟩
  · refine h.blk.turn hT ?_
    rintro (e | e | e)
    · obtain ⟨c2, hc2⟩ := own_blk h.row e
      exact absurd (h.blk.eq hc2).1 (by decide)
    · obtain ⟨c2, hc2⟩ := own_blk hO.krow e
      exact absurd (h.blk.eq hc2).1 (by decide)
    · obtain ⟨c2, hc2⟩ := own_blk hO.vrow e
      exact absurd (h.blk.eq hc2).1 (by decide)
  · intro i M q hM hq
    rcases hset i M hM with ⟨rfl, rfl⟩ | ⟨hi, hM⟩
    · rw [List.getElem?_set_self hpo] at hq
      injection hq with hq
      subst hq
      exact hobj
    · rw [List.getElem?_set_ne (fun e => hi e.symm)] at hq
      exact (h.obj i M q hM hq).keep (fun g hg => (hoth i M hi hM g (.inl hg)).2) (fun g hg => (hoth i M hi hM g (.inr hg)).2)
  · intro i j M N hij hM hN
    rcases hset i M hM with ⟨rfl, rfl⟩ | ⟨hi, hM1⟩ <;> rcases hset j N hN with ⟨rfl, rfl⟩ | ⟨hj, hN1⟩
    · exact absurd rfl hij
    · have hap := h.apart i j L N hij hL hN1
      refine ⟨fun g hg hg' => ?_, fun g hg hg' => ?_⟩
      · rcases hkv g hg with e | e
        · exact hap.1 g e hg'
        · have := (hoth j N hj hN1 g (.inl hg')).1; omega
      · rcases hvv g hg with e | e
        · exact hap.2 g e hg'
        · have := (hoth j N hj hN1 g (.inr hg')).1; omega
    · have hap := h.apart i j M L hij hM1 hL
      refine ⟨fun g hg hg' => ?_, fun g hg hg' => ?_⟩
      · rcases hkv g hg' with e | e
        · exact hap.1 g hg e
        · have := (hoth i M hi hM1 g (.inl hg)).1; omega
      · rcases hvv g hg' with e | e
        · exact hap.2 g hg e
        · have := (hoth i M hi hM1 g (.inr hg)).1; omega
    · exact h.apart i j M N hij hM1 hN1
  · rintro k (rfl | hk | ⟨M, hM, hk⟩)
    · exact .inl (.inl rfl)
    · exact .inl (.inr (.inl hk))
    · obtain ⟨i, hi⟩ := List.mem_iff_getElem?.1 hM
      rcases hset i M hi with ⟨_, rfl⟩ | ⟨_, hM'⟩
      · rcases hk with hk | hk
        · rcases hkv k hk with e | e
          · exact .inl (hG k (.inr (.inl e)))
          · exact .inr e
        · rcases hvv k hk with e | e
          · exact .inl (hG k (.inr (.inr e)))
          · exact .inr e
      · exact .inl (.inr (.inr ⟨M, List.mem_of_getElem? hM', hk⟩))

/-- What a call that turns the document's heap leaves. -/
def RGrew (w : World) (B rb : Nat) (F : Nat → Prop) (os' : List Ob) (w' : World) : Prop :=
  ∃ F', RHp w' B rb F' os' ∧ Turn F w w' ∧ ∀ k, F' k → F k ∨ w.heap.size ≤ k
theorem RGrew.from_ {w w1 w' : World} {B rb : Nat} {F : Nat → Prop} {os' : List Ob} (h : RGrew w1 B rb F os' w') (hT : Turn (fun _ => False) w w1) : RGrew w B rb F os' w' := by
  obtain ⟨F', h1, h2, h3⟩ := h
  refine ⟨F', h1, (hT.mono (fun _ _ x => x.elim)).trans h2 (fun _ _ h => h), fun k hk => ?_⟩
  rcases h3 k hk with h | h
  · exact .inl h
  · exact .inr (Nat.le_trans hT.size h)
theorem RGrew.same {w w' : World} {B rb : Nat} {F : Nat → Prop} {os : List Ob} (h : RHp w B rb F os) (hb' : Below w.heap.size w w') : RGrew w B rb F os w' :=
  ⟨F, h.below hb', (Turn.of_below hb').mono (fun _ _ x => x.elim), fun _ h => .inl h⟩
theorem RHp.upd {w w' : World} {B rb : Nat} {F : Nat → Prop} {lv lv' : Value} {Ls Ls' : List Ro} {os' : List Ob} (hF : ∀ k, F k ↔ RFoot rb lv Ls k)
    (h : RAt w' B rb lv' Ls' os' ∧ Turn (RFoot rb lv Ls) w w' ∧ ∀ k, RFoot rb lv' Ls' k → RFoot rb lv Ls k ∨ w.heap.size ≤ k) : RGrew w B rb F os' w' :=
  ⟨_, ⟨lv', Ls', h.1, fun _ => Iff.rfl⟩, h.2.1.mono (fun k _ hk => (hF k).2 hk), fun k hk => (h.2.2 k hk).imp (fun e => (hF k).2 e) id⟩

/-- The put at a key that is there. -/
theorem RAt.put_old {w : World} {B rb : Nat} {lv : Value} {Ls : List Ro} {os : List Ob} (h : RAt w B rb lv Ls os) {p m : Nat} {L : Ro} {o : Ob} {key : ByteArray} (v : Vl) (hL : Ls[p]? = some L) (ho : os[p]? = some o) (hm : o.keys[m]? = some key) {gv : Nat} (hgv : L.vv.ownBlock = some gv) {w' : World}
    (hw : ((w.setCell ⟨gv, m * 3, none⟩ (.int .i64 v.kind)).setCell ⟨gv, m * 3 + 1, none⟩ (.int .i64 v.n)).setCell ⟨gv, m * 3 + 2, none⟩ (.string v.s) = w') :
    RAt w' B rb lv (Ls.set p L) (os.set p (o.put key v)) ∧ Turn (RFoot rb lv Ls) w w' ∧ ∀ k, RFoot rb lv (Ls.set p L) k → RFoot rb lv Ls k ∨ w.heap.size ≤ k := by
  subst hw
  have hO := h.obj p L o hL ho
  have hml : m < o.keys.length := (List.getElem?_eq_some_iff.1 hm).1
  have hkm : key ∈ o.keys := List.mem_of_getElem? hm
  have hkeys : (o.put key v).keys = o.keys := by
    unfold Ob.put
    simp only
    rw [if_pos ((hO.has key).2 hkm)]
  have hold : ∀ k, k ≠ gv → (((w.setCell ⟨gv, m * 3, none⟩ (.int .i64 v.kind)).setCell ⟨gv, m * 3 + 1, none⟩ (.int .i64 v.n)).setCell ⟨gv, m * 3 + 2, none⟩ (.string v.s)).heap[k]? = w.heap[k]? := by
    intro k hk
    rw [Below.heap_setCell _ _ _ _ hk, Below.heap_setCell _ _ _ _ hk, Below.heap_setCell _ _ _ _ hk]
  have hgvt := own_blk hO.vrow hgv
  refine h.upd hL ho ?_ ?_ ⟨?_, ?_, ?_, ?_⟩ (fun g hg => .inl hg) (fun g hg => .inl hg)
  · exact (((Turn.refl _ w).setCell (p := ⟨gv, m * 3, none⟩) (fun _ => .inr (.inr hgv)) _).setCell (p := ⟨gv, m * 3 + 1, none⟩) (fun _ => .inr (.inr hgv)) _).setCell (p := ⟨gv, m * 3 + 2, none⟩) (fun _ => .inr (.inr hgv)) _
  · rw [rowCells_set L (o.put key v) hL ho rfl]
    have hr := own_keep (w' := ((w.setCell ⟨gv, m * 3, none⟩ (.int .i64 v.kind)).setCell ⟨gv, m * 3 + 1, none⟩ (.int .i64 v.n)).setCell ⟨gv, m * 3 + 2, none⟩ (.string v.s)) h.row (fun g hg => hold g (fun e => by
      subst e
      obtain ⟨c1, hc1⟩ := hgvt
      obtain ⟨c2, hc2⟩ := own_blk h.row hg
      exact absurd (hc1.eq hc2).1 (by decide)))
    have e1 : (rowCells Ls os).set (p * 6 + 4) L.kv = rowCells Ls os := by
      exact set_same (rowCells_at (Ls := Ls) (os := os) 4 hL ho (by decide))
    have e2 : (rowCells Ls os).set (p * 6 + 5) L.vv = rowCells Ls os := by
      exact set_same (rowCells_at (Ls := Ls) (os := os) 5 hL ho (by decide))
    rw [e1, e2]
    exact hr
  · rw [hkeys]
    exact own_keep hO.krow (fun g hg => hold g (fun e => by
      subst e
      obtain ⟨c1, hc1⟩ := hgvt
      obtain ⟨c2, hc2⟩ := own_blk hO.krow hg
      exact absurd (hc1.eq hc2).1 (by decide)))
  · rw [hkeys, valsOf_put_at o v hO.nodup hm]
    exact own_set (own_set (own_set hO.vrow hgv (by omega) _) hgv (by omega) _) hgv (by omega) _
  · rw [hkeys]; exact hO.nodup
  · intro x
    rw [hkeys]
    by_cases hx : x.data.toList = key.data.toList
    · have : x = key := Go.WideShapes.bytes_inj hx
      subst this
      simp [Ob.put, hkm]
    · simp only [Ob.put, if_neg hx]
      exact hO.has x

/-- Between the two appends of a put at a new key. -/
structure Mid (w W : World) (B rb : Nat) (lv : Value) (Ls : List Ro) (os : List Ob) (p : Nat) (L : Ro) (o : Ob) (key : ByteArray) (kv' : Value) : Prop where
  turn : Turn (fun k => lv.ownBlock = some k ∨ L.kv.ownBlock = some k ∨ L.vv.ownBlock = some k) w W
  blk : Blk W rb 56 #[lv]
  row : W.ownsRow B 74 6 lv os.length ((rowCells Ls os).set (p * 6 + 4) kv')
  krow : W.ownsRow B 9 1 kv' (o.keys.length + 1) (o.keys.map Value.string ++ [.string key])
  vrow : W.ownsRow B 33 3 L.vv o.keys.length (valsOf o o.keys)
  kloc : ∀ g, kv'.ownBlock = some g → L.kv.ownBlock = some g ∨ w.heap.size ≤ g

theorem RAt.mid {w w0 w1 : World} {B rb : Nat} {lv : Value} {Ls : List Ro} {os : List Ob} (h : RAt w B rb lv Ls os) {p : Nat} {L : Ro} {o : Ob} {key : ByteArray} (hL : Ls[p]? = some L) (ho : os[p]? = some o) {g gk cap : Nat} (hg : lv.ownBlock = some g)
    (hT : Turn (fun _ => False) w w0) (hgrow : w0.grownBy w1 L.kv.ownBlock) (hown : w1.ownsRow B 9 1 (.slice (some ⟨gk, 0, none⟩) (o.keys.length + 1) cap) (o.keys.length + 1) (o.keys.map Value.string ++ [.string key]))
    (hloc : L.kv.ownBlock = some gk ∨ w.heap.size ≤ gk) {W : World} (hW : w1.setCell ⟨g, p * 6 + 4, none⟩ (.slice (some ⟨gk, 0, none⟩) (o.keys.length + 1) cap) = W) :
    Mid w W B rb lv Ls os p L o key (.slice (some ⟨gk, 0, none⟩) (o.keys.length + 1) cap) := by
  subst hW
  have hO := h.obj p L o hL ho
  have hpo : p < os.length := (List.getElem?_eq_some_iff.1 ho).1
  obtain ⟨cg, hcg⟩ := own_blk h.row hg
  -- what stays till the append
  have hstay : ∀ k t cs, Blk w k t cs → t ≠ 9 → Blk w1 k t cs := by
    intro k t cs hb ht
    refine (hb.turn hT (fun x => x)).grown hgrow (fun e => ?_)
    obtain ⟨c2, hc2⟩ := own_blk hO.krow e.symm
    exact ht (hb.eq hc2).1
  have hgk := own_blk hown (g := gk) rfl
  have hcg1 := hstay g _ _ hcg (by decide)
  have hne : gk ≠ g := fun e => by
    subst e
    obtain ⟨c, hc⟩ := hgk
    exact absurd (hc.eq hcg1).1 (by decide)
  refine ⟨((hT.mono (fun _ _ x => x.elim)).grown hgrow (fun k _ e => .inr (.inl e))).setCell (fun _ => .inl hg) _, ?_, ?_, ?_, ?_, ?_⟩
  · exact (hstay rb _ _ h.blk (by decide)).far (p := ⟨g, p * 6 + 4, none⟩) (fun e => by
      subst e
      exact absurd (h.blk.eq hcg).1 (by decide)) _
  · refine own_set (own_keep h.row (fun k hk => ?_)) hg (by omega) _
    obtain ⟨c, hc⟩ := own_blk h.row hk
    exact (hstay k _ _ hc (by decide)).trans hc.symm
  · refine own_keep hown (fun k hk => ?_)
    simp [Value.ownBlock] at hk
    subst hk
    exact Below.heap_setCell _ _ _ _ hne
  · refine own_keep hO.vrow (fun k hk => ?_)
    obtain ⟨c, hc⟩ := own_blk hO.vrow hk
    rw [Below.heap_setCell _ _ _ _ (fun e => by
      subst e
      exact absurd (hc.eq hcg).1 (by decide))]
    exact (hstay k _ _ hc (by decide)).trans hc.symm
  · intro k hk
    simp [Value.ownBlock] at hk
    subst hk
    exact hloc

theorem RAt.put_new {w W w3 w4 : World} {B rb : Nat} {lv : Value} {Ls : List Ro} {os : List Ob} (h : RAt w B rb lv Ls os) {p : Nat} {L : Ro} {o : Ob} {key : ByteArray} (v : Vl) (hL : Ls[p]? = some L) (ho : os[p]? = some o) (hk : key ∉ o.keys) {g gv cap : Nat} (hg : lv.ownBlock = some g)
    {kv' : Value} (hm : Mid w W B rb lv Ls os p L o key kv') (hT : Turn (fun _ => False) W w3) (hgrow : w3.grownBy w4 L.vv.ownBlock)
    (hown : w4.ownsRow B 33 3 (.slice (some ⟨gv, 0, none⟩) (o.keys.length + 1) cap) (o.keys.length + 1) (valsOf o o.keys ++ v.cells))
    (hloc : L.vv.ownBlock = some gv ∨ w.heap.size ≤ gv) {W' : World} (hW : w4.setCell ⟨g, p * 6 + 5, none⟩ (.slice (some ⟨gv, 0, none⟩) (o.keys.length + 1) cap) = W') :
    RAt W' B rb lv (Ls.set p ⟨kv', .slice (some ⟨gv, 0, none⟩) (o.keys.length + 1) cap⟩) (os.set p (o.put key v)) ∧ Turn (RFoot rb lv Ls) w W' ∧ ∀ k, RFoot rb lv (Ls.set p ⟨kv', .slice (some ⟨gv, 0, none⟩) (o.keys.length + 1) cap⟩) k → RFoot rb lv Ls k ∨ w.heap.size ≤ k := by
  subst hW
  have hO := h.obj p L o hL ho
  have hpo : p < os.length := (List.getElem?_eq_some_iff.1 ho).1
  have hkeys : (o.put key v).keys = o.keys ++ [key] := by
    unfold Ob.put
    simp only
    rw [if_neg (fun e => hk ((hO.has key).1 e))]
  obtain ⟨cg, hcg⟩ := own_blk hm.row hg
  have hstay : ∀ k t cs, Blk W k t cs → t ≠ 33 → Blk w4 k t cs := by
    intro k t cs hb ht
    refine (hb.turn hT (fun x => x)).grown hgrow (fun e => ?_)
    obtain ⟨c2, hc2⟩ := own_blk hm.vrow e.symm
    exact ht (hb.eq hc2).1
  have hgk := own_blk hown (g := gv) rfl
  have hcg1 := hstay g _ _ hcg (by decide)
  have hne : gv ≠ g := fun e => by
    subst e
    obtain ⟨c, hc⟩ := hgk
    exact absurd (hc.eq hcg1).1 (by decide)
  refine h.upd hL ho ?_ ?_ ⟨?_, ?_, ?_, ?_⟩ hm.kloc ?_
  · exact ((hm.turn.trans (hT.mono (fun _ _ x => x.elim)) (fun _ _ h => h)).grown hgrow (fun k _ e => .inr (.inr e))).setCell (fun _ => .inl hg) _
  · rw [rowCells_set _ (o.put key v) hL ho rfl]
    refine own_set (own_keep hm.row (fun k hk => ?_)) hg (by omega) _
    obtain ⟨c, hc⟩ := own_blk hm.row hk
    exact (hstay k _ _ hc (by decide)).trans hc.symm
  · rw [hkeys]
    have h1 := own_keep (w' := w4.setCell ⟨g, p * 6 + 5, none⟩ (.slice (some ⟨gv, 0, none⟩) (o.keys.length + 1) cap)) hm.krow (fun k hk => by
      obtain ⟨c, hc⟩ := own_blk hm.krow hk
      rw [Below.heap_setCell _ _ _ _ (fun e => by
        subst e
        exact absurd (hc.eq hcg).1 (by decide))]
      exact (hstay k _ _ hc (by decide)).trans hc.symm)
    simpa using h1
  · rw [hkeys]
    have e1 : valsOf (o.put key v) (o.keys ++ [key]) = valsOf o o.keys ++ v.cells := by
      have := valsOf_put_other o v hk
      simp only [valsOf, List.flatMap_append, List.flatMap_cons, List.flatMap_nil, List.append_nil] at this ⊢
      rw [this, valAt_put_same]
    rw [e1]
    have h1 := own_keep (w' := w4.setCell ⟨g, p * 6 + 5, none⟩ (.slice (some ⟨gv, 0, none⟩) (o.keys.length + 1) cap)) hown (fun k hk => by
      simp [Value.ownBlock] at hk
      subst hk
      exact Below.heap_setCell _ _ _ _ hne)
    simpa using h1
  · rw [hkeys, List.nodup_append]
    refine ⟨hO.nodup, by simp, ?_⟩
    intro a ha b hb
    simp at hb
    subst hb
    exact fun e => hk (e ▸ ha)
  · intro x
    rw [hkeys]
    by_cases hx : x.data.toList = key.data.toList
    · have : x = key := Go.WideShapes.bytes_inj hx
      subst this
      simp [Ob.put]
    · have hne' : x ≠ key := fun e => hx (by rw [e])
      simp only [Ob.put, if_neg hx, List.mem_append, List.mem_singleton]
      rw [hO.has x]
      simp [hne']
  · intro k hk'
    simp [Value.ownBlock] at hk'
    subst hk'
    exact hloc

/-- A new thing. -/
theorem RAt.push {w w0 w1 : World} {B rb : Nat} {lv : Value} {Ls : List Ro} {os : List Ob} (h : RAt w B rb lv Ls os) (o : Ob) (hk : o.keys = []) (hv : ∀ x, o.vals x = none) {kv vv : Value} {g cap : Nat}
    (hT : Turn (fun _ => False) w w0) (hgrow : w0.grownBy w1 lv.ownBlock) (hkv : kv = .slice none 0 0) (hvv : vv = .slice none 0 0)
    (hown : w1.ownsRow B 74 6 (.slice (some ⟨g, 0, none⟩) (os.length + 1) cap) (os.length + 1) (rowCells Ls os ++ roCells ⟨kv, vv⟩ o.o))
    (hloc : lv.ownBlock = some g ∨ w.heap.size ≤ g) {W : World} (hW : w1.setCell ⟨rb, 0, none⟩ (.slice (some ⟨g, 0, none⟩) (os.length + 1) cap) = W) :
    RAt W B rb (.slice (some ⟨g, 0, none⟩) (os.length + 1) cap) (Ls ++ [⟨kv, vv⟩]) (os ++ [o]) ∧ Turn (RFoot rb lv Ls) w W ∧ ∀ k, RFoot rb (.slice (some ⟨g, 0, none⟩) (os.length + 1) cap) (Ls ++ [⟨kv, vv⟩]) k → RFoot rb lv Ls k ∨ w.heap.size ≤ k := by
  subst hW hkv hvv
  have hstay : ∀ k t cs, Blk w k t cs → t ≠ 74 → Blk w1 k t cs := by
    intro k t cs hb ht
    refine (hb.turn hT (fun x => x)).grown hgrow (fun e => ?_)
    obtain ⟨c2, hc2⟩ := own_blk h.row e.symm
    exact ht (hb.eq hc2).1
  have hrb := hstay rb _ _ h.blk (by decide)
  have hgk := own_blk hown (g := g) rfl
  have hne : g ≠ rb := fun e => by
    subst e
    obtain ⟨c, hc⟩ := hgk
    exact absurd (hc.eq hrb).1 (by decide)
  have hlast : ∀ (i : Nat) (M : Ro), (Ls ++ [(⟨.slice none 0 0, .slice none 0 0⟩ : Ro)])[i]? = some M → (i < Ls.length ∧ Ls[i]? = some M) ∨ (i = Ls.length ∧ M = ⟨.slice none 0 0, .slice none 0 0⟩) := by
    intro i M hM
    rcases Nat.lt_or_ge i Ls.length with hi | hi
    · rw [List.getElem?_append_left hi] at hM
      exact .inl ⟨hi, hM⟩
    · rw [List.getElem?_append_right hi] at hM
      have hi0 : i - Ls.length = 0 := by
        have := (List.getElem?_eq_some_iff.1 hM).1
        simp at this
        omega
      rw [hi0] at hM
      simp at hM
      exact .inr ⟨by omega, hM.symm⟩
  have hlen := h.len
  refine ⟨⟨?_, ?_, by simp [hlen], ?_, ?_, h.low⟩, ((hT.mono (fun _ _ x => x.elim)).grown hgrow (fun k _ e => .inr (.inl e))).setCell (fun _ => .inl rfl) _, ?_⟩
  · have := hrb.set_ 0 (.slice (some ⟨g, 0, none⟩) (os.length + 1) cap)
    simpa using this
  · rw [rowCells_snoc _ _ hlen]
    have h1 := own_keep (w' := w1.setCell ⟨rb, 0, none⟩ (.slice (some ⟨g, 0, none⟩) (os.length + 1) cap)) hown (fun k hk => by
      simp [Value.ownBlock] at hk
      subst hk
      exact Below.heap_setCell _ _ _ _ hne)
    simpa using h1
  · intro i M q hM hq
    rcases hlast i M hM with ⟨hi, hM1⟩ | ⟨hi, rfl⟩
    · rw [List.getElem?_append_left (by omega)] at hq
      have hQ := h.obj i M q hM1 hq
      refine hQ.keep (fun k hk => ?_) (fun k hk => ?_)
      · obtain ⟨c, hc⟩ := own_blk hQ.krow hk
        rw [Below.heap_setCell _ _ _ _ (fun e => by
          subst e
          exact absurd (hc.eq h.blk).1 (by decide))]
        exact (hstay k _ _ hc (by decide)).trans hc.symm
      · obtain ⟨c, hc⟩ := own_blk hQ.vrow hk
        rw [Below.heap_setCell _ _ _ _ (fun e => by
          subst e
          exact absurd (hc.eq h.blk).1 (by decide))]
        exact (hstay k _ _ hc (by decide)).trans hc.symm
    · rw [hi, hlen, List.getElem?_append_right (Nat.le_refl _)] at hq
      simp at hq
      subst hq
      refine ⟨by rw [hk]; exact World.ownsRow_nil _ _ _ _, by rw [hk]; exact World.ownsRow_nil _ _ _ _, by rw [hk]; simp, fun x => by rw [hk, hv]; simp⟩
  · intro i j M N hij hM hN
    rcases hlast i M hM with ⟨hi, hM1⟩ | ⟨hi, rfl⟩ <;> rcases hlast j N hN with ⟨hj, hN1⟩ | ⟨hj, rfl⟩
    · exact h.apart i j M N hij hM1 hN1
    · exact ⟨fun g' _ => by simp [Value.ownBlock], fun g' _ => by simp [Value.ownBlock]⟩
    · exact ⟨fun g' hg' => by simp [Value.ownBlock] at hg', fun g' hg' => by simp [Value.ownBlock] at hg'⟩
    · omega
  · rintro k (rfl | hk' | ⟨M, hM, hk'⟩)
    · exact .inl (.inl rfl)
    · simp [Value.ownBlock] at hk'
      subst hk'
      rcases hloc with e | e
      · exact .inl (.inr (.inl e))
      · exact .inr e
    · rcases List.mem_append.1 hM with hM | hM
      · exact .inl (.inr (.inr ⟨M, hM, hk'⟩))
      · simp at hM
        subst hM
        simp [Value.ownBlock] at hk'

end Go.Proofs.Ytbdkbjfaialeoaa
