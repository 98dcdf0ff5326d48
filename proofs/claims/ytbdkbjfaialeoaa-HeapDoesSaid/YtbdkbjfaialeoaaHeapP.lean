/- The walks of package heap: put, Put, New. -/
import Derived.Test.YtbdkbjfaialeoaaHeapX
namespace Go.Proofs.Ytbdkbjfaialeoaa
open Go.RowKit

/-- The blocks of one object. -/
def Own1 (L : Lo) (k : Nat) : Prop := k = L.ob ∨ k = L.mb ∨ L.kv.ownBlock = some k

/-- What a put leaves of one object. -/
def PutAt (w : World) (B : Nat) (L : Lo) (o' : Ob) (e : Ending) (w' : World) : Prop :=
  e = .returned (.tuple #[]) ∧ ∃ kv', ObjAt w' B ⟨L.ob, L.mb, kv'⟩ o' ∧ Turn (Own1 L) w w' ∧ (kv'.ownBlock = L.kv.ownBlock ∨ ∃ g, kv'.ownBlock = some g ∧ w.heap.size ≤ g)

theorem info_str : (Try.prog.info? 9).map (fun i => (i.zero, i.size, i.bytes)) = some (some (.string ⟨#[]⟩), 1, 16) := by kernel_rfl

theorem alloc3_last (w : World) (a b c : Obj) : (((w.alloc a).alloc b).alloc c).heap[w.heap.size + 1 + 1]? = some c := by
  have := heap_alloc_new ((w.alloc a).alloc b) c
  simpa using this
theorem alloc3_old (w : World) (a b c : Obj) (k : Nat) (hk : k < w.heap.size) : (((w.alloc a).alloc b).alloc c).heap[k]? = w.heap[k]? := by
  rw [Below.heap_alloc _ _ _ (by simp; omega), Below.heap_alloc _ _ _ (by simp; omega), Below.heap_alloc _ _ _ hk]
theorem put_blk {w w1 : World} {B : Nat} {L : Lo} {o : Ob} (h : ObjAt w B L o) {a b c : Obj} (hg : (((w.alloc a).alloc b).alloc c).grownBy w1 L.kv.ownBlock) : Blk w1 L.ob 69 (obCells L o) := by
  refine Blk.grown (h.blk.keep (alloc3_old w a b c L.ob h.blk.lt)) hg (fun e => ?_)
  obtain ⟨c1, hc1⟩ := own_blk h.row e.symm
  exact absurd (h.blk.eq hc1).1 (by decide)

theorem put_mid {w w1 w2 : World} {B : Nat} {L : Lo} {o : Ob} {g cap : Nat} {key : ByteArray} {v : Vl} {b c : Obj} (h : ObjAt w B L o)
    (hg : (((w.alloc (.cells #[.int .i64 v.kind, .int .i64 v.n, .string v.s] 33)).alloc b).alloc c).grownBy w1 L.kv.ownBlock)
    (hown : w1.ownsRow B 9 1 (.slice (some ⟨g, 0, none⟩) (o.keys.length + 1) cap) (o.keys.length + 1) (o.keys.map Value.string ++ [.string key]))
    (hat : L.kv.ownBlock = some g ∨ g = w.heap.size + 1 + 1 + 1) (hw2 : w1.setCell ⟨L.ob, 4, none⟩ (.slice (some ⟨g, 0, none⟩) (o.keys.length + 1) cap) = w2) :
    Blk w2 L.ob 69 (obCells ⟨L.ob, L.mb, .slice (some ⟨g, 0, none⟩) (o.keys.length + 1) cap⟩ o) ∧ VMap Try.prog 9 w2 L.mb o.keys.length (fun s => (o.vals s).map Vl.val) ∧
    Blk w2 w.heap.size 33 #[.int .i64 v.kind, .int .i64 v.n, .string v.s] ∧
    w2.ownsRow B 9 1 (.slice (some ⟨g, 0, none⟩) (o.keys.length + 1) cap) (o.keys.length + 1) (o.keys.map Value.string ++ [.string key]) ∧ Turn (Own1 L) w w2 := by
  have hb1 := put_blk h hg
  have hlo := h.blk.lt
  have hlm := h.map.lt
  obtain ⟨cur, hcur⟩ := own_blk hown (g := g) rfl
  have hgo : g ≠ L.ob := fun e => by subst e; exact absurd (hcur.eq hb1).1 (by decide)
  have hkm : ∀ k, k < w.heap.size + 1 → k ≠ L.ob → some k ≠ L.kv.ownBlock → w2.heap[k]? = (((w.alloc (.cells #[.int .i64 v.kind, .int .i64 v.n, .string v.s] 33)).alloc b).alloc c).heap[k]? := by
    intro k hk hko hne
    rw [← hw2, Below.heap_setCell _ _ _ _ hko, hg.block k (by simp; omega) hne]
  refine ⟨?_, ?_, ?_, ?_, ?_⟩
  · rw [← hw2]
    exact hb1.set_ 4 _
  · refine h.map.keep ?_
    obtain ⟨es, clock, hm⟩ := h.map.isMap
    rw [hkm L.mb (by omega) (fun e => ?_) (fun e => ?_), alloc3_old w _ _ _ _ hlm]
    · have h1 := h.blk
      unfold Blk at h1
      rw [← e, hm] at h1
      cases h1
    · obtain ⟨c1, hc1⟩ := own_blk h.row e.symm
      unfold Blk at hc1
      rw [hm] at hc1
      cases hc1
  · have h1 := ((Blk.new w 33 #[.int .i64 v.kind, .int .i64 v.n, .string v.s]).alloc b).alloc c
    refine h1.keep (hkm _ (by omega) (by omega) (fun e => ?_))
    have := (h.row.lt _ e.symm).2
    omega
  · refine own_keep hown (fun k hk => ?_)
    simp [Value.ownBlock] at hk
    subst hk
    rw [← hw2, Below.heap_setCell _ _ _ _ hgo]
  · rw [← hw2]
    have h1 : Turn (Own1 L) w (((w.alloc (.cells #[.int .i64 v.kind, .int .i64 v.n, .string v.s] 33)).alloc b).alloc c) := (((Turn.refl _ w).alloc _).alloc _).alloc _
    exact (h1.grown hg (fun k _ e => .inr (.inr e))).setCell (fun _ => .inl rfl) _

theorem put_end {w w2 w3 : World} {B : Nat} {L : Lo} {o : Ob} {key : ByteArray} {v : Vl} {kv : Value} {xs : List ByteArray} (h : ObjAt w B L o) (hm2 : ∃ es clock, w2.heap[L.mb]? = some (.map es clock))
    (hv : xs = o.keys ++ [key] ∧ o.vals key.data.toList = none ∨ xs = o.keys ∧ (o.vals key.data.toList).isSome = true)
    (hb : Blk w2 L.ob 69 (obCells ⟨L.ob, L.mb, kv⟩ o)) (hr : w2.ownsRow B 9 1 kv xs.length (xs.map Value.string)) (hT : Turn (Own1 L) w w2)
    (hm : VMap Try.prog 9 w3 L.mb (if ((o.vals key.data.toList).map Vl.val).isSome then o.keys.length else o.keys.length + 1) (fun x => if x = key.data.toList then some (.agg #[.int .i64 v.kind, .int .i64 v.n, .string v.s]) else (o.vals x).map Vl.val))
    (hg : w2.drew.grownBy w3 (some L.mb)) (hat : kv.ownBlock = L.kv.ownBlock ∨ ∃ g, kv.ownBlock = some g ∧ w.heap.size ≤ g) : PutAt w B L (o.put key v) (.returned (.tuple #[])) w3 := by
  have hlm : L.mb < w2.heap.size := Nat.lt_of_lt_of_le h.map.lt hT.size
  obtain ⟨es, clock, hmm⟩ := hm.isMap
  have hxk : (o.put key v).keys = xs := by
    unfold Ob.put
    rcases hv with ⟨rfl, hn⟩ | ⟨rfl, hs⟩
    · simp [hn]
    · simp [hs]
  have hne : L.ob ≠ L.mb := by
    intro e
    obtain ⟨es, clock, hm0⟩ := h.map.isMap
    have h1 := h.blk
    unfold Blk at h1
    rw [e, hm0] at h1
    cases h1
  refine ⟨rfl, kv, ⟨?_, ?_, ?_, h.low⟩, ?_, hat⟩
  · exact (hb.keep (w' := w2.drew) rfl).grown hg (fun e => hne (by injection e))
  · rw [hxk]
    refine own_keep hr (fun k hk => ?_)
    refine hg.block k (hr.lt k hk).2 (fun e => ?_)
    injection e with e
    subst e
    obtain ⟨c1, hc1⟩ := own_blk hr hk
    obtain ⟨es2, clock2, hm2⟩ := hm2
    unfold Blk at hc1
    rw [hm2] at hc1
    cases hc1
  · rw [hxk]
    have e1 : (fun x => if x = key.data.toList then some (Value.agg #[.int .i64 v.kind, .int .i64 v.n, .string v.s]) else (o.vals x).map Vl.val) = fun s => ((o.put key v).vals s).map Vl.val := by
      funext x
      unfold Ob.put
      by_cases hx : x = key.data.toList <;> simp [hx, Vl.val]
    rw [← e1]
    refine hm.mono ?_
    rcases hv with ⟨rfl, hn⟩ | ⟨rfl, hs⟩
    · simp [hn]
    · simp [hs]
  · exact hT.trans (G := fun k => k = L.mb) ⟨hg.os, hg.tape, hg.output, hg.size, fun k hk hne => hg.block k hk (fun e => hne (by injection e))⟩ (fun i _ e => .inr (.inl e))

set_option maxHeartbeats 1000000 in
theorem put_calls (w : World) (B : Nat) (L : Lo) (o : Ob) (key : ByteArray) (v : Vl) (hO : ObjAt w B L o) (hB : B ≤ w.heap.size) (hk : key.size ≤ maxLen) (hn : o.keys.length ≤ 100000) :
    Calls Try.prog 29 #[.pointer (some ⟨L.ob, 0, none⟩), .string key, .agg #[.int .i64 v.kind, .int .i64 v.n, .string v.s]] w (PutAt w B L (o.put key v)) := by
  obtain ⟨i0, hi0, hz0, hz1, hz2⟩ := info_parts info_str
  have hlo : L.ob < w.heap.size := hO.blk.lt
  have hlm : L.mb < w.heap.size := hO.map.lt
  have hcm : w.cell? ⟨L.ob, 5, none⟩ = some (.map (some L.mb)) := by rw [hO.blk.cell]; rfl
  have hck : w.cell? ⟨L.ob, 4, none⟩ = some L.kv := by rw [hO.blk.cell]; rfl
  have hfk : w.frozen? ⟨L.ob, 4, none⟩ = false := hO.blk.frozen 4
  have hlk := (hO.map.keep (Below.heap_alloc w (.cells #[.int .i64 v.kind, .int .i64 v.n, .string v.s] 33) _ hO.map.lt)).look Try.underlying9 Try.underlying67 (zero_val _) hk
  cases hv : o.vals key.data.toList with
  | none =>
    simp only [hv, Option.map_none, Option.getD_none, Option.isSome_none, zeroVal] at hlk
    have HV := Lib.hid hv
    have HO := Lib.hid hO
    clear hv hO
    go_enter Try.func29, Try.ntmps29
    go_wp2_with (at_builtin; refine wpList_append_lies _ rfl _ _ 38 rfl B 9 i0 _ 1 16 Try.underlying38 hi0 hz0 hz1 hz2 rfl (by omega) L.kv o.keys.length (o.keys.map Value.string) rfl (((HO.out.row.alloc _).alloc _).alloc _) ⟨w.heap.size + 1 + 1, 0, none⟩ 1 1 [.string key] rfl rfl (World.news_of_block (cs := #[.string key]) (t := 9) (fr := (0, 0)) (alloc3_last w _ _ _)) (by simp [Value.oneCell']) (by omega) (by simp only [maxLen]; omega) (by omega) (by simp; omega) (w.heap.size + 1 + 1 + 1) (by simp) ?_; intro g cap w1 hown1 hgrow1 hat1 hlt1; have hc4 : w1.cell? ⟨L.ob, 4, none⟩ = some L.kv := (put_blk HO.out hgrow1).cell 4; have hf4 : w1.frozen? ⟨L.ob, 4, none⟩ = false := (put_blk HO.out hgrow1).frozen 4)
    obtain ⟨w2, hw2⟩ : ∃ w2, w1.setCell ⟨L.ob, 4, none⟩ (.slice (some ⟨g, 0, none⟩) (o.keys.length + 1) cap) = w2 := ⟨_, rfl⟩
    obtain ⟨hb2, hm2, hx2, hr2, hT2⟩ := put_mid HO.out hgrow1 hown1 hat1 hw2
    obtain ⟨w3, hrun, hm3, hg3⟩ := VMap.store (w := w2.drew) hm2 Try.underlying9 Try.underlying67 (by simp only [maxLen]; omega) hk (.agg #[.int .i64 v.kind, .int .i64 v.n, .string v.s])
    have hc5 : w2.cell? ⟨L.ob, 5, none⟩ = some (.map (some L.mb)) := hb2.cell 5
    have hx0 : w2.cell? ⟨w.heap.size, 0, none⟩ = some (.int .i64 v.kind) := hx2.cell 0
    have hx1 : w2.cell? ⟨w.heap.size, 1, none⟩ = some (.int .i64 v.n) := hx2.cell 1
    have hx3 : w2.cell? ⟨w.heap.size, 2, none⟩ = some (.string v.s) := hx2.cell 2
    rw [hw2]
    clear hw2 hc4 hf4 hcm hck hfk hlk
    have HM := Lib.hid hm3
    clear hm3
    go_region
    go_end0
    exact put_end (xs := o.keys ++ [key]) HO.out hm2.isMap (Or.inl ⟨rfl, HV.out⟩) hb2 (by simpa using hr2) hT2 HM.out hg3 (hat1.elim (fun e => .inl e.symm) (fun e => .inr ⟨g, rfl, by omega⟩))
  | some u =>
    simp only [hv, Option.map_some, Option.getD_some, Option.isSome_some, Vl.val] at hlk
    have HV : Hid ((o.vals key.data.toList).isSome = true) := by rw [hv]; rfl
    have HO := Lib.hid hO
    clear hv hO
    go_enter Try.func29, Try.ntmps29
    go_wp2
    obtain ⟨w2, hw2⟩ : ∃ w2, (w.alloc (.cells #[.int .i64 v.kind, .int .i64 v.n, .string v.s] 33)).alloc (.cells #[.int .i64 u.kind, .int .i64 u.n, .string u.s] 33) = w2 := ⟨_, rfl⟩
    have hold : ∀ k, k < w.heap.size → w2.heap[k]? = w.heap[k]? := fun k hk => by
      rw [← hw2, Below.heap_alloc _ _ _ (by simp; omega), Below.heap_alloc _ _ _ hk]
    have hb2 := HO.out.blk.keep (hold _ hlo)
    have hm2 := HO.out.map.keep (hold _ hlm)
    have hr2 := own_keep HO.out.row (fun g hg => hold g (HO.out.row.lt g hg).2)
    have hT2 : Turn (Own1 L) w w2 := by rw [← hw2]; exact ((Turn.refl _ w).alloc _).alloc _
    have hx2 : Blk w2 w.heap.size 33 #[.int .i64 v.kind, .int .i64 v.n, .string v.s] := by rw [← hw2]; exact (Blk.new w _ _).alloc _
    clear hold
    obtain ⟨w3, hrun, hm3, hg3⟩ := VMap.store (w := w2.drew) hm2 Try.underlying9 Try.underlying67 (by simp only [maxLen]; omega) hk (.agg #[.int .i64 v.kind, .int .i64 v.n, .string v.s])
    have hc5 : w2.cell? ⟨L.ob, 5, none⟩ = some (.map (some L.mb)) := hb2.cell 5
    have hx0 : w2.cell? ⟨w.heap.size, 0, none⟩ = some (.int .i64 v.kind) := hx2.cell 0
    have hx1 : w2.cell? ⟨w.heap.size, 1, none⟩ = some (.int .i64 v.n) := hx2.cell 1
    have hx3 : w2.cell? ⟨w.heap.size, 2, none⟩ = some (.string v.s) := hx2.cell 2
    rw [hw2]
    clear hw2 hcm hck hfk hlk
    have HM := Lib.hid hm3
    clear hm3
    go_region
    go_end0
    exact put_end (xs := o.keys) HO.out hm2.isMap (Or.inr ⟨rfl, HV.out⟩) hb2 hr2 hT2 HM.out hg3 (.inl rfl)

end Go.Proofs.Ytbdkbjfaialeoaa
