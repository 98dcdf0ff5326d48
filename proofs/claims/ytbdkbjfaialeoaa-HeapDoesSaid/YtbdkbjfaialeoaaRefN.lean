/- The document's heap: New, walked. -/
import Derived.Test.YtbdkbjfaialeoaaRefW
namespace Go.Proofs.Ytbdkbjfaialeoaa
open Go.RowKit Go.Sort

/-- A new thing. -/
theorem RAt.pushO {w w0 w1 : World} {B rb : Nat} {lv : Value} {Ls : List Ro} {os : List Ob} (h : RAt w B rb lv Ls os) (o : Ob) {kv vv : Value} {g cap : Nat}
    (hT : Turn (fun _ => False) w w0) (hgrow : w0.grownBy w1 lv.ownBlock) (hkv : ∀ g, kv.ownBlock = some g → w.heap.size ≤ g) (hvv : ∀ g, vv.ownBlock = some g → w.heap.size ≤ g)
    (hown : w1.ownsRow B 74 6 (.slice (some ⟨g, 0, none⟩) (os.length + 1) cap) (os.length + 1) (rowCells Ls os ++ roCells ⟨kv, vv⟩ o.o))
    (hloc : lv.ownBlock = some g ∨ w.heap.size ≤ g) {W : World} (hW : w1.setCell ⟨rb, 0, none⟩ (.slice (some ⟨g, 0, none⟩) (os.length + 1) cap) = W) (hobj : RObj W B ⟨kv, vv⟩ o) :
    RAt W B rb (.slice (some ⟨g, 0, none⟩) (os.length + 1) cap) (Ls ++ [⟨kv, vv⟩]) (os ++ [o]) ∧ Turn (RFoot rb lv Ls) w W ∧ ∀ k, RFoot rb (.slice (some ⟨g, 0, none⟩) (os.length + 1) cap) (Ls ++ [⟨kv, vv⟩]) k → RFoot rb lv Ls k ∨ w.heap.size ≤ k := by
  subst hW
  have hstay : ∀ k t cs, Blk w k t cs → t ≠ 74 → Blk w1 k t cs := by
    intro k t cs hb ht
    refine (hb.turn hT (fun x => x)).grown hgrow (fun e => ?_)
    obtain ⟨c2, hc2⟩ := own_blk h.row e.symm
    exact ht (hb.eq hc2).1
  have hrb := hstay rb _ _ h.blk (by decide)
  have hgk := own_blk hown (g := g) rfl
  have hne : g ≠ rb := fun e => by
    subst e
    obtain ⟨c, hc⟩ := hgk
    exact absurd (hc.eq hrb).1 (by decide)
  have hlast : ∀ (i : Nat) (M : Ro), (Ls ++ [(⟨kv, vv⟩ : Ro)])[i]? = some M → (i < Ls.length ∧ Ls[i]? = some M) ∨ (i = Ls.length ∧ M = ⟨kv, vv⟩) := by
    intro i M hM
    rcases Nat.lt_or_ge i Ls.length with hi | hi
    · rw [List.getElem?_append_left hi] at hM
      exact .inl ⟨hi, hM⟩
    · rw [List.getElem?_append_right hi] at hM
      have hi0 : i - Ls.length = 0 := by
        have := (List.getElem?_eq_some_iff.1 hM).1
        simp at this
        omega
      rw [hi0] at hM
      simp at hM
      exact .inr ⟨by omega, hM.symm⟩
  have hlen := h.len
  refine ⟨⟨?_, ?_, by simp [hlen], ?_, ?_, h.low⟩, ((hT.mono (fun _ _ x => x.elim)).grown hgrow (fun k _ e => .inr (.inl e))).setCell (fun _ => .inl rfl) _, ?_⟩
  · have := hrb.set_ 0 (.slice (some ⟨g, 0, none⟩) (os.length + 1) cap)
    simpa using this
  · rw [rowCells_snoc _ _ hlen]
    have h1 := own_keep (w' := w1.setCell ⟨rb, 0, none⟩ (.slice (some ⟨g, 0, none⟩) (os.length + 1) cap)) hown (fun k hk => by
      simp [Value.ownBlock] at hk
      subst hk
      exact Below.heap_setCell _ _ _ _ hne)
    simpa using h1
  · intro i M q hM hq
    rcases hlast i M hM with ⟨hi, hM1⟩ | ⟨hi, rfl⟩
    · rw [List.getElem?_append_left (by omega)] at hq
      have hQ := h.obj i M q hM1 hq
      refine hQ.keep (fun k hk => ?_) (fun k hk => ?_)
      · obtain ⟨c, hc⟩ := own_blk hQ.krow hk
        rw [Below.heap_setCell _ _ _ _ (fun e => by
          subst e
          exact absurd (hc.eq h.blk).1 (by decide))]
        exact (hstay k _ _ hc (by decide)).trans hc.symm
      · obtain ⟨c, hc⟩ := own_blk hQ.vrow hk
        rw [Below.heap_setCell _ _ _ _ (fun e => by
          subst e
          exact absurd (hc.eq h.blk).1 (by decide))]
        exact (hstay k _ _ hc (by decide)).trans hc.symm
    · rw [hi, hlen, List.getElem?_append_right (Nat.le_refl _)] at hq
      simp at hq
      subst hq
      exact hobj
  · intro i j M N hij hM hN
    rcases hlast i M hM with ⟨hi, hM1⟩ | ⟨hi, rfl⟩ <;> rcases hlast j N hN with ⟨hj, hN1⟩ | ⟨hj, rfl⟩
    · exact h.apart i j M N hij hM1 hN1
    · obtain ⟨i', q, hM', hq, hQ⟩ := h.at_ (List.mem_of_getElem? hM1)
      exact ⟨fun g' h1 h2 => by have := (hQ.krow.lt g' h1).2; have := hkv g' h2; omega, fun g' h1 h2 => by have := (hQ.vrow.lt g' h1).2; have := hvv g' h2; omega⟩
    · obtain ⟨i', q, hM', hq, hQ⟩ := h.at_ (List.mem_of_getElem? hN1)
      exact ⟨fun g' h1 h2 => by have := (hQ.krow.lt g' h2).2; have := hkv g' h1; omega, fun g' h1 h2 => by have := (hQ.vrow.lt g' h2).2; have := hvv g' h1; omega⟩
    · omega
  · rintro k (rfl | hk' | ⟨M, hM, hk'⟩)
    · exact .inl (.inl rfl)
    · simp [Value.ownBlock] at hk'
      subst hk'
      rcases hloc with e | e
      · exact .inl (.inr (.inl e))
      · exact .inr e
    · rcases List.mem_append.1 hM with hM | hM
      · exact .inl (.inr (.inr ⟨M, hM, hk'⟩))
      · simp at hM
        subst hM
        rcases hk' with e | e
        · exact .inr (hkv k e)
        · exact .inr (hvv k e)

theorem RObj.empty (w : World) (B : Nat) (o : Ox) : RObj w B ⟨.slice none 0 0, .slice none 0 0⟩ (Ob.fresh o) :=
  ⟨World.ownsRow_nil _ _ _ _, World.ownsRow_nil _ _ _ _, by simp [Ob.fresh], fun x => by simp [Ob.fresh]⟩

theorem ob1_vals (x : ByteArray) : ob1.vals x.data.toList = if x = kApply then some ⟨5, 3, ⟨#[]⟩⟩ else if x = kCall then some ⟨5, 2, ⟨#[]⟩⟩ else none := by
  have h : ∀ y : ByteArray, (x.data.toList = y.data.toList) ↔ x = y := fun y => ⟨fun e => Go.WideShapes.bytes_inj e, fun e => by rw [e]⟩
  show (if x.data.toList = kApply.data.toList then some (⟨5, 3, noS⟩ : Vl) else if x.data.toList = kCall.data.toList then some ⟨5, 2, noS⟩ else none) = _
  simp only [h]
  rfl
theorem ob1_has (x : ByteArray) : (ob1.vals x.data.toList).isSome = true ↔ x ∈ [kCall, kApply] := by
  have hne : kCall ≠ kApply := by decide
  rw [ob1_vals]
  by_cases h1 : x = kApply
  · simp [h1]
  · by_cases h2 : x = kCall
    · simp [h2, hne]
    · simp [h1, h2]
theorem ob1_keys : ob1.keys = [kCall, kApply] := by decide
theorem ob1_cells : valsOf ob1 ob1.keys = [.int .i64 5, .int .i64 2, .string ⟨#[]⟩, .int .i64 5, .int .i64 3, .string ⟨#[]⟩] := by
  rw [ob1_keys]
  have hne : kCall ≠ kApply := by decide
  simp [valsOf, valAt, ob1_vals, hne, Vl.cells]

theorem own_of_blk {w : World} {g B n size : Nat} {e : TypeId} {cs : Array Value} (h : Blk w g e cs) (hB : B ≤ g) (hs : cs.size = n * size) (hn : n ≤ maxLen) : w.ownsRow B e size (.slice (some ⟨g, 0, none⟩) n n) n cs.toList :=
  ⟨by simpa using hs, .inr ⟨g, n, cs, rfl, hB, h, Nat.le_refl _, hn, hs, by rw [← hs, ← Array.length_toList, List.take_length]⟩⟩
theorem alloc3_lastN (w : World) (a b c : Obj) : (((w.alloc a).alloc b).alloc c).heap[w.heap.size + 1 + 1]? = some c := by
  have := heap_alloc_new ((w.alloc a).alloc b) c
  simpa using this

def RMade (w w' : World) : Prop := ∃ F, RHp w' w.heap.size w.heap.size F first4 ∧ Below w.heap.size w w' ∧ ∀ k, F k → w.heap.size ≤ k

/-- New, between two of its appends. -/
structure RNew (w W : World) (lv : Value) (Ls : List Ro) (os : List Ob) : Prop where
  hat : RAt W w.heap.size w.heap.size lv Ls os
  bel : Below w.heap.size w W
theorem RNew.next {w W w0 w1 : World} {lv : Value} {Ls : List Ro} {os : List Ob} (h : RNew w W lv Ls os) (o : Ob) {kv vv : Value} {g cap : Nat} (hT : Turn (fun _ => False) W w0) (hgrow : w0.grownBy w1 lv.ownBlock)
    (hkv : ∀ g, kv.ownBlock = some g → W.heap.size ≤ g) (hvv : ∀ g, vv.ownBlock = some g → W.heap.size ≤ g)
    (hown : w1.ownsRow w.heap.size 74 6 (.slice (some ⟨g, 0, none⟩) (os.length + 1) cap) (os.length + 1) (rowCells Ls os ++ roCells ⟨kv, vv⟩ o.o))
    (hloc : lv.ownBlock = some g ∨ W.heap.size ≤ g) (hobj : RObj (w1.setCell ⟨w.heap.size, 0, none⟩ (.slice (some ⟨g, 0, none⟩) (os.length + 1) cap)) w.heap.size ⟨kv, vv⟩ o) :
    RNew w (w1.setCell ⟨w.heap.size, 0, none⟩ (.slice (some ⟨g, 0, none⟩) (os.length + 1) cap)) (.slice (some ⟨g, 0, none⟩) (os.length + 1) cap) (Ls ++ [⟨kv, vv⟩]) (os ++ [o]) := by
  obtain ⟨h1, h2, _⟩ := RAt.pushO h.hat o hT hgrow hkv hvv hown hloc rfl hobj
  exact ⟨h1, h.bel.trans (h2.below h.bel.size (fun k hk => (h.hat.foot k hk).1))⟩
theorem RNew.box {w W w0 w1 : World} {lv : Value} {Ls : List Ro} {os : List Ob} (h : RNew w W lv Ls os) (hT : Turn (fun _ => False) W w0) (hgrow : w0.grownBy w1 lv.ownBlock) : Blk w1 w.heap.size 56 #[lv] := rblk h.hat hT hgrow
theorem RNew.empty (w : World) : RNew w (w.alloc (.cells #[.slice none 0 0] 56)) (.slice none 0 0) [] [] :=
  ⟨⟨Blk.new _ _ _, World.ownsRow_nil _ _ _ _, rfl, fun i L o hL => by simp at hL, fun i j L M _ hL => by simp at hL, Nat.le_refl _⟩, (Below.refl _ _).alloc (Nat.le_refl _) _⟩

set_option maxRecDepth 100000 in
set_option maxHeartbeats 4000000 in
theorem rnew_calls (w : World) : Calls Try.prog 23 #[] w fun e w' => e = .returned (.pointer (some ⟨w.heap.size, 0, none⟩)) ∧ RMade w w' := by
  obtain ⟨i0, hi0, hz0, hz1, hz2⟩ := info_parts info_thing
  have H0 := Lib.hid (RNew.empty w)
  go_enter Try.func23, Try.ntmps23
  go_wp2_with (at_builtin; refine wpList_append_lies _ rfl _ _ 54 rfl w.heap.size 74 i0 _ 6 80 Try.underlying54 hi0 hz0 hz1 hz2 rfl (by omega) (.slice none 0 0) 0 [] rfl (World.ownsRow_nil _ _ _ _) ⟨w.heap.size + 1, 0, none⟩ 1 1 [.int .i64 0, .int .i64 (-1), .int .i64 0, .int .i64 0, .slice none 0 0, .slice none 0 0] rfl rfl (World.news_of_block (cs := #[.int .i64 0, .int .i64 (-1), .int .i64 0, .int .i64 0, .slice none 0 0, .slice none 0 0]) (t := 74) (fr := (0, 0)) (alloc2_last w _ _)) (by simp [Value.oneCell']) (by omega) (by simp only [maxLen]; omega) (by omega) (by simp; omega) (w.heap.size + 1 + 1) (by simp) ?_)
  intro g1 cap1 w1 hown1 hgrow1 hat1 hlt1
  have hT1 : Hid (Turn (fun _ => False) (w.alloc (.cells #[.slice none 0 0] 56)) ((w.alloc (.cells #[.slice none 0 0] 56)).alloc (.cells #[.int .i64 0, .int .i64 (-1), .int .i64 0, .int .i64 0, .slice none 0 0, .slice none 0 0] 74))) := (Turn.refl _ _).alloc _
  have hb1 := H0.out.box hT1.out hgrow1
  have c1 := hb1.cell 0
  have f1 := hb1.frozen 0
  have H1 := Lib.hid (H0.out.next (Ob.fresh ⟨0, -1, 0, 0⟩) hT1.out hgrow1 (by simp [Value.ownBlock]) (by simp [Value.ownBlock]) hown1 (hat1.imp id (fun e => by rw [e]; simp)) (RObj.empty _ _ _))
  have hlb := hb1.lt
  clear hb1 hown1 hgrow1 hat1 hT1 H0
  go_wp2_with (at_builtin; refine wpList_append_lies _ rfl _ _ 54 rfl w.heap.size 74 i0 _ 6 80 Try.underlying54 hi0 hz0 hz1 hz2 rfl (by omega) (.slice (some ⟨g1, 0, none⟩) 1 cap1) 1 _ rfl (((H1.out.hat.row.alloc _).alloc _).alloc _) ⟨w1.heap.size + 1 + 1, 0, none⟩ 1 1 [.int .i64 1, .int .i64 0, .int .i64 0, .int .i64 0, .slice (some ⟨w1.heap.size, 0, none⟩) 2 2, .slice (some ⟨w1.heap.size + 1, 0, none⟩) 2 2] rfl rfl (World.news_of_block (cs := #[.int .i64 1, .int .i64 0, .int .i64 0, .int .i64 0, .slice (some ⟨w1.heap.size, 0, none⟩) 2 2, .slice (some ⟨w1.heap.size + 1, 0, none⟩) 2 2]) (t := 74) (fr := (0, 0)) (by have := alloc3_lastN (w1.setCell ⟨w.heap.size, 0, none⟩ (.slice (some ⟨g1, 0, none⟩) 1 cap1)) (.cells #[.string ⟨#[99, 97, 108, 108]⟩, .string ⟨#[97, 112, 112, 108, 121]⟩] 9) (.cells #[.int .i64 5, .int .i64 2, .string ⟨#[]⟩, .int .i64 5, .int .i64 3, .string ⟨#[]⟩] 33) (.cells #[.int .i64 1, .int .i64 0, .int .i64 0, .int .i64 0, .slice (some ⟨w1.heap.size, 0, none⟩) 2 2, .slice (some ⟨w1.heap.size + 1, 0, none⟩) 2 2] 74); simpa [World.setCell] using this)) (by simp [Value.oneCell']) (by omega) (by simp only [maxLen]; omega) (by omega) (by have := H1.out.bel.size; simp [World.setCell] at this ⊢; omega) (w1.heap.size + 1 + 1 + 1) (by simp [World.setCell]) ?_)
  intro g2 cap2 w2 hown2 hgrow2 hat2 hlt2
  have e1 : (w1.setCell ⟨w.heap.size, 0, none⟩ (.slice (some ⟨g1, 0, none⟩) 1 cap1)).heap.size = w1.heap.size := by simp [World.setCell]
  have hT2 : Hid (Turn (fun _ => False) (w1.setCell ⟨w.heap.size, 0, none⟩ (.slice (some ⟨g1, 0, none⟩) 1 cap1)) ((((w1.setCell ⟨w.heap.size, 0, none⟩ (.slice (some ⟨g1, 0, none⟩) 1 cap1)).alloc (.cells #[.string ⟨#[99, 97, 108, 108]⟩, .string ⟨#[97, 112, 112, 108, 121]⟩] 9)).alloc (.cells #[.int .i64 5, .int .i64 2, .string ⟨#[]⟩, .int .i64 5, .int .i64 3, .string ⟨#[]⟩] 33)).alloc (.cells #[.int .i64 1, .int .i64 0, .int .i64 0, .int .i64 0, .slice (some ⟨w1.heap.size, 0, none⟩) 2 2, .slice (some ⟨w1.heap.size + 1, 0, none⟩) 2 2] 74))) := (((Turn.refl _ _).alloc _).alloc _).alloc _
  have hb2 := H1.out.box hT2.out hgrow2
  have c2 := hb2.cell 0
  have f2 := hb2.frozen 0
  have hS := ((Blk.new (w1.setCell ⟨w.heap.size, 0, none⟩ (.slice (some ⟨g1, 0, none⟩) 1 cap1)) 9 #[.string ⟨#[99, 97, 108, 108]⟩, .string ⟨#[97, 112, 112, 108, 121]⟩]).alloc (.cells #[.int .i64 5, .int .i64 2, .string ⟨#[]⟩, .int .i64 5, .int .i64 3, .string ⟨#[]⟩] 33)).alloc (.cells #[.int .i64 1, .int .i64 0, .int .i64 0, .int .i64 0, .slice (some ⟨w1.heap.size, 0, none⟩) 2 2, .slice (some ⟨w1.heap.size + 1, 0, none⟩) 2 2] 74)
  have hV := (Blk.new ((w1.setCell ⟨w.heap.size, 0, none⟩ (.slice (some ⟨g1, 0, none⟩) 1 cap1)).alloc (.cells #[.string ⟨#[99, 97, 108, 108]⟩, .string ⟨#[97, 112, 112, 108, 121]⟩] 9)) 33 #[.int .i64 5, .int .i64 2, .string ⟨#[]⟩, .int .i64 5, .int .i64 3, .string ⟨#[]⟩]).alloc (.cells #[.int .i64 1, .int .i64 0, .int .i64 0, .int .i64 0, .slice (some ⟨w1.heap.size, 0, none⟩) 2 2, .slice (some ⟨w1.heap.size + 1, 0, none⟩) 2 2] 74)
  rw [World.size_alloc] at hV
  rw [e1] at hS hV
  have hS2 := (hS.grown hgrow2 (by simp [Value.ownBlock]; omega)).far (p := ⟨w.heap.size, 0, none⟩) (by show w1.heap.size ≠ w.heap.size; omega) (.slice (some ⟨g2, 0, none⟩) 2 cap2)
  have hV2 := (hV.grown hgrow2 (by simp [Value.ownBlock]; omega)).far (p := ⟨w.heap.size, 0, none⟩) (by show w1.heap.size + 1 ≠ w.heap.size; omega) (.slice (some ⟨g2, 0, none⟩) 2 cap2)
  have hRO : RObj (w2.setCell ⟨w.heap.size, 0, none⟩ (.slice (some ⟨g2, 0, none⟩) 2 cap2)) w.heap.size ⟨.slice (some ⟨w1.heap.size, 0, none⟩) 2 2, .slice (some ⟨w1.heap.size + 1, 0, none⟩) 2 2⟩ ob1 := by
    have k1 := own_of_blk (n := 2) (size := 1) (B := w.heap.size) hS2 (by omega) rfl (by simp [maxLen])
    have k2 := own_of_blk (n := 2) (size := 3) (B := w.heap.size) hV2 (by omega) rfl (by simp [maxLen])
    refine ⟨?_, ?_, ?_, ?_⟩
    · rw [ob1_keys]; exact k1
    · rw [ob1_cells, ob1_keys]; exact k2
    · rw [ob1_keys]; decide
    · intro x
      rw [ob1_keys]
      exact ob1_has x
  have H2 := Lib.hid (H1.out.next ob1 (kv := .slice (some ⟨w1.heap.size, 0, none⟩) 2 2) (vv := .slice (some ⟨w1.heap.size + 1, 0, none⟩) 2 2) hT2.out hgrow2 (by intro g hg; simp [Value.ownBlock] at hg; exact Nat.le_trans (Nat.le_of_eq e1) (by omega)) (by intro g hg; simp [Value.ownBlock] at hg; exact Nat.le_trans (Nat.le_of_eq e1) (by omega)) hown2 (hat2.imp id (fun e => by rw [e, List.length_nil, Nat.zero_add, e1]; omega)) hRO)
  clear hb2 hown2 hgrow2 hat2 hT2 H1 hS hV hS2 hV2 hRO c1 f1 e1
  go_wp2_with (at_builtin; refine wpList_append_lies _ rfl _ _ 54 rfl w.heap.size 74 i0 _ 6 80 Try.underlying54 hi0 hz0 hz1 hz2 rfl (by omega) (.slice (some ⟨g2, 0, none⟩) 2 cap2) 2 _ rfl (H2.out.hat.row.alloc _) ⟨w2.heap.size, 0, none⟩ 1 1 [.int .i64 2, .int .i64 1, .int .i64 (-1), .int .i64 0, .slice none 0 0, .slice none 0 0] rfl rfl (World.news_of_block (cs := #[.int .i64 2, .int .i64 1, .int .i64 (-1), .int .i64 0, .slice none 0 0, .slice none 0 0]) (t := 74) (fr := (0, 0)) (by have := Blk.new (w2.setCell ⟨w.heap.size, 0, none⟩ (.slice (some ⟨g2, 0, none⟩) 2 cap2)) 74 #[.int .i64 2, .int .i64 1, .int .i64 (-1), .int .i64 0, .slice none 0 0, .slice none 0 0]; simpa [World.setCell, Blk] using this)) (by simp [Value.oneCell']) (by omega) (by simp only [maxLen]; omega) (by omega) (by have := H2.out.bel.size; simp [World.setCell] at this ⊢; omega) (w2.heap.size + 1) (by simp [World.setCell]) ?_)
  intro g3 cap3 w3 hown3 hgrow3 hat3 hlt3
  have e1 : (w2.setCell ⟨w.heap.size, 0, none⟩ (.slice (some ⟨g2, 0, none⟩) 2 cap2)).heap.size = w2.heap.size := by simp [World.setCell]
  have hT : Hid (Turn (fun _ => False) (w2.setCell ⟨w.heap.size, 0, none⟩ (.slice (some ⟨g2, 0, none⟩) 2 cap2)) ((w2.setCell ⟨w.heap.size, 0, none⟩ (.slice (some ⟨g2, 0, none⟩) 2 cap2)).alloc (.cells #[.int .i64 2, .int .i64 1, .int .i64 (-1), .int .i64 0, .slice none 0 0, .slice none 0 0] 74))) := (Turn.refl _ _).alloc _
  have hb := H2.out.box hT.out hgrow3
  have c3 := hb.cell 0
  have f3 := hb.frozen 0
  have H3 := Lib.hid (H2.out.next (Ob.fresh ⟨2, 1, -1, 0⟩) hT.out hgrow3 (by simp [Value.ownBlock]) (by simp [Value.ownBlock]) hown3 (hat3.imp id (fun e => by rw [e]; exact Nat.le_trans (Nat.le_of_eq e1) (by omega))) (RObj.empty _ _ _))
  clear hb hown3 hgrow3 hat3 hT H2 c2 f2 e1
  go_wp2_with (at_builtin; refine wpList_append_lies _ rfl _ _ 54 rfl w.heap.size 74 i0 _ 6 80 Try.underlying54 hi0 hz0 hz1 hz2 rfl (by omega) (.slice (some ⟨g3, 0, none⟩) 3 cap3) 3 _ rfl (H3.out.hat.row.alloc _) ⟨w3.heap.size, 0, none⟩ 1 1 [.int .i64 3, .int .i64 1, .int .i64 (-2), .int .i64 0, .slice none 0 0, .slice none 0 0] rfl rfl (World.news_of_block (cs := #[.int .i64 3, .int .i64 1, .int .i64 (-2), .int .i64 0, .slice none 0 0, .slice none 0 0]) (t := 74) (fr := (0, 0)) (by have := Blk.new (w3.setCell ⟨w.heap.size, 0, none⟩ (.slice (some ⟨g3, 0, none⟩) 3 cap3)) 74 #[.int .i64 3, .int .i64 1, .int .i64 (-2), .int .i64 0, .slice none 0 0, .slice none 0 0]; simpa [World.setCell, Blk] using this)) (by simp [Value.oneCell']) (by omega) (by simp only [maxLen]; omega) (by omega) (by have := H3.out.bel.size; simp [World.setCell] at this ⊢; omega) (w3.heap.size + 1) (by simp [World.setCell]) ?_)
  intro g4 cap4 w4 hown4 hgrow4 hat4 hlt4
  have e1 : (w3.setCell ⟨w.heap.size, 0, none⟩ (.slice (some ⟨g3, 0, none⟩) 3 cap3)).heap.size = w3.heap.size := by simp [World.setCell]
  have hT : Hid (Turn (fun _ => False) (w3.setCell ⟨w.heap.size, 0, none⟩ (.slice (some ⟨g3, 0, none⟩) 3 cap3)) ((w3.setCell ⟨w.heap.size, 0, none⟩ (.slice (some ⟨g3, 0, none⟩) 3 cap3)).alloc (.cells #[.int .i64 3, .int .i64 1, .int .i64 (-2), .int .i64 0, .slice none 0 0, .slice none 0 0] 74))) := (Turn.refl _ _).alloc _
  have hb := H3.out.box hT.out hgrow4
  have c4 := hb.cell 0
  have f4 := hb.frozen 0
  have H4 := Lib.hid (H3.out.next (Ob.fresh ⟨3, 1, -2, 0⟩) hT.out hgrow4 (by simp [Value.ownBlock]) (by simp [Value.ownBlock]) hown4 (hat4.imp id (fun e => by rw [e]; exact Nat.le_trans (Nat.le_of_eq e1) (by omega))) (RObj.empty _ _ _))
  clear hb hown4 hgrow4 hat4 hT H3 c3 f3 e1
  go_wp2
  go_ret
  exact ⟨rfl, _, ⟨_, _, H4.out.hat, fun _ => Iff.rfl⟩, H4.out.bel, fun k hk => (H4.out.hat.foot k hk).1⟩

end Go.Proofs.Ytbdkbjfaialeoaa
