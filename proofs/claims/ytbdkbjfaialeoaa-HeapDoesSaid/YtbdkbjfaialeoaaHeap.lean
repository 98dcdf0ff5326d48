/- The heap of package heap in memory (Hp), by plain words on worlds: what a new object, a put, a turn elsewhere makes of it. -/
import Derived.Test.YtbdkbjfaialeoaaBase
import Derived.Test.YtbdkbjfaialeoaaRows
import Derived.Deep.AppendLies
namespace Go.Proofs.Ytbdkbjfaialeoaa
open Go.RowKit

structure Vl where
  kind : Int
  n : Int
  s : ByteArray
def Vl.val (v : Vl) : Value := .agg #[.int .i64 v.kind, .int .i64 v.n, .string v.s]
structure Ox where
  mark : Int
  proto : Int
  code : Int
  frame : Int
def Ox.cells (o : Ox) : Array Value := #[.int .i64 o.mark, .int .i64 o.proto, .int .i64 o.code, .int .i64 o.frame]
structure Ob where
  o : Ox
  keys : List ByteArray
  vals : List UInt8 → Option Vl
def Ob.fresh (o : Ox) : Ob := ⟨o, [], fun _ => none⟩
def Ob.put (o : Ob) (key : ByteArray) (v : Vl) : Ob :=
  ⟨o.o, if (o.vals key.data.toList).isSome then o.keys else o.keys ++ [key], fun x => if x = key.data.toList then some v else o.vals x⟩

structure Lo where
  ob : Nat
  mb : Nat
  kv : Value

def Lo.ptr (L : Lo) : Value := .pointer (some ⟨L.ob, 0, none⟩)

def obCells (L : Lo) (o : Ob) : Array Value := #[.int .i64 o.o.mark, .int .i64 o.o.proto, .int .i64 o.o.code, .int .i64 o.o.frame, L.kv, .map (some L.mb)]

structure ObjAt (w : World) (B : Nat) (L : Lo) (o : Ob) : Prop where
  blk : Blk w L.ob 69 (obCells L o)
  row : w.ownsRow B 9 1 L.kv o.keys.length (o.keys.map Value.string)
  map : VMap Try.prog 9 w L.mb o.keys.length (fun s => (o.vals s).map Vl.val)
  low : B ≤ L.ob ∧ B ≤ L.mb

structure HpAt (w : World) (B hb : Nat) (lv : Value) (Ls : List Lo) (os : List Ob) : Prop where
  blk : Blk w hb 60 #[lv]
  row : w.ownsRow B 62 1 lv os.length (Ls.map Lo.ptr)
  obj : ∀ (i : Nat) (L : Lo) (o : Ob), Ls[i]? = some L → os[i]? = some o → ObjAt w B L o
  apart : ∀ (i j : Nat) (L M : Lo), i ≠ j → Ls[i]? = some L → Ls[j]? = some M → L.ob ≠ M.ob ∧ L.mb ≠ M.mb ∧ ∀ g, L.kv.ownBlock = some g → M.kv.ownBlock ≠ some g
  low : B ≤ hb

def Foot (hb : Nat) (lv : Value) (Ls : List Lo) (k : Nat) : Prop := k = hb ∨ lv.ownBlock = some k ∨ ∃ L ∈ Ls, k = L.ob ∨ k = L.mb ∨ L.kv.ownBlock = some k

/-- The heap that begins in block hb holds these objects; F: the blocks that are its own. -/
def Hp (w : World) (B hb : Nat) (F : Nat → Prop) (os : List Ob) : Prop := ∃ lv Ls, HpAt w B hb lv Ls os ∧ ∀ k, F k ↔ Foot hb lv Ls k

theorem ObjAt.keep {w w' : World} {B : Nat} {L : Lo} {o : Ob} (h : ObjAt w B L o) (h1 : w'.heap[L.ob]? = w.heap[L.ob]?) (h2 : w'.heap[L.mb]? = w.heap[L.mb]?)
    (h3 : ∀ g, L.kv.ownBlock = some g → w'.heap[g]? = w.heap[g]?) : ObjAt w' B L o :=
  ⟨h.blk.keep h1, own_keep h.row h3, h.map.keep h2, h.low⟩

theorem HpAt.len {w : World} {B hb : Nat} {lv : Value} {Ls : List Lo} {os : List Ob} (h : HpAt w B hb lv Ls os) : Ls.length = os.length := by
  have := h.row.1
  simpa using this

theorem HpAt.at_ {w : World} {B hb : Nat} {lv : Value} {Ls : List Lo} {os : List Ob} (h : HpAt w B hb lv Ls os) {L : Lo} (hL : L ∈ Ls) : ∃ (i : Nat) (o : Ob), Ls[i]? = some L ∧ os[i]? = some o ∧ ObjAt w B L o := by
  obtain ⟨i, hi⟩ := List.mem_iff_getElem?.1 hL
  have hlt : i < os.length := by
    have := (List.getElem?_eq_some_iff.1 hi).1
    rw [← h.len]
    exact this
  exact ⟨i, os[i], hi, List.getElem?_eq_getElem hlt, h.obj i L _ hi (List.getElem?_eq_getElem hlt)⟩

theorem HpAt.keep {w w' : World} {B hb : Nat} {lv : Value} {Ls : List Lo} {os : List Ob} (h : HpAt w B hb lv Ls os) (hk : ∀ k, Foot hb lv Ls k → w'.heap[k]? = w.heap[k]?) : HpAt w' B hb lv Ls os := by
  refine ⟨h.blk.keep (hk _ (.inl rfl)), own_keep h.row (fun g hg => hk g (.inr (.inl hg))), fun i L o hL ho => ?_, h.apart, h.low⟩
  have hm : L ∈ Ls := List.mem_of_getElem? hL
  exact (h.obj i L o hL ho).keep (hk _ (.inr (.inr ⟨L, hm, .inl rfl⟩))) (hk _ (.inr (.inr ⟨L, hm, .inr (.inl rfl)⟩))) (fun g hg => hk g (.inr (.inr ⟨L, hm, .inr (.inr hg)⟩)))

theorem HpAt.foot {w : World} {B hb : Nat} {lv : Value} {Ls : List Lo} {os : List Ob} (h : HpAt w B hb lv Ls os) : ∀ k, Foot hb lv Ls k → B ≤ k ∧ k < w.heap.size := by
  rintro k (rfl | hk | ⟨L, hL, hk⟩)
  · exact ⟨h.low, h.blk.lt⟩
  · exact h.row.lt k hk
  · obtain ⟨i, o, _, _, hO⟩ := h.at_ hL
    rcases hk with rfl | rfl | hk
    · exact ⟨hO.low.1, hO.blk.lt⟩
    · exact ⟨hO.low.2, hO.map.lt⟩
    · exact hO.row.lt k hk

theorem Hp.keep {w w' : World} {B hb : Nat} {F : Nat → Prop} {os : List Ob} (h : Hp w B hb F os) (hk : ∀ k, F k → w'.heap[k]? = w.heap[k]?) : Hp w' B hb F os := by
  obtain ⟨lv, Ls, h1, h2⟩ := h
  exact ⟨lv, Ls, h1.keep (fun k h => hk k ((h2 k).2 h)), h2⟩
theorem Hp.foot {w : World} {B hb : Nat} {F : Nat → Prop} {os : List Ob} (h : Hp w B hb F os) : ∀ k, F k → B ≤ k ∧ k < w.heap.size := by
  obtain ⟨lv, Ls, h1, h2⟩ := h
  exact fun k hF => h1.foot k ((h2 k).1 hF)
theorem Hp.turn {w w' : World} {B hb : Nat} {F G : Nat → Prop} {os : List Ob} (h : Hp w B hb F os) (hk : Turn G w w') (hFG : ∀ k, F k → ¬ G k) : Hp w' B hb F os :=
  h.keep (fun k hF => hk.block k (h.foot k hF).2 (hFG k hF))
theorem Hp.below {w w' : World} {B hb : Nat} {F : Nat → Prop} {os : List Ob} (h : Hp w B hb F os) (hk : Below w.heap.size w w') : Hp w' B hb F os :=
  h.keep (fun k hF => hk.block k (h.foot k hF).2)

/-- The list's cell. -/
theorem Hp.cell {w : World} {B hb : Nat} {F : Nat → Prop} {os : List Ob} (h : Hp w B hb F os) : ∃ A cap, w.cell? ⟨hb, 0, none⟩ = some (.slice A os.length cap) := by
  obtain ⟨lv, Ls, h1, h2⟩ := h
  obtain ⟨A, cap, rfl⟩ := own_slice h1.row
  exact ⟨A, cap, by rw [h1.blk.cell 0]; rfl⟩

/-- What a new object makes of it. w1: the world in which the object has been laid; w2: behind the append; then the list is stored. -/
theorem HpAt.push {w w1 w2 : World} {B hb : Nat} {lv : Value} {Ls : List Lo} {os : List Ob} (h : HpAt w B hb lv Ls os) (hB : B ≤ w.heap.size) (o : Ox) (ob mb g cap : Nat)
    (ht : Turn (fun _ => False) w w1) (hob : w.heap.size ≤ ob) (hmb : w.heap.size ≤ mb)
    (hblk : Blk w1 ob 69 (obCells ⟨ob, mb, .slice none 0 0⟩ (Ob.fresh o))) (hmap : VMap Try.prog 9 w1 mb 0 (fun _ => none))
    (hown : w2.ownsRow B 62 1 (.slice (some ⟨g, 0, none⟩) (os.length + 1) cap) (os.length + 1) (Ls.map Lo.ptr ++ [.pointer (some ⟨ob, 0, none⟩)]))
    (hgrow : w1.grownBy w2 lv.ownBlock) (hat : lv.ownBlock = some g ∨ g = w1.heap.size) :
    HpAt (w2.setCell ⟨hb, 0, none⟩ (.slice (some ⟨g, 0, none⟩) (os.length + 1) cap)) B hb (.slice (some ⟨g, 0, none⟩) (os.length + 1) cap) (Ls ++ [⟨ob, mb, .slice none 0 0⟩]) (os ++ [Ob.fresh o]) ∧
    Turn (Foot hb lv Ls) w (w2.setCell ⟨hb, 0, none⟩ (.slice (some ⟨g, 0, none⟩) (os.length + 1) cap)) ∧
    ∀ k, Foot hb (.slice (some ⟨g, 0, none⟩) (os.length + 1) cap) (Ls ++ [⟨ob, mb, .slice none 0 0⟩]) k → Foot hb lv Ls k ∨ w.heap.size ≤ k := by
  have hT : Turn (Foot hb lv Ls) w (w2.setCell ⟨hb, 0, none⟩ (.slice (some ⟨g, 0, none⟩) (os.length + 1) cap)) :=
    ((ht.mono (fun _ _ x => x.elim)).grown hgrow (fun k _ e => .inr (.inl e))).setCell (fun _ => .inl rfl) _
  have hfoot := h.foot
  have hgb : ∃ cur, Blk w2 g 62 cur := own_blk hown rfl
  obtain ⟨cur, hcur⟩ := hgb
  have hb2 : Blk w2 hb 60 #[lv] := by
    refine (h.blk.turn ht (fun x => x)).grown hgrow (fun e => ?_)
    obtain ⟨c1, hc1⟩ := own_blk h.row e.symm
    have := (h.blk.eq hc1).1
    exact absurd this (by decide)
  have hgne : g ≠ hb := fun e => by subst e; have := (hcur.eq hb2).1; exact absurd this (by decide)
  -- what the footprint's other blocks hold
  have hold : ∀ k, k < w.heap.size → some k ≠ lv.ownBlock → k ≠ hb → (w2.setCell ⟨hb, 0, none⟩ (.slice (some ⟨g, 0, none⟩) (os.length + 1) cap)).heap[k]? = w.heap[k]? := by
    intro k hk hne hkb
    rw [Below.heap_setCell _ _ _ _ (by simpa using hkb), hgrow.block k (Nat.lt_of_lt_of_le hk ht.size) hne, ht.block k hk (fun x => x)]
  have hnew : ∀ k, w.heap.size ≤ k → k < w1.heap.size → k ≠ g → (w2.setCell ⟨hb, 0, none⟩ (.slice (some ⟨g, 0, none⟩) (os.length + 1) cap)).heap[k]? = w1.heap[k]? := by
    intro k hk hk1 hne
    have hbl := h.blk.lt
    rw [Below.heap_setCell _ _ _ _ (by show k ≠ hb; omega), hgrow.block k hk1 (fun e => by have := (h.row.lt k e.symm).2; omega)]
  have hobg : ob ≠ g := fun e => by
    subst e
    rcases hat with e | e
    · have := (h.row.lt ob e).2; omega
    · have := hblk.lt; omega
  have hmbg : mb ≠ g := fun e => by
    subst e
    rcases hat with e | e
    · have := (h.row.lt mb e).2; omega
    · have := hmap.lt; omega
  have hlen := h.len
  -- the objects that were there
  have hobj : ∀ (i : Nat) (L : Lo) (o' : Ob), Ls[i]? = some L → os[i]? = some o' → ObjAt (w2.setCell ⟨hb, 0, none⟩ (.slice (some ⟨g, 0, none⟩) (os.length + 1) cap)) B L o' := by
    intro i L o' hL ho
    have hO := h.obj i L o' hL ho
    refine hO.keep (hold _ hO.blk.lt (fun e => ?_) (fun e => ?_)) (hold _ hO.map.lt (fun e => ?_) (fun e => ?_)) (fun k hk => hold _ (hO.row.lt k hk).2 (fun e => ?_) (fun e => ?_))
    · obtain ⟨c1, hc1⟩ := own_blk h.row e.symm
      exact absurd (hO.blk.eq hc1).1 (by decide)
    · have h1 := h.blk
      rw [← e] at h1
      exact absurd (hO.blk.eq h1).1 (by decide)
    · obtain ⟨c1, hc1⟩ := own_blk h.row e.symm
      obtain ⟨es, clock, hm⟩ := hO.map.isMap
      unfold Blk at hc1
      rw [hm] at hc1
      cases hc1
    · have h1 := h.blk
      rw [← e] at h1
      obtain ⟨es, clock, hm⟩ := hO.map.isMap
      unfold Blk at h1
      rw [hm] at h1
      cases h1
    · obtain ⟨c1, hc1⟩ := own_blk h.row e.symm
      obtain ⟨c2, hc2⟩ := own_blk hO.row hk
      exact absurd (hc1.eq hc2).1 (by decide)
    · have h1 := h.blk
      rw [← e] at h1
      obtain ⟨c2, hc2⟩ := own_blk hO.row hk
      exact absurd (h1.eq hc2).1 (by decide)
  refine ⟨⟨?_, ?_, ?_, ?_, h.low⟩, hT, ?_⟩
  · have := hb2.set_ 0 (.slice (some ⟨g, 0, none⟩) (os.length + 1) cap)
    simpa using this
  · have := own_keep (w' := w2.setCell ⟨hb, 0, none⟩ (.slice (some ⟨g, 0, none⟩) (os.length + 1) cap)) hown (fun k hk => by
      simp [Value.ownBlock] at hk
      subst hk
      exact Below.heap_setCell _ _ _ _ hgne)
    simpa [Lo.ptr] using this
  · intro i L o' hL ho
    rcases Nat.lt_or_ge i Ls.length with hi | hi
    · rw [List.getElem?_append_left hi] at hL
      rw [List.getElem?_append_left (by omega)] at ho
      exact hobj i L o' hL ho
    · rw [List.getElem?_append_right hi] at hL
      rw [List.getElem?_append_right (by omega)] at ho
      have hi0 : i - Ls.length = 0 := by
        have := (List.getElem?_eq_some_iff.1 hL).1
        simp at this
        omega
      rw [hi0] at hL
      rw [show i - os.length = 0 by omega] at ho
      simp at hL ho
      subst hL
      subst ho
      exact ⟨hblk.keep (hnew ob hob hblk.lt hobg), ⟨by simp [Ob.fresh], .inl ⟨rfl, rfl⟩⟩, hmap.keep (hnew mb hmb hmap.lt hmbg), Nat.le_trans hB hob, Nat.le_trans hB hmb⟩
  · have hlast : ∀ (i : Nat) (L : Lo), (Ls ++ [(⟨ob, mb, .slice none 0 0⟩ : Lo)])[i]? = some L → Ls[i]? = some L ∨ (i = Ls.length ∧ L = ⟨ob, mb, .slice none 0 0⟩) := by
      intro i L hL
      rcases Nat.lt_or_ge i Ls.length with hi | hi
      · rw [List.getElem?_append_left hi] at hL
        exact .inl hL
      · rw [List.getElem?_append_right hi] at hL
        have hi0 : i - Ls.length = 0 := by
          have := (List.getElem?_eq_some_iff.1 hL).1
          simp at this
          omega
        rw [hi0] at hL
        simp at hL
        exact .inr ⟨by omega, hL.symm⟩
    intro i j L M hij hL hM
    rcases hlast i L hL with h1 | ⟨h1, rfl⟩ <;> rcases hlast j M hM with h2 | ⟨h2, rfl⟩
    · exact h.apart i j L M hij h1 h2
    · obtain ⟨i', o', _, _, hO⟩ := h.at_ (List.mem_of_getElem? h1)
      have l1 := hO.blk.lt
      have l2 := hO.map.lt
      exact ⟨by show L.ob ≠ ob; omega, by show L.mb ≠ mb; omega, fun g' _ => by simp [Value.ownBlock]⟩
    · obtain ⟨i', o', _, _, hO⟩ := h.at_ (List.mem_of_getElem? h2)
      have l1 := hO.blk.lt
      have l2 := hO.map.lt
      exact ⟨by show ob ≠ M.ob; omega, by show mb ≠ M.mb; omega, fun g' hg' => by simp [Value.ownBlock] at hg'⟩
    · omega
  · rintro k (rfl | hk | ⟨L, hL, hk⟩)
    · exact .inl (.inl rfl)
    · simp [Value.ownBlock] at hk
      subst hk
      rcases hat with e | e
      · exact .inl (.inr (.inl e))
      · right; have := ht.size; omega
    · rcases List.mem_append.1 hL with hL | hL
      · exact .inl (.inr (.inr ⟨L, hL, hk⟩))
      · simp at hL
        subst hL
        rcases hk with rfl | rfl | hk
        · exact .inr hob
        · exact .inr hmb
        · simp [Value.ownBlock] at hk

end Go.Proofs.Ytbdkbjfaialeoaa
