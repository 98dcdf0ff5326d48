/- The walks of package heap that loop over no function: has, Len, adds, Alloc. -/
import Derived.Test.YtbdkbjfaialeoaaHeap
import Derived.Deep.QuietTactic
import Derived.BigQuiet
import Derived.Deep.RegionHeld3
import Derived.Deep.RegionLaw
import Derived.Lib.Hide
namespace Go.Proofs.Ytbdkbjfaialeoaa
open Go.RowKit

set_option maxHeartbeats 400000 in
theorem has_in (w : World) (hb n cap : Nat) (A : Option Addr) (p : Int) (hc : w.cell? ⟨hb, 0, none⟩ = some (.slice A n cap)) (h0 : 0 ≤ p) (hp : p < n) :
    Calls Try.prog 30 #[.pointer (some ⟨hb, 0, none⟩), .int .i64 p] w fun e w' => e = .returned (.bool true) ∧ w = w' := by
  go_enter Try.func30, Try.ntmps30
  go_wp2
  go_ret
  exact ⟨rfl, rfl⟩

set_option maxHeartbeats 400000 in
theorem has_out (w : World) (hb n cap : Nat) (A : Option Addr) (p : Int) (hc : w.cell? ⟨hb, 0, none⟩ = some (.slice A n cap)) (hp : p < 0 ∨ n ≤ p) :
    Calls Try.prog 30 #[.pointer (some ⟨hb, 0, none⟩), .int .i64 p] w fun e w' => e = .returned (.bool false) ∧ w = w' := by
  rcases hp with hp | hp
  · have h0 : ¬ 0 ≤ p := by omega
    go_enter Try.func30, Try.ntmps30
    go_wp2
    go_ret
    exact ⟨rfl, rfl⟩
  · have h0 : 0 ≤ p := by omega
    have h1 : ¬ p < n := by omega
    go_enter Try.func30, Try.ntmps30
    go_wp2
    go_ret
    exact ⟨rfl, rfl⟩

set_option maxHeartbeats 400000 in
theorem has_nil (w : World) (p : Int) :
    Calls Try.prog 30 #[.pointer none, .int .i64 p] w fun e w' => e = .returned (.bool false) ∧ w = w' := by
  go_enter Try.func30, Try.ntmps30
  go_wp2
  go_ret
  exact ⟨rfl, rfl⟩

set_option maxHeartbeats 400000 in
theorem len_calls (w : World) (hb n cap : Nat) (A : Option Addr) (hc : w.cell? ⟨hb, 0, none⟩ = some (.slice A n cap)) :
    Calls Try.prog 14 #[.pointer (some ⟨hb, 0, none⟩)] w fun e w' => e = .returned (.int .i64 n) ∧ w = w' := by
  go_enter Try.func14, Try.ntmps14
  go_wp2
  go_ret
  exact ⟨rfl, rfl⟩

/-- The objects of a slice, in block ab. -/
def oxCells (l : List Ox) : List Value := l.flatMap fun o => o.cells.toList
theorem oxCells_at (l : List Ox) (k : Nat) (o : Ox) (h : l[k]? = some o) : ∀ j : Nat, j < 4 → (oxCells l)[k * 4 + j]? = o.cells[j]? := by
  induction l generalizing k with
  | nil => simp at h
  | cons x l ih =>
    intro j hj
    cases k with
    | zero =>
      simp at h
      subst h
      match j, hj with
      | 0, _ => simp [oxCells, Ox.cells]
      | 1, _ => simp [oxCells, Ox.cells]
      | 2, _ => simp [oxCells, Ox.cells]
      | 3, _ => simp [oxCells, Ox.cells]
    | succ k =>
      have := ih k (by simpa using h) j hj
      rw [← this]
      simp only [oxCells, List.flatMap_cons]
      rw [List.getElem?_append_right (by simp [Ox.cells]; omega)]
      congr 1
      simp [Ox.cells]
      omega

theorem info_ptr : (Try.prog.info? 62).map (fun i => (i.zero, i.size, i.bytes)) = some (some (.pointer none), 1, 8) := by kernel_rfl

theorem alloc4_last (w : World) (a b c d : Obj) : ((((w.alloc a).alloc b).alloc c).alloc d).heap[w.heap.size + 1 + 1 + 1]? = some d := by
  have := heap_alloc_new (((w.alloc a).alloc b).alloc c) d
  simpa using this
theorem alloc4_old (w : World) (a b c d : Obj) (k : Nat) (hk : k < w.heap.size) : ((((w.alloc a).alloc b).alloc c).alloc d).heap[k]? = w.heap[k]? := by
  rw [Below.heap_alloc _ _ _ (by simp; omega), Below.heap_alloc _ _ _ (by simp; omega), Below.heap_alloc _ _ _ (by simp; omega), Below.heap_alloc _ _ _ hk]

theorem adds_blk {wr w1 : World} {B hb : Nat} {lv : Value} {Ls : List Lo} {os : List Ob} (h : HpAt wr B hb lv Ls os) {a b c d : Obj}
    (hg : ((((wr.alloc a).alloc b).alloc c).alloc d).drew.grownBy w1 lv.ownBlock) : Blk w1 hb 60 #[lv] := by
  refine Blk.grown (w := ((((wr.alloc a).alloc b).alloc c).alloc d).drew) (h.blk.keep (alloc4_old wr a b c d hb h.blk.lt)) hg (fun e => ?_)
  obtain ⟨c1, hc1⟩ := own_blk h.row e.symm
  exact absurd (h.blk.eq hc1).1 (by decide)

def AddsRel (w : World) (B hb : Nat) (F : Nat → Prop) (os : List Ob) (l : List Ox) (k : Nat) (wr : World) : Prop :=
  ∃ F', Hp wr B hb F' (os ++ (l.take k).map Ob.fresh) ∧ Turn F w wr ∧ ∀ k, F' k → F k ∨ w.heap.size ≤ k

theorem adds_rel {w wr w1 : World} {B hb : Nat} {F F' : Nat → Prop} {os : List Ob} {l : List Ox} {k g cap : Nat} {lv : Value} {Ls : List Lo} {o : Ox}
    (hT : Turn F w wr) (hF' : ∀ k, F' k → F k ∨ w.heap.size ≤ k) (hfoot : ∀ k, F' k ↔ Foot hb lv Ls k) {ps : List Ob} (hps : os ++ (l.take k).map Ob.fresh = ps) (hat : HpAt wr B hb lv Ls ps) (ho : l[k]? = some o) (hB : B ≤ wr.heap.size)
    {a d : Obj} (hown : w1.ownsRow B 62 1 (.slice (some ⟨g, 0, none⟩) (ps.length + 1) cap) (ps.length + 1) (Ls.map Lo.ptr ++ [.pointer (some ⟨wr.heap.size + 1 + 1, 0, none⟩)]))
    (hgrow : ((((wr.alloc a).alloc (.map #[] 0)).alloc (.cells #[.int .i64 o.mark, .int .i64 o.proto, .int .i64 o.code, .int .i64 o.frame, .slice none 0 0, .map (some (wr.heap.size + 1))] 69)).alloc d).drew.grownBy w1 lv.ownBlock)
    (hg : lv.ownBlock = some g ∨ g = wr.heap.size + 1 + 1 + 1 + 1) :
    AddsRel w B hb F os l (k + 1) (w1.setCell ⟨hb, 0, none⟩ (.slice (some ⟨g, 0, none⟩) (ps.length + 1) cap)) := by
  obtain ⟨W, hW⟩ : ∃ W, ((((wr.alloc a).alloc (.map #[] 0)).alloc (.cells #[.int .i64 o.mark, .int .i64 o.proto, .int .i64 o.code, .int .i64 o.frame, .slice none 0 0, .map (some (wr.heap.size + 1))] 69)).alloc d).drew = W := ⟨_, rfl⟩
  rw [hW] at hgrow
  have hsz : W.heap.size = wr.heap.size + 1 + 1 + 1 + 1 := by rw [← hW]; simp
  have hT1 : Turn (fun _ => False) wr W := by rw [← hW]; exact ((((Turn.refl _ wr).alloc _).alloc _).alloc _).alloc _ |>.drew
  have hblk : Blk W (wr.heap.size + 1 + 1) 69 (obCells ⟨wr.heap.size + 1 + 1, wr.heap.size + 1, .slice none 0 0⟩ (Ob.fresh o)) := by
    have h1 := (Blk.new ((wr.alloc a).alloc (.map #[] 0)) 69 #[.int .i64 o.mark, .int .i64 o.proto, .int .i64 o.code, .int .i64 o.frame, .slice none 0 0, .map (some (wr.heap.size + 1))]).alloc d
    simp only [World.size_alloc] at h1
    rw [← hW]
    exact h1
  have hmap : VMap Try.prog 9 W (wr.heap.size + 1) 0 (fun _ => none) := by
    have h1 := VMap.made (wr.alloc a) Try.prog 9
    rw [World.size_alloc] at h1
    refine h1.keep ?_
    rw [← hW]
    exact (Below.heap_alloc _ _ _ (by simp)).trans (Below.heap_alloc _ _ _ (by simp))
  obtain ⟨h1, h2, h3⟩ := hat.push hB o (wr.heap.size + 1 + 1) (wr.heap.size + 1) g cap hT1 (by omega) (by omega) hblk hmap hown hgrow (by rw [hsz]; exact hg)
  have hl : os ++ (l.take (k + 1)).map Ob.fresh = ps ++ [Ob.fresh o] := by
    rw [← hps, List.take_add_one, ho]
    simp
  refine ⟨_, ⟨_, _, by rw [hl]; exact h1, fun _ => Iff.rfl⟩, hT.trans h2 (fun i hi hf => ?_), fun i hi => ?_⟩
  · rcases hF' i ((hfoot i).2 hf) with h | h
    · exact h
    · omega
  · rcases h3 i hi with h | h
    · exact hF' i ((hfoot i).2 h)
    · have := hT.size
      exact .inr (by omega)

set_option maxHeartbeats 4000000 in
theorem adds_calls (w : World) (B hb ab c : Nat) (F : Nat → Prop) (os : List Ob) (l : List Ox) (h : Hp w B hb F os) (hB : B ≤ w.heap.size) (hab : ¬ F ab)
    (ha : Blk w ab 29 (oxCells l).toArray) (hlen : os.length + l.length ≤ 100000) :
    Calls Try.prog 28 #[.pointer (some ⟨hb, 0, none⟩), .slice (some ⟨ab, 0, none⟩) l.length c] w fun e w' =>
      e = .returned (.int .i64 ((os.length : Int) + l.length - 1)) ∧ ∃ F', Hp w' B hb F' (os ++ l.map Ob.fresh) ∧ Turn F w w' ∧ ∀ k, F' k → F k ∨ w.heap.size ≤ k := by
  obtain ⟨i0, hi0, hz0, hz1, hz2⟩ := info_parts info_ptr
  have hmm := @run_makeMap Try.prog
  have H := Lib.hid h
  clear h
  have HAB := Lib.hid hab
  clear hab
  have HA := Lib.hid ha
  clear ha
  go_enter Try.func28, Try.ntmps28
  go_wp2
  go_loopw [9] (fun i wr => ∃ k : Nat, k ≤ l.length ∧ i = .int .i64 k ∧ AddsRel w B hb F os l k wr) (fun i _ => l.length - (intOf i).toNat)
  case atStart => exact ⟨0, by omega, rfl, F, by simpa using H.out, Turn.refl _ _, fun k hk => .inl hk⟩
  case round =>
    obtain ⟨k, hk, rfl, hR⟩ := hrel
    by_cases hlt : k < l.length
    · obtain ⟨F', hp, hT, hF'⟩ := hR
      obtain ⟨ps, hps⟩ : ∃ ps, os ++ (l.take k).map Ob.fresh = ps := ⟨_, rfl⟩
      have hpl2 : ps.length < 100000 := by rw [← hps]; simp; omega
      rw [hps] at hp
      have HP := Lib.hid hps
      clear hps
      obtain ⟨lv, Ls, hat, hfoot⟩ := hp
      have hA2 := HA.out.turn hT HAB.out
      obtain ⟨o, ho⟩ : ∃ o, l[k]? = some o := ⟨_, List.getElem?_eq_getElem hlt⟩
      have hc0 : wr.cell? ⟨ab, k * 4, none⟩ = some (.int .i64 o.mark) := by rw [hA2.cell]; simpa [Ox.cells] using oxCells_at l k o ho 0 (by omega)
      have hc1 : wr.cell? ⟨ab, k * 4 + 1, none⟩ = some (.int .i64 o.proto) := by rw [hA2.cell]; simpa [Ox.cells] using oxCells_at l k o ho 1 (by omega)
      have hc2 : wr.cell? ⟨ab, k * 4 + 2, none⟩ = some (.int .i64 o.code) := by rw [hA2.cell]; simpa [Ox.cells] using oxCells_at l k o ho 2 (by omega)
      have hc3 : wr.cell? ⟨ab, k * 4 + 3, none⟩ = some (.int .i64 o.frame) := by rw [hA2.cell]; simpa [Ox.cells] using oxCells_at l k o ho 3 (by omega)
      have HO := Lib.hid ho
      clear ho
      have HF := Lib.hid hF'
      clear hF'
      have HFo := Lib.hid hfoot
      clear hfoot
      have hcl : wr.cell? ⟨hb, 0, none⟩ = some lv := by rw [hat.blk.cell]; rfl
      have hfz : wr.frozen? ⟨hb, 0, none⟩ = false := hat.blk.frozen 0
      have hlt2 := hat.blk.lt
      have hlt3 : hb < wr.heap.size + 1 := by omega
      have hlt4 : hb < wr.heap.size + 1 + 1 := by omega
      have hlt5 : hb < wr.heap.size + 1 + 1 + 1 := by omega
      have hBr : B ≤ wr.heap.size := Nat.le_trans hB hT.size
      go_wp2
      go_region_law ((refine step_append_lies _ (by rfl) _ _ _ (by rfl) B 62 i0 _ 1 8 Try.underlying58 hi0 hz0 hz1 hz2 rfl (by omega) lv _ (Ls.map Lo.ptr) (by rfl) (by exact ((((hat.row.alloc _).alloc _).alloc _).alloc _)) ⟨wr.heap.size + 1 + 1 + 1, 0, none⟩ 1 1 [.pointer (some ⟨wr.heap.size + 1 + 1, 0, none⟩)] (by rfl) (by rfl) (World.news_of_block (cs := #[.pointer (some ⟨wr.heap.size + 1 + 1, 0, none⟩)]) (t := 62) (fr := (0, 0)) (by exact alloc4_last wr _ _ _ _)) (by simp [Value.oneCell']) (by omega) (by simp only [maxLen]; omega) (by omega) (by simp; omega) (wr.heap.size + 1 + 1 + 1 + 1) (by simp) ?_; intro g cap w1 hown1 hgrow1 hat1 hlt1; have hc5 : w1.cell? ⟨hb, 0, none⟩ = some lv := (adds_blk hat hgrow1).cell 0; have hf5 : w1.frozen? ⟨hb, 0, none⟩ = false := (adds_blk hat hgrow1).frozen 0))
      all_goals
        go_wp2
        go_roundw
        case rel => exact ⟨k + 1, by omega, by go_num, adds_rel hT HF.out HFo.out HP.out hat HO.out hBr hown1 hgrow1 hat1⟩
        case measure => simp [intOf]; omega
    · obtain rfl : k = l.length := by omega
      obtain ⟨F', hp, hT, hF'⟩ := hR
      have HF := Lib.hid hF'
      clear hF'
      obtain ⟨A, cap, hcl⟩ := hp.cell
      have hnn : 0 ≤ os.length + l.length := Nat.zero_le _
      have hll : (os ++ List.map Ob.fresh (List.take l.length l)).length = os.length + l.length := by simp
      rw [hll] at hcl
      clear hll
      have HP := Lib.hid hp
      clear hp
      go_wp2
      go_ret
      exact ⟨by simp, F', by simpa using HP.out, hT, HF.out⟩

end Go.Proofs.Ytbdkbjfaialeoaa
