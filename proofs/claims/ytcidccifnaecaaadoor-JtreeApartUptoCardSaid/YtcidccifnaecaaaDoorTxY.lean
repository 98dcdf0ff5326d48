/- The texts of the words (true, false, null, undefined, this, input): walked. -/
import Derived.Test.YtcidccifnaecaaaDoorTxM
import Derived.Deep.QuietTactic
import Derived.BigQuiet
import Derived.Lib.QuietBelow
import Derived.Lib.Fields
namespace Go.Proofs.YtcidccifnaecaaaDoor
open Go.RowKit Go.Sort

def sixText : ByteArray := ⟨#[116, 114, 117, 101, 32, 102, 97, 108, 115, 101, 32, 110, 117, 108, 108, 32, 117, 110, 100, 101, 102, 105, 110, 101, 100, 32, 116, 104, 105, 115, 32, 105, 110, 112, 117, 116]⟩
def sixL : List (List UInt8) := [[116, 114, 117, 101], [102, 97, 108, 115, 101], [110, 117, 108, 108], [117, 110, 100, 101, 102, 105, 110, 101, 100], [116, 104, 105, 115], [105, 110, 112, 117, 116]]
theorem six_fields : Lib.fields sixText.data.toList = sixL := by kernel_rfl
theorem six_ascii : ∀ (j : Nat) b, sixText.data.toList[j]? = some b → b.toNat < 128 := by
  intro j b hb
  exact (show ∀ b ∈ sixText.data.toList, b.toNat < 128 by decide +kernel) b (List.mem_of_getElem? hb)
theorem six_at (w9 w2 : World) (hw : w9.alloc (.cells (sixL.map fun l => Value.string ⟨l.toArray⟩).toArray 9) = w2) (h9 : Laid w9) : Calls Tryd.prog 80 #[.string ⟨#[116, 114, 117, 101, 32, 102, 97, 108, 115, 101, 32, 110, 117, 108, 108, 32, 117, 110, 100, 101, 102, 105, 110, 101, 100, 32, 116, 104, 105, 115, 32, 105, 110, 112, 117, 116]⟩] w9 fun e w' => e = .returned (.slice (some ⟨w9.heap.size, 0, none⟩) 6 6) ∧ w2 = w' := by
  have hFI := Tryd.strings_Fields sixText w9 (by decide) six_ascii h9.sp
  rw [six_fields] at hFI
  refine hFI.mono ?_
  rintro e w' ⟨rfl, rfl⟩
  exact ⟨rfl, hw.symm⟩

set_option maxRecDepth 100000 in
set_option maxHeartbeats 4000000 in
theorem text_4 (h : Nat) (t : Tree) (i : ByteArray) (hop : t.op = 4) : ExprT (h + 1) t i := by
  intro d w sl hl hk
  obtain ⟨hlen, A, c, rfl⟩ := hk.form
  unfold maxLen at hlen
  have HFL : Hid (T (h + 1) t i.data.toList = [116, 114, 117, 101]) := Lib.hid (by simp [T, stepT, hop, wordOf])
  rw [hop]
  have hopw : ∀ v : Value, Value.int .i64 t.op = v → v = .int .i64 4 := fun v e => by rw [← e, hop]
  clear hopw
  obtain ⟨w0, hw0⟩ : ∃ w0, w.alloc (.cells #[.int .i64 4, .string t.s, .int .i64 t.n, .slice A t.l.length c, .int .i64 t.line] 24) = w0 := ⟨_, rfl⟩
  obtain ⟨w1, hw1⟩ : ∃ w1, w0.alloc (.cells #[.string i] 9) = w1 := ⟨_, rfl⟩
  have bx0 : Blk5 w0 w.heap.size 4 t.s t.n (.slice A t.l.length c) t.line := by rw [← hw0]; exact blk5_new _ _ _ _ _ _
  have hb0 : Below w.heap.size w w0 := by rw [← hw0]; exact (Below.refl _ _).alloc (Nat.le_refl _) _
  have hb1 : Below w0.heap.size w0 w1 := by rw [← hw1]; exact (Below.refl _ _).alloc (Nat.le_refl _) _
  have hm : w1.cell? ⟨w0.heap.size, 0, none⟩ = some (.string i) := by rw [← hw1]; exact cell_of_row _ _ 0 #[.string i] 9 (0, 0) (heap_alloc_new _ _)
  have bx := bx0.keep hb1
  have HB := Lib.hid (hb0.trans (hb1.mono hb0.size))
  have HL := Lib.hid (hl.below HB.out)
  have HBX := Lib.hid bx
  have hd0 : Below w1.heap.size w1 w1.drew := (Below.refl _ _).drew
  obtain ⟨w2, hw2⟩ : ∃ w2, w1.drew.alloc (.cells (sixL.map fun l => Value.string ⟨l.toArray⟩).toArray 9) = w2 := ⟨_, rfl⟩
  have HWC := Lib.hid (six_at w1.drew w2 hw2 (HL.out.below hd0))
  have hb2 : Below w1.heap.size w1 w2 := by rw [← hw2]; exact hd0.alloc hd0.size _
  have HB2 := Lib.hid hb2
  have f0 : w2.cell? ⟨w1.heap.size, 0, none⟩ = some (.string ⟨([116, 114, 117, 101] : List UInt8).toArray⟩) := by rw [← hw2]; exact cell_of_row _ _ _ _ _ (0, 0) (heap_alloc_new _ _)
  have f1 : w2.cell? ⟨w.heap.size, 0, none⟩ = some (.int .i64 4) := (HBX.out.keep hb2).c0
  obtain ⟨c0, c1, c2, c3, c4⟩ := bx
  have e0 : w1.drew.cell? ⟨w.heap.size, 0, none⟩ = some (.int .i64 4) := c0
  clear bx0 hb0 hb1 hl hk hop hm hb2 hw2
  go_enter Tryd.func51, Tryd.ntmps51
  go_wp2
  go_region_with (go_at_call 80; refine HWC.out.mono ?_; rintro e wz ⟨rfl, rfl⟩)
  all_goals
    go_wp2
    go_ret
    exact ⟨by rw [HFL.out]; rfl, HB.out.trans (HB2.out.mono HB.out.size)⟩

set_option maxRecDepth 100000 in
set_option maxHeartbeats 4000000 in
theorem text_5 (h : Nat) (t : Tree) (i : ByteArray) (hop : t.op = 5) : ExprT (h + 1) t i := by
  intro d w sl hl hk
  obtain ⟨hlen, A, c, rfl⟩ := hk.form
  unfold maxLen at hlen
  have HFL : Hid (T (h + 1) t i.data.toList = [102, 97, 108, 115, 101]) := Lib.hid (by simp [T, stepT, hop, wordOf])
  rw [hop]
  have hopw : ∀ v : Value, Value.int .i64 t.op = v → v = .int .i64 5 := fun v e => by rw [← e, hop]
  clear hopw
  obtain ⟨w0, hw0⟩ : ∃ w0, w.alloc (.cells #[.int .i64 5, .string t.s, .int .i64 t.n, .slice A t.l.length c, .int .i64 t.line] 24) = w0 := ⟨_, rfl⟩
  obtain ⟨w1, hw1⟩ : ∃ w1, w0.alloc (.cells #[.string i] 9) = w1 := ⟨_, rfl⟩
  have bx0 : Blk5 w0 w.heap.size 5 t.s t.n (.slice A t.l.length c) t.line := by rw [← hw0]; exact blk5_new _ _ _ _ _ _
  have hb0 : Below w.heap.size w w0 := by rw [← hw0]; exact (Below.refl _ _).alloc (Nat.le_refl _) _
  have hb1 : Below w0.heap.size w0 w1 := by rw [← hw1]; exact (Below.refl _ _).alloc (Nat.le_refl _) _
  have hm : w1.cell? ⟨w0.heap.size, 0, none⟩ = some (.string i) := by rw [← hw1]; exact cell_of_row _ _ 0 #[.string i] 9 (0, 0) (heap_alloc_new _ _)
  have bx := bx0.keep hb1
  have HB := Lib.hid (hb0.trans (hb1.mono hb0.size))
  have HL := Lib.hid (hl.below HB.out)
  have HBX := Lib.hid bx
  have hd0 : Below w1.heap.size w1 w1.drew := (Below.refl _ _).drew
  obtain ⟨w2, hw2⟩ : ∃ w2, w1.drew.alloc (.cells (sixL.map fun l => Value.string ⟨l.toArray⟩).toArray 9) = w2 := ⟨_, rfl⟩
  have HWC := Lib.hid (six_at w1.drew w2 hw2 (HL.out.below hd0))
  have hb2 : Below w1.heap.size w1 w2 := by rw [← hw2]; exact hd0.alloc hd0.size _
  have HB2 := Lib.hid hb2
  have f0 : w2.cell? ⟨w1.heap.size, 1, none⟩ = some (.string ⟨([102, 97, 108, 115, 101] : List UInt8).toArray⟩) := by rw [← hw2]; exact cell_of_row _ _ _ _ _ (0, 0) (heap_alloc_new _ _)
  have f1 : w2.cell? ⟨w.heap.size, 0, none⟩ = some (.int .i64 5) := (HBX.out.keep hb2).c0
  obtain ⟨c0, c1, c2, c3, c4⟩ := bx
  have e0 : w1.drew.cell? ⟨w.heap.size, 0, none⟩ = some (.int .i64 5) := c0
  clear bx0 hb0 hb1 hl hk hop hm hb2 hw2
  go_enter Tryd.func51, Tryd.ntmps51
  go_wp2
  go_region_with (go_at_call 80; refine HWC.out.mono ?_; rintro e wz ⟨rfl, rfl⟩)
  all_goals
    go_wp2
    go_ret
    exact ⟨by rw [HFL.out]; rfl, HB.out.trans (HB2.out.mono HB.out.size)⟩

set_option maxRecDepth 100000 in
set_option maxHeartbeats 4000000 in
theorem text_6 (h : Nat) (t : Tree) (i : ByteArray) (hop : t.op = 6) : ExprT (h + 1) t i := by
  intro d w sl hl hk
  obtain ⟨hlen, A, c, rfl⟩ := hk.form
  unfold maxLen at hlen
  have HFL : Hid (T (h + 1) t i.data.toList = [110, 117, 108, 108]) := Lib.hid (by simp [T, stepT, hop, wordOf])
  rw [hop]
  have hopw : ∀ v : Value, Value.int .i64 t.op = v → v = .int .i64 6 := fun v e => by rw [← e, hop]
  clear hopw
  obtain ⟨w0, hw0⟩ : ∃ w0, w.alloc (.cells #[.int .i64 6, .string t.s, .int .i64 t.n, .slice A t.l.length c, .int .i64 t.line] 24) = w0 := ⟨_, rfl⟩
  obtain ⟨w1, hw1⟩ : ∃ w1, w0.alloc (.cells #[.string i] 9) = w1 := ⟨_, rfl⟩
  have bx0 : Blk5 w0 w.heap.size 6 t.s t.n (.slice A t.l.length c) t.line := by rw [← hw0]; exact blk5_new _ _ _ _ _ _
  have hb0 : Below w.heap.size w w0 := by rw [← hw0]; exact (Below.refl _ _).alloc (Nat.le_refl _) _
  have hb1 : Below w0.heap.size w0 w1 := by rw [← hw1]; exact (Below.refl _ _).alloc (Nat.le_refl _) _
  have hm : w1.cell? ⟨w0.heap.size, 0, none⟩ = some (.string i) := by rw [← hw1]; exact cell_of_row _ _ 0 #[.string i] 9 (0, 0) (heap_alloc_new _ _)
  have bx := bx0.keep hb1
  have HB := Lib.hid (hb0.trans (hb1.mono hb0.size))
  have HL := Lib.hid (hl.below HB.out)
  have HBX := Lib.hid bx
  have hd0 : Below w1.heap.size w1 w1.drew := (Below.refl _ _).drew
  obtain ⟨w2, hw2⟩ : ∃ w2, w1.drew.alloc (.cells (sixL.map fun l => Value.string ⟨l.toArray⟩).toArray 9) = w2 := ⟨_, rfl⟩
  have HWC := Lib.hid (six_at w1.drew w2 hw2 (HL.out.below hd0))
  have hb2 : Below w1.heap.size w1 w2 := by rw [← hw2]; exact hd0.alloc hd0.size _
  have HB2 := Lib.hid hb2
  have f0 : w2.cell? ⟨w1.heap.size, 2, none⟩ = some (.string ⟨([110, 117, 108, 108] : List UInt8).toArray⟩) := by rw [← hw2]; exact cell_of_row _ _ _ _ _ (0, 0) (heap_alloc_new _ _)
  have f1 : w2.cell? ⟨w.heap.size, 0, none⟩ = some (.int .i64 6) := (HBX.out.keep hb2).c0
  obtain ⟨c0, c1, c2, c3, c4⟩ := bx
  have e0 : w1.drew.cell? ⟨w.heap.size, 0, none⟩ = some (.int .i64 6) := c0
  clear bx0 hb0 hb1 hl hk hop hm hb2 hw2
  go_enter Tryd.func51, Tryd.ntmps51
  go_wp2
  go_region_with (go_at_call 80; refine HWC.out.mono ?_; rintro e wz ⟨rfl, rfl⟩)
  all_goals
    go_wp2
    go_ret
    exact ⟨by rw [HFL.out]; rfl, HB.out.trans (HB2.out.mono HB.out.size)⟩

set_option maxRecDepth 100000 in
set_option maxHeartbeats 4000000 in
theorem text_7 (h : Nat) (t : Tree) (i : ByteArray) (hop : t.op = 7) : ExprT (h + 1) t i := by
  intro d w sl hl hk
  obtain ⟨hlen, A, c, rfl⟩ := hk.form
  unfold maxLen at hlen
  have HFL : Hid (T (h + 1) t i.data.toList = [117, 110, 100, 101, 102, 105, 110, 101, 100]) := Lib.hid (by simp [T, stepT, hop, wordOf])
  rw [hop]
  have hopw : ∀ v : Value, Value.int .i64 t.op = v → v = .int .i64 7 := fun v e => by rw [← e, hop]
  clear hopw
  obtain ⟨w0, hw0⟩ : ∃ w0, w.alloc (.cells #[.int .i64 7, .string t.s, .int .i64 t.n, .slice A t.l.length c, .int .i64 t.line] 24) = w0 := ⟨_, rfl⟩
  obtain ⟨w1, hw1⟩ : ∃ w1, w0.alloc (.cells #[.string i] 9) = w1 := ⟨_, rfl⟩
  have bx0 : Blk5 w0 w.heap.size 7 t.s t.n (.slice A t.l.length c) t.line := by rw [← hw0]; exact blk5_new _ _ _ _ _ _
  have hb0 : Below w.heap.size w w0 := by rw [← hw0]; exact (Below.refl _ _).alloc (Nat.le_refl _) _
  have hb1 : Below w0.heap.size w0 w1 := by rw [← hw1]; exact (Below.refl _ _).alloc (Nat.le_refl _) _
  have hm : w1.cell? ⟨w0.heap.size, 0, none⟩ = some (.string i) := by rw [← hw1]; exact cell_of_row _ _ 0 #[.string i] 9 (0, 0) (heap_alloc_new _ _)
  have bx := bx0.keep hb1
  have HB := Lib.hid (hb0.trans (hb1.mono hb0.size))
  have HL := Lib.hid (hl.below HB.out)
  have HBX := Lib.hid bx
  have hd0 : Below w1.heap.size w1 w1.drew := (Below.refl _ _).drew
  obtain ⟨w2, hw2⟩ : ∃ w2, w1.drew.alloc (.cells (sixL.map fun l => Value.string ⟨l.toArray⟩).toArray 9) = w2 := ⟨_, rfl⟩
  have HWC := Lib.hid (six_at w1.drew w2 hw2 (HL.out.below hd0))
  have hb2 : Below w1.heap.size w1 w2 := by rw [← hw2]; exact hd0.alloc hd0.size _
  have HB2 := Lib.hid hb2
  have f0 : w2.cell? ⟨w1.heap.size, 3, none⟩ = some (.string ⟨([117, 110, 100, 101, 102, 105, 110, 101, 100] : List UInt8).toArray⟩) := by rw [← hw2]; exact cell_of_row _ _ _ _ _ (0, 0) (heap_alloc_new _ _)
  have f1 : w2.cell? ⟨w.heap.size, 0, none⟩ = some (.int .i64 7) := (HBX.out.keep hb2).c0
  obtain ⟨c0, c1, c2, c3, c4⟩ := bx
  have e0 : w1.drew.cell? ⟨w.heap.size, 0, none⟩ = some (.int .i64 7) := c0
  clear bx0 hb0 hb1 hl hk hop hm hb2 hw2
  go_enter Tryd.func51, Tryd.ntmps51
  go_wp2
  go_region_with (go_at_call 80; refine HWC.out.mono ?_; rintro e wz ⟨rfl, rfl⟩)
  all_goals
    go_wp2
    go_ret
    exact ⟨by rw [HFL.out]; rfl, HB.out.trans (HB2.out.mono HB.out.size)⟩

set_option maxRecDepth 100000 in
set_option maxHeartbeats 4000000 in
theorem text_8 (h : Nat) (t : Tree) (i : ByteArray) (hop : t.op = 8) : ExprT (h + 1) t i := by
  intro d w sl hl hk
  obtain ⟨hlen, A, c, rfl⟩ := hk.form
  unfold maxLen at hlen
  have HFL : Hid (T (h + 1) t i.data.toList = [116, 104, 105, 115]) := Lib.hid (by simp [T, stepT, hop, wordOf])
  rw [hop]
  have hopw : ∀ v : Value, Value.int .i64 t.op = v → v = .int .i64 8 := fun v e => by rw [← e, hop]
  clear hopw
  obtain ⟨w0, hw0⟩ : ∃ w0, w.alloc (.cells #[.int .i64 8, .string t.s, .int .i64 t.n, .slice A t.l.length c, .int .i64 t.line] 24) = w0 := ⟨_, rfl⟩
  obtain ⟨w1, hw1⟩ : ∃ w1, w0.alloc (.cells #[.string i] 9) = w1 := ⟨_, rfl⟩
  have bx0 : Blk5 w0 w.heap.size 8 t.s t.n (.slice A t.l.length c) t.line := by rw [← hw0]; exact blk5_new _ _ _ _ _ _
  have hb0 : Below w.heap.size w w0 := by rw [← hw0]; exact (Below.refl _ _).alloc (Nat.le_refl _) _
  have hb1 : Below w0.heap.size w0 w1 := by rw [← hw1]; exact (Below.refl _ _).alloc (Nat.le_refl _) _
  have hm : w1.cell? ⟨w0.heap.size, 0, none⟩ = some (.string i) := by rw [← hw1]; exact cell_of_row _ _ 0 #[.string i] 9 (0, 0) (heap_alloc_new _ _)
  have bx := bx0.keep hb1
  have HB := Lib.hid (hb0.trans (hb1.mono hb0.size))
  have HL := Lib.hid (hl.below HB.out)
  have HBX := Lib.hid bx
  have hd0 : Below w1.heap.size w1 w1.drew := (Below.refl _ _).drew
  obtain ⟨w2, hw2⟩ : ∃ w2, w1.drew.alloc (.cells (sixL.map fun l => Value.string ⟨l.toArray⟩).toArray 9) = w2 := ⟨_, rfl⟩
  have HWC := Lib.hid (six_at w1.drew w2 hw2 (HL.out.below hd0))
  have hb2 : Below w1.heap.size w1 w2 := by rw [← hw2]; exact hd0.alloc hd0.size _
  have HB2 := Lib.hid hb2
  have f0 : w2.cell? ⟨w1.heap.size, 4, none⟩ = some (.string ⟨([116, 104, 105, 115] : List UInt8).toArray⟩) := by rw [← hw2]; exact cell_of_row _ _ _ _ _ (0, 0) (heap_alloc_new _ _)
  have f1 : w2.cell? ⟨w.heap.size, 0, none⟩ = some (.int .i64 8) := (HBX.out.keep hb2).c0
  obtain ⟨c0, c1, c2, c3, c4⟩ := bx
  have e0 : w1.drew.cell? ⟨w.heap.size, 0, none⟩ = some (.int .i64 8) := c0
  clear bx0 hb0 hb1 hl hk hop hm hb2 hw2
  go_enter Tryd.func51, Tryd.ntmps51
  go_wp2
  go_region_with (go_at_call 80; refine HWC.out.mono ?_; rintro e wz ⟨rfl, rfl⟩)
  all_goals
    go_wp2
    go_ret
    exact ⟨by rw [HFL.out]; rfl, HB.out.trans (HB2.out.mono HB.out.size)⟩

set_option maxRecDepth 100000 in
set_option maxHeartbeats 4000000 in
theorem text_9 (h : Nat) (t : Tree) (i : ByteArray) (hop : t.op = 9) : ExprT (h + 1) t i := by
  intro d w sl hl hk
  obtain ⟨hlen, A, c, rfl⟩ := hk.form
  unfold maxLen at hlen
  have HFL : Hid (T (h + 1) t i.data.toList = [105, 110, 112, 117, 116]) := Lib.hid (by simp [T, stepT, hop, wordOf])
  rw [hop]
  have hopw : ∀ v : Value, Value.int .i64 t.op = v → v = .int .i64 9 := fun v e => by rw [← e, hop]
  clear hopw
  obtain ⟨w0, hw0⟩ : ∃ w0, w.alloc (.cells #[.int .i64 9, .string t.s, .int .i64 t.n, .slice A t.l.length c, .int .i64 t.line] 24) = w0 := ⟨_, rfl⟩
  obtain ⟨w1, hw1⟩ : ∃ w1, w0.alloc (.cells #[.string i] 9) = w1 := ⟨_, rfl⟩
  have bx0 : Blk5 w0 w.heap.size 9 t.s t.n (.slice A t.l.length c) t.line := by rw [← hw0]; exact blk5_new _ _ _ _ _ _
  have hb0 : Below w.heap.size w w0 := by rw [← hw0]; exact (Below.refl _ _).alloc (Nat.le_refl _) _
  have hb1 : Below w0.heap.size w0 w1 := by rw [← hw1]; exact (Below.refl _ _).alloc (Nat.le_refl _) _
  have hm : w1.cell? ⟨w0.heap.size, 0, none⟩ = some (.string i) := by rw [← hw1]; exact cell_of_row _ _ 0 #[.string i] 9 (0, 0) (heap_alloc_new _ _)
  have bx := bx0.keep hb1
  have HB := Lib.hid (hb0.trans (hb1.mono hb0.size))
  have HL := Lib.hid (hl.below HB.out)
  have HBX := Lib.hid bx
  have hd0 : Below w1.heap.size w1 w1.drew := (Below.refl _ _).drew
  obtain ⟨w2, hw2⟩ : ∃ w2, w1.drew.alloc (.cells (sixL.map fun l => Value.string ⟨l.toArray⟩).toArray 9) = w2 := ⟨_, rfl⟩
  have HWC := Lib.hid (six_at w1.drew w2 hw2 (HL.out.below hd0))
  have hb2 : Below w1.heap.size w1 w2 := by rw [← hw2]; exact hd0.alloc hd0.size _
  have HB2 := Lib.hid hb2
  have f0 : w2.cell? ⟨w1.heap.size, 5, none⟩ = some (.string ⟨([105, 110, 112, 117, 116] : List UInt8).toArray⟩) := by rw [← hw2]; exact cell_of_row _ _ _ _ _ (0, 0) (heap_alloc_new _ _)
  have f1 : w2.cell? ⟨w.heap.size, 0, none⟩ = some (.int .i64 9) := (HBX.out.keep hb2).c0
  obtain ⟨c0, c1, c2, c3, c4⟩ := bx
  have e0 : w1.drew.cell? ⟨w.heap.size, 0, none⟩ = some (.int .i64 9) := c0
  clear bx0 hb0 hb1 hl hk hop hm hb2 hw2
  go_enter Tryd.func51, Tryd.ntmps51
  go_wp2
  go_region_with (go_at_call 80; refine HWC.out.mono ?_; rintro e wz ⟨rfl, rfl⟩)
  all_goals
    go_wp2
    go_ret
    exact ⟨by rw [HFL.out]; rfl, HB.out.trans (HB2.out.mono HB.out.size)⟩

end Go.Proofs.YtcidccifnaecaaaDoor
