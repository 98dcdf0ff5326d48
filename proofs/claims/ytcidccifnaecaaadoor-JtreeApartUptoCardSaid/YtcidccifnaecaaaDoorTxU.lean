/- The texts of plain statements: walked. -/
import Derived.Test.YtcidccifnaecaaaDoorTxM
import Derived.Test.YtcidccifnaecaaaDoorShow
namespace Go.Proofs.YtcidccifnaecaaaDoor
open Go.RowKit Go.Sort

set_option maxRecDepth 100000 in
set_option maxHeartbeats 4000000 in
theorem stext_39 (h : Nat) (t : Tree) (i : ByteArray) (hop : t.op = 39) : StmtT (h + 1) t i := by
  intro d w sl hl hk
  obtain ⟨hlen, A, c, rfl⟩ := hk.form
  unfold maxLen at hlen
  have HFL : Hid (T (h + 1) t i.data.toList = [98, 114, 101, 97, 107, 59]) := Lib.hid (by simp [T, stepT, hop])
  rw [hop]
  have hopw : ∀ v : Value, Value.int .i64 t.op = v → v = .int .i64 39 := fun v e => by rw [← e, hop]
  clear hopw
  obtain ⟨w0, hw0⟩ : ∃ w0, w.alloc (.cells #[.int .i64 39, .string t.s, .int .i64 t.n, .slice A t.l.length c, .int .i64 t.line] 24) = w0 := ⟨_, rfl⟩
  obtain ⟨w1, hw1⟩ : ∃ w1, w0.alloc (.cells #[.string i] 9) = w1 := ⟨_, rfl⟩
  have bx0 : Blk5 w0 w.heap.size 39 t.s t.n (.slice A t.l.length c) t.line := by rw [← hw0]; exact blk5_new _ _ _ _ _ _
  have hb0 : Below w.heap.size w w0 := by rw [← hw0]; exact (Below.refl _ _).alloc (Nat.le_refl _) _
  have hb1 : Below w0.heap.size w0 w1 := by rw [← hw1]; exact (Below.refl _ _).alloc (Nat.le_refl _) _
  have hm : w1.cell? ⟨w0.heap.size, 0, none⟩ = some (.string i) := by rw [← hw1]; exact cell_of_row _ _ 0 #[.string i] 9 (0, 0) (heap_alloc_new _ _)
  have bx := bx0.keep hb1
  have HB := Lib.hid (hb0.trans (hb1.mono hb0.size))
  obtain ⟨c0, c1, c2, c3, c4⟩ := bx
  clear bx0 hb0 hb1 hl hk hop
  go_enter Tryd.func76, Tryd.ntmps76
  go_wp2
  go_ret
  exact ⟨by rw [HFL.out]; rfl, HB.out⟩

set_option maxRecDepth 100000 in
set_option maxHeartbeats 4000000 in
theorem stext_40 (h : Nat) (t : Tree) (i : ByteArray) (hop : t.op = 40) : StmtT (h + 1) t i := by
  intro d w sl hl hk
  obtain ⟨hlen, A, c, rfl⟩ := hk.form
  unfold maxLen at hlen
  have HFL : Hid (T (h + 1) t i.data.toList = [99, 111, 110, 116, 105, 110, 117, 101, 59]) := Lib.hid (by simp [T, stepT, hop])
  rw [hop]
  have hopw : ∀ v : Value, Value.int .i64 t.op = v → v = .int .i64 40 := fun v e => by rw [← e, hop]
  clear hopw
  obtain ⟨w0, hw0⟩ : ∃ w0, w.alloc (.cells #[.int .i64 40, .string t.s, .int .i64 t.n, .slice A t.l.length c, .int .i64 t.line] 24) = w0 := ⟨_, rfl⟩
  obtain ⟨w1, hw1⟩ : ∃ w1, w0.alloc (.cells #[.string i] 9) = w1 := ⟨_, rfl⟩
  have bx0 : Blk5 w0 w.heap.size 40 t.s t.n (.slice A t.l.length c) t.line := by rw [← hw0]; exact blk5_new _ _ _ _ _ _
  have hb0 : Below w.heap.size w w0 := by rw [← hw0]; exact (Below.refl _ _).alloc (Nat.le_refl _) _
  have hb1 : Below w0.heap.size w0 w1 := by rw [← hw1]; exact (Below.refl _ _).alloc (Nat.le_refl _) _
  have hm : w1.cell? ⟨w0.heap.size, 0, none⟩ = some (.string i) := by rw [← hw1]; exact cell_of_row _ _ 0 #[.string i] 9 (0, 0) (heap_alloc_new _ _)
  have bx := bx0.keep hb1
  have HB := Lib.hid (hb0.trans (hb1.mono hb0.size))
  obtain ⟨c0, c1, c2, c3, c4⟩ := bx
  clear bx0 hb0 hb1 hl hk hop
  go_enter Tryd.func76, Tryd.ntmps76
  go_wp2
  go_ret
  exact ⟨by rw [HFL.out]; rfl, HB.out⟩

set_option maxRecDepth 100000 in
set_option maxHeartbeats 4000000 in
theorem stext_36_none (h : Nat) (t : Tree) (i : ByteArray) (hop : t.op = 36) (hta : t.l = []) : StmtT (h + 1) t i := by
  intro d w sl hl hk
  obtain ⟨hlen, A, c, rfl⟩ := hk.form
  unfold maxLen at hlen
  have HFL : Hid (T (h + 1) t i.data.toList = [114, 101, 116, 117, 114, 110, 59]) := Lib.hid (by simp [T, stepT, hop, hta])
  have hz : t.l.length = 0 := by rw [hta]; rfl
  rw [hop, hz]
  rw [hz] at hk
  have hopw : ∀ v : Value, Value.int .i64 t.op = v → v = .int .i64 36 := fun v e => by rw [← e, hop]
  clear hopw
  obtain ⟨w0, hw0⟩ : ∃ w0, w.alloc (.cells #[.int .i64 36, .string t.s, .int .i64 t.n, .slice A 0 c, .int .i64 t.line] 24) = w0 := ⟨_, rfl⟩
  obtain ⟨w1, hw1⟩ : ∃ w1, w0.alloc (.cells #[.string i] 9) = w1 := ⟨_, rfl⟩
  have bx0 : Blk5 w0 w.heap.size 36 t.s t.n (.slice A 0 c) t.line := by rw [← hw0]; exact blk5_new _ _ _ _ _ _
  have hb0 : Below w.heap.size w w0 := by rw [← hw0]; exact (Below.refl _ _).alloc (Nat.le_refl _) _
  have hb1 : Below w0.heap.size w0 w1 := by rw [← hw1]; exact (Below.refl _ _).alloc (Nat.le_refl _) _
  have hm : w1.cell? ⟨w0.heap.size, 0, none⟩ = some (.string i) := by rw [← hw1]; exact cell_of_row _ _ 0 #[.string i] 9 (0, 0) (heap_alloc_new _ _)
  have bx := bx0.keep hb1
  have HB := Lib.hid (hb0.trans (hb1.mono hb0.size))
  obtain ⟨c0, c1, c2, c3, c4⟩ := bx
  clear bx0 hb0 hb1 hl hk hop hta hz
  go_enter Tryd.func76, Tryd.ntmps76
  go_wp2
  go_ret
  exact ⟨by rw [HFL.out]; rfl, HB.out⟩

set_option maxRecDepth 100000 in
set_option maxHeartbeats 4000000 in
theorem stext_36 (h : Nat) (t a : Tree) (i : ByteArray) (hop : t.op = 36) (hta : t.l = [a]) (hca : ExprT h a i) (hT : (T (h + 1) t i.data.toList).length ≤ 140737488355328) : StmtT (h + 1) t i := by
  intro d w sl hl hk
  obtain ⟨hlen, A, c, rfl⟩ := hk.form
  unfold maxLen at hlen
  have HFL : Hid ((([⟨#[114, 101, 116, 117, 114, 110, 32]⟩, ⟨(T h a i.data.toList).toArray⟩, ⟨#[59]⟩] : List ByteArray).map (·.data.toList)).flatten = T (h + 1) t i.data.toList) := Lib.hid (by simp [T, stepT, hop, hta])
  have HJ : Hid (∀ w9 : World, Calls Tryd.prog 75 #[.slice (some ⟨w9.heap.size, 0, none⟩) 3 3] (w9.alloc (.cells #[.string ⟨#[114, 101, 116, 117, 114, 110, 32]⟩, .string ⟨(T h a i.data.toList).toArray⟩, .string ⟨#[59]⟩] 9)) fun e w' => e = .returned (.string ⟨(T (h + 1) t i.data.toList).toArray⟩) ∧ Below w9.heap.size w9 w') := Lib.hid fun w9 => by
    have := join_at w9 [⟨#[114, 101, 116, 117, 114, 110, 32]⟩, ⟨(T h a i.data.toList).toArray⟩, ⟨#[59]⟩] (by simp) (by rw [HFL.out]; exact hT)
    rw [HFL.out] at this
    exact this
  rw [hop]
  have hopw : ∀ v : Value, Value.int .i64 t.op = v → v = .int .i64 36 := fun v e => by rw [← e, hop]
  clear hopw
  obtain ⟨w0, hw0⟩ : ∃ w0, w.alloc (.cells #[.int .i64 36, .string t.s, .int .i64 t.n, .slice A t.l.length c, .int .i64 t.line] 24) = w0 := ⟨_, rfl⟩
  obtain ⟨w1, hw1⟩ : ∃ w1, w0.alloc (.cells #[.string i] 9) = w1 := ⟨_, rfl⟩
  have bx0 : Blk5 w0 w.heap.size 36 t.s t.n (.slice A t.l.length c) t.line := by rw [← hw0]; exact blk5_new _ _ _ _ _ _
  have hb0 : Below w.heap.size w w0 := by rw [← hw0]; exact (Below.refl _ _).alloc (Nat.le_refl _) _
  have hb1 : Below w0.heap.size w0 w1 := by rw [← hw1]; exact (Below.refl _ _).alloc (Nat.le_refl _) _
  have hm : w1.cell? ⟨w0.heap.size, 0, none⟩ = some (.string i) := by rw [← hw1]; exact cell_of_row _ _ 0 #[.string i] 9 (0, 0) (heap_alloc_new _ _)
  have bx := bx0.keep hb1
  have HB := Lib.hid (hb0.trans (hb1.mono hb0.size))
  have hhd : Held w1 w.heap.size w0.heap.size t A c i := ⟨by rw [hop]; exact bx, hm⟩
  have HH := Lib.hid hhd
  have HL := Lib.hid (hl.below HB.out)
  have HK := Lib.hid (hk.below HB.out)
  have HAa := Lib.hid (fun (w9 : World) (hb9 : Below w1.heap.size w1 w9) => (ats_calls w9 w.heap.size w0.heap.size t A c i (HH.out.below hb9) (HL.out.below hb9) d (HK.out.below hb9) 0 a (by rw [hta]; rfl) h hca).mono fun e w' (hq : _ ∧ _) => (⟨hq.1, hb9.trans (hq.2.mono hb9.size)⟩ : e = _ ∧ Below w1.heap.size w1 w'))
  have hln : 0 < t.l.length := by rw [hta]; simp
  have hli : ¬ (t.l.length : Int) = 0 := by omega
  have hli2 : ¬ t.l.length = 0 := by omega
  have hdl : decide ((t.l.length : Int) = 0) = false := by simp only [decide_eq_false_iff_not]; omega
  obtain ⟨c0, c1, c2, c3, c4⟩ := bx
  clear bx0 hb0 hb1 hl hk hhd hT hop hta HFL hca
  generalize T h a i.data.toList = Xa at HJ HAa
  go_enter Tryd.func76, Tryd.ntmps76
  go_wp2_with (first
    | (go_at_call 75; refine (HJ.out _).mono ?_; rintro e wz ⟨rfl, hb⟩; have HBZ := Lib.hid (HBV.out.trans (hb.mono HBV.out.size)); clear hb)
    | (go_at_call 102; refine (HAa.out w1 (Below.refl _ _)).mono ?_; rintro e v0 ⟨rfl, hb⟩; have HBV := Lib.hid hb; clear hb))
  go_ret
  exact ⟨rfl, HB.out.trans (HBZ.out.mono HB.out.size)⟩

set_option maxRecDepth 100000 in
set_option maxHeartbeats 4000000 in
theorem stext_37 (h : Nat) (t a : Tree) (i : ByteArray) (hop : t.op = 37) (hta : t.l = [a]) (hca : ExprT h a i) (hT : (T (h + 1) t i.data.toList).length ≤ 140737488355328) : StmtT (h + 1) t i := by
  intro d w sl hl hk
  obtain ⟨hlen, A, c, rfl⟩ := hk.form
  unfold maxLen at hlen
  have HFL : Hid ((([⟨#[116, 104, 114, 111, 119, 32]⟩, ⟨(T h a i.data.toList).toArray⟩, ⟨#[59]⟩] : List ByteArray).map (·.data.toList)).flatten = T (h + 1) t i.data.toList) := Lib.hid (by simp [T, stepT, hop, hta])
  have HJ : Hid (∀ w9 : World, Calls Tryd.prog 75 #[.slice (some ⟨w9.heap.size, 0, none⟩) 3 3] (w9.alloc (.cells #[.string ⟨#[116, 104, 114, 111, 119, 32]⟩, .string ⟨(T h a i.data.toList).toArray⟩, .string ⟨#[59]⟩] 9)) fun e w' => e = .returned (.string ⟨(T (h + 1) t i.data.toList).toArray⟩) ∧ Below w9.heap.size w9 w') := Lib.hid fun w9 => by
    have := join_at w9 [⟨#[116, 104, 114, 111, 119, 32]⟩, ⟨(T h a i.data.toList).toArray⟩, ⟨#[59]⟩] (by simp) (by rw [HFL.out]; exact hT)
    rw [HFL.out] at this
    exact this
  rw [hop]
  have hopw : ∀ v : Value, Value.int .i64 t.op = v → v = .int .i64 37 := fun v e => by rw [← e, hop]
  clear hopw
  obtain ⟨w0, hw0⟩ : ∃ w0, w.alloc (.cells #[.int .i64 37, .string t.s, .int .i64 t.n, .slice A t.l.length c, .int .i64 t.line] 24) = w0 := ⟨_, rfl⟩
  obtain ⟨w1, hw1⟩ : ∃ w1, w0.alloc (.cells #[.string i] 9) = w1 := ⟨_, rfl⟩
  have bx0 : Blk5 w0 w.heap.size 37 t.s t.n (.slice A t.l.length c) t.line := by rw [← hw0]; exact blk5_new _ _ _ _ _ _
  have hb0 : Below w.heap.size w w0 := by rw [← hw0]; exact (Below.refl _ _).alloc (Nat.le_refl _) _
  have hb1 : Below w0.heap.size w0 w1 := by rw [← hw1]; exact (Below.refl _ _).alloc (Nat.le_refl _) _
  have hm : w1.cell? ⟨w0.heap.size, 0, none⟩ = some (.string i) := by rw [← hw1]; exact cell_of_row _ _ 0 #[.string i] 9 (0, 0) (heap_alloc_new _ _)
  have bx := bx0.keep hb1
  have HB := Lib.hid (hb0.trans (hb1.mono hb0.size))
  have hhd : Held w1 w.heap.size w0.heap.size t A c i := ⟨by rw [hop]; exact bx, hm⟩
  have HH := Lib.hid hhd
  have HL := Lib.hid (hl.below HB.out)
  have HK := Lib.hid (hk.below HB.out)
  have HAa := Lib.hid (fun (w9 : World) (hb9 : Below w1.heap.size w1 w9) => (ats_calls w9 w.heap.size w0.heap.size t A c i (HH.out.below hb9) (HL.out.below hb9) d (HK.out.below hb9) 0 a (by rw [hta]; rfl) h hca).mono fun e w' (hq : _ ∧ _) => (⟨hq.1, hb9.trans (hq.2.mono hb9.size)⟩ : e = _ ∧ Below w1.heap.size w1 w'))
  have hln : 0 < t.l.length := by rw [hta]; simp
  have hli : ¬ (t.l.length : Int) = 0 := by omega
  have hli2 : ¬ t.l.length = 0 := by omega
  have hdl : decide ((t.l.length : Int) = 0) = false := by simp only [decide_eq_false_iff_not]; omega
  obtain ⟨c0, c1, c2, c3, c4⟩ := bx
  clear bx0 hb0 hb1 hl hk hhd hT hop hta HFL hca
  generalize T h a i.data.toList = Xa at HJ HAa
  go_enter Tryd.func76, Tryd.ntmps76
  go_wp2_with (first
    | (go_at_call 75; refine (HJ.out _).mono ?_; rintro e wz ⟨rfl, hb⟩; have HBZ := Lib.hid (HBV.out.trans (hb.mono HBV.out.size)); clear hb)
    | (go_at_call 102; refine (HAa.out w1 (Below.refl _ _)).mono ?_; rintro e v0 ⟨rfl, hb⟩; have HBV := Lib.hid hb; clear hb))
  go_ret
  exact ⟨rfl, HB.out.trans (HBZ.out.mono HB.out.size)⟩

set_option maxRecDepth 100000 in
set_option maxHeartbeats 4000000 in
theorem stext_32 (h : Nat) (t : Tree) (i : ByteArray) (hop : t.op = 32) (hcb : BlockT (h + 1) t i) : StmtT (h + 1) t i := by
  intro d w sl hl hk
  obtain ⟨hlen, A, c, rfl⟩ := hk.form
  unfold maxLen at hlen
  rw [hop]
  have hopw : ∀ v : Value, Value.int .i64 t.op = v → v = .int .i64 32 := fun v e => by rw [← e, hop]
  clear hopw
  obtain ⟨w0, hw0⟩ : ∃ w0, w.alloc (.cells #[.int .i64 32, .string t.s, .int .i64 t.n, .slice A t.l.length c, .int .i64 t.line] 24) = w0 := ⟨_, rfl⟩
  obtain ⟨w1, hw1⟩ : ∃ w1, w0.alloc (.cells #[.string i] 9) = w1 := ⟨_, rfl⟩
  have bx0 : Blk5 w0 w.heap.size 32 t.s t.n (.slice A t.l.length c) t.line := by rw [← hw0]; exact blk5_new _ _ _ _ _ _
  have hb0 : Below w.heap.size w w0 := by rw [← hw0]; exact (Below.refl _ _).alloc (Nat.le_refl _) _
  have hb1 : Below w0.heap.size w0 w1 := by rw [← hw1]; exact (Below.refl _ _).alloc (Nat.le_refl _) _
  have hm : w1.cell? ⟨w0.heap.size, 0, none⟩ = some (.string i) := by rw [← hw1]; exact cell_of_row _ _ 0 #[.string i] 9 (0, 0) (heap_alloc_new _ _)
  have bx := bx0.keep hb1
  have HB := Lib.hid (hb0.trans (hb1.mono hb0.size))
  have hbb := hcb d w1 _ (hl.below HB.out) (hk.below HB.out)
  rw [hop] at hbb
  have HAa := Lib.hid hbb
  obtain ⟨c0, c1, c2, c3, c4⟩ := bx
  clear bx0 hb0 hb1 hl hk hop hcb hbb
  go_enter Tryd.func76, Tryd.ntmps76
  go_wp2_with (go_at_call 103; refine HAa.out.mono ?_; rintro e v0 ⟨rfl, hb⟩; have HBV := Lib.hid hb; clear hb)
  go_ret
  exact ⟨rfl, HB.out.trans (HBV.out.mono HB.out.size)⟩

set_option maxRecDepth 100000 in
set_option maxHeartbeats 4000000 in
theorem stext_30_none (h : Nat) (t : Tree) (i : ByteArray) (hop : t.op = 30) (hta : t.l = []) (hT : (T (h + 1) t i.data.toList).length ≤ 140737488355328) : StmtT (h + 1) t i := by
  intro d w sl hl hk
  obtain ⟨hlen, A, c, rfl⟩ := hk.form
  unfold maxLen at hlen
  have HFL : Hid (T (h + 1) t i.data.toList = [118, 97, 114, 32] ++ t.s.data.toList ++ [59]) := Lib.hid (by simp [T, stepT, hop, hta])
  have hz : t.l.length = 0 := by rw [hta]; rfl
  rw [HFL.out] at hT
  have hts : t.s.size + 10 ≤ 140737488355400 := by simp only [List.length_append, List.length_cons, List.length_nil, size_list] at hT; omega
  rw [hop, hz]
  rw [hz] at hk
  have hopw : ∀ v : Value, Value.int .i64 t.op = v → v = .int .i64 30 := fun v e => by rw [← e, hop]
  clear hopw
  obtain ⟨w0, hw0⟩ : ∃ w0, w.alloc (.cells #[.int .i64 30, .string t.s, .int .i64 t.n, .slice A 0 c, .int .i64 t.line] 24) = w0 := ⟨_, rfl⟩
  obtain ⟨w1, hw1⟩ : ∃ w1, w0.alloc (.cells #[.string i] 9) = w1 := ⟨_, rfl⟩
  have bx0 : Blk5 w0 w.heap.size 30 t.s t.n (.slice A 0 c) t.line := by rw [← hw0]; exact blk5_new _ _ _ _ _ _
  have hb0 : Below w.heap.size w w0 := by rw [← hw0]; exact (Below.refl _ _).alloc (Nat.le_refl _) _
  have hb1 : Below w0.heap.size w0 w1 := by rw [← hw1]; exact (Below.refl _ _).alloc (Nat.le_refl _) _
  have hm : w1.cell? ⟨w0.heap.size, 0, none⟩ = some (.string i) := by rw [← hw1]; exact cell_of_row _ _ 0 #[.string i] 9 (0, 0) (heap_alloc_new _ _)
  have bx := bx0.keep hb1
  have HB := Lib.hid (hb0.trans (hb1.mono hb0.size))
  obtain ⟨c0, c1, c2, c3, c4⟩ := bx
  clear bx0 hb0 hb1 hl hk hop hT hta hz
  go_enter Tryd.func76, Tryd.ntmps76
  go_wp2
  go_ret
  refine ⟨?_, HB.out⟩
  rw [HFL.out]
  exact congrArg (fun z => Ending.returned (Value.string z)) (bytes_ext (by simp))

set_option maxRecDepth 100000 in
set_option maxHeartbeats 4000000 in
theorem stext_30 (h : Nat) (t a : Tree) (i : ByteArray) (hop : t.op = 30) (hta : t.l = [a]) (hca : ExprT h a i) (hT : (T (h + 1) t i.data.toList).length ≤ 140737488355328) : StmtT (h + 1) t i := by
  intro d w sl hl hk
  obtain ⟨hlen, A, c, rfl⟩ := hk.form
  unfold maxLen at hlen
  have HFL : Hid (T (h + 1) t i.data.toList = [118, 97, 114, 32] ++ t.s.data.toList ++ [32, 61, 32] ++ T h a i.data.toList ++ [59]) := Lib.hid (by simp [T, stepT, hop, hta])
  rw [HFL.out] at hT
  rw [hop]
  have hopw : ∀ v : Value, Value.int .i64 t.op = v → v = .int .i64 30 := fun v e => by rw [← e, hop]
  clear hopw
  obtain ⟨w0, hw0⟩ : ∃ w0, w.alloc (.cells #[.int .i64 30, .string t.s, .int .i64 t.n, .slice A t.l.length c, .int .i64 t.line] 24) = w0 := ⟨_, rfl⟩
  obtain ⟨w1, hw1⟩ : ∃ w1, w0.alloc (.cells #[.string i] 9) = w1 := ⟨_, rfl⟩
  have bx0 : Blk5 w0 w.heap.size 30 t.s t.n (.slice A t.l.length c) t.line := by rw [← hw0]; exact blk5_new _ _ _ _ _ _
  have hb0 : Below w.heap.size w w0 := by rw [← hw0]; exact (Below.refl _ _).alloc (Nat.le_refl _) _
  have hb1 : Below w0.heap.size w0 w1 := by rw [← hw1]; exact (Below.refl _ _).alloc (Nat.le_refl _) _
  have hm : w1.cell? ⟨w0.heap.size, 0, none⟩ = some (.string i) := by rw [← hw1]; exact cell_of_row _ _ 0 #[.string i] 9 (0, 0) (heap_alloc_new _ _)
  have bx := bx0.keep hb1
  have HB := Lib.hid (hb0.trans (hb1.mono hb0.size))
  have hhd : Held w1 w.heap.size w0.heap.size t A c i := ⟨by rw [hop]; exact bx, hm⟩
  have HH := Lib.hid hhd
  have HL := Lib.hid (hl.below HB.out)
  have HK := Lib.hid (hk.below HB.out)
  have HAa := Lib.hid (fun (w9 : World) (hb9 : Below w1.heap.size w1 w9) => (ats_calls w9 w.heap.size w0.heap.size t A c i (HH.out.below hb9) (HL.out.below hb9) d (HK.out.below hb9) 0 a (by rw [hta]; rfl) h hca).mono fun e w' (hq : _ ∧ _) => (⟨hq.1, hb9.trans (hq.2.mono hb9.size)⟩ : e = _ ∧ Below w1.heap.size w1 w'))
  have hln : 0 < t.l.length := by rw [hta]; simp
  have hli : (0 : Int) < (t.l.length : Int) := by omega
  have hsz : t.s.size + (⟨(T h a i.data.toList).toArray⟩ : ByteArray).size + 8 ≤ 140737488355400 := by
    rw [bs_size (T h a i.data.toList)]
    have hq := size_list t.s
    simp only [List.length_append, List.length_cons, List.length_nil] at hT
    omega
  have hXl : (⟨(T h a i.data.toList).toArray⟩ : ByteArray).data.toList = T h a i.data.toList := rfl
  obtain ⟨c0, c1, c2, c3, c4⟩ := bx
  clear bx0 hb0 hb1 hl hk hhd hT hop hta hca
  generalize T h a i.data.toList = Xa at HAa HFL hsz hXl
  generalize (⟨Xa.toArray⟩ : ByteArray) = Xb at HAa hsz hXl
  have HXL := Lib.hid hXl
  clear hXl
  go_enter Tryd.func76, Tryd.ntmps76
  go_wp2_with fail
  refine (HAa.out w1 (Below.refl _ _)).mono ?_
  rintro e v0 ⟨rfl, hb⟩
  have HBV := Lib.hid hb
  clear hb
  go_wp2
  go_ret
  refine ⟨?_, HB.out.trans (HBV.out.mono HB.out.size)⟩
  rw [HFL.out, ← HXL.out]
  exact congrArg (fun z => Ending.returned (Value.string z)) (bytes_ext (by simp))

set_option maxRecDepth 100000 in
set_option maxHeartbeats 4000000 in
theorem stext_41 (h : Nat) (t : Tree) (i : ByteArray) (hop : t.op = 41) (ks : List Tree) (b : Tree) (hta : t.l = ks ++ [b]) (hc : ∀ u, u ∈ ks → ExprT h u i) (hcb : BlockT h b i) (hN : ks.length ≤ 1000) (hT : (T (h + 1) t i.data.toList).length ≤ 140737488355328) : StmtT (h + 1) t i := by
  intro d w sl hl hk
  obtain ⟨hlen, A, c, rfl⟩ := hk.form
  unfold maxLen at hlen
  have hFE : T (h + 1) t i.data.toList = [102, 117, 110, 99, 116, 105, 111, 110, 32] ++ t.s.data.toList ++ funL ((ks ++ [b]).map fun u => T h u i.data.toList) := by rw [← hta]; simp [T, stepT, hop]
  have hTF : (funL ((ks ++ [b]).map fun u => T h u i.data.toList)).length ≤ 140737488355328 := by
    rw [hFE] at hT
    simp only [List.length_append] at hT
    omega
  have hFC := fun (w9 : World) (h9 : Laid w9) (k9 : Kids w9 d (ks ++ [b]) (.slice A t.l.length c)) => function_calls h ks b i hc hcb hTF hN d w9 _ h9 k9
  rw [← hta] at hFC hFE
  generalize funL (t.l.map fun u => T h u i.data.toList) = Xa at hFC hFE
  have HFL : Hid ((([⟨#[102, 117, 110, 99, 116, 105, 111, 110, 32]⟩, t.s, ⟨Xa.toArray⟩] : List ByteArray).map (·.data.toList)).flatten = T (h + 1) t i.data.toList) := Lib.hid (by rw [hFE]; simp)
  have HJ : Hid (∀ w9 : World, Calls Tryd.prog 75 #[.slice (some ⟨w9.heap.size, 0, none⟩) 3 3] (w9.alloc (.cells #[.string ⟨#[102, 117, 110, 99, 116, 105, 111, 110, 32]⟩, .string t.s, .string ⟨Xa.toArray⟩] 9)) fun e w' => e = .returned (.string ⟨(T (h + 1) t i.data.toList).toArray⟩) ∧ Below w9.heap.size w9 w') := Lib.hid fun w9 => by
    have := join_at w9 [⟨#[102, 117, 110, 99, 116, 105, 111, 110, 32]⟩, t.s, ⟨Xa.toArray⟩] (by simp) (by rw [HFL.out]; exact hT)
    rw [HFL.out] at this
    exact this
  rw [hop]
  have hopw : ∀ v : Value, Value.int .i64 t.op = v → v = .int .i64 41 := fun v e => by rw [← e, hop]
  clear hopw
  obtain ⟨w0, hw0⟩ : ∃ w0, w.alloc (.cells #[.int .i64 41, .string t.s, .int .i64 t.n, .slice A t.l.length c, .int .i64 t.line] 24) = w0 := ⟨_, rfl⟩
  obtain ⟨w1, hw1⟩ : ∃ w1, w0.alloc (.cells #[.string i] 9) = w1 := ⟨_, rfl⟩
  have bx0 : Blk5 w0 w.heap.size 41 t.s t.n (.slice A t.l.length c) t.line := by rw [← hw0]; exact blk5_new _ _ _ _ _ _
  have hb0 : Below w.heap.size w w0 := by rw [← hw0]; exact (Below.refl _ _).alloc (Nat.le_refl _) _
  have hb1 : Below w0.heap.size w0 w1 := by rw [← hw1]; exact (Below.refl _ _).alloc (Nat.le_refl _) _
  have hm : w1.cell? ⟨w0.heap.size, 0, none⟩ = some (.string i) := by rw [← hw1]; exact cell_of_row _ _ 0 #[.string i] 9 (0, 0) (heap_alloc_new _ _)
  have bx := bx0.keep hb1
  have HB := Lib.hid (hb0.trans (hb1.mono hb0.size))
  have hhd : Held w1 w.heap.size w0.heap.size t A c i := ⟨by rw [hop]; exact bx, hm⟩
  have HH := Lib.hid hhd
  have HL := Lib.hid (hl.below HB.out)
  have HK := Lib.hid (hk.below HB.out)
  have HJT := Lib.hid (fun (w9 : World) (hb9 : Below w1.heap.size w1 w9) => (HJ.out w9).mono fun e w' (hq : _ ∧ _) => (⟨hq.1, hb9.trans (hq.2.mono hb9.size)⟩ : e = _ ∧ Below w1.heap.size w1 w'))
  have HAa := Lib.hid (fun (w9 : World) (hb9 : Below w1.heap.size w1 w9) => (hFC w9 (HL.out.below hb9) (HK.out.below hb9)).mono fun e w' (hq : _ ∧ _) => (⟨hq.1, hb9.trans (hq.2.mono hb9.size)⟩ : e = _ ∧ Below w1.heap.size w1 w'))
  have SC : Hid (∀ (w9 : World), Below w1.heap.size w1 w9 → (w9.cell? ⟨w.heap.size, 3, none⟩ = some (.slice A t.l.length c) ∧ w9.cell? ⟨w0.heap.size, 0, none⟩ = some (.string i) ∧ w9.cell? ⟨w.heap.size, 1, none⟩ = some (.string t.s))) := Lib.hid fun w9 hb9 => ⟨(HH.out.below hb9).node.c3, (HH.out.below hb9).margin, (HH.out.below hb9).node.c1⟩
  obtain ⟨c0, c1, c2, c3, c4⟩ := bx
  have hd0 : Below w1.heap.size w1 w1.drew := (Below.refl _ _).drew
  clear bx0 hb0 hb1 hl hk hhd hT hop hta HFL HJ hc hcb hFC hFE hTF
  generalize (T (h + 1) t i.data.toList) = Z at HJT ⊢
  go_enter Tryd.func76, Tryd.ntmps76
  go_wp2
  go_region_held3 (fun w9 => (w9.cell? ⟨w.heap.size, 3, none⟩ = some (.slice A t.l.length c) ∧ w9.cell? ⟨w0.heap.size, 0, none⟩ = some (.string i) ∧ w9.cell? ⟨w.heap.size, 1, none⟩ = some (.string t.s))) (first
    | exact SC.out _ (by assumption)
    | go_keep) (first
    | (go_at_call 75; refine (HJT.out _ (by assumption)).mono ?_; rintro e wz ⟨rfl, hbz⟩)
    | (go_at_call 81; refine (HAa.out _ (by assumption)).mono ?_; rintro e wz ⟨rfl, hbz⟩))
  all_goals
    go_wp2
    go_ret
    exact ⟨rfl, HB.out.trans (Below.mono (by assumption) HB.out.size)⟩

end Go.Proofs.YtcidccifnaecaaaDoor
