/- The text of an expression, kind by kind, walked. -/
import Derived.Test.YtcidccifnaecaaaDoorTxt
namespace Go.Proofs.YtcidccifnaecaaaDoor
open Go.RowKit Go.Sort

set_option maxRecDepth 100000 in
set_option maxHeartbeats 2000000 in
theorem text_14 (h : Nat) (t a b : Tree) (i : ByteArray) (hop : t.op = 14) (hta : t.l = [a, b]) (hca : ExprT h a i) (hcb : ExprT h b i) (hT : (T (h + 1) t i.data.toList).length ≤ 140737488355328) : ExprT (h + 1) t i := by
  intro d w sl hl hk
  obtain ⟨hlen, A, c, rfl⟩ := hk.form
  unfold maxLen at hlen
  have HFL : Hid ((([⟨(T h a i.data.toList).toArray⟩, ⟨#[91]⟩, ⟨(T h b i.data.toList).toArray⟩, ⟨#[93]⟩] : List ByteArray).map (·.data.toList)).flatten = T (h + 1) t i.data.toList) := Lib.hid (by simp [T, stepT, hop, hta])
  have HJ : Hid (∀ w9 : World, Calls Tryd.prog 75 #[.slice (some ⟨w9.heap.size, 0, none⟩) 4 4] (w9.alloc (.cells #[.string ⟨(T h a i.data.toList).toArray⟩, .string ⟨#[91]⟩, .string ⟨(T h b i.data.toList).toArray⟩, .string ⟨#[93]⟩] 9)) fun e w' => e = .returned (.string ⟨(T (h + 1) t i.data.toList).toArray⟩) ∧ Below w9.heap.size w9 w') := Lib.hid fun w9 => by
    have := join_at w9 [⟨(T h a i.data.toList).toArray⟩, ⟨#[91]⟩, ⟨(T h b i.data.toList).toArray⟩, ⟨#[93]⟩] (by simp) (by rw [HFL.out]; exact hT)
    rw [HFL.out] at this
    exact this
  rw [hop]
  have hopw : ∀ v : Value, Value.int .i64 t.op = v → v = .int .i64 14 := fun v e => by rw [← e, hop]
  clear hopw
  obtain ⟨w0, hw0⟩ : ∃ w0, w.alloc (.cells #[.int .i64 14, .string t.s, .int .i64 t.n, .slice A t.l.length c, .int .i64 t.line] 24) = w0 := ⟨_, rfl⟩
  obtain ⟨w1, hw1⟩ : ∃ w1, w0.alloc (.cells #[.string i] 9) = w1 := ⟨_, rfl⟩
  have bx0 : Blk5 w0 w.heap.size 14 t.s t.n (.slice A t.l.length c) t.line := by rw [← hw0]; exact blk5_new _ _ _ _ _ _
  have hb0 : Below w.heap.size w w0 := by rw [← hw0]; exact (Below.refl _ _).alloc (Nat.le_refl _) _
  have hb1 : Below w0.heap.size w0 w1 := by rw [← hw1]; exact (Below.refl _ _).alloc (Nat.le_refl _) _
  have hm : w1.cell? ⟨w0.heap.size, 0, none⟩ = some (.string i) := by rw [← hw1]; exact cell_of_row _ _ 0 #[.string i] 9 (0, 0) (heap_alloc_new _ _)
  have bx := bx0.keep hb1
  have HB := Lib.hid (hb0.trans (hb1.mono hb0.size))
  have hhd : Held w1 w.heap.size w0.heap.size t A c i := ⟨by rw [hop]; exact bx, hm⟩
  have HH := Lib.hid hhd
  have HL := Lib.hid (hl.below HB.out)
  have HK := Lib.hid (hk.below HB.out)
  have HAa := Lib.hid (fun (w9 : World) (hb9 : Below w1.heap.size w1 w9) => at_calls w9 w.heap.size w0.heap.size t A c i (HH.out.below hb9) (HL.out.below hb9) d (HK.out.below hb9) 0 a (by rw [hta]; rfl) h hca)
  have HAb := Lib.hid (fun (w9 : World) (hb9 : Below w1.heap.size w1 w9) => at_calls w9 w.heap.size w0.heap.size t A c i (HH.out.below hb9) (HL.out.below hb9) d (HK.out.below hb9) 1 b (by rw [hta]; rfl) h hcb)
  obtain ⟨c0, c1, c2, c3, c4⟩ := bx
  clear bx0 hb0 hb1 hl hk hhd hT hop hta HFL hca hcb
  generalize T h a i.data.toList = Xa at HJ HAa
  generalize T h b i.data.toList = Xb at HJ HAb
  go_enter Tryd.func51, Tryd.ntmps51
  go_wp2_with (first
    | (go_at_call 78; refine (HAb.out v0 HB_v0.out).mono ?_; rintro e v1 ⟨rfl, hb⟩; have HB_v1 := Lib.hid (HB_v0.out.trans (hb.mono HB_v0.out.size)); clear hb)
    | (go_at_call 78; refine (HAa.out w1 (Below.refl _ _)).mono ?_; rintro e v0 ⟨rfl, hb⟩; have HB_v0 := Lib.hid (hb); clear hb)
    | (go_at_call 75; refine (HJ.out _).mono ?_; rintro e wz ⟨rfl, hb⟩; have HBZ := Lib.hid (HB_v1.out.trans (hb.mono HB_v1.out.size)); clear hb))
  go_ret
  exact ⟨rfl, HB.out.trans (HBZ.out.mono HB.out.size)⟩

set_option maxRecDepth 100000 in
set_option maxHeartbeats 2000000 in
theorem text_17 (h : Nat) (t a b : Tree) (i : ByteArray) (hop : t.op = 17) (hta : t.l = [a, b]) (hca : ExprT h a i) (hcb : ExprT h b i) (hT : (T (h + 1) t i.data.toList).length ≤ 140737488355328) : ExprT (h + 1) t i := by
  intro d w sl hl hk
  obtain ⟨hlen, A, c, rfl⟩ := hk.form
  unfold maxLen at hlen
  have HFL : Hid ((([⟨#[40]⟩, ⟨(T h a i.data.toList).toArray⟩, ⟨#[32]⟩, ⟨#[61]⟩, ⟨#[32]⟩, ⟨(T h b i.data.toList).toArray⟩, ⟨#[41]⟩] : List ByteArray).map (·.data.toList)).flatten = T (h + 1) t i.data.toList) := Lib.hid (by simp [T, stepT, signOf, hop, hta])
  have HJ : Hid (∀ w9 : World, Calls Tryd.prog 75 #[.slice (some ⟨w9.heap.size, 0, none⟩) 7 7] (w9.alloc (.cells #[.string ⟨#[40]⟩, .string ⟨(T h a i.data.toList).toArray⟩, .string ⟨#[32]⟩, .string ⟨#[61]⟩, .string ⟨#[32]⟩, .string ⟨(T h b i.data.toList).toArray⟩, .string ⟨#[41]⟩] 9)) fun e w' => e = .returned (.string ⟨(T (h + 1) t i.data.toList).toArray⟩) ∧ Below w9.heap.size w9 w') := Lib.hid fun w9 => by
    have := join_at w9 [⟨#[40]⟩, ⟨(T h a i.data.toList).toArray⟩, ⟨#[32]⟩, ⟨#[61]⟩, ⟨#[32]⟩, ⟨(T h b i.data.toList).toArray⟩, ⟨#[41]⟩] (by simp) (by rw [HFL.out]; exact hT)
    rw [HFL.out] at this
    exact this
  rw [hop]
  have hopw : ∀ v : Value, Value.int .i64 t.op = v → v = .int .i64 17 := fun v e => by rw [← e, hop]
  clear hopw
  obtain ⟨w0, hw0⟩ : ∃ w0, w.alloc (.cells #[.int .i64 17, .string t.s, .int .i64 t.n, .slice A t.l.length c, .int .i64 t.line] 24) = w0 := ⟨_, rfl⟩
  obtain ⟨w1, hw1⟩ : ∃ w1, w0.alloc (.cells #[.string i] 9) = w1 := ⟨_, rfl⟩
  have bx0 : Blk5 w0 w.heap.size 17 t.s t.n (.slice A t.l.length c) t.line := by rw [← hw0]; exact blk5_new _ _ _ _ _ _
  have hb0 : Below w.heap.size w w0 := by rw [← hw0]; exact (Below.refl _ _).alloc (Nat.le_refl _) _
  have hb1 : Below w0.heap.size w0 w1 := by rw [← hw1]; exact (Below.refl _ _).alloc (Nat.le_refl _) _
  have hm : w1.cell? ⟨w0.heap.size, 0, none⟩ = some (.string i) := by rw [← hw1]; exact cell_of_row _ _ 0 #[.string i] 9 (0, 0) (heap_alloc_new _ _)
  have bx := bx0.keep hb1
  have HB := Lib.hid (hb0.trans (hb1.mono hb0.size))
  have hhd : Held w1 w.heap.size w0.heap.size t A c i := ⟨by rw [hop]; exact bx, hm⟩
  have HH := Lib.hid hhd
  have HL := Lib.hid (hl.below HB.out)
  have HK := Lib.hid (hk.below HB.out)
  have HAa := Lib.hid (fun (w9 : World) (hb9 : Below w1.heap.size w1 w9) => at_calls w9 w.heap.size w0.heap.size t A c i (HH.out.below hb9) (HL.out.below hb9) d (HK.out.below hb9) 0 a (by rw [hta]; rfl) h hca)
  have HAb := Lib.hid (fun (w9 : World) (hb9 : Below w1.heap.size w1 w9) => at_calls w9 w.heap.size w0.heap.size t A c i (HH.out.below hb9) (HL.out.below hb9) d (HK.out.below hb9) 1 b (by rw [hta]; rfl) h hcb)
  obtain ⟨c0, c1, c2, c3, c4⟩ := bx
  clear bx0 hb0 hb1 hl hk hhd hT hop hta HFL hca hcb
  generalize T h a i.data.toList = Xa at HJ HAa
  generalize T h b i.data.toList = Xb at HJ HAb
  go_enter Tryd.func51, Tryd.ntmps51
  go_wp2_with (first
    | (go_at_call 78; refine (HAb.out v0 HB_v0.out).mono ?_; rintro e v1 ⟨rfl, hb⟩; have HB_v1 := Lib.hid (HB_v0.out.trans (hb.mono HB_v0.out.size)); clear hb)
    | (go_at_call 78; refine (HAa.out w1 (Below.refl _ _)).mono ?_; rintro e v0 ⟨rfl, hb⟩; have HB_v0 := Lib.hid (hb); clear hb)
    | (go_at_call 75; refine (HJ.out _).mono ?_; rintro e wz ⟨rfl, hb⟩; have HBZ := Lib.hid (HB_v1.out.trans (hb.mono HB_v1.out.size)); clear hb))
  go_ret
  exact ⟨rfl, HB.out.trans (HBZ.out.mono HB.out.size)⟩

set_option maxRecDepth 100000 in
set_option maxHeartbeats 2000000 in
theorem text_18 (h : Nat) (t a b : Tree) (i : ByteArray) (hop : t.op = 18) (hta : t.l = [a, b]) (hca : ExprT h a i) (hcb : ExprT h b i) (hT : (T (h + 1) t i.data.toList).length ≤ 140737488355328) : ExprT (h + 1) t i := by
  intro d w sl hl hk
  obtain ⟨hlen, A, c, rfl⟩ := hk.form
  unfold maxLen at hlen
  have HFL : Hid ((([⟨#[40]⟩, ⟨(T h a i.data.toList).toArray⟩, ⟨#[32]⟩, t.s, ⟨#[32]⟩, ⟨(T h b i.data.toList).toArray⟩, ⟨#[41]⟩] : List ByteArray).map (·.data.toList)).flatten = T (h + 1) t i.data.toList) := Lib.hid (by simp [T, stepT, signOf, hop, hta])
  have HJ : Hid (∀ w9 : World, Calls Tryd.prog 75 #[.slice (some ⟨w9.heap.size, 0, none⟩) 7 7] (w9.alloc (.cells #[.string ⟨#[40]⟩, .string ⟨(T h a i.data.toList).toArray⟩, .string ⟨#[32]⟩, .string t.s, .string ⟨#[32]⟩, .string ⟨(T h b i.data.toList).toArray⟩, .string ⟨#[41]⟩] 9)) fun e w' => e = .returned (.string ⟨(T (h + 1) t i.data.toList).toArray⟩) ∧ Below w9.heap.size w9 w') := Lib.hid fun w9 => by
    have := join_at w9 [⟨#[40]⟩, ⟨(T h a i.data.toList).toArray⟩, ⟨#[32]⟩, t.s, ⟨#[32]⟩, ⟨(T h b i.data.toList).toArray⟩, ⟨#[41]⟩] (by simp) (by rw [HFL.out]; exact hT)
    rw [HFL.out] at this
    exact this
  rw [hop]
  have hopw : ∀ v : Value, Value.int .i64 t.op = v → v = .int .i64 18 := fun v e => by rw [← e, hop]
  clear hopw
  obtain ⟨w0, hw0⟩ : ∃ w0, w.alloc (.cells #[.int .i64 18, .string t.s, .int .i64 t.n, .slice A t.l.length c, .int .i64 t.line] 24) = w0 := ⟨_, rfl⟩
  obtain ⟨w1, hw1⟩ : ∃ w1, w0.alloc (.cells #[.string i] 9) = w1 := ⟨_, rfl⟩
  have bx0 : Blk5 w0 w.heap.size 18 t.s t.n (.slice A t.l.length c) t.line := by rw [← hw0]; exact blk5_new _ _ _ _ _ _
  have hb0 : Below w.heap.size w w0 := by rw [← hw0]; exact (Below.refl _ _).alloc (Nat.le_refl _) _
  have hb1 : Below w0.heap.size w0 w1 := by rw [← hw1]; exact (Below.refl _ _).alloc (Nat.le_refl _) _
  have hm : w1.cell? ⟨w0.heap.size, 0, none⟩ = some (.string i) := by rw [← hw1]; exact cell_of_row _ _ 0 #[.string i] 9 (0, 0) (heap_alloc_new _ _)
  have bx := bx0.keep hb1
  have HB := Lib.hid (hb0.trans (hb1.mono hb0.size))
  have hhd : Held w1 w.heap.size w0.heap.size t A c i := ⟨by rw [hop]; exact bx, hm⟩
  have HH := Lib.hid hhd
  have HL := Lib.hid (hl.below HB.out)
  have HK := Lib.hid (hk.below HB.out)
  have HAa := Lib.hid (fun (w9 : World) (hb9 : Below w1.heap.size w1 w9) => at_calls w9 w.heap.size w0.heap.size t A c i (HH.out.below hb9) (HL.out.below hb9) d (HK.out.below hb9) 0 a (by rw [hta]; rfl) h hca)
  have HAb := Lib.hid (fun (w9 : World) (hb9 : Below w1.heap.size w1 w9) => at_calls w9 w.heap.size w0.heap.size t A c i (HH.out.below hb9) (HL.out.below hb9) d (HK.out.below hb9) 1 b (by rw [hta]; rfl) h hcb)
  obtain ⟨c0, c1, c2, c3, c4⟩ := bx
  clear bx0 hb0 hb1 hl hk hhd hT hop hta HFL hca hcb
  generalize T h a i.data.toList = Xa at HJ HAa
  generalize T h b i.data.toList = Xb at HJ HAb
  go_enter Tryd.func51, Tryd.ntmps51
  go_wp2_with (first
    | (go_at_call 78; refine (HAb.out v0 HB_v0.out).mono ?_; rintro e v1 ⟨rfl, hb⟩; have HB_v1 := Lib.hid (HB_v0.out.trans (hb.mono HB_v0.out.size)); clear hb)
    | (go_at_call 78; refine (HAa.out w1 (Below.refl _ _)).mono ?_; rintro e v0 ⟨rfl, hb⟩; have HB_v0 := Lib.hid (hb); clear hb)
    | (go_at_call 75; refine (HJ.out _).mono ?_; rintro e wz ⟨rfl, hb⟩; have HBZ := Lib.hid (HB_v1.out.trans (hb.mono HB_v1.out.size)); clear hb))
  go_ret
  exact ⟨rfl, HB.out.trans (HBZ.out.mono HB.out.size)⟩

set_option maxRecDepth 100000 in
set_option maxHeartbeats 2000000 in
theorem text_21 (h : Nat) (t a b : Tree) (i : ByteArray) (hop : t.op = 21) (hta : t.l = [a, b]) (hca : ExprT h a i) (hcb : ExprT h b i) (hT : (T (h + 1) t i.data.toList).length ≤ 140737488355328) : ExprT (h + 1) t i := by
  intro d w sl hl hk
  obtain ⟨hlen, A, c, rfl⟩ := hk.form
  unfold maxLen at hlen
  have HFL : Hid ((([⟨#[40]⟩, ⟨(T h a i.data.toList).toArray⟩, ⟨#[32]⟩, ⟨#[38, 38]⟩, ⟨#[32]⟩, ⟨(T h b i.data.toList).toArray⟩, ⟨#[41]⟩] : List ByteArray).map (·.data.toList)).flatten = T (h + 1) t i.data.toList) := Lib.hid (by simp [T, stepT, signOf, hop, hta])
  have HJ : Hid (∀ w9 : World, Calls Tryd.prog 75 #[.slice (some ⟨w9.heap.size, 0, none⟩) 7 7] (w9.alloc (.cells #[.string ⟨#[40]⟩, .string ⟨(T h a i.data.toList).toArray⟩, .string ⟨#[32]⟩, .string ⟨#[38, 38]⟩, .string ⟨#[32]⟩, .string ⟨(T h b i.data.toList).toArray⟩, .string ⟨#[41]⟩] 9)) fun e w' => e = .returned (.string ⟨(T (h + 1) t i.data.toList).toArray⟩) ∧ Below w9.heap.size w9 w') := Lib.hid fun w9 => by
    have := join_at w9 [⟨#[40]⟩, ⟨(T h a i.data.toList).toArray⟩, ⟨#[32]⟩, ⟨#[38, 38]⟩, ⟨#[32]⟩, ⟨(T h b i.data.toList).toArray⟩, ⟨#[41]⟩] (by simp) (by rw [HFL.out]; exact hT)
    rw [HFL.out] at this
    exact this
  rw [hop]
  have hopw : ∀ v : Value, Value.int .i64 t.op = v → v = .int .i64 21 := fun v e => by rw [← e, hop]
  clear hopw
  obtain ⟨w0, hw0⟩ : ∃ w0, w.alloc (.cells #[.int .i64 21, .string t.s, .int .i64 t.n, .slice A t.l.length c, .int .i64 t.line] 24) = w0 := ⟨_, rfl⟩
  obtain ⟨w1, hw1⟩ : ∃ w1, w0.alloc (.cells #[.string i] 9) = w1 := ⟨_, rfl⟩
  have bx0 : Blk5 w0 w.heap.size 21 t.s t.n (.slice A t.l.length c) t.line := by rw [← hw0]; exact blk5_new _ _ _ _ _ _
  have hb0 : Below w.heap.size w w0 := by rw [← hw0]; exact (Below.refl _ _).alloc (Nat.le_refl _) _
  have hb1 : Below w0.heap.size w0 w1 := by rw [← hw1]; exact (Below.refl _ _).alloc (Nat.le_refl _) _
  have hm : w1.cell? ⟨w0.heap.size, 0, none⟩ = some (.string i) := by rw [← hw1]; exact cell_of_row _ _ 0 #[.string i] 9 (0, 0) (heap_alloc_new _ _)
  have bx := bx0.keep hb1
  have HB := Lib.hid (hb0.trans (hb1.mono hb0.size))
  have hhd : Held w1 w.heap.size w0.heap.size t A c i := ⟨by rw [hop]; exact bx, hm⟩
  have HH := Lib.hid hhd
  have HL := Lib.hid (hl.below HB.out)
  have HK := Lib.hid (hk.below HB.out)
  have HAa := Lib.hid (fun (w9 : World) (hb9 : Below w1.heap.size w1 w9) => at_calls w9 w.heap.size w0.heap.size t A c i (HH.out.below hb9) (HL.out.below hb9) d (HK.out.below hb9) 0 a (by rw [hta]; rfl) h hca)
  have HAb := Lib.hid (fun (w9 : World) (hb9 : Below w1.heap.size w1 w9) => at_calls w9 w.heap.size w0.heap.size t A c i (HH.out.below hb9) (HL.out.below hb9) d (HK.out.below hb9) 1 b (by rw [hta]; rfl) h hcb)
  obtain ⟨c0, c1, c2, c3, c4⟩ := bx
  clear bx0 hb0 hb1 hl hk hhd hT hop hta HFL hca hcb
  generalize T h a i.data.toList = Xa at HJ HAa
  generalize T h b i.data.toList = Xb at HJ HAb
  go_enter Tryd.func51, Tryd.ntmps51
  go_wp2_with (first
    | (go_at_call 78; refine (HAb.out v0 HB_v0.out).mono ?_; rintro e v1 ⟨rfl, hb⟩; have HB_v1 := Lib.hid (HB_v0.out.trans (hb.mono HB_v0.out.size)); clear hb)
    | (go_at_call 78; refine (HAa.out w1 (Below.refl _ _)).mono ?_; rintro e v0 ⟨rfl, hb⟩; have HB_v0 := Lib.hid (hb); clear hb)
    | (go_at_call 75; refine (HJ.out _).mono ?_; rintro e wz ⟨rfl, hb⟩; have HBZ := Lib.hid (HB_v1.out.trans (hb.mono HB_v1.out.size)); clear hb))
  go_ret
  exact ⟨rfl, HB.out.trans (HBZ.out.mono HB.out.size)⟩

set_option maxRecDepth 100000 in
set_option maxHeartbeats 2000000 in
theorem text_22 (h : Nat) (t a b : Tree) (i : ByteArray) (hop : t.op = 22) (hta : t.l = [a, b]) (hca : ExprT h a i) (hcb : ExprT h b i) (hT : (T (h + 1) t i.data.toList).length ≤ 140737488355328) : ExprT (h + 1) t i := by
  intro d w sl hl hk
  obtain ⟨hlen, A, c, rfl⟩ := hk.form
  unfold maxLen at hlen
  have HFL : Hid ((([⟨#[40]⟩, ⟨(T h a i.data.toList).toArray⟩, ⟨#[32]⟩, ⟨#[124, 124]⟩, ⟨#[32]⟩, ⟨(T h b i.data.toList).toArray⟩, ⟨#[41]⟩] : List ByteArray).map (·.data.toList)).flatten = T (h + 1) t i.data.toList) := Lib.hid (by simp [T, stepT, signOf, hop, hta])
  have HJ : Hid (∀ w9 : World, Calls Tryd.prog 75 #[.slice (some ⟨w9.heap.size, 0, none⟩) 7 7] (w9.alloc (.cells #[.string ⟨#[40]⟩, .string ⟨(T h a i.data.toList).toArray⟩, .string ⟨#[32]⟩, .string ⟨#[124, 124]⟩, .string ⟨#[32]⟩, .string ⟨(T h b i.data.toList).toArray⟩, .string ⟨#[41]⟩] 9)) fun e w' => e = .returned (.string ⟨(T (h + 1) t i.data.toList).toArray⟩) ∧ Below w9.heap.size w9 w') := Lib.hid fun w9 => by
    have := join_at w9 [⟨#[40]⟩, ⟨(T h a i.data.toList).toArray⟩, ⟨#[32]⟩, ⟨#[124, 124]⟩, ⟨#[32]⟩, ⟨(T h b i.data.toList).toArray⟩, ⟨#[41]⟩] (by simp) (by rw [HFL.out]; exact hT)
    rw [HFL.out] at this
    exact this
  rw [hop]
  have hopw : ∀ v : Value, Value.int .i64 t.op = v → v = .int .i64 22 := fun v e => by rw [← e, hop]
  clear hopw
  obtain ⟨w0, hw0⟩ : ∃ w0, w.alloc (.cells #[.int .i64 22, .string t.s, .int .i64 t.n, .slice A t.l.length c, .int .i64 t.line] 24) = w0 := ⟨_, rfl⟩
  obtain ⟨w1, hw1⟩ : ∃ w1, w0.alloc (.cells #[.string i] 9) = w1 := ⟨_, rfl⟩
  have bx0 : Blk5 w0 w.heap.size 22 t.s t.n (.slice A t.l.length c) t.line := by rw [← hw0]; exact blk5_new _ _ _ _ _ _
  have hb0 : Below w.heap.size w w0 := by rw [← hw0]; exact (Below.refl _ _).alloc (Nat.le_refl _) _
  have hb1 : Below w0.heap.size w0 w1 := by rw [← hw1]; exact (Below.refl _ _).alloc (Nat.le_refl _) _
  have hm : w1.cell? ⟨w0.heap.size, 0, none⟩ = some (.string i) := by rw [← hw1]; exact cell_of_row _ _ 0 #[.string i] 9 (0, 0) (heap_alloc_new _ _)
  have bx := bx0.keep hb1
  have HB := Lib.hid (hb0.trans (hb1.mono hb0.size))
  have hhd : Held w1 w.heap.size w0.heap.size t A c i := ⟨by rw [hop]; exact bx, hm⟩
  have HH := Lib.hid hhd
  have HL := Lib.hid (hl.below HB.out)
  have HK := Lib.hid (hk.below HB.out)
  have HAa := Lib.hid (fun (w9 : World) (hb9 : Below w1.heap.size w1 w9) => at_calls w9 w.heap.size w0.heap.size t A c i (HH.out.below hb9) (HL.out.below hb9) d (HK.out.below hb9) 0 a (by rw [hta]; rfl) h hca)
  have HAb := Lib.hid (fun (w9 : World) (hb9 : Below w1.heap.size w1 w9) => at_calls w9 w.heap.size w0.heap.size t A c i (HH.out.below hb9) (HL.out.below hb9) d (HK.out.below hb9) 1 b (by rw [hta]; rfl) h hcb)
  obtain ⟨c0, c1, c2, c3, c4⟩ := bx
  clear bx0 hb0 hb1 hl hk hhd hT hop hta HFL hca hcb
  generalize T h a i.data.toList = Xa at HJ HAa
  generalize T h b i.data.toList = Xb at HJ HAb
  go_enter Tryd.func51, Tryd.ntmps51
  go_wp2_with (first
    | (go_at_call 78; refine (HAb.out v0 HB_v0.out).mono ?_; rintro e v1 ⟨rfl, hb⟩; have HB_v1 := Lib.hid (HB_v0.out.trans (hb.mono HB_v0.out.size)); clear hb)
    | (go_at_call 78; refine (HAa.out w1 (Below.refl _ _)).mono ?_; rintro e v0 ⟨rfl, hb⟩; have HB_v0 := Lib.hid (hb); clear hb)
    | (go_at_call 75; refine (HJ.out _).mono ?_; rintro e wz ⟨rfl, hb⟩; have HBZ := Lib.hid (HB_v1.out.trans (hb.mono HB_v1.out.size)); clear hb))
  go_ret
  exact ⟨rfl, HB.out.trans (HBZ.out.mono HB.out.size)⟩

set_option maxRecDepth 100000 in
set_option maxHeartbeats 2000000 in
theorem text_23 (h : Nat) (t a b g : Tree) (i : ByteArray) (hop : t.op = 23) (hta : t.l = [a, b, g]) (hca : ExprT h a i) (hcb : ExprT h b i) (hcg : ExprT h g i) (hT : (T (h + 1) t i.data.toList).length ≤ 140737488355328) : ExprT (h + 1) t i := by
  intro d w sl hl hk
  obtain ⟨hlen, A, c, rfl⟩ := hk.form
  unfold maxLen at hlen
  have HFL : Hid ((([⟨#[40]⟩, ⟨(T h a i.data.toList).toArray⟩, ⟨#[32, 63, 32]⟩, ⟨(T h b i.data.toList).toArray⟩, ⟨#[32, 58, 32]⟩, ⟨(T h g i.data.toList).toArray⟩, ⟨#[41]⟩] : List ByteArray).map (·.data.toList)).flatten = T (h + 1) t i.data.toList) := Lib.hid (by simp [T, stepT, hop, hta])
  have HJ : Hid (∀ w9 : World, Calls Tryd.prog 75 #[.slice (some ⟨w9.heap.size, 0, none⟩) 7 7] (w9.alloc (.cells #[.string ⟨#[40]⟩, .string ⟨(T h a i.data.toList).toArray⟩, .string ⟨#[32, 63, 32]⟩, .string ⟨(T h b i.data.toList).toArray⟩, .string ⟨#[32, 58, 32]⟩, .string ⟨(T h g i.data.toList).toArray⟩, .string ⟨#[41]⟩] 9)) fun e w' => e = .returned (.string ⟨(T (h + 1) t i.data.toList).toArray⟩) ∧ Below w9.heap.size w9 w') := Lib.hid fun w9 => by
    have := join_at w9 [⟨#[40]⟩, ⟨(T h a i.data.toList).toArray⟩, ⟨#[32, 63, 32]⟩, ⟨(T h b i.data.toList).toArray⟩, ⟨#[32, 58, 32]⟩, ⟨(T h g i.data.toList).toArray⟩, ⟨#[41]⟩] (by simp) (by rw [HFL.out]; exact hT)
    rw [HFL.out] at this
    exact this
  rw [hop]
  have hopw : ∀ v : Value, Value.int .i64 t.op = v → v = .int .i64 23 := fun v e => by rw [← e, hop]
  clear hopw
  obtain ⟨w0, hw0⟩ : ∃ w0, w.alloc (.cells #[.int .i64 23, .string t.s, .int .i64 t.n, .slice A t.l.length c, .int .i64 t.line] 24) = w0 := ⟨_, rfl⟩
  obtain ⟨w1, hw1⟩ : ∃ w1, w0.alloc (.cells #[.string i] 9) = w1 := ⟨_, rfl⟩
  have bx0 : Blk5 w0 w.heap.size 23 t.s t.n (.slice A t.l.length c) t.line := by rw [← hw0]; exact blk5_new _ _ _ _ _ _
  have hb0 : Below w.heap.size w w0 := by rw [← hw0]; exact (Below.refl _ _).alloc (Nat.le_refl _) _
  have hb1 : Below w0.heap.size w0 w1 := by rw [← hw1]; exact (Below.refl _ _).alloc (Nat.le_refl _) _
  have hm : w1.cell? ⟨w0.heap.size, 0, none⟩ = some (.string i) := by rw [← hw1]; exact cell_of_row _ _ 0 #[.string i] 9 (0, 0) (heap_alloc_new _ _)
  have bx := bx0.keep hb1
  have HB := Lib.hid (hb0.trans (hb1.mono hb0.size))
  have hhd : Held w1 w.heap.size w0.heap.size t A c i := ⟨by rw [hop]; exact bx, hm⟩
  have HH := Lib.hid hhd
  have HL := Lib.hid (hl.below HB.out)
  have HK := Lib.hid (hk.below HB.out)
  have HAa := Lib.hid (fun (w9 : World) (hb9 : Below w1.heap.size w1 w9) => at_calls w9 w.heap.size w0.heap.size t A c i (HH.out.below hb9) (HL.out.below hb9) d (HK.out.below hb9) 0 a (by rw [hta]; rfl) h hca)
  have HAb := Lib.hid (fun (w9 : World) (hb9 : Below w1.heap.size w1 w9) => at_calls w9 w.heap.size w0.heap.size t A c i (HH.out.below hb9) (HL.out.below hb9) d (HK.out.below hb9) 1 b (by rw [hta]; rfl) h hcb)
  have HAg := Lib.hid (fun (w9 : World) (hb9 : Below w1.heap.size w1 w9) => at_calls w9 w.heap.size w0.heap.size t A c i (HH.out.below hb9) (HL.out.below hb9) d (HK.out.below hb9) 2 g (by rw [hta]; rfl) h hcg)
  obtain ⟨c0, c1, c2, c3, c4⟩ := bx
  clear bx0 hb0 hb1 hl hk hhd hT hop hta HFL hca hcb hcg
  generalize T h a i.data.toList = Xa at HJ HAa
  generalize T h b i.data.toList = Xb at HJ HAb
  generalize T h g i.data.toList = Xg at HJ HAg
  go_enter Tryd.func51, Tryd.ntmps51
  go_wp2_with (first
    | (go_at_call 78; refine (HAg.out v1 HB_v1.out).mono ?_; rintro e v2 ⟨rfl, hb⟩; have HB_v2 := Lib.hid (HB_v1.out.trans (hb.mono HB_v1.out.size)); clear hb)
    | (go_at_call 78; refine (HAb.out v0 HB_v0.out).mono ?_; rintro e v1 ⟨rfl, hb⟩; have HB_v1 := Lib.hid (HB_v0.out.trans (hb.mono HB_v0.out.size)); clear hb)
    | (go_at_call 78; refine (HAa.out w1 (Below.refl _ _)).mono ?_; rintro e v0 ⟨rfl, hb⟩; have HB_v0 := Lib.hid (hb); clear hb)
    | (go_at_call 75; refine (HJ.out _).mono ?_; rintro e wz ⟨rfl, hb⟩; have HBZ := Lib.hid (HB_v2.out.trans (hb.mono HB_v2.out.size)); clear hb))
  go_ret
  exact ⟨rfl, HB.out.trans (HBZ.out.mono HB.out.size)⟩

end Go.Proofs.YtcidccifnaecaaaDoor
