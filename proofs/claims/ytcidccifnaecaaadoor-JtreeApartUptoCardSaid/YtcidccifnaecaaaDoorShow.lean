/- The text of an expression's statement, of an empty object; Show, ShowExpr: walked. -/
import Derived.Test.YtcidccifnaecaaaDoorLines
namespace Go.Proofs.YtcidccifnaecaaaDoor
open Go.RowKit Go.Sort

theorem bytes_ext {a b : ByteArray} (h : a.data.toList = b.data.toList) : a = b := by
  cases a; cases b
  simp at h
  subst h
  rfl

set_option maxRecDepth 100000 in
set_option maxHeartbeats 2000000 in
theorem stext_31 (h : Nat) (t a : Tree) (i : ByteArray) (hop : t.op = 31) (hta : t.l = [a]) (hca : ExprT h a i) (hT : (T (h + 1) t i.data.toList).length ≤ 140737488355328) : StmtT (h + 1) t i := by
  intro d w sl hl hk
  obtain ⟨hlen, A, c, rfl⟩ := hk.form
  unfold maxLen at hlen
  have HFL : Hid (T (h + 1) t i.data.toList = T h a i.data.toList ++ [59]) := Lib.hid (by simp [T, stepT, hop, hta])
  rw [hop]
  have hopw : ∀ v : Value, Value.int .i64 t.op = v → v = .int .i64 31 := fun v e => by rw [← e, hop]
  clear hopw
  obtain ⟨w0, hw0⟩ : ∃ w0, w.alloc (.cells #[.int .i64 31, .string t.s, .int .i64 t.n, .slice A t.l.length c, .int .i64 t.line] 24) = w0 := ⟨_, rfl⟩
  obtain ⟨w1, hw1⟩ : ∃ w1, w0.alloc (.cells #[.string i] 9) = w1 := ⟨_, rfl⟩
  have bx0 : Blk5 w0 w.heap.size 31 t.s t.n (.slice A t.l.length c) t.line := by rw [← hw0]; exact blk5_new _ _ _ _ _ _
  have hb0 : Below w.heap.size w w0 := by rw [← hw0]; exact (Below.refl _ _).alloc (Nat.le_refl _) _
  have hb1 : Below w0.heap.size w0 w1 := by rw [← hw1]; exact (Below.refl _ _).alloc (Nat.le_refl _) _
  have hm : w1.cell? ⟨w0.heap.size, 0, none⟩ = some (.string i) := by rw [← hw1]; exact cell_of_row _ _ 0 #[.string i] 9 (0, 0) (heap_alloc_new _ _)
  have bx := bx0.keep hb1
  have HB := Lib.hid (hb0.trans (hb1.mono hb0.size))
  have hhd : Held w1 w.heap.size w0.heap.size t A c i := ⟨by rw [hop]; exact bx, hm⟩
  have HH := Lib.hid hhd
  have HL := Lib.hid (hl.below HB.out)
  have HK := Lib.hid (hk.below HB.out)
  have HAa := Lib.hid (ats_calls w1 w.heap.size w0.heap.size t A c i HH.out HL.out d HK.out 0 a (by rw [hta]; rfl) h hca)
  rw [HFL.out, List.length_append] at hT
  have hXs : (⟨(T h a i.data.toList).toArray⟩ : ByteArray).size + 1 ≤ 140737488355328 := by rw [bs_size]; exact hT
  have hXl : (⟨(T h a i.data.toList).toArray⟩ : ByteArray).data.toList = T h a i.data.toList := rfl
  obtain ⟨c0, c1, c2, c3, c4⟩ := bx
  clear bx0 hb0 hb1 hl hk hhd hT hop hta hca
  generalize T h a i.data.toList = Xa at HAa HFL hXs hXl
  generalize (⟨Xa.toArray⟩ : ByteArray) = Xb at HAa hXs hXl
  have HXL := Lib.hid hXl
  clear hXl
  go_enter Tryd.func76, Tryd.ntmps76
  go_wp2_with fail
  refine HAa.out.mono ?_
  rintro e v0 ⟨rfl, hb⟩
  have HBV := Lib.hid hb
  clear hb
  go_wp2
  go_ret
  refine ⟨?_, HB.out.trans (HBV.out.mono HB.out.size)⟩
  rw [HFL.out, ← HXL.out]
  exact congrArg (fun z => Ending.returned (Value.string z)) (bytes_ext (by simp))

set_option maxRecDepth 100000 in
set_option maxHeartbeats 2000000 in
theorem text_11_none (h : Nat) (t : Tree) (i : ByteArray) (hop : t.op = 11) (hta : t.l = []) : ExprT (h + 1) t i := by
  intro d w sl hl hk
  obtain ⟨hlen, A, c, rfl⟩ := hk.form
  unfold maxLen at hlen
  have HFL : Hid ((([⟨#[40, 123]⟩, ⟨#[]⟩, ⟨#[125, 41]⟩] : List ByteArray).map (·.data.toList)).flatten = T (h + 1) t i.data.toList) := Lib.hid (by simp [T, stepT, hop, hta, Lib.join, List.intercalate])
  have HJ : Hid (∀ w9 : World, Calls Tryd.prog 75 #[.slice (some ⟨w9.heap.size, 0, none⟩) 3 3] (w9.alloc (.cells #[.string ⟨#[40, 123]⟩, .string ⟨#[]⟩, .string ⟨#[125, 41]⟩] 9)) fun e w' => e = .returned (.string ⟨(T (h + 1) t i.data.toList).toArray⟩) ∧ Below w9.heap.size w9 w') := Lib.hid fun w9 => by
    have := join_at w9 [⟨#[40, 123]⟩, ⟨#[]⟩, ⟨#[125, 41]⟩] (by simp) (by simp)
    rw [HFL.out] at this
    exact this
  have hz : t.l.length = 0 := by rw [hta]; rfl
  rw [hop, hz]
  rw [hz] at hk
  have hopw : ∀ v : Value, Value.int .i64 t.op = v → v = .int .i64 11 := fun v e => by rw [← e, hop]
  clear hopw
  obtain ⟨w0, hw0⟩ : ∃ w0, w.alloc (.cells #[.int .i64 11, .string t.s, .int .i64 t.n, .slice A 0 c, .int .i64 t.line] 24) = w0 := ⟨_, rfl⟩
  obtain ⟨w1, hw1⟩ : ∃ w1, w0.alloc (.cells #[.string i] 9) = w1 := ⟨_, rfl⟩
  have bx0 : Blk5 w0 w.heap.size 11 t.s t.n (.slice A 0 c) t.line := by rw [← hw0]; exact blk5_new _ _ _ _ _ _
  have hb0 : Below w.heap.size w w0 := by rw [← hw0]; exact (Below.refl _ _).alloc (Nat.le_refl _) _
  have hb1 : Below w0.heap.size w0 w1 := by rw [← hw1]; exact (Below.refl _ _).alloc (Nat.le_refl _) _
  have hm : w1.cell? ⟨w0.heap.size, 0, none⟩ = some (.string i) := by rw [← hw1]; exact cell_of_row _ _ 0 #[.string i] 9 (0, 0) (heap_alloc_new _ _)
  have bx := bx0.keep hb1
  have HB := Lib.hid (hb0.trans (hb1.mono hb0.size))
  obtain ⟨c0, c1, c2, c3, c4⟩ := bx
  clear bx0 hb0 hb1 hl hk hop hta HFL hz
  go_enter Tryd.func51, Tryd.ntmps51
  go_wp2
  go_loopw [7, 63] (fun q n wr => ∃ k : Nat, k = 0 ∧ q = .slice none 0 0 ∧ n = .int .i64 k ∧ Below w1.heap.size w1 wr) (fun _ _ _ => 0)
  case atStart => exact ⟨0, rfl, rfl, rfl, Below.refl _ _⟩
  case round =>
    obtain ⟨k, rfl, rfl, rfl, hb⟩ := hrel
    have HB1 := Lib.hid hb
    clear hb
    go_wp2_with (first
      | (go_at_call 82; refine (Tryd.strings_Join_none _ _ _ _).mono ?_; rintro e w' ⟨rfl, rfl⟩)
      | (go_at_call 75;  refine (HJ.out _).mono ?_; rintro e wz ⟨rfl, hb⟩; have HBZ := Lib.hid hb; clear hb))
    go_ret
    exact ⟨rfl, HB.out.trans ((HB1.out.trans (HBZ.out.mono HB1.out.size)).mono HB.out.size)⟩

def linesP (t : Tree) : List UInt8 := linesL (T 99) t.l []

set_option maxRecDepth 100000 in
set_option maxHeartbeats 1000000 in
theorem show_calls (t : Tree) (hc : rightB t = true → ∀ u, u ∈ t.l → StmtT 99 u ⟨#[]⟩) (hT : rightB t = true → (linesP t).length ≤ 140737488355328) (d : Nat) (w : World) (sl : Value) (hl : Laid w) (hk : Kids w d t.l sl) (hok : t.ok) :
    Calls Tryd.prog 23 #[.agg #[.int .i64 t.op, .string t.s, .int .i64 t.n, sl, .int .i64 t.line]] w fun e w' =>
      e = .returned (if rightB t then .tuple #[.string ⟨(linesP t).toArray⟩, .int .i64 0] else .tuple #[.string ⟨#[]⟩, .int .i64 30]) ∧ Below w.heap.size w w' := by
  obtain ⟨_, A, c, rfl⟩ := hk.form
  obtain ⟨w0, hw0⟩ : ∃ w0, w.alloc (.cells #[.int .i64 t.op, .string t.s, .int .i64 t.n, .slice A t.l.length c, .int .i64 t.line] 24) = w0 := ⟨_, rfl⟩
  have bx : Blk5 w0 w.heap.size t.op t.s t.n (.slice A t.l.length c) t.line := by rw [← hw0]; exact blk5_new _ _ _ _ _ _
  have hb0 : Below w.heap.size w w0 := by rw [← hw0]; exact (Below.refl _ _).alloc (Nat.le_refl _) _
  have HB0 := Lib.hid hb0
  have HX := Lib.hid bx
  have HL := Lib.hid (hl.below hb0)
  have HK := Lib.hid (hk.below hb0)
  have HR := Lib.hid (right_calls d w0 t _ HL.out HK.out hok)
  have HC := Lib.hid hc
  have HT := Lib.hid hT
  obtain ⟨c0, c1, c2, c3, c4⟩ := bx
  clear hb0 hl hk hok hc hT
  cases hr : rightB t with
  | false =>
    rw [hr] at HR
    go_enter Tryd.func23, Tryd.ntmps23
    go_wp2_with (go_at_call 19; refine HR.out.mono ?_; rintro e w1 ⟨rfl, hb⟩; have HB1 := Lib.hid hb; clear hb)
    go_ret2
    exact ⟨rfl, HB0.out.trans (HB1.out.mono HB0.out.size)⟩
  | true =>
    have HLN := Lib.hid (fun (w9 : World) (hb9 : Below w0.heap.size w0 w9) => lines_calls 99 t.l ⟨#[]⟩ (HC.out hr) (HT.out hr) d w9 _ (HL.out.below hb9) (HK.out.below hb9))
    rw [hr] at HR
    clear hr
    go_enter Tryd.func23, Tryd.ntmps23
    go_wp2_with fail
    refine HR.out.mono ?_
    rintro e w1 ⟨rfl, hb⟩
    have HB1 := Lib.hid hb
    clear hb c0 c1 c2 c3 c4
    obtain ⟨c0, c1, c2, c3, c4⟩ := HX.out.keep HB1.out
    go_wp2_with fail
    refine (HLN.out w1 HB1.out).mono ?_
    rintro e w2 ⟨rfl, hb⟩
    have HB2 := Lib.hid hb
    clear hb
    go_wp2
    go_ret2
    exact ⟨rfl, HB0.out.trans ((HB1.out.trans (HB2.out.mono HB1.out.size)).mono HB0.out.size)⟩

set_option maxRecDepth 100000 in
set_option maxHeartbeats 1000000 in
theorem showExpr_calls (t : Tree) (hc : rightE t = true → ExprT 100 t ⟨#[]⟩) (d : Nat) (w : World) (sl : Value) (hl : Laid w) (hk : Kids w d t.l sl) (hok : t.ok) :
    Calls Tryd.prog 25 #[.agg #[.int .i64 t.op, .string t.s, .int .i64 t.n, sl, .int .i64 t.line]] w fun e w' =>
      e = .returned (if rightE t then .tuple #[.string ⟨(T 100 t []).toArray⟩, .int .i64 0] else .tuple #[.string ⟨#[]⟩, .int .i64 30]) ∧ Below w.heap.size w w' := by
  obtain ⟨_, A, c, rfl⟩ := hk.form
  obtain ⟨w0, hw0⟩ : ∃ w0, w.alloc (.cells #[.int .i64 t.op, .string t.s, .int .i64 t.n, .slice A t.l.length c, .int .i64 t.line] 24) = w0 := ⟨_, rfl⟩
  have bx : Blk5 w0 w.heap.size t.op t.s t.n (.slice A t.l.length c) t.line := by rw [← hw0]; exact blk5_new _ _ _ _ _ _
  have hb0 : Below w.heap.size w w0 := by rw [← hw0]; exact (Below.refl _ _).alloc (Nat.le_refl _) _
  have HB0 := Lib.hid hb0
  have HX := Lib.hid bx
  have HL := Lib.hid (hl.below hb0)
  have HK := Lib.hid (hk.below hb0)
  have HR := Lib.hid (rightExpr_calls d w0 t _ HL.out HK.out hok)
  have HC := Lib.hid hc
  obtain ⟨c0, c1, c2, c3, c4⟩ := bx
  clear hb0 hl hk hok hc
  cases hr : rightE t with
  | false =>
    rw [hr] at HR
    go_enter Tryd.func25, Tryd.ntmps25
    go_wp2_with (go_at_call 21; refine HR.out.mono ?_; rintro e w1 ⟨rfl, hb⟩; have HB1 := Lib.hid hb; clear hb)
    go_ret2
    exact ⟨rfl, HB0.out.trans (HB1.out.mono HB0.out.size)⟩
  | true =>
    have HLN := Lib.hid (fun (w9 : World) (hb9 : Below w0.heap.size w0 w9) => HC.out hr d w9 _ (HL.out.below hb9) (HK.out.below hb9))
    rw [hr] at HR
    clear hr
    go_enter Tryd.func25, Tryd.ntmps25
    go_wp2_with fail
    refine HR.out.mono ?_
    rintro e w1 ⟨rfl, hb⟩
    have HB1 := Lib.hid hb
    clear hb c0 c1 c2 c3 c4
    obtain ⟨c0, c1, c2, c3, c4⟩ := HX.out.keep HB1.out
    go_wp2_with fail
    refine (HLN.out w1 HB1.out).mono ?_
    rintro e w2 ⟨rfl, hb⟩
    have HB2 := Lib.hid hb
    clear hb
    go_wp2
    go_ret2
    exact ⟨rfl, HB0.out.trans ((HB1.out.trans (HB2.out.mono HB1.out.size)).mono HB0.out.size)⟩

end Go.Proofs.YtcidccifnaecaaaDoor
