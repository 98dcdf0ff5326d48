/- The text of a member, walked. -/
import Derived.Test.YtcidccifnaecaaaDoorTxt
namespace Go.Proofs.YtcidccifnaecaaaDoor
open Go.RowKit Go.Sort

set_option maxRecDepth 100000 in
set_option maxHeartbeats 2000000 in
theorem text_13 (h : Nat) (t a : Tree) (i : ByteArray) (hop : t.op = 13) (hta : t.l = [a]) (hca : ExprT h a i) (hT : (T (h + 1) t i.data.toList).length ≤ 140737488355328) : ExprT (h + 1) t i := by
  intro d w sl hl hk
  obtain ⟨hlen, A, c, rfl⟩ := hk.form
  unfold maxLen at hlen
  cases hop2 : (a.op == 2) with
  | true =>
    have h2 : a.op = 2 := by simpa using hop2
    have HFL : Hid ((([⟨#[40]⟩, ⟨(T h a i.data.toList).toArray⟩, ⟨#[41, 46]⟩, t.s] : List ByteArray).map (·.data.toList)).flatten = T (h + 1) t i.data.toList) := Lib.hid (by simp [T, stepT, hop, hta, h2])
    have HJ : Hid (∀ w9 : World, Calls Tryd.prog 75 #[.slice (some ⟨w9.heap.size, 0, none⟩) 4 4] (w9.alloc (.cells #[.string ⟨#[40]⟩, .string ⟨(T h a i.data.toList).toArray⟩, .string ⟨#[41, 46]⟩, .string t.s] 9)) fun e w' => e = .returned (.string ⟨(T (h + 1) t i.data.toList).toArray⟩) ∧ Below w9.heap.size w9 w') := Lib.hid fun w9 => by
      have := join_at w9 [⟨#[40]⟩, ⟨(T h a i.data.toList).toArray⟩, ⟨#[41, 46]⟩, t.s] (by simp) (by rw [HFL.out]; exact hT)
      rw [HFL.out] at this
      exact this
    rw [hop]
    have hopw : ∀ v : Value, Value.int .i64 t.op = v → v = .int .i64 13 := fun v e => by rw [← e, hop]
    clear hopw
    obtain ⟨w0, hw0⟩ : ∃ w0, w.alloc (.cells #[.int .i64 13, .string t.s, .int .i64 t.n, .slice A t.l.length c, .int .i64 t.line] 24) = w0 := ⟨_, rfl⟩
    obtain ⟨w1, hw1⟩ : ∃ w1, w0.alloc (.cells #[.string i] 9) = w1 := ⟨_, rfl⟩
    have bx0 : Blk5 w0 w.heap.size 13 t.s t.n (.slice A t.l.length c) t.line := by rw [← hw0]; exact blk5_new _ _ _ _ _ _
    have hb0 : Below w.heap.size w w0 := by rw [← hw0]; exact (Below.refl _ _).alloc (Nat.le_refl _) _
    have hb1 : Below w0.heap.size w0 w1 := by rw [← hw1]; exact (Below.refl _ _).alloc (Nat.le_refl _) _
    have hm : w1.cell? ⟨w0.heap.size, 0, none⟩ = some (.string i) := by rw [← hw1]; exact cell_of_row _ _ 0 #[.string i] 9 (0, 0) (heap_alloc_new _ _)
    have bx := bx0.keep hb1
    have HB := Lib.hid (hb0.trans (hb1.mono hb0.size))
    have hhd : Held w1 w.heap.size w0.heap.size t A c i := ⟨by rw [hop]; exact bx, hm⟩
    have HH := Lib.hid hhd
    have HL := Lib.hid (hl.below HB.out)
    have HK := Lib.hid (hk.below HB.out)
    have HAa := Lib.hid (fun (w9 : World) (hb9 : Below w1.heap.size w1 w9) => at_calls w9 w.heap.size w0.heap.size t A c i (HH.out.below hb9) (HL.out.below hb9) d (HK.out.below hb9) 0 a (by rw [hta]; rfl) h hca)
    obtain ⟨p, sa, d1, _, rfl, hpa, _, _⟩ := HK.out.at_ (show t.l[0]? = some a by rw [hta]; rfl)
    rw [show p.add (0 * 5) = p from rfl] at hpa
    have a0 := hpa.c0
    have hln : 0 < t.l.length := by rw [hta]; exact Nat.zero_lt_succ _
    obtain ⟨c0, c1, c2, c3, c4⟩ := bx
    have e1 : w1.drew.cell? ⟨w.heap.size, 1, none⟩ = some (.string t.s) := c1
    clear bx0 hb0 hb1 hl hk hhd hT hop hta HFL hca hpa h2
    generalize T h a i.data.toList = Xa at HJ HAa
    go_enter Tryd.func51, Tryd.ntmps51
    go_wp2
    go_region_held3 (fun w' => w'.cell? ⟨w.heap.size, 1, none⟩ = some (.string t.s)) (first
      | exact e1
      | exact f1
      | exact g1
      | go_keep) (first
      | (go_at_call 75; refine (HJ.out _).mono ?_; rintro e wz ⟨rfl, hb⟩; have HBZ := Lib.hid (HB_v0.out.trans (hb.mono HB_v0.out.size)); clear hb; have g1 : wz.cell? ⟨w.heap.size, 1, none⟩ = some (.string t.s) := cell_bel HBZ.out c1)
      | (go_at_call 78; refine (HAa.out w1.drew (Below.refl _ _).drew).mono ?_; rintro e v0 ⟨rfl, hb⟩; have HB_v0 : Hid (Below w1.heap.size w1 v0) := Lib.hid ((Below.refl _ _).drew.trans hb); clear hb; have f1 : v0.cell? ⟨w.heap.size, 1, none⟩ = some (.string t.s) := cell_bel HB_v0.out c1))
    all_goals
      go_wp2
      go_ret
      exact ⟨rfl, HB.out.trans (HBZ.out.mono HB.out.size)⟩
  | false =>
    have h2 : ¬ a.op = 2 := by simpa using hop2
    have HFL : Hid ((([⟨(T h a i.data.toList).toArray⟩, ⟨#[46]⟩, t.s] : List ByteArray).map (·.data.toList)).flatten = T (h + 1) t i.data.toList) := Lib.hid (by simp [T, stepT, hop, hta, h2])
    have HJ : Hid (∀ w9 : World, Calls Tryd.prog 75 #[.slice (some ⟨w9.heap.size, 0, none⟩) 3 3] (w9.alloc (.cells #[.string ⟨(T h a i.data.toList).toArray⟩, .string ⟨#[46]⟩, .string t.s] 9)) fun e w' => e = .returned (.string ⟨(T (h + 1) t i.data.toList).toArray⟩) ∧ Below w9.heap.size w9 w') := Lib.hid fun w9 => by
      have := join_at w9 [⟨(T h a i.data.toList).toArray⟩, ⟨#[46]⟩, t.s] (by simp) (by rw [HFL.out]; exact hT)
      rw [HFL.out] at this
      exact this
    rw [hop]
    have hopw : ∀ v : Value, Value.int .i64 t.op = v → v = .int .i64 13 := fun v e => by rw [← e, hop]
    clear hopw
    obtain ⟨w0, hw0⟩ : ∃ w0, w.alloc (.cells #[.int .i64 13, .string t.s, .int .i64 t.n, .slice A t.l.length c, .int .i64 t.line] 24) = w0 := ⟨_, rfl⟩
    obtain ⟨w1, hw1⟩ : ∃ w1, w0.alloc (.cells #[.string i] 9) = w1 := ⟨_, rfl⟩
    have bx0 : Blk5 w0 w.heap.size 13 t.s t.n (.slice A t.l.length c) t.line := by rw [← hw0]; exact blk5_new _ _ _ _ _ _
    have hb0 : Below w.heap.size w w0 := by rw [← hw0]; exact (Below.refl _ _).alloc (Nat.le_refl _) _
    have hb1 : Below w0.heap.size w0 w1 := by rw [← hw1]; exact (Below.refl _ _).alloc (Nat.le_refl _) _
    have hm : w1.cell? ⟨w0.heap.size, 0, none⟩ = some (.string i) := by rw [← hw1]; exact cell_of_row _ _ 0 #[.string i] 9 (0, 0) (heap_alloc_new _ _)
    have bx := bx0.keep hb1
    have HB := Lib.hid (hb0.trans (hb1.mono hb0.size))
    have hhd : Held w1 w.heap.size w0.heap.size t A c i := ⟨by rw [hop]; exact bx, hm⟩
    have HH := Lib.hid hhd
    have HL := Lib.hid (hl.below HB.out)
    have HK := Lib.hid (hk.below HB.out)
    have HAa := Lib.hid (fun (w9 : World) (hb9 : Below w1.heap.size w1 w9) => at_calls w9 w.heap.size w0.heap.size t A c i (HH.out.below hb9) (HL.out.below hb9) d (HK.out.below hb9) 0 a (by rw [hta]; rfl) h hca)
    obtain ⟨p, sa, d1, _, rfl, hpa, _, _⟩ := HK.out.at_ (show t.l[0]? = some a by rw [hta]; rfl)
    rw [show p.add (0 * 5) = p from rfl] at hpa
    have a0 := hpa.c0
    have hln : 0 < t.l.length := by rw [hta]; exact Nat.zero_lt_succ _
    obtain ⟨c0, c1, c2, c3, c4⟩ := bx
    have e1 : w1.drew.cell? ⟨w.heap.size, 1, none⟩ = some (.string t.s) := c1
    clear bx0 hb0 hb1 hl hk hhd hT hop hta HFL hca hpa h2
    generalize T h a i.data.toList = Xa at HJ HAa
    go_enter Tryd.func51, Tryd.ntmps51
    go_wp2
    go_region_held3 (fun w' => w'.cell? ⟨w.heap.size, 1, none⟩ = some (.string t.s)) (first
      | exact e1
      | exact f1
      | exact g1
      | go_keep) (first
      | (go_at_call 75; refine (HJ.out _).mono ?_; rintro e wz ⟨rfl, hb⟩; have HBZ := Lib.hid (HB_v0.out.trans (hb.mono HB_v0.out.size)); clear hb; have g1 : wz.cell? ⟨w.heap.size, 1, none⟩ = some (.string t.s) := cell_bel HBZ.out c1)
      | (go_at_call 78; refine (HAa.out w1.drew (Below.refl _ _).drew).mono ?_; rintro e v0 ⟨rfl, hb⟩; have HB_v0 : Hid (Below w1.heap.size w1 v0) := Lib.hid ((Below.refl _ _).drew.trans hb); clear hb; have f1 : v0.cell? ⟨w.heap.size, 1, none⟩ = some (.string t.s) := cell_bel HB_v0.out c1))
    all_goals
      go_wp2
      go_ret
      exact ⟨rfl, HB.out.trans (HBZ.out.mono HB.out.size)⟩

end Go.Proofs.YtcidccifnaecaaaDoor
