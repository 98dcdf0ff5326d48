/- The text of an if: walked. -/
import Derived.Test.YtcidccifnaecaaaDoorTxM
namespace Go.Proofs.YtcidccifnaecaaaDoor
open Go.RowKit Go.Sort

theorem bytes_extX {a b : ByteArray} (h : a.data.toList = b.data.toList) : a = b := by
  cases a; cases b
  simp at h
  subst h
  rfl
set_option maxRecDepth 100000 in
set_option maxHeartbeats 4000000 in
theorem stext_33 (h : Nat) (t a b : Tree) (i : ByteArray) (hop : t.op = 33) (hta : t.l = [a, b]) (hca : ExprT h a i) (hcb : BlockT h b i) (hT : (T (h + 1) t i.data.toList).length ≤ 140737488355328) : StmtT (h + 1) t i := by
  intro d w sl hl hk
  obtain ⟨hlen, A, c, rfl⟩ := hk.form
  unfold maxLen at hlen
  have hFE : T (h + 1) t i.data.toList = [105, 102, 32, 40] ++ T h a i.data.toList ++ [41, 32] ++ T h b i.data.toList := by
    rw [T, stepT]
    simp [hop, hta]
  obtain ⟨Y, hY⟩ : ∃ Y, [105, 102, 32, 40] ++ T h a i.data.toList ++ [41, 32] ++ T h b i.data.toList = Y := ⟨_, rfl⟩
  have hYL : Y.length ≤ (T (h + 1) t i.data.toList).length := by
    rw [hFE, hY]
    simp
  rw [hY] at hFE
  have hYE : (([⟨#[105, 102, 32, 40]⟩, ⟨(T h a i.data.toList).toArray⟩, ⟨#[41, 32]⟩, ⟨(T h b i.data.toList).toArray⟩] : List ByteArray).map (·.data.toList)).flatten = Y := by rw [← hY]; simp
  rw [hop]
  have hopw : ∀ v : Value, Value.int .i64 t.op = v → v = .int .i64 33 := fun v e => by rw [← e, hop]
  clear hopw
  obtain ⟨w0, hw0⟩ : ∃ w0, w.alloc (.cells #[.int .i64 33, .string t.s, .int .i64 t.n, .slice A t.l.length c, .int .i64 t.line] 24) = w0 := ⟨_, rfl⟩
  obtain ⟨w1, hw1⟩ : ∃ w1, w0.alloc (.cells #[.string i] 9) = w1 := ⟨_, rfl⟩
  have bx0 : Blk5 w0 w.heap.size 33 t.s t.n (.slice A t.l.length c) t.line := by rw [← hw0]; exact blk5_new _ _ _ _ _ _
  have hb0 : Below w.heap.size w w0 := by rw [← hw0]; exact (Below.refl _ _).alloc (Nat.le_refl _) _
  have hb1 : Below w0.heap.size w0 w1 := by rw [← hw1]; exact (Below.refl _ _).alloc (Nat.le_refl _) _
  have hm : w1.cell? ⟨w0.heap.size, 0, none⟩ = some (.string i) := by rw [← hw1]; exact cell_of_row _ _ 0 #[.string i] 9 (0, 0) (heap_alloc_new _ _)
  have bx := bx0.keep hb1
  have HB := Lib.hid (hb0.trans (hb1.mono hb0.size))
  have hhd : Held w1 w.heap.size w0.heap.size t A c i := ⟨by rw [hop]; exact bx, hm⟩
  have HH := Lib.hid hhd
  have HL := Lib.hid (hl.below HB.out)
  have HK := Lib.hid (hk.below HB.out)
  have HJT : Hid (∀ (w9 : World), Below w1.heap.size w1 w9 → Calls Tryd.prog 75 #[.slice (some ⟨w9.heap.size, 0, none⟩) 4 4] (w9.alloc (.cells #[.string ⟨#[105, 102, 32, 40]⟩, .string ⟨(T h a i.data.toList).toArray⟩, .string ⟨#[41, 32]⟩, .string ⟨(T h b i.data.toList).toArray⟩] 9)) fun e w' => e = .returned (.string ⟨Y.toArray⟩) ∧ Below w1.heap.size w1 w') := Lib.hid fun w9 hb9 => by
    have hj := join_at w9 [⟨#[105, 102, 32, 40]⟩, ⟨(T h a i.data.toList).toArray⟩, ⟨#[41, 32]⟩, ⟨(T h b i.data.toList).toArray⟩] (by simp) (by rw [hYE]; omega)
    rw [hYE] at hj
    exact hj.mono fun e w' (hq : _ ∧ _) => (⟨hq.1, hb9.trans (hq.2.mono hb9.size)⟩ : e = _ ∧ Below w1.heap.size w1 w')
  have HAa := Lib.hid (fun (w9 : World) (hb9 : Below w1.heap.size w1 w9) => (ats_calls w9 w.heap.size w0.heap.size t A c i (HH.out.below hb9) (HL.out.below hb9) d (HK.out.below hb9) 0 a (by rw [hta]; rfl) h hca).mono fun e w' (hq : _ ∧ _) => (⟨hq.1, hb9.trans (hq.2.mono hb9.size)⟩ : e = _ ∧ Below w1.heap.size w1 w'))
  obtain ⟨p, sb, db, _, rfl, hpb, hkb, _⟩ := HK.out.at_ (show t.l[1]? = some b by rw [hta]; rfl)
  rw [show p.add (1 * 5) = ⟨p.block, p.off + 5, none⟩ from rfl] at hpb
  obtain ⟨_, Ab, cb', rfl⟩ := hkb.form
  have HAb := Lib.hid (fun (w9 : World) (hb9 : Below w1.heap.size w1 w9) => (hcb db w9 _ (HL.out.below hb9) (hkb.below hb9)).mono fun e w' (hq : _ ∧ _) => (⟨hq.1, hb9.trans (hq.2.mono hb9.size)⟩ : e = _ ∧ Below w1.heap.size w1 w'))
  have HPb := Lib.hid hpb
  have SC : Hid (∀ (w9 : World), Below w1.heap.size w1 w9 → (w9.cell? ⟨w.heap.size, 3, none⟩ = some (.slice (some p) t.l.length c) ∧ w9.cell? ⟨w0.heap.size, 0, none⟩ = some (.string i) ∧ w9.cell? ⟨p.block, p.off + 5, none⟩ = some (.int .i64 b.op) ∧ w9.cell? ⟨p.block, p.off + 6, none⟩ = some (.string b.s) ∧ w9.cell? ⟨p.block, p.off + 7, none⟩ = some (.int .i64 b.n) ∧ w9.cell? ⟨p.block, p.off + 8, none⟩ = some (.slice Ab b.l.length cb') ∧ w9.cell? ⟨p.block, p.off + 9, none⟩ = some (.int .i64 b.line))) := Lib.hid fun w9 hb9 => ⟨(HH.out.below hb9).node.c3, (HH.out.below hb9).margin, (HPb.out.below hb9).c0, (HPb.out.below hb9).c1, (HPb.out.below hb9).c2, (HPb.out.below hb9).c3, (HPb.out.below hb9).c4⟩
  have hll : t.l.length = 2 := by rw [hta]; rfl
  obtain ⟨c0, c1, c2, c3, c4⟩ := bx
  have hd0 : Below w1.heap.size w1 w1.drew := (Below.refl _ _).drew
  have HFE := Lib.hid hFE
  rw [hll] at SC hw0 c3 ⊢
  clear bx0 hb0 hb1 hl hk hhd hT hop hta hYE hYL hY hFE hca hcb hpb hkb HH hll hlen
  generalize (T (h + 1) t i.data.toList) = Z at HFE ⊢
  generalize T h a i.data.toList = Xa at HJT HAa
  generalize T h b i.data.toList = Xb at HJT HAb
  go_enter Tryd.func76, Tryd.ntmps76
  go_wp2
  go_region_held3 (fun w9 => (w9.cell? ⟨w.heap.size, 3, none⟩ = some (.slice (some p) 2 c) ∧ w9.cell? ⟨w0.heap.size, 0, none⟩ = some (.string i) ∧ w9.cell? ⟨p.block, p.off + 5, none⟩ = some (.int .i64 b.op) ∧ w9.cell? ⟨p.block, p.off + 6, none⟩ = some (.string b.s) ∧ w9.cell? ⟨p.block, p.off + 7, none⟩ = some (.int .i64 b.n) ∧ w9.cell? ⟨p.block, p.off + 8, none⟩ = some (.slice Ab b.l.length cb') ∧ w9.cell? ⟨p.block, p.off + 9, none⟩ = some (.int .i64 b.line))) (first
    | exact SC.out _ (by assumption)
    | go_keep) (first
    | (go_at_call 75; refine (HJT.out _ (by assumption)).mono ?_; rintro e wz ⟨rfl, hbz⟩)
    | (go_at_call 103; refine (HAb.out _ (by assumption)).mono ?_; rintro e wz ⟨rfl, hbz⟩)
    | (go_at_call 102; refine (HAa.out _ (by assumption)).mono ?_; rintro e wz ⟨rfl, hbz⟩))
  all_goals
    have q0 := (SC.out _ hbz).1
    have q1 := (SC.out _ hbz).2.1
    go_wp2
    go_ret
    exact ⟨by rw [HFE.out]; rfl, HB.out.trans (hbz.mono HB.out.size)⟩

set_option maxRecDepth 100000 in
set_option maxHeartbeats 4000000 in
theorem stext_33_three (h : Nat) (t a b g : Tree) (i : ByteArray) (hop : t.op = 33) (hta : t.l = [a, b, g]) (hca : ExprT h a i) (hcb : BlockT h b i) (hcg : BlockT h g i) (hT : (T (h + 1) t i.data.toList).length ≤ 140737488355328) : StmtT (h + 1) t i := by
  intro d w sl hl hk
  obtain ⟨hlen, A, c, rfl⟩ := hk.form
  unfold maxLen at hlen
  have hFE : T (h + 1) t i.data.toList = ([105, 102, 32, 40] ++ T h a i.data.toList ++ [41, 32] ++ T h b i.data.toList) ++ ([32, 101, 108, 115, 101, 32] ++ T h g i.data.toList) := by
    rw [T, stepT]
    simp [hop, hta]
  obtain ⟨Y, hY⟩ : ∃ Y, [105, 102, 32, 40] ++ T h a i.data.toList ++ [41, 32] ++ T h b i.data.toList = Y := ⟨_, rfl⟩
  have hYL : Y.length ≤ (T (h + 1) t i.data.toList).length := by
    rw [hFE, hY]
    simp
  rw [hY] at hFE
  have hYE : (([⟨#[105, 102, 32, 40]⟩, ⟨(T h a i.data.toList).toArray⟩, ⟨#[41, 32]⟩, ⟨(T h b i.data.toList).toArray⟩] : List ByteArray).map (·.data.toList)).flatten = Y := by rw [← hY]; simp
  rw [hop]
  have hopw : ∀ v : Value, Value.int .i64 t.op = v → v = .int .i64 33 := fun v e => by rw [← e, hop]
  clear hopw
  obtain ⟨w0, hw0⟩ : ∃ w0, w.alloc (.cells #[.int .i64 33, .string t.s, .int .i64 t.n, .slice A t.l.length c, .int .i64 t.line] 24) = w0 := ⟨_, rfl⟩
  obtain ⟨w1, hw1⟩ : ∃ w1, w0.alloc (.cells #[.string i] 9) = w1 := ⟨_, rfl⟩
  have bx0 : Blk5 w0 w.heap.size 33 t.s t.n (.slice A t.l.length c) t.line := by rw [← hw0]; exact blk5_new _ _ _ _ _ _
  have hb0 : Below w.heap.size w w0 := by rw [← hw0]; exact (Below.refl _ _).alloc (Nat.le_refl _) _
  have hb1 : Below w0.heap.size w0 w1 := by rw [← hw1]; exact (Below.refl _ _).alloc (Nat.le_refl _) _
  have hm : w1.cell? ⟨w0.heap.size, 0, none⟩ = some (.string i) := by rw [← hw1]; exact cell_of_row _ _ 0 #[.string i] 9 (0, 0) (heap_alloc_new _ _)
  have bx := bx0.keep hb1
  have HB := Lib.hid (hb0.trans (hb1.mono hb0.size))
  have hhd : Held w1 w.heap.size w0.heap.size t A c i := ⟨by rw [hop]; exact bx, hm⟩
  have HH := Lib.hid hhd
  have HL := Lib.hid (hl.below HB.out)
  have HK := Lib.hid (hk.below HB.out)
  have HJT : Hid (∀ (w9 : World), Below w1.heap.size w1 w9 → Calls Tryd.prog 75 #[.slice (some ⟨w9.heap.size, 0, none⟩) 4 4] (w9.alloc (.cells #[.string ⟨#[105, 102, 32, 40]⟩, .string ⟨(T h a i.data.toList).toArray⟩, .string ⟨#[41, 32]⟩, .string ⟨(T h b i.data.toList).toArray⟩] 9)) fun e w' => e = .returned (.string ⟨Y.toArray⟩) ∧ Below w1.heap.size w1 w') := Lib.hid fun w9 hb9 => by
    have hj := join_at w9 [⟨#[105, 102, 32, 40]⟩, ⟨(T h a i.data.toList).toArray⟩, ⟨#[41, 32]⟩, ⟨(T h b i.data.toList).toArray⟩] (by simp) (by rw [hYE]; omega)
    rw [hYE] at hj
    exact hj.mono fun e w' (hq : _ ∧ _) => (⟨hq.1, hb9.trans (hq.2.mono hb9.size)⟩ : e = _ ∧ Below w1.heap.size w1 w')
  have HAa := Lib.hid (fun (w9 : World) (hb9 : Below w1.heap.size w1 w9) => (ats_calls w9 w.heap.size w0.heap.size t A c i (HH.out.below hb9) (HL.out.below hb9) d (HK.out.below hb9) 0 a (by rw [hta]; rfl) h hca).mono fun e w' (hq : _ ∧ _) => (⟨hq.1, hb9.trans (hq.2.mono hb9.size)⟩ : e = _ ∧ Below w1.heap.size w1 w'))
  obtain ⟨p, sb, db, _, rfl, hpb, hkb, _⟩ := HK.out.at_ (show t.l[1]? = some b by rw [hta]; rfl)
  rw [show p.add (1 * 5) = ⟨p.block, p.off + 5, none⟩ from rfl] at hpb
  obtain ⟨_, Ab, cb', rfl⟩ := hkb.form
  have HAb := Lib.hid (fun (w9 : World) (hb9 : Below w1.heap.size w1 w9) => (hcb db w9 _ (HL.out.below hb9) (hkb.below hb9)).mono fun e w' (hq : _ ∧ _) => (⟨hq.1, hb9.trans (hq.2.mono hb9.size)⟩ : e = _ ∧ Below w1.heap.size w1 w'))
  have HPb := Lib.hid hpb
  have SC : Hid (∀ (w9 : World), Below w1.heap.size w1 w9 → (w9.cell? ⟨w.heap.size, 3, none⟩ = some (.slice (some p) t.l.length c) ∧ w9.cell? ⟨w0.heap.size, 0, none⟩ = some (.string i) ∧ w9.cell? ⟨p.block, p.off + 5, none⟩ = some (.int .i64 b.op) ∧ w9.cell? ⟨p.block, p.off + 6, none⟩ = some (.string b.s) ∧ w9.cell? ⟨p.block, p.off + 7, none⟩ = some (.int .i64 b.n) ∧ w9.cell? ⟨p.block, p.off + 8, none⟩ = some (.slice Ab b.l.length cb') ∧ w9.cell? ⟨p.block, p.off + 9, none⟩ = some (.int .i64 b.line))) := Lib.hid fun w9 hb9 => ⟨(HH.out.below hb9).node.c3, (HH.out.below hb9).margin, (HPb.out.below hb9).c0, (HPb.out.below hb9).c1, (HPb.out.below hb9).c2, (HPb.out.below hb9).c3, (HPb.out.below hb9).c4⟩
  obtain ⟨p2, sg, dg, _, hpp2, hpg, hkg, _⟩ := HK.out.at_ (show t.l[2]? = some g by rw [hta]; rfl)
  obtain rfl : p = p2 := by injection hpp2
  rw [show p.add (2 * 5) = ⟨p.block, p.off + 10, none⟩ from rfl] at hpg
  obtain ⟨_, Ag, cg', rfl⟩ := hkg.form
  have HAg := Lib.hid (fun (w9 : World) (hb9 : Below w1.heap.size w1 w9) => (hcg dg w9 _ (HL.out.below hb9) (hkg.below hb9)).mono fun e w' (hq : _ ∧ _) => (⟨hq.1, hb9.trans (hq.2.mono hb9.size)⟩ : e = _ ∧ Below w1.heap.size w1 w'))
  have HPg := Lib.hid hpg
  have SD : Hid (∀ (w9 : World), Below w1.heap.size w1 w9 → (w9.cell? ⟨w.heap.size, 3, none⟩ = some (.slice (some p) t.l.length c) ∧ w9.cell? ⟨w0.heap.size, 0, none⟩ = some (.string i) ∧ w9.cell? ⟨p.block, p.off + 10, none⟩ = some (.int .i64 g.op) ∧ w9.cell? ⟨p.block, p.off + 11, none⟩ = some (.string g.s) ∧ w9.cell? ⟨p.block, p.off + 12, none⟩ = some (.int .i64 g.n) ∧ w9.cell? ⟨p.block, p.off + 13, none⟩ = some (.slice Ag g.l.length cg') ∧ w9.cell? ⟨p.block, p.off + 14, none⟩ = some (.int .i64 g.line))) := Lib.hid fun w9 hb9 => ⟨(HH.out.below hb9).node.c3, (HH.out.below hb9).margin, (HPg.out.below hb9).c0, (HPg.out.below hb9).c1, (HPg.out.below hb9).c2, (HPg.out.below hb9).c3, (HPg.out.below hb9).c4⟩
  have hsz : (⟨Y.toArray⟩ : ByteArray).size + (⟨(T h g i.data.toList).toArray⟩ : ByteArray).size + 6 ≤ 140737488355328 := by
    rw [bs_size Y, bs_size (T h g i.data.toList)]
    rw [hFE] at hT
    simp only [List.length_append, List.length_cons, List.length_nil] at hT
    omega
  have hXY : (⟨Y.toArray⟩ : ByteArray).data.toList = Y := rfl
  have hXG : (⟨(T h g i.data.toList).toArray⟩ : ByteArray).data.toList = T h g i.data.toList := rfl
  have hll : t.l.length = 3 := by rw [hta]; rfl
  obtain ⟨c0, c1, c2, c3, c4⟩ := bx
  have hd0 : Below w1.heap.size w1 w1.drew := (Below.refl _ _).drew
  have HFE := Lib.hid hFE
  rw [hll] at SC hw0 c3 SD ⊢
  clear bx0 hb0 hb1 hl hk hhd hT hop hta hYE hYL hY hFE hca hcb hpb hkb HH hll hlen hcg hpg hkg
  generalize (T (h + 1) t i.data.toList) = Z at HFE ⊢
  generalize T h a i.data.toList = Xa at HJT HAa
  generalize T h b i.data.toList = Xb at HJT HAb
  generalize T h g i.data.toList = Xg at HAg HFE hsz hXG
  generalize (⟨Xg.toArray⟩ : ByteArray) = Bg at HAg hsz hXG
  generalize (⟨Y.toArray⟩ : ByteArray) = By at HJT hsz hXY
  have z1 : ¬ 9223372036854775807 < 6 + Bg.size := by omega
  have z2 : ¬ 9223372036854775807 < By.size + (6 + Bg.size) := by omega
  have z3 : 6 + Bg.size ≤ 9223372036854775807 := by omega
  have z4 : By.size + (6 + Bg.size) ≤ 9223372036854775807 := by omega
  have HXG := Lib.hid hXG
  have HXY := Lib.hid hXY
  clear hXG hXY
  go_enter Tryd.func76, Tryd.ntmps76
  go_wp2
  go_region_held3 (fun w9 => (w9.cell? ⟨w.heap.size, 3, none⟩ = some (.slice (some p) 3 c) ∧ w9.cell? ⟨w0.heap.size, 0, none⟩ = some (.string i) ∧ w9.cell? ⟨p.block, p.off + 5, none⟩ = some (.int .i64 b.op) ∧ w9.cell? ⟨p.block, p.off + 6, none⟩ = some (.string b.s) ∧ w9.cell? ⟨p.block, p.off + 7, none⟩ = some (.int .i64 b.n) ∧ w9.cell? ⟨p.block, p.off + 8, none⟩ = some (.slice Ab b.l.length cb') ∧ w9.cell? ⟨p.block, p.off + 9, none⟩ = some (.int .i64 b.line))) (first
    | exact SC.out _ (by assumption)
    | go_keep) (first
    | (go_at_call 75; refine (HJT.out _ (by assumption)).mono ?_; rintro e wz ⟨rfl, hbz⟩)
    | (go_at_call 103; refine (HAb.out _ (by assumption)).mono ?_; rintro e wz ⟨rfl, hbz⟩)
    | (go_at_call 102; refine (HAa.out _ (by assumption)).mono ?_; rintro e wz ⟨rfl, hbz⟩))
  all_goals
    have q0 := (SC.out _ hbz).1
    have q1 := (SC.out _ hbz).2.1
    have hd1 := hbz.drew
    clear hd0
    go_wp2
    go_region_held3 (fun w9 => (w9.cell? ⟨w.heap.size, 3, none⟩ = some (.slice (some p) 3 c) ∧ w9.cell? ⟨w0.heap.size, 0, none⟩ = some (.string i) ∧ w9.cell? ⟨p.block, p.off + 10, none⟩ = some (.int .i64 g.op) ∧ w9.cell? ⟨p.block, p.off + 11, none⟩ = some (.string g.s) ∧ w9.cell? ⟨p.block, p.off + 12, none⟩ = some (.int .i64 g.n) ∧ w9.cell? ⟨p.block, p.off + 13, none⟩ = some (.slice Ag g.l.length cg') ∧ w9.cell? ⟨p.block, p.off + 14, none⟩ = some (.int .i64 g.line))) (first
      | exact SD.out _ (by assumption)
      | go_keep) (first
      | (go_at_call 103; refine (HAg.out _ (by assumption)).mono ?_; rintro e wy ⟨rfl, hby⟩))
    all_goals
      go_wp2
      go_ret
      refine ⟨?_, HB.out.trans (hby.mono HB.out.size)⟩
      rw [HFE.out, ← HXY.out, ← HXG.out]
      exact congrArg (fun z => Ending.returned (Value.string z)) (bytes_extX (by simp))

end Go.Proofs.YtcidccifnaecaaaDoor
