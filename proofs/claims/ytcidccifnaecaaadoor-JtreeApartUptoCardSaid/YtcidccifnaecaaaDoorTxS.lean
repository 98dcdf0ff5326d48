/- The texts of statements with blocks: walked. -/
import Derived.Test.YtcidccifnaecaaaDoorTxM
namespace Go.Proofs.YtcidccifnaecaaaDoor
open Go.RowKit Go.Sort

theorem calls_fst {P : Program} {f : FuncId} {a x b : Value} {w : World} {Q : Ending → World → Prop} (h : x = b) (hc : Calls P f #[b, a] w Q) : Calls P f #[x, a] w Q := by rwa [h]

set_option maxRecDepth 100000 in
set_option maxHeartbeats 4000000 in
theorem stext_34 (h : Nat) (t a b : Tree) (i : ByteArray) (hop : t.op = 34) (hta : t.l = [a, b]) (hca : ExprT h a i) (hcb : BlockT h b i) (hT : (T (h + 1) t i.data.toList).length ≤ 140737488355328) : StmtT (h + 1) t i := by
  intro d w sl hl hk
  obtain ⟨hlen, A, c, rfl⟩ := hk.form
  unfold maxLen at hlen
  have HFL : Hid ((([⟨#[119, 104, 105, 108, 101, 32, 40]⟩, ⟨(T h a i.data.toList).toArray⟩, ⟨#[41, 32]⟩, ⟨(T h b i.data.toList).toArray⟩] : List ByteArray).map (·.data.toList)).flatten = T (h + 1) t i.data.toList) := Lib.hid (by simp [T, stepT, hop, hta])
  have HJ : Hid (∀ w9 : World, Calls Tryd.prog 75 #[.slice (some ⟨w9.heap.size, 0, none⟩) 4 4] (w9.alloc (.cells #[.string ⟨#[119, 104, 105, 108, 101, 32, 40]⟩, .string ⟨(T h a i.data.toList).toArray⟩, .string ⟨#[41, 32]⟩, .string ⟨(T h b i.data.toList).toArray⟩] 9)) fun e w' => e = .returned (.string ⟨(T (h + 1) t i.data.toList).toArray⟩) ∧ Below w9.heap.size w9 w') := Lib.hid fun w9 => by
    have := join_at w9 [⟨#[119, 104, 105, 108, 101, 32, 40]⟩, ⟨(T h a i.data.toList).toArray⟩, ⟨#[41, 32]⟩, ⟨(T h b i.data.toList).toArray⟩] (by simp) (by rw [HFL.out]; exact hT)
    rw [HFL.out] at this
    exact this
  rw [hop]
  have hopw : ∀ v : Value, Value.int .i64 t.op = v → v = .int .i64 34 := fun v e => by rw [← e, hop]
  clear hopw
  obtain ⟨w0, hw0⟩ : ∃ w0, w.alloc (.cells #[.int .i64 34, .string t.s, .int .i64 t.n, .slice A t.l.length c, .int .i64 t.line] 24) = w0 := ⟨_, rfl⟩
  obtain ⟨w1, hw1⟩ : ∃ w1, w0.alloc (.cells #[.string i] 9) = w1 := ⟨_, rfl⟩
  have bx0 : Blk5 w0 w.heap.size 34 t.s t.n (.slice A t.l.length c) t.line := by rw [← hw0]; exact blk5_new _ _ _ _ _ _
  have hb0 : Below w.heap.size w w0 := by rw [← hw0]; exact (Below.refl _ _).alloc (Nat.le_refl _) _
  have hb1 : Below w0.heap.size w0 w1 := by rw [← hw1]; exact (Below.refl _ _).alloc (Nat.le_refl _) _
  have hm : w1.cell? ⟨w0.heap.size, 0, none⟩ = some (.string i) := by rw [← hw1]; exact cell_of_row _ _ 0 #[.string i] 9 (0, 0) (heap_alloc_new _ _)
  have bx := bx0.keep hb1
  have HB := Lib.hid (hb0.trans (hb1.mono hb0.size))
  have hhd : Held w1 w.heap.size w0.heap.size t A c i := ⟨by rw [hop]; exact bx, hm⟩
  have HH := Lib.hid hhd
  have HL := Lib.hid (hl.below HB.out)
  have HK := Lib.hid (hk.below HB.out)
  have HJT := Lib.hid (fun (w9 : World) (hb9 : Below w1.heap.size w1 w9) => (HJ.out w9).mono fun e w' (hq : _ ∧ _) => (⟨hq.1, hb9.trans (hq.2.mono hb9.size)⟩ : e = _ ∧ Below w1.heap.size w1 w'))
  have HAa := Lib.hid (fun (w9 : World) (hb9 : Below w1.heap.size w1 w9) => (ats_calls w9 w.heap.size w0.heap.size t A c i (HH.out.below hb9) (HL.out.below hb9) d (HK.out.below hb9) 0 a (by rw [hta]; rfl) h hca).mono fun e w' (hq : _ ∧ _) => (⟨hq.1, hb9.trans (hq.2.mono hb9.size)⟩ : e = _ ∧ Below w1.heap.size w1 w'))
  obtain ⟨p, sb, db, _, rfl, hpb, hkb, _⟩ := HK.out.at_ (show t.l[1]? = some b by rw [hta]; rfl)
  rw [show p.add (1 * 5) = ⟨p.block, p.off + 5, none⟩ from rfl] at hpb
  obtain ⟨_, Ab, cb', rfl⟩ := hkb.form
  have HAb := Lib.hid (fun (w9 : World) (hb9 : Below w1.heap.size w1 w9) => (hcb db w9 _ (HL.out.below hb9) (hkb.below hb9)).mono fun e w' (hq : _ ∧ _) => (⟨hq.1, hb9.trans (hq.2.mono hb9.size)⟩ : e = _ ∧ Below w1.heap.size w1 w'))
  have HPb := Lib.hid hpb
  have SC : Hid (∀ (w9 : World), Below w1.heap.size w1 w9 → (w9.cell? ⟨w.heap.size, 3, none⟩ = some (.slice (some p) t.l.length c) ∧ w9.cell? ⟨w0.heap.size, 0, none⟩ = some (.string i) ∧ w9.cell? ⟨p.block, p.off + 5, none⟩ = some (.int .i64 b.op) ∧ w9.cell? ⟨p.block, p.off + 6, none⟩ = some (.string b.s) ∧ w9.cell? ⟨p.block, p.off + 7, none⟩ = some (.int .i64 b.n) ∧ w9.cell? ⟨p.block, p.off + 8, none⟩ = some (.slice Ab b.l.length cb') ∧ w9.cell? ⟨p.block, p.off + 9, none⟩ = some (.int .i64 b.line))) := Lib.hid fun w9 hb9 => ⟨(HH.out.below hb9).node.c3, (HH.out.below hb9).margin, (HPb.out.below hb9).c0, (HPb.out.below hb9).c1, (HPb.out.below hb9).c2, (HPb.out.below hb9).c3, (HPb.out.below hb9).c4⟩
  have hln : 1 < t.l.length := by rw [hta]; simp
  have hln0 : 0 < t.l.length := by omega
  have hli0 : (0 : Int) < (t.l.length : Int) := by omega
  have hli1 : (1 : Int) < (t.l.length : Int) := by omega
  obtain ⟨c0, c1, c2, c3, c4⟩ := bx
  have hd0 : Below w1.heap.size w1 w1.drew := (Below.refl _ _).drew
  clear bx0 hb0 hb1 hl hk hhd hT hop hta HFL HJ hca hcb hpb hkb
  generalize (T (h + 1) t i.data.toList) = Z at HJT ⊢
  generalize T h a i.data.toList = Xa at HJT HAa
  generalize T h b i.data.toList = Xb at HJT HAb
  go_enter Tryd.func76, Tryd.ntmps76
  go_wp2
  go_region_held3 (fun w9 => (w9.cell? ⟨w.heap.size, 3, none⟩ = some (.slice (some p) t.l.length c) ∧ w9.cell? ⟨w0.heap.size, 0, none⟩ = some (.string i) ∧ w9.cell? ⟨p.block, p.off + 5, none⟩ = some (.int .i64 b.op) ∧ w9.cell? ⟨p.block, p.off + 6, none⟩ = some (.string b.s) ∧ w9.cell? ⟨p.block, p.off + 7, none⟩ = some (.int .i64 b.n) ∧ w9.cell? ⟨p.block, p.off + 8, none⟩ = some (.slice Ab b.l.length cb') ∧ w9.cell? ⟨p.block, p.off + 9, none⟩ = some (.int .i64 b.line))) (first
    | exact SC.out _ (by assumption)
    | go_keep) (first
    | (go_at_call 75; refine (HJT.out _ (by assumption)).mono ?_; rintro e wz ⟨rfl, hbz⟩)
    | (go_at_call 102; refine (HAa.out _ (by assumption)).mono ?_; rintro e wz ⟨rfl, hbz⟩)
    | (go_at_call 103; refine (HAb.out _ (by assumption)).mono ?_; rintro e wz ⟨rfl, hbz⟩))
  all_goals
    go_wp2
    go_ret
    exact ⟨rfl, HB.out.trans (Below.mono (by assumption) HB.out.size)⟩

set_option maxRecDepth 100000 in
set_option maxHeartbeats 4000000 in
theorem stext_35 (h : Nat) (t a b : Tree) (i : ByteArray) (hop : t.op = 35) (hta : t.l = [a, b]) (hca : ExprT h a i) (hcb : BlockT h b i) (hT : (T (h + 1) t i.data.toList).length ≤ 140737488355328) : StmtT (h + 1) t i := by
  intro d w sl hl hk
  obtain ⟨hlen, A, c, rfl⟩ := hk.form
  unfold maxLen at hlen
  have HFL : Hid ((([⟨#[102, 111, 114, 32, 40, 118, 97, 114, 32]⟩, t.s, ⟨#[32, 105, 110, 32]⟩, ⟨(T h a i.data.toList).toArray⟩, ⟨#[41, 32]⟩, ⟨(T h b i.data.toList).toArray⟩] : List ByteArray).map (·.data.toList)).flatten = T (h + 1) t i.data.toList) := Lib.hid (by simp [T, stepT, hop, hta])
  have HJ : Hid (∀ w9 : World, Calls Tryd.prog 75 #[.slice (some ⟨w9.heap.size, 0, none⟩) 6 6] (w9.alloc (.cells #[.string ⟨#[102, 111, 114, 32, 40, 118, 97, 114, 32]⟩, .string t.s, .string ⟨#[32, 105, 110, 32]⟩, .string ⟨(T h a i.data.toList).toArray⟩, .string ⟨#[41, 32]⟩, .string ⟨(T h b i.data.toList).toArray⟩] 9)) fun e w' => e = .returned (.string ⟨(T (h + 1) t i.data.toList).toArray⟩) ∧ Below w9.heap.size w9 w') := Lib.hid fun w9 => by
    have := join_at w9 [⟨#[102, 111, 114, 32, 40, 118, 97, 114, 32]⟩, t.s, ⟨#[32, 105, 110, 32]⟩, ⟨(T h a i.data.toList).toArray⟩, ⟨#[41, 32]⟩, ⟨(T h b i.data.toList).toArray⟩] (by simp) (by rw [HFL.out]; exact hT)
    rw [HFL.out] at this
    exact this
  rw [hop]
  have hopw : ∀ v : Value, Value.int .i64 t.op = v → v = .int .i64 35 := fun v e => by rw [← e, hop]
  clear hopw
  obtain ⟨w0, hw0⟩ : ∃ w0, w.alloc (.cells #[.int .i64 35, .string t.s, .int .i64 t.n, .slice A t.l.length c, .int .i64 t.line] 24) = w0 := ⟨_, rfl⟩
  obtain ⟨w1, hw1⟩ : ∃ w1, w0.alloc (.cells #[.string i] 9) = w1 := ⟨_, rfl⟩
  have bx0 : Blk5 w0 w.heap.size 35 t.s t.n (.slice A t.l.length c) t.line := by rw [← hw0]; exact blk5_new _ _ _ _ _ _
  have hb0 : Below w.heap.size w w0 := by rw [← hw0]; exact (Below.refl _ _).alloc (Nat.le_refl _) _
  have hb1 : Below w0.heap.size w0 w1 := by rw [← hw1]; exact (Below.refl _ _).alloc (Nat.le_refl _) _
  have hm : w1.cell? ⟨w0.heap.size, 0, none⟩ = some (.string i) := by rw [← hw1]; exact cell_of_row _ _ 0 #[.string i] 9 (0, 0) (heap_alloc_new _ _)
  have bx := bx0.keep hb1
  have HB := Lib.hid (hb0.trans (hb1.mono hb0.size))
  have hhd : Held w1 w.heap.size w0.heap.size t A c i := ⟨by rw [hop]; exact bx, hm⟩
  have HH := Lib.hid hhd
  have HL := Lib.hid (hl.below HB.out)
  have HK := Lib.hid (hk.below HB.out)
  have HJT := Lib.hid (fun (w9 : World) (hb9 : Below w1.heap.size w1 w9) => (HJ.out w9).mono fun e w' (hq : _ ∧ _) => (⟨hq.1, hb9.trans (hq.2.mono hb9.size)⟩ : e = _ ∧ Below w1.heap.size w1 w'))
  have HAa := Lib.hid (fun (w9 : World) (hb9 : Below w1.heap.size w1 w9) => (ats_calls w9 w.heap.size w0.heap.size t A c i (HH.out.below hb9) (HL.out.below hb9) d (HK.out.below hb9) 0 a (by rw [hta]; rfl) h hca).mono fun e w' (hq : _ ∧ _) => (⟨hq.1, hb9.trans (hq.2.mono hb9.size)⟩ : e = _ ∧ Below w1.heap.size w1 w'))
  obtain ⟨p, sb, db, _, rfl, hpb, hkb, _⟩ := HK.out.at_ (show t.l[1]? = some b by rw [hta]; rfl)
  rw [show p.add (1 * 5) = ⟨p.block, p.off + 5, none⟩ from rfl] at hpb
  obtain ⟨_, Ab, cb', rfl⟩ := hkb.form
  have HAb := Lib.hid (fun (w9 : World) (hb9 : Below w1.heap.size w1 w9) => (hcb db w9 _ (HL.out.below hb9) (hkb.below hb9)).mono fun e w' (hq : _ ∧ _) => (⟨hq.1, hb9.trans (hq.2.mono hb9.size)⟩ : e = _ ∧ Below w1.heap.size w1 w'))
  have HPb := Lib.hid hpb
  have SC : Hid (∀ (w9 : World), Below w1.heap.size w1 w9 → (w9.cell? ⟨w.heap.size, 3, none⟩ = some (.slice (some p) t.l.length c) ∧ w9.cell? ⟨w0.heap.size, 0, none⟩ = some (.string i) ∧ w9.cell? ⟨w.heap.size, 1, none⟩ = some (.string t.s) ∧ w9.cell? ⟨p.block, p.off + 5, none⟩ = some (.int .i64 b.op) ∧ w9.cell? ⟨p.block, p.off + 6, none⟩ = some (.string b.s) ∧ w9.cell? ⟨p.block, p.off + 7, none⟩ = some (.int .i64 b.n) ∧ w9.cell? ⟨p.block, p.off + 8, none⟩ = some (.slice Ab b.l.length cb') ∧ w9.cell? ⟨p.block, p.off + 9, none⟩ = some (.int .i64 b.line))) := Lib.hid fun w9 hb9 => ⟨(HH.out.below hb9).node.c3, (HH.out.below hb9).margin, (HH.out.below hb9).node.c1, (HPb.out.below hb9).c0, (HPb.out.below hb9).c1, (HPb.out.below hb9).c2, (HPb.out.below hb9).c3, (HPb.out.below hb9).c4⟩
  have hln : 1 < t.l.length := by rw [hta]; simp
  have hln0 : 0 < t.l.length := by omega
  have hli0 : (0 : Int) < (t.l.length : Int) := by omega
  have hli1 : (1 : Int) < (t.l.length : Int) := by omega
  obtain ⟨c0, c1, c2, c3, c4⟩ := bx
  have hd0 : Below w1.heap.size w1 w1.drew := (Below.refl _ _).drew
  clear bx0 hb0 hb1 hl hk hhd hT hop hta HFL HJ hca hcb hpb hkb
  generalize (T (h + 1) t i.data.toList) = Z at HJT ⊢
  generalize T h a i.data.toList = Xa at HJT HAa
  generalize T h b i.data.toList = Xb at HJT HAb
  go_enter Tryd.func76, Tryd.ntmps76
  go_wp2
  go_region_held3 (fun w9 => (w9.cell? ⟨w.heap.size, 3, none⟩ = some (.slice (some p) t.l.length c) ∧ w9.cell? ⟨w0.heap.size, 0, none⟩ = some (.string i) ∧ w9.cell? ⟨w.heap.size, 1, none⟩ = some (.string t.s) ∧ w9.cell? ⟨p.block, p.off + 5, none⟩ = some (.int .i64 b.op) ∧ w9.cell? ⟨p.block, p.off + 6, none⟩ = some (.string b.s) ∧ w9.cell? ⟨p.block, p.off + 7, none⟩ = some (.int .i64 b.n) ∧ w9.cell? ⟨p.block, p.off + 8, none⟩ = some (.slice Ab b.l.length cb') ∧ w9.cell? ⟨p.block, p.off + 9, none⟩ = some (.int .i64 b.line))) (first
    | exact SC.out _ (by assumption)
    | go_keep) (first
    | (go_at_call 75; refine (HJT.out _ (by assumption)).mono ?_; rintro e wz ⟨rfl, hbz⟩)
    | (go_at_call 102; refine (HAa.out _ (by assumption)).mono ?_; rintro e wz ⟨rfl, hbz⟩)
    | (go_at_call 103; refine (HAb.out _ (by assumption)).mono ?_; rintro e wz ⟨rfl, hbz⟩))
  all_goals
    go_wp2
    go_ret
    exact ⟨rfl, HB.out.trans (Below.mono (by assumption) HB.out.size)⟩

set_option maxRecDepth 100000 in
set_option maxHeartbeats 4000000 in
theorem stext_38 (h : Nat) (t a b : Tree) (i : ByteArray) (hop : t.op = 38) (hta : t.l = [a, b]) (hca : BlockT h a i) (hcb : BlockT h b i) (hT : (T (h + 1) t i.data.toList).length ≤ 140737488355328) : StmtT (h + 1) t i := by
  intro d w sl hl hk
  obtain ⟨hlen, A, c, rfl⟩ := hk.form
  unfold maxLen at hlen
  have HFL : Hid ((([⟨#[116, 114, 121, 32]⟩, ⟨(T h a i.data.toList).toArray⟩, ⟨#[32, 99, 97, 116, 99, 104, 32, 40]⟩, t.s, ⟨#[41, 32]⟩, ⟨(T h b i.data.toList).toArray⟩] : List ByteArray).map (·.data.toList)).flatten = T (h + 1) t i.data.toList) := Lib.hid (by simp [T, stepT, hop, hta])
  have HJ : Hid (∀ w9 : World, Calls Tryd.prog 75 #[.slice (some ⟨w9.heap.size, 0, none⟩) 6 6] (w9.alloc (.cells #[.string ⟨#[116, 114, 121, 32]⟩, .string ⟨(T h a i.data.toList).toArray⟩, .string ⟨#[32, 99, 97, 116, 99, 104, 32, 40]⟩, .string t.s, .string ⟨#[41, 32]⟩, .string ⟨(T h b i.data.toList).toArray⟩] 9)) fun e w' => e = .returned (.string ⟨(T (h + 1) t i.data.toList).toArray⟩) ∧ Below w9.heap.size w9 w') := Lib.hid fun w9 => by
    have := join_at w9 [⟨#[116, 114, 121, 32]⟩, ⟨(T h a i.data.toList).toArray⟩, ⟨#[32, 99, 97, 116, 99, 104, 32, 40]⟩, t.s, ⟨#[41, 32]⟩, ⟨(T h b i.data.toList).toArray⟩] (by simp) (by rw [HFL.out]; exact hT)
    rw [HFL.out] at this
    exact this
  rw [hop]
  have hopw : ∀ v : Value, Value.int .i64 t.op = v → v = .int .i64 38 := fun v e => by rw [← e, hop]
  clear hopw
  obtain ⟨w0, hw0⟩ : ∃ w0, w.alloc (.cells #[.int .i64 38, .string t.s, .int .i64 t.n, .slice A t.l.length c, .int .i64 t.line] 24) = w0 := ⟨_, rfl⟩
  obtain ⟨w1, hw1⟩ : ∃ w1, w0.alloc (.cells #[.string i] 9) = w1 := ⟨_, rfl⟩
  have bx0 : Blk5 w0 w.heap.size 38 t.s t.n (.slice A t.l.length c) t.line := by rw [← hw0]; exact blk5_new _ _ _ _ _ _
  have hb0 : Below w.heap.size w w0 := by rw [← hw0]; exact (Below.refl _ _).alloc (Nat.le_refl _) _
  have hb1 : Below w0.heap.size w0 w1 := by rw [← hw1]; exact (Below.refl _ _).alloc (Nat.le_refl _) _
  have hm : w1.cell? ⟨w0.heap.size, 0, none⟩ = some (.string i) := by rw [← hw1]; exact cell_of_row _ _ 0 #[.string i] 9 (0, 0) (heap_alloc_new _ _)
  have bx := bx0.keep hb1
  have HB := Lib.hid (hb0.trans (hb1.mono hb0.size))
  have hhd : Held w1 w.heap.size w0.heap.size t A c i := ⟨by rw [hop]; exact bx, hm⟩
  have HH := Lib.hid hhd
  have HL := Lib.hid (hl.below HB.out)
  have HK := Lib.hid (hk.below HB.out)
  have HJT := Lib.hid (fun (w9 : World) (hb9 : Below w1.heap.size w1 w9) => (HJ.out w9).mono fun e w' (hq : _ ∧ _) => (⟨hq.1, hb9.trans (hq.2.mono hb9.size)⟩ : e = _ ∧ Below w1.heap.size w1 w'))
  obtain ⟨p, sa, da, _, rfl, hpa, hka, _⟩ := HK.out.at_ (show t.l[0]? = some a by rw [hta]; rfl)
  rw [show p.add (0 * 5) = p from rfl] at hpa
  obtain ⟨_, Aa, ca', rfl⟩ := hka.form
  have HAa := Lib.hid (fun (w9 : World) (hb9 : Below w1.heap.size w1 w9) => (hca da w9 _ (HL.out.below hb9) (hka.below hb9)).mono fun e w' (hq : _ ∧ _) => (⟨hq.1, hb9.trans (hq.2.mono hb9.size)⟩ : e = _ ∧ Below w1.heap.size w1 w'))
  have HPa := Lib.hid hpa
  obtain ⟨p1, sb, db, _, hpp1, hpb, hkb, _⟩ := HK.out.at_ (show t.l[1]? = some b by rw [hta]; rfl)
  obtain rfl : p = p1 := by injection hpp1
  rw [show p.add (1 * 5) = ⟨p.block, p.off + 5, none⟩ from rfl] at hpb
  obtain ⟨_, Ab, cb', rfl⟩ := hkb.form
  have HAb := Lib.hid (fun (w9 : World) (hb9 : Below w1.heap.size w1 w9) => (hcb db w9 _ (HL.out.below hb9) (hkb.below hb9)).mono fun e w' (hq : _ ∧ _) => (⟨hq.1, hb9.trans (hq.2.mono hb9.size)⟩ : e = _ ∧ Below w1.heap.size w1 w'))
  have HPb := Lib.hid hpb
  have SC : Hid (∀ (w9 : World), Below w1.heap.size w1 w9 → (w9.cell? ⟨w.heap.size, 3, none⟩ = some (.slice (some p) t.l.length c) ∧ w9.cell? ⟨w0.heap.size, 0, none⟩ = some (.string i) ∧ w9.cell? ⟨w.heap.size, 1, none⟩ = some (.string t.s) ∧ w9.cell? p = some (.int .i64 a.op) ∧ w9.cell? ⟨p.block, p.off + 1, none⟩ = some (.string a.s) ∧ w9.cell? ⟨p.block, p.off + 2, none⟩ = some (.int .i64 a.n) ∧ w9.cell? ⟨p.block, p.off + 3, none⟩ = some (.slice Aa a.l.length ca') ∧ w9.cell? ⟨p.block, p.off + 4, none⟩ = some (.int .i64 a.line) ∧ w9.cell? ⟨p.block, p.off + 5, none⟩ = some (.int .i64 b.op) ∧ w9.cell? ⟨p.block, p.off + 6, none⟩ = some (.string b.s) ∧ w9.cell? ⟨p.block, p.off + 7, none⟩ = some (.int .i64 b.n) ∧ w9.cell? ⟨p.block, p.off + 8, none⟩ = some (.slice Ab b.l.length cb') ∧ w9.cell? ⟨p.block, p.off + 9, none⟩ = some (.int .i64 b.line))) := Lib.hid fun w9 hb9 => ⟨(HH.out.below hb9).node.c3, (HH.out.below hb9).margin, (HH.out.below hb9).node.c1, (HPa.out.below hb9).c0, (HPa.out.below hb9).c1, (HPa.out.below hb9).c2, (HPa.out.below hb9).c3, (HPa.out.below hb9).c4, (HPb.out.below hb9).c0, (HPb.out.below hb9).c1, (HPb.out.below hb9).c2, (HPb.out.below hb9).c3, (HPb.out.below hb9).c4⟩
  have hln : 1 < t.l.length := by rw [hta]; simp
  have hln0 : 0 < t.l.length := by omega
  have hli0 : (0 : Int) < (t.l.length : Int) := by omega
  have hli1 : (1 : Int) < (t.l.length : Int) := by omega
  obtain ⟨c0, c1, c2, c3, c4⟩ := bx
  have hd0 : Below w1.heap.size w1 w1.drew := (Below.refl _ _).drew
  clear bx0 hb0 hb1 hl hk hhd hT hop hta HFL HJ hca hcb hpa hka hpb hkb
  generalize (T (h + 1) t i.data.toList) = Z at HJT ⊢
  generalize T h a i.data.toList = Xa at HJT HAa
  generalize T h b i.data.toList = Xb at HJT HAb
  go_enter Tryd.func76, Tryd.ntmps76
  go_wp2
  go_region_held3 (fun w9 => (w9.cell? ⟨w.heap.size, 3, none⟩ = some (.slice (some p) t.l.length c) ∧ w9.cell? ⟨w0.heap.size, 0, none⟩ = some (.string i) ∧ w9.cell? ⟨w.heap.size, 1, none⟩ = some (.string t.s) ∧ w9.cell? p = some (.int .i64 a.op) ∧ w9.cell? ⟨p.block, p.off + 1, none⟩ = some (.string a.s) ∧ w9.cell? ⟨p.block, p.off + 2, none⟩ = some (.int .i64 a.n) ∧ w9.cell? ⟨p.block, p.off + 3, none⟩ = some (.slice Aa a.l.length ca') ∧ w9.cell? ⟨p.block, p.off + 4, none⟩ = some (.int .i64 a.line) ∧ w9.cell? ⟨p.block, p.off + 5, none⟩ = some (.int .i64 b.op) ∧ w9.cell? ⟨p.block, p.off + 6, none⟩ = some (.string b.s) ∧ w9.cell? ⟨p.block, p.off + 7, none⟩ = some (.int .i64 b.n) ∧ w9.cell? ⟨p.block, p.off + 8, none⟩ = some (.slice Ab b.l.length cb') ∧ w9.cell? ⟨p.block, p.off + 9, none⟩ = some (.int .i64 b.line))) (first
    | exact SC.out _ (by assumption)
    | go_keep) (first
    | (go_at_call 75; refine (HJT.out _ (by assumption)).mono ?_; rintro e wz ⟨rfl, hbz⟩)
    | (go_at_call 103; refine calls_fst (b := .agg #[.int .i64 a.op, .string a.s, .int .i64 a.n, .slice Aa a.l.length ca', .int .i64 a.line]) rfl ?_; refine (HAa.out _ (by assumption)).mono ?_; rintro e wz ⟨rfl, hbz⟩)
    | (go_at_call 103; refine calls_fst (b := .agg #[.int .i64 b.op, .string b.s, .int .i64 b.n, .slice Ab b.l.length cb', .int .i64 b.line]) rfl ?_; refine (HAb.out _ (by assumption)).mono ?_; rintro e wz ⟨rfl, hbz⟩))
  all_goals
    go_wp2
    go_ret
    exact ⟨rfl, HB.out.trans (Below.mono (by assumption) HB.out.size)⟩

end Go.Proofs.YtcidccifnaecaaaDoor
