/- The texts of a block, of a function from its names on: walked. -/
import Derived.Test.YtcidccifnaecaaaDoorTxL
namespace Go.Proofs.YtcidccifnaecaaaDoor
open Go.RowKit Go.Sort

/-- What the program's block tells of a tree. -/
def BlockT (h : Nat) (u : Tree) (i : ByteArray) : Prop := ∀ (d : Nat) (w : World) (sl : Value), Laid w → Kids w d u.l sl →
  Calls Tryd.prog 103 #[.agg #[.int .i64 u.op, .string u.s, .int .i64 u.n, sl, .int .i64 u.line], .string i] w fun e w' => e = .returned (.string ⟨(T h u i.data.toList).toArray⟩) ∧ Below w.heap.size w w'

theorem cat_bytes (i : ByteArray) (l : List UInt8) : (i ++ (⟨l.toArray⟩ : ByteArray)).data.toList = i.data.toList ++ l := by simp

set_option maxRecDepth 100000 in
set_option maxHeartbeats 2000000 in
theorem block_calls (h : Nat) (t : Tree) (i : ByteArray) (hop : t.op = 32) (hc : ∀ u, u ∈ t.l → StmtT h u (i ++ ⟨#[32, 32]⟩)) (hT : (T (h + 1) t i.data.toList).length ≤ 140737488355328) (hi : i.size ≤ 1000000) : BlockT (h + 1) t i := by
  intro d w sl hl hk
  obtain ⟨hlen, A, c, rfl⟩ := hk.form
  unfold maxLen at hlen
  obtain ⟨i2, hi2⟩ : ∃ i2 : ByteArray, i ++ ⟨#[32, 32]⟩ = i2 := ⟨_, rfl⟩
  have hi2l : i2.data.toList = i.data.toList ++ [32, 32] := by rw [← hi2]; exact cat_bytes i [32, 32]
  have hi2s : i2.size = i.size + 2 := by rw [← size_list, ← size_list, hi2l]; simp
  have hLL : T (h + 1) t i.data.toList = [123, 10] ++ linesL (T h) t.l i2.data.toList ++ i.data.toList ++ [125] := by simp [T, stepT, hop, hi2l]
  have HFL : Hid ((([⟨#[123, 10]⟩, ⟨(linesL (T h) t.l i2.data.toList).toArray⟩, i, ⟨#[125]⟩] : List ByteArray).map (·.data.toList)).flatten = T (h + 1) t i.data.toList) := Lib.hid (by rw [hLL]; simp)
  have HJ : Hid (∀ w9 : World, Calls Tryd.prog 75 #[.slice (some ⟨w9.heap.size, 0, none⟩) 4 4] (w9.alloc (.cells #[.string ⟨#[123, 10]⟩, .string ⟨(linesL (T h) t.l i2.data.toList).toArray⟩, .string i, .string ⟨#[125]⟩] 9)) fun e w' => e = .returned (.string ⟨(T (h + 1) t i.data.toList).toArray⟩) ∧ Below w9.heap.size w9 w') := Lib.hid fun w9 => by
    have := join_at w9 [⟨#[123, 10]⟩, ⟨(linesL (T h) t.l i2.data.toList).toArray⟩, i, ⟨#[125]⟩] (by simp) (by rw [HFL.out]; exact hT)
    rw [HFL.out] at this
    exact this
  rw [hi2] at hc
  have hTL : (linesL (T h) t.l i2.data.toList).length ≤ 140737488355328 := by
    rw [hLL] at hT
    simp only [List.length_append] at hT
    omega
  obtain ⟨w0, hw0⟩ : ∃ w0, w.alloc (.cells #[.int .i64 t.op, .string t.s, .int .i64 t.n, .slice A t.l.length c, .int .i64 t.line] 24) = w0 := ⟨_, rfl⟩
  have bx : Blk5 w0 w.heap.size t.op t.s t.n (.slice A t.l.length c) t.line := by rw [← hw0]; exact blk5_new _ _ _ _ _ _
  have hb0 : Below w.heap.size w w0 := by rw [← hw0]; exact (Below.refl _ _).alloc (Nat.le_refl _) _
  have HB := Lib.hid hb0
  have HLN := Lib.hid (lines_calls h t.l i2 hc hTL d w0 _ (hl.below hb0) (hk.below hb0))
  obtain ⟨c0, c1, c2, c3, c4⟩ := bx
  clear hb0 hl hk hT hop hc hTL hLL hi2l HFL
  generalize linesL (T h) t.l i2.data.toList = X at HJ HLN
  go_enter Tryd.func103, Tryd.ntmps103
  go_wp2_with (first
    | (go_at_call 75; refine (HJ.out _).mono ?_; rintro e wz ⟨rfl, hb⟩; have HBZ := Lib.hid (HB1.out.trans (hb.mono HB1.out.size)); clear hb)
    | (go_at_call 49; refine HLN.out.mono ?_; rintro e w1 ⟨rfl, hb⟩; have HB1 := Lib.hid hb; clear hb))
  go_ret
  exact ⟨rfl, HB.out.trans (HBZ.out.mono HB.out.size)⟩

set_option maxRecDepth 100000 in
set_option maxHeartbeats 2000000 in
theorem function_calls (h : Nat) (ks : List Tree) (b : Tree) (i : ByteArray) (hc : ∀ u, u ∈ ks → ExprT h u i) (hcb : BlockT h b i) (hT : (funL ((ks ++ [b]).map fun u => T h u i.data.toList)).length ≤ 140737488355328) (hN : ks.length ≤ 1000) (d : Nat) (w : World) (sl : Value) (hl : Laid w) (hk : Kids w d (ks ++ [b]) sl) :
    Calls Tryd.prog 81 #[sl, .string i] w fun e w' => e = .returned (.string ⟨(funL ((ks ++ [b]).map fun u => T h u i.data.toList)).toArray⟩) ∧ Below w.heap.size w w' := by
  have hFE : funL ((ks ++ [b]).map fun u => T h u i.data.toList) = [40] ++ Lib.join (ks.map fun u => T h u i.data.toList) [44, 32] ++ [41, 32] ++ T h b i.data.toList := by
    simp [funL]
  obtain ⟨hlen, A, c, rfl⟩ := hk.form
  obtain ⟨a, sb, d1, hd1, rfl, hpu, hku, _⟩ := hk.at_ (show (ks ++ [b])[ks.length]? = some b by simp)
  obtain ⟨_, A3, c3, rfl⟩ := hku.form
  have hcap : ks.length + 1 ≤ c := by have := hk.cap (by simp); simpa using this
  have hkt := hk.take ks.length (by simp)
  rw [List.take_left' rfl] at hkt
  have HFL : Hid ((([⟨#[40]⟩, ⟨(Lib.join (ks.map fun u => T h u i.data.toList) [44, 32]).toArray⟩, ⟨#[41, 32]⟩, ⟨(T h b i.data.toList).toArray⟩] : List ByteArray).map (·.data.toList)).flatten = funL ((ks ++ [b]).map fun u => T h u i.data.toList)) := Lib.hid (by rw [hFE]; simp)
  have HJ : Hid (∀ w9 : World, Calls Tryd.prog 75 #[.slice (some ⟨w9.heap.size, 0, none⟩) 4 4] (w9.alloc (.cells #[.string ⟨#[40]⟩, .string ⟨(Lib.join (ks.map fun u => T h u i.data.toList) [44, 32]).toArray⟩, .string ⟨#[41, 32]⟩, .string ⟨(T h b i.data.toList).toArray⟩] 9)) fun e w' => e = .returned (.string ⟨(funL ((ks ++ [b]).map fun u => T h u i.data.toList)).toArray⟩) ∧ Below w9.heap.size w9 w') := Lib.hid fun w9 => by
    have := join_at w9 [⟨#[40]⟩, ⟨(Lib.join (ks.map fun u => T h u i.data.toList) [44, 32]).toArray⟩, ⟨#[41, 32]⟩, ⟨(T h b i.data.toList).toArray⟩] (by simp) (by rw [HFL.out]; exact hT)
    rw [HFL.out] at this
    exact this
  have hTL : (Lib.join (ks.map fun u => T h u i.data.toList) [44, 32]).length ≤ 140737488355328 := by
    rw [hFE] at hT
    simp only [List.length_append] at hT
    omega
  have HLI := Lib.hid (fun (w9 : World) (hb9 : Below w.heap.size w w9) => (list_calls h ks i hc hTL (by omega) d w9 _ (hl.below hb9) (hkt.below hb9)).mono fun e w' (hq : _ ∧ _) => (⟨hq.1, hb9.trans (hq.2.mono hb9.size)⟩ : e = _ ∧ Below w.heap.size w w'))
  have HBL := Lib.hid (fun (w9 : World) (hb9 : Below w.heap.size w w9) => (hcb d1 w9 _ (hl.below hb9) (hku.below hb9)).mono fun e w' (hq : _ ∧ _) => (⟨hq.1, hb9.trans (hq.2.mono hb9.size)⟩ : e = _ ∧ Below w.heap.size w w'))
  have HJT := Lib.hid (fun (w9 : World) (hb9 : Below w.heap.size w w9) => (HJ.out w9).mono fun e w' (hq : _ ∧ _) => (⟨hq.1, hb9.trans (hq.2.mono hb9.size)⟩ : e = _ ∧ Below w.heap.size w w'))
  have HS := Lib.hid (fun (w9 : World) (hb9 : Below w.heap.size w w9) => hpu.below hb9)
  obtain ⟨m, hm⟩ : ∃ m, ks.length = m := ⟨_, rfl⟩
  have hml : (ks ++ [b]).length = m + 1 := by simp [hm]
  rw [hml]
  rw [hm] at hcap HLI HS hN
  have hd0 : Below w.heap.size w w.drew := (Below.refl _ _).drew
  generalize funL ((ks ++ [b]).map fun u => T h u i.data.toList) = Z at HJT ⊢
  clear hkt hku hpu hcb hc hT hFE hTL HFL hk hl hml hm hlen HJ
  generalize Lib.join (ks.map fun u => T h u i.data.toList) [44, 32] = X at HJT HLI
  generalize T h b i.data.toList = Y at HJT HBL
  have SC : Hid (∀ (w9 : World), Below w.heap.size w w9 → (w9.cell? (a.add (m * 5)) = some (.int .i64 b.op) ∧ w9.cell? ⟨(a.add (m * 5)).block, (a.add (m * 5)).off + 1, none⟩ = some (.string b.s) ∧ w9.cell? ⟨(a.add (m * 5)).block, (a.add (m * 5)).off + 2, none⟩ = some (.int .i64 b.n) ∧ w9.cell? ⟨(a.add (m * 5)).block, (a.add (m * 5)).off + 3, none⟩ = some (.slice A3 b.l.length c3) ∧ w9.cell? ⟨(a.add (m * 5)).block, (a.add (m * 5)).off + 4, none⟩ = some (.int .i64 b.line))) := Lib.hid fun w9 hb9 => by
    obtain ⟨a0, a1, a2, a3, a4⟩ := HS.out w9 hb9
    exact ⟨a0, a1, a2, a3, a4⟩
  have z1 : (0 : Int) ≤ (m : Int) := by omega
  have z2 : (m : Int) ≤ (c : Int) := by omega
  have z3 : (m : Int) < (m : Int) + 1 := by omega
  have z4 : m ≤ c := by omega
  have z5 : m < m + 1 := by omega
  go_enter Tryd.func81, Tryd.ntmps81
  go_wp2
  go_region_held3 (fun w9 => (w9.cell? (a.add (m * 5)) = some (.int .i64 b.op) ∧ w9.cell? ⟨(a.add (m * 5)).block, (a.add (m * 5)).off + 1, none⟩ = some (.string b.s) ∧ w9.cell? ⟨(a.add (m * 5)).block, (a.add (m * 5)).off + 2, none⟩ = some (.int .i64 b.n) ∧ w9.cell? ⟨(a.add (m * 5)).block, (a.add (m * 5)).off + 3, none⟩ = some (.slice A3 b.l.length c3) ∧ w9.cell? ⟨(a.add (m * 5)).block, (a.add (m * 5)).off + 4, none⟩ = some (.int .i64 b.line))) (first
    | exact SC.out _ (by assumption)
    | go_keep) (first
    | (go_at_call 75; refine (HJT.out _ (by assumption)).mono ?_; rintro e wz ⟨rfl, hbz⟩)
    | (go_at_call 103; refine (HBL.out _ (by assumption)).mono ?_; rintro e wz ⟨rfl, hbz⟩)
    | (go_at_call 83; refine (HLI.out _ (by assumption)).mono ?_; rintro e wz ⟨rfl, hbz⟩))
  all_goals
    go_wp2
    go_ret
    exact ⟨rfl, by assumption⟩

end Go.Proofs.YtcidccifnaecaaaDoor
