/- The document's texts: functions, calls, quoted texts, objects, expressions without parts: walked. -/
import Derived.Test.YtcidccifnaecaaaDoorRTa
import Derived.Test.YtcidccifnaecaaaDoorTxV
import Derived.Deep.RegionHeld3
import Derived.Test.YtcidccifnaecaaaDoorQuote
namespace Go.Proofs.YtcidccifnaecaaaDoor
open Go.RowKit Go.Sort

set_option maxRecDepth 100000 in
set_option maxHeartbeats 4000000 in
theorem rbody_calls (h : Nat) (ks : List Tree) (b : Tree) (i : ByteArray) (hb32 : b.op = 32) (hc : ∀ u, u ∈ ks → ExprD (h + 1) u i) (hcb : ∀ u, u ∈ b.l → StmtD h u (i ++ ⟨#[32, 32]⟩)) (hS : sumL 2 (ks.map fun u => T (h + 1) u i.data.toList) ≤ 140737488355328) (hT : (funL ((ks ++ [b]).map fun u => T (h + 1) u i.data.toList)).length ≤ 140737488355328) (hi : i.size ≤ 1000000) (hN : ks.length ≤ 1000) (d : Nat) (w : World) (sl : Value) (hk : Kids w d (ks ++ [b]) sl) :
    Calls Tryd.prog 85 #[sl, .string i] w fun e w' => e = .returned (.string ⟨(funL ((ks ++ [b]).map fun u => T (h + 1) u i.data.toList)).toArray⟩) ∧ Below w.heap.size w w' := by
  obtain ⟨i2, hi2⟩ : ∃ i2 : ByteArray, i ++ ⟨#[32, 32]⟩ = i2 := ⟨_, rfl⟩
  have hi2l : i2.data.toList = i.data.toList ++ [32, 32] := by rw [← hi2]; exact cat_bytes i [32, 32]
  have hLL : T (h + 1) b i.data.toList = [123, 10] ++ linesL (T h) b.l i2.data.toList ++ i.data.toList ++ [125] := by simp [T, stepT, hb32, hi2l]
  have hFE : funL ((ks ++ [b]).map fun u => T (h + 1) u i.data.toList) = [40] ++ Lib.join (ks.map fun u => T (h + 1) u i.data.toList) [44, 32] ++ [41, 32, 123, 10] ++ linesL (T h) b.l i2.data.toList ++ i.data.toList ++ [125] := by
    simp [funL, hLL]
  rw [hi2] at hcb
  have hT' := hT
  rw [hFE] at hT'
  simp only [List.length_append, List.length_cons, List.length_nil] at hT'
  rw [size_list i] at hT'
  obtain ⟨hlen, A, c, rfl⟩ := hk.form
  obtain ⟨a, sb, d1, hd1, rfl, hpu, hku, _⟩ := hk.at_ (show (ks ++ [b])[ks.length]? = some b by simp)
  obtain ⟨_, A3, c3, rfl⟩ := hku.form
  have hcap : ks.length + 1 ≤ c := by have := hk.cap (by simp); simpa using this
  have hkt := hk.take ks.length (by simp)
  rw [List.take_left' rfl] at hkt
  have HLI := Lib.hid (fun (w9 : World) (hb9 : Below w.heap.size w w9) => (rlist_calls (h + 1) ks i hc hS d w9 _ (hkt.below hb9)).mono fun e w' (hq : _ ∧ _) => (⟨hq.1, hb9.trans (hq.2.mono hb9.size)⟩ : e = _ ∧ Below w.heap.size w w'))
  have HBL := Lib.hid (fun (w9 : World) (hb9 : Below w.heap.size w w9) => (rlines_calls h b.l i2 hcb (by omega) d1 w9 _ (hku.below hb9)).mono fun e w' (hq : _ ∧ _) => (⟨hq.1, hb9.trans (hq.2.mono hb9.size)⟩ : e = _ ∧ Below w.heap.size w w'))
  have HS := Lib.hid (fun (w9 : World) (hb9 : Below w.heap.size w w9) => hpu.below hb9)
  obtain ⟨m, hm⟩ : ∃ m, ks.length = m := ⟨_, rfl⟩
  have hml : (ks ++ [b]).length = m + 1 := by simp [hm]
  rw [hml]
  rw [hm] at hcap HLI HS hN
  have hd0 : Below w.heap.size w w.drew := (Below.refl _ _).drew
  have HFE := Lib.hid hFE
  generalize funL ((ks ++ [b]).map fun u => T (h + 1) u i.data.toList) = Z at HFE ⊢
  have hzx := bs_size (Lib.join (ks.map fun u => T (h + 1) u i.data.toList) [44, 32])
  have hzy := bs_size (linesL (T h) b.l i2.data.toList)
  clear hkt hku hpu hcb hc hS hT hFE hLL hk hml hm hlen hb32 hi2l
  generalize Lib.join (ks.map fun u => T (h + 1) u i.data.toList) [44, 32] = X at HFE HLI hT' hzx
  generalize linesL (T h) b.l i2.data.toList = Y at HFE HBL hT' hzy
  obtain ⟨Bx, hBx⟩ : ∃ b : ByteArray, (⟨X.toArray⟩ : ByteArray) = b := ⟨_, rfl⟩
  obtain ⟨By, hBy⟩ : ∃ b : ByteArray, (⟨Y.toArray⟩ : ByteArray) = b := ⟨_, rfl⟩
  have HE : Hid ([40] ++ Bx.data.toList ++ [41, 32, 123, 10] ++ By.data.toList ++ i.data.toList ++ [125] = Z) := Lib.hid (by rw [HFE.out, ← hBx, ← hBy])
  rw [hBx] at HLI hzx
  rw [hBy] at HBL hzy
  have y0 : ¬ 9223372036854775807 < 1 + Bx.size := by omega
  have y1 : ¬ 9223372036854775807 < 1 + Bx.size + 4 := by omega
  have y2 : ¬ 9223372036854775807 < 1 + Bx.size + 4 + By.size := by omega
  have y3 : ¬ 9223372036854775807 < 1 + Bx.size + 4 + By.size + i.size := by omega
  have y4 : ¬ 9223372036854775807 < 1 + Bx.size + 4 + By.size + i.size + 1 := by omega
  have y5 : ¬ 9223372036854775807 < i.size + 2 := by omega
  have SC : Hid (∀ (w9 : World), Below w.heap.size w w9 → (w9.cell? ⟨(a.add (m * 5)).block, (a.add (m * 5)).off + 3, none⟩ = some (.slice A3 b.l.length c3))) := Lib.hid fun w9 hb9 => by
    obtain ⟨a0, a1, a2, a3, a4⟩ := HS.out w9 hb9
    exact a3
  clear HFE hT' hBx hBy hzx hzy
  have z1 : (0 : Int) ≤ (m : Int) := by omega
  have z2 : (m : Int) ≤ (c : Int) := by omega
  have z3 : (m : Int) < (m : Int) + 1 := by omega
  have z4 : m ≤ c := by omega
  have z5 : m < m + 1 := by omega
  go_enter Tryd.func85, Tryd.ntmps85
  go_wp2
  go_region_held3 (fun w9 => (w9.cell? ⟨(a.add (m * 5)).block, (a.add (m * 5)).off + 3, none⟩ = some (.slice A3 b.l.length c3))) (first
    | exact SC.out _ (by assumption)
    | go_keep) (first
    | (go_at_call 50; refine (HBL.out _ (by assumption)).mono ?_; rintro e wz ⟨rfl, hbz⟩)
    | (go_at_call 109; refine (HLI.out _ (by assumption)).mono ?_; rintro e wz ⟨rfl, hbz⟩))
  all_goals
    go_wp2
    go_ret
    exact ⟨congrArg Ending.returned (str_eq (by rw [← HE.out] <;> simp)), by assumption⟩

set_option maxRecDepth 100000 in
set_option maxHeartbeats 4000000 in
theorem rmore_15 (h : Nat) (t a : Tree) (r : List Tree) (i : ByteArray) (hop : t.op = 15) (hta : t.l = a :: r) (hca : ExprD h a i) (hcr : ∀ u, u ∈ r → ExprD h u i) (hS : sumL 2 (r.map fun u => T h u i.data.toList) ≤ 140737488355328) (hT : (T (h + 1) t i.data.toList).length ≤ 140737488355328) : MoreD (h + 1) t i := by
  intro d w sl hk
  obtain ⟨hlen, A, c, rfl⟩ := hk.form
  unfold maxLen at hlen
  have hFL : T (h + 1) t i.data.toList = T h a i.data.toList ++ [40] ++ Lib.join (r.map fun u => T h u i.data.toList) [44, 32] ++ [41] := by
    rw [T, stepT]
    simp [hop, hta]
  have hLC := fun (w9 : World) (v : Value) (k9 : Kids w9 d r v) => rlist_calls h r i hcr hS d w9 v k9
  have hT' := hT
  rw [hFL] at hT'
  simp only [List.length_append, List.length_cons, List.length_nil] at hT'
  obtain ⟨p, sa, da, _, rfl, hPa, hKa, _⟩ := hk.at_ (show t.l[0]? = some a by rw [hta]; rfl)
  rw [show p.add (0 * 5) = p from rfl] at hPa
  obtain ⟨_, Aa, ca', rfl⟩ := hKa.form
  have hcap : t.l.length ≤ c := hk.cap (by rw [hta]; simp)
  have hkd := hk.drop 1 (c - 1) (by rw [hta]; simp) (by omega)
  rw [show t.l.drop 1 = r by rw [hta]; rfl] at hkd
  rw [hop]
  obtain ⟨w0, hw0⟩ : ∃ w0, w.alloc (.cells #[.int .i64 15, .string t.s, .int .i64 t.n, (.slice (some p) t.l.length c), .int .i64 t.line] 24) = w0 := ⟨_, rfl⟩
  have bx : Blk5 w0 w.heap.size 15 t.s t.n (.slice (some p) t.l.length c) t.line := by rw [← hw0]; exact blk5_new _ _ _ _ _ _
  have hb0 : Below w.heap.size w w0 := by rw [← hw0]; exact (Below.refl _ _).alloc (Nat.le_refl _) _
  have HB := Lib.hid hb0
  have HX := Lib.hid bx
  have HR : Hid (Below w0.heap.size w0 w0) := Lib.hid (Below.refl _ _)
  have HAa := Lib.hid (fun (w9 : World) (hb9 : Below w0.heap.size w0 w9) => (hca da w9 _ (hKa.below (HB.out.trans (hb9.mono HB.out.size)))).mono fun e w' (hq : _ ∧ _) => (⟨hq.1, hb9.trans (hq.2.mono hb9.size)⟩ : e = _ ∧ Below w0.heap.size w0 w'))
  have HPa := Lib.hid (fun (w9 : World) (hb9 : Below w0.heap.size w0 w9) => hPa.below (HB.out.trans (hb9.mono HB.out.size)))
  have HLI := Lib.hid (fun (w9 : World) (hb9 : Below w0.heap.size w0 w9) => (hLC w9 _ (hkd.below (HB.out.trans (hb9.mono HB.out.size)))).mono fun e w' (hq : _ ∧ _) => (⟨hq.1, hb9.trans (hq.2.mono hb9.size)⟩ : e = _ ∧ Below w0.heap.size w0 w'))
  have HLN : Hid (r = [] → ∀ (w9 : World), Below w0.heap.size w0 w9 → Calls Tryd.prog 109 #[.slice (some p) 0 0, .string i] w9 fun e w' => e = .returned (.string ⟨(Lib.join (r.map fun u => T h u i.data.toList) [44, 32]).toArray⟩) ∧ Below w0.heap.size w0 w') := Lib.hid (fun hr0 w9 hb9 => (hLC w9 _ (by rw [hr0]; exact kids_void w9 d (some p) 0)).mono fun e w' (hq : _ ∧ _) => (⟨hq.1, hb9.trans (hq.2.mono hb9.size)⟩ : e = _ ∧ Below w0.heap.size w0 w'))
  obtain ⟨m, hm⟩ : ∃ m, t.l.length = m + 1 := ⟨r.length, by rw [hta]; rfl⟩
  have hrm : r.length = m := by rw [hta] at hm; simpa using hm
  have hza := bs_size (T h a i.data.toList)
  have hzr := bs_size (Lib.join (r.map fun u => T h u i.data.toList) [44, 32])
  have HFL := Lib.hid hFL
  rw [hm] at HX HLI hcap hw0 ⊢
  rw [show p.add (1 * 5) = ⟨p.block, p.off + 5, none⟩ from rfl, show m + 1 - 1 = m from rfl] at HLI
  clear hb0 bx hk hT hop hta hFL hca hPa hKa hcr hS hLC hkd hlen hm
  generalize Lib.join (r.map fun u => T h u i.data.toList) [44, 32] = Xr at HFL hT' HLI HLN hzr
  generalize T h a i.data.toList = Xa at HFL hT' HAa hza
  obtain ⟨Ba, hBa⟩ : ∃ b : ByteArray, (⟨Xa.toArray⟩ : ByteArray) = b := ⟨_, rfl⟩
  obtain ⟨Br, hBr⟩ : ∃ b : ByteArray, (⟨Xr.toArray⟩ : ByteArray) = b := ⟨_, rfl⟩
  have HE : Hid (Ba.data.toList ++ [40] ++ Br.data.toList ++ [41] = T (h + 1) t i.data.toList) := Lib.hid (by rw [HFL.out, ← hBa, ← hBr])
  rw [hBa] at HAa hza
  rw [hBr] at HLI HLN hzr
  have y0 : ¬ 9223372036854775807 < Ba.size + 1 := by omega
  have y1 : ¬ 9223372036854775807 < Ba.size + 1 + Br.size := by omega
  have y2 : ¬ 9223372036854775807 < Ba.size + 1 + Br.size + 1 := by omega
  clear HFL hT' hBa hBr hza hzr
  have z0 : (0 : Int) < (m : Int) + 1 := by omega
  have z00 : 0 < m + 1 := by omega
  by_cases hc1 : c = 1
  · subst hc1
    obtain rfl : m = 0 := by omega
    have HLO := Lib.hid (HLN.out (List.eq_nil_of_length_eq_zero hrm))
    clear HLN HLI hrm hcap
    obtain ⟨c0, c1, c2, c3, c4⟩ := HX.out
    obtain ⟨a0, a1, a2, a3, a4⟩ := HPa.out w0 HR.out
    go_enter Tryd.func86, Tryd.ntmps86
    go_wp2_with fail
    refine (HAa.out w0 HR.out).mono ?_
    rintro e w1 ⟨rfl, hb1⟩
    have HB1 := Lib.hid hb1
    clear hb1 c0 c1 c2 c3 c4 a0 a1 a2 a3 a4
    obtain ⟨c0, c1, c2, c3, c4⟩ := HX.out.keep HB1.out
    obtain ⟨a0, a1, a2, a3, a4⟩ := HPa.out w1 HB1.out
    go_wp2_with fail
    refine (HLO.out w1 HB1.out).mono ?_
    rintro e w2 ⟨rfl, hb2⟩
    have HB2 := Lib.hid hb2
    clear hb2
    go_wp2
    go_ret
    exact ⟨congrArg Ending.returned (str_eq (by rw [← HE.out] <;> simp)), HB.out.trans (HB2.out.mono HB.out.size)⟩
  · clear HLN hrm
    have z1 : (1 : Int) ≤ (m : Int) + 1 := by omega
    have z2 : (m : Int) + 1 ≤ (c : Int) := by omega
    have z3 : 1 ≤ m + 1 := by omega
    have z4 : (0 : Int) < (m : Int) + 1 := by omega
    have z5 : (1 : Int) ≤ (c : Int) := by omega
    have z6 : 1 ≤ c := by omega
    obtain ⟨c0, c1, c2, c3, c4⟩ := HX.out
    obtain ⟨a0, a1, a2, a3, a4⟩ := HPa.out w0 HR.out
    go_enter Tryd.func86, Tryd.ntmps86
    go_wp2_with fail
    refine (HAa.out w0 HR.out).mono ?_
    rintro e w1 ⟨rfl, hb1⟩
    have HB1 := Lib.hid hb1
    clear hb1 c0 c1 c2 c3 c4 a0 a1 a2 a3 a4
    obtain ⟨c0, c1, c2, c3, c4⟩ := HX.out.keep HB1.out
    obtain ⟨a0, a1, a2, a3, a4⟩ := HPa.out w1 HB1.out
    go_wp2_with fail
    refine (HLI.out w1 HB1.out).mono ?_
    rintro e w2 ⟨rfl, hb2⟩
    have HB2 := Lib.hid hb2
    clear hb2
    go_wp2
    go_ret
    exact ⟨congrArg Ending.returned (str_eq (by rw [← HE.out] <;> simp)), HB.out.trans (HB2.out.mono HB.out.size)⟩

set_option maxRecDepth 100000 in
set_option maxHeartbeats 4000000 in
theorem rmore_16_id (h : Nat) (t a : Tree) (r : List Tree) (i : ByteArray) (hop : t.op = 16) (hao : a.op = 1) (hta : t.l = a :: r) (hca : ExprD h a i) (hcr : ∀ u, u ∈ r → ExprD h u i) (hS : sumL 2 (r.map fun u => T h u i.data.toList) ≤ 140737488355328) (hT : (T (h + 1) t i.data.toList).length ≤ 140737488355328) : MoreD (h + 1) t i := by
  intro d w sl hk
  obtain ⟨hlen, A, c, rfl⟩ := hk.form
  unfold maxLen at hlen
  have hFL : T (h + 1) t i.data.toList = [40, 110, 101, 119, 32] ++ T h a i.data.toList ++ [40] ++ Lib.join (r.map fun u => T h u i.data.toList) [44, 32] ++ [41, 41] := by
    rw [T, stepT]
    simp [hop, hta, hao]
  have hLC := fun (w9 : World) (v : Value) (k9 : Kids w9 d r v) => rlist_calls h r i hcr hS d w9 v k9
  have hT' := hT
  rw [hFL] at hT'
  simp only [List.length_append, List.length_cons, List.length_nil] at hT'
  obtain ⟨p, sa, da, _, rfl, hPa, hKa, _⟩ := hk.at_ (show t.l[0]? = some a by rw [hta]; rfl)
  rw [show p.add (0 * 5) = p from rfl] at hPa
  obtain ⟨_, Aa, ca', rfl⟩ := hKa.form
  have hcap : t.l.length ≤ c := hk.cap (by rw [hta]; simp)
  have hkd := hk.drop 1 (c - 1) (by rw [hta]; simp) (by omega)
  rw [show t.l.drop 1 = r by rw [hta]; rfl] at hkd
  rw [hop]
  obtain ⟨w0, hw0⟩ : ∃ w0, w.alloc (.cells #[.int .i64 16, .string t.s, .int .i64 t.n, (.slice (some p) t.l.length c), .int .i64 t.line] 24) = w0 := ⟨_, rfl⟩
  have bx : Blk5 w0 w.heap.size 16 t.s t.n (.slice (some p) t.l.length c) t.line := by rw [← hw0]; exact blk5_new _ _ _ _ _ _
  have hb0 : Below w.heap.size w w0 := by rw [← hw0]; exact (Below.refl _ _).alloc (Nat.le_refl _) _
  have HB := Lib.hid hb0
  have HX := Lib.hid bx
  have HR : Hid (Below w0.heap.size w0 w0) := Lib.hid (Below.refl _ _)
  have HAa := Lib.hid (fun (w9 : World) (hb9 : Below w0.heap.size w0 w9) => (hca da w9 _ (hKa.below (HB.out.trans (hb9.mono HB.out.size)))).mono fun e w' (hq : _ ∧ _) => (⟨hq.1, hb9.trans (hq.2.mono hb9.size)⟩ : e = _ ∧ Below w0.heap.size w0 w'))
  have HPa := Lib.hid (fun (w9 : World) (hb9 : Below w0.heap.size w0 w9) => hPa.below (HB.out.trans (hb9.mono HB.out.size)))
  have HLI := Lib.hid (fun (w9 : World) (hb9 : Below w0.heap.size w0 w9) => (hLC w9 _ (hkd.below (HB.out.trans (hb9.mono HB.out.size)))).mono fun e w' (hq : _ ∧ _) => (⟨hq.1, hb9.trans (hq.2.mono hb9.size)⟩ : e = _ ∧ Below w0.heap.size w0 w'))
  have HLN : Hid (r = [] → ∀ (w9 : World), Below w0.heap.size w0 w9 → Calls Tryd.prog 109 #[.slice (some p) 0 0, .string i] w9 fun e w' => e = .returned (.string ⟨(Lib.join (r.map fun u => T h u i.data.toList) [44, 32]).toArray⟩) ∧ Below w0.heap.size w0 w') := Lib.hid (fun hr0 w9 hb9 => (hLC w9 _ (by rw [hr0]; exact kids_void w9 d (some p) 0)).mono fun e w' (hq : _ ∧ _) => (⟨hq.1, hb9.trans (hq.2.mono hb9.size)⟩ : e = _ ∧ Below w0.heap.size w0 w'))
  obtain ⟨m, hm⟩ : ∃ m, t.l.length = m + 1 := ⟨r.length, by rw [hta]; rfl⟩
  have hrm : r.length = m := by rw [hta] at hm; simpa using hm
  rw [hao] at HAa
  have hza := bs_size (T h a i.data.toList)
  have hzr := bs_size (Lib.join (r.map fun u => T h u i.data.toList) [44, 32])
  have HFL := Lib.hid hFL
  rw [hm] at HX HLI hcap hw0 ⊢
  rw [show p.add (1 * 5) = ⟨p.block, p.off + 5, none⟩ from rfl, show m + 1 - 1 = m from rfl] at HLI
  clear hb0 bx hk hT hop hta hFL hca hPa hKa hcr hS hLC hkd hlen hm
  generalize Lib.join (r.map fun u => T h u i.data.toList) [44, 32] = Xr at HFL hT' HLI HLN hzr
  generalize T h a i.data.toList = Xa at HFL hT' HAa hza
  obtain ⟨Ba, hBa⟩ : ∃ b : ByteArray, (⟨Xa.toArray⟩ : ByteArray) = b := ⟨_, rfl⟩
  obtain ⟨Br, hBr⟩ : ∃ b : ByteArray, (⟨Xr.toArray⟩ : ByteArray) = b := ⟨_, rfl⟩
  have HE : Hid ([40, 110, 101, 119, 32] ++ Ba.data.toList ++ [40] ++ Br.data.toList ++ [41, 41] = T (h + 1) t i.data.toList) := Lib.hid (by rw [HFL.out, ← hBa, ← hBr])
  rw [hBa] at HAa hza
  rw [hBr] at HLI HLN hzr
  have y0 : ¬ 9223372036854775807 < 5 + Ba.size := by omega
  have y1 : ¬ 9223372036854775807 < 5 + Ba.size + 1 := by omega
  have y2 : ¬ 9223372036854775807 < 5 + Ba.size + 1 + Br.size := by omega
  have y3 : ¬ 9223372036854775807 < 5 + Ba.size + 1 + Br.size + 2 := by omega
  clear HFL hT' hBa hBr hza hzr
  have z0 : (0 : Int) < (m : Int) + 1 := by omega
  have z00 : 0 < m + 1 := by omega
  by_cases hc1 : c = 1
  · subst hc1
    obtain rfl : m = 0 := by omega
    have HLO := Lib.hid (HLN.out (List.eq_nil_of_length_eq_zero hrm))
    clear HLN HLI hrm hcap
    obtain ⟨c0, c1, c2, c3, c4⟩ := HX.out
    obtain ⟨a0, a1, a2, a3, a4⟩ := HPa.out w0 HR.out
    rw [hao] at a0
    go_enter Tryd.func86, Tryd.ntmps86
    go_wp2_with fail
    refine (HAa.out w0 HR.out).mono ?_
    rintro e w1 ⟨rfl, hb1⟩
    have HB1 := Lib.hid hb1
    clear hb1 c0 c1 c2 c3 c4 a0 a1 a2 a3 a4
    obtain ⟨c0, c1, c2, c3, c4⟩ := HX.out.keep HB1.out
    obtain ⟨a0, a1, a2, a3, a4⟩ := HPa.out w1 HB1.out
    rw [hao] at a0
    go_wp2_with fail
    refine (HLO.out w1 HB1.out).mono ?_
    rintro e w2 ⟨rfl, hb2⟩
    have HB2 := Lib.hid hb2
    clear hb2
    go_wp2
    go_ret
    exact ⟨congrArg Ending.returned (str_eq (by rw [← HE.out] <;> simp)), HB.out.trans (HB2.out.mono HB.out.size)⟩
  · clear HLN hrm
    have z1 : (1 : Int) ≤ (m : Int) + 1 := by omega
    have z2 : (m : Int) + 1 ≤ (c : Int) := by omega
    have z3 : 1 ≤ m + 1 := by omega
    have z4 : (0 : Int) < (m : Int) + 1 := by omega
    have z5 : (1 : Int) ≤ (c : Int) := by omega
    have z6 : 1 ≤ c := by omega
    obtain ⟨c0, c1, c2, c3, c4⟩ := HX.out
    obtain ⟨a0, a1, a2, a3, a4⟩ := HPa.out w0 HR.out
    rw [hao] at a0
    go_enter Tryd.func86, Tryd.ntmps86
    go_wp2_with fail
    refine (HAa.out w0 HR.out).mono ?_
    rintro e w1 ⟨rfl, hb1⟩
    have HB1 := Lib.hid hb1
    clear hb1 c0 c1 c2 c3 c4 a0 a1 a2 a3 a4
    obtain ⟨c0, c1, c2, c3, c4⟩ := HX.out.keep HB1.out
    obtain ⟨a0, a1, a2, a3, a4⟩ := HPa.out w1 HB1.out
    rw [hao] at a0
    go_wp2_with fail
    refine (HLI.out w1 HB1.out).mono ?_
    rintro e w2 ⟨rfl, hb2⟩
    have HB2 := Lib.hid hb2
    clear hb2
    go_wp2
    go_ret
    exact ⟨congrArg Ending.returned (str_eq (by rw [← HE.out] <;> simp)), HB.out.trans (HB2.out.mono HB.out.size)⟩

set_option maxRecDepth 100000 in
set_option maxHeartbeats 4000000 in
theorem rmore_16 (h : Nat) (t a : Tree) (r : List Tree) (i : ByteArray) (hop : t.op = 16) (hao : ¬ a.op = 1) (hta : t.l = a :: r) (hca : ExprD h a i) (hcr : ∀ u, u ∈ r → ExprD h u i) (hS : sumL 2 (r.map fun u => T h u i.data.toList) ≤ 140737488355328) (hT : (T (h + 1) t i.data.toList).length ≤ 140737488355328) : MoreD (h + 1) t i := by
  intro d w sl hk
  obtain ⟨hlen, A, c, rfl⟩ := hk.form
  unfold maxLen at hlen
  have hFL : T (h + 1) t i.data.toList = [40, 110, 101, 119, 32] ++ [40] ++ T h a i.data.toList ++ [41] ++ [40] ++ Lib.join (r.map fun u => T h u i.data.toList) [44, 32] ++ [41, 41] := by
    rw [T, stepT]
    simp [hop, hta, hao]
  have hLC := fun (w9 : World) (v : Value) (k9 : Kids w9 d r v) => rlist_calls h r i hcr hS d w9 v k9
  have hT' := hT
  rw [hFL] at hT'
  simp only [List.length_append, List.length_cons, List.length_nil] at hT'
  obtain ⟨p, sa, da, _, rfl, hPa, hKa, _⟩ := hk.at_ (show t.l[0]? = some a by rw [hta]; rfl)
  rw [show p.add (0 * 5) = p from rfl] at hPa
  obtain ⟨_, Aa, ca', rfl⟩ := hKa.form
  have hcap : t.l.length ≤ c := hk.cap (by rw [hta]; simp)
  have hkd := hk.drop 1 (c - 1) (by rw [hta]; simp) (by omega)
  rw [show t.l.drop 1 = r by rw [hta]; rfl] at hkd
  have hq9 : (a.op == 1) = false := by simpa using hao
  have hq8 : decide (a.op = 1) = false := by simpa using hao
  rw [hop]
  obtain ⟨w0, hw0⟩ : ∃ w0, w.alloc (.cells #[.int .i64 16, .string t.s, .int .i64 t.n, (.slice (some p) t.l.length c), .int .i64 t.line] 24) = w0 := ⟨_, rfl⟩
  have bx : Blk5 w0 w.heap.size 16 t.s t.n (.slice (some p) t.l.length c) t.line := by rw [← hw0]; exact blk5_new _ _ _ _ _ _
  have hb0 : Below w.heap.size w w0 := by rw [← hw0]; exact (Below.refl _ _).alloc (Nat.le_refl _) _
  have HB := Lib.hid hb0
  have HX := Lib.hid bx
  have HR : Hid (Below w0.heap.size w0 w0) := Lib.hid (Below.refl _ _)
  have HAa := Lib.hid (fun (w9 : World) (hb9 : Below w0.heap.size w0 w9) => (hca da w9 _ (hKa.below (HB.out.trans (hb9.mono HB.out.size)))).mono fun e w' (hq : _ ∧ _) => (⟨hq.1, hb9.trans (hq.2.mono hb9.size)⟩ : e = _ ∧ Below w0.heap.size w0 w'))
  have HPa := Lib.hid (fun (w9 : World) (hb9 : Below w0.heap.size w0 w9) => hPa.below (HB.out.trans (hb9.mono HB.out.size)))
  have HLI := Lib.hid (fun (w9 : World) (hb9 : Below w0.heap.size w0 w9) => (hLC w9 _ (hkd.below (HB.out.trans (hb9.mono HB.out.size)))).mono fun e w' (hq : _ ∧ _) => (⟨hq.1, hb9.trans (hq.2.mono hb9.size)⟩ : e = _ ∧ Below w0.heap.size w0 w'))
  have HLN : Hid (r = [] → ∀ (w9 : World), Below w0.heap.size w0 w9 → Calls Tryd.prog 109 #[.slice (some p) 0 0, .string i] w9 fun e w' => e = .returned (.string ⟨(Lib.join (r.map fun u => T h u i.data.toList) [44, 32]).toArray⟩) ∧ Below w0.heap.size w0 w') := Lib.hid (fun hr0 w9 hb9 => (hLC w9 _ (by rw [hr0]; exact kids_void w9 d (some p) 0)).mono fun e w' (hq : _ ∧ _) => (⟨hq.1, hb9.trans (hq.2.mono hb9.size)⟩ : e = _ ∧ Below w0.heap.size w0 w'))
  obtain ⟨m, hm⟩ : ∃ m, t.l.length = m + 1 := ⟨r.length, by rw [hta]; rfl⟩
  have hrm : r.length = m := by rw [hta] at hm; simpa using hm
  have hza := bs_size (T h a i.data.toList)
  have hzr := bs_size (Lib.join (r.map fun u => T h u i.data.toList) [44, 32])
  have HFL := Lib.hid hFL
  rw [hm] at HX HLI hcap hw0 ⊢
  rw [show p.add (1 * 5) = ⟨p.block, p.off + 5, none⟩ from rfl, show m + 1 - 1 = m from rfl] at HLI
  clear hb0 bx hk hT hop hta hFL hca hPa hKa hcr hS hLC hkd hlen hm
  generalize Lib.join (r.map fun u => T h u i.data.toList) [44, 32] = Xr at HFL hT' HLI HLN hzr
  generalize T h a i.data.toList = Xa at HFL hT' HAa hza
  obtain ⟨Ba, hBa⟩ : ∃ b : ByteArray, (⟨Xa.toArray⟩ : ByteArray) = b := ⟨_, rfl⟩
  obtain ⟨Br, hBr⟩ : ∃ b : ByteArray, (⟨Xr.toArray⟩ : ByteArray) = b := ⟨_, rfl⟩
  have HE : Hid ([40, 110, 101, 119, 32] ++ [40] ++ Ba.data.toList ++ [41] ++ [40] ++ Br.data.toList ++ [41, 41] = T (h + 1) t i.data.toList) := Lib.hid (by rw [HFL.out, ← hBa, ← hBr])
  rw [hBa] at HAa hza
  rw [hBr] at HLI HLN hzr
  have y0 : ¬ 9223372036854775807 < 5 + 1 := by omega
  have y1 : ¬ 9223372036854775807 < 5 + 1 + Ba.size := by omega
  have y2 : ¬ 9223372036854775807 < 5 + 1 + Ba.size + 1 := by omega
  have y3 : ¬ 9223372036854775807 < 5 + 1 + Ba.size + 1 + 1 := by omega
  have y4 : ¬ 9223372036854775807 < 5 + 1 + Ba.size + 1 + 1 + Br.size := by omega
  have y5 : ¬ 9223372036854775807 < 5 + 1 + Ba.size + 1 + 1 + Br.size + 2 := by omega
  have x0 : ¬ 9223372036854775807 < 1 + Ba.size := by omega
  have x1 : ¬ 9223372036854775807 < 1 + Ba.size + 1 := by omega
  have x2 : ¬ 9223372036854775807 < 5 + (1 + Ba.size + 1) := by omega
  have x3 : ¬ 9223372036854775807 < 5 + (1 + Ba.size + 1) + 1 := by omega
  have x4 : ¬ 9223372036854775807 < 5 + (1 + Ba.size + 1) + 1 + Br.size := by omega
  have x5 : ¬ 9223372036854775807 < 5 + (1 + Ba.size + 1) + 1 + Br.size + 2 := by omega
  clear HFL hT' hBa hBr hza hzr
  have z0 : (0 : Int) < (m : Int) + 1 := by omega
  have z00 : 0 < m + 1 := by omega
  by_cases hc1 : c = 1
  · subst hc1
    obtain rfl : m = 0 := by omega
    have HLO := Lib.hid (HLN.out (List.eq_nil_of_length_eq_zero hrm))
    clear HLN HLI hrm hcap
    obtain ⟨c0, c1, c2, c3, c4⟩ := HX.out
    obtain ⟨a0, a1, a2, a3, a4⟩ := HPa.out w0 HR.out
    go_enter Tryd.func86, Tryd.ntmps86
    go_wp2_with fail
    refine (HAa.out w0 HR.out).mono ?_
    rintro e w1 ⟨rfl, hb1⟩
    have HB1 := Lib.hid hb1
    clear hb1 c0 c1 c2 c3 c4 a0 a1 a2 a3 a4
    obtain ⟨c0, c1, c2, c3, c4⟩ := HX.out.keep HB1.out
    obtain ⟨a0, a1, a2, a3, a4⟩ := HPa.out w1 HB1.out
    go_wp2_with fail
    refine (HLO.out w1 HB1.out).mono ?_
    rintro e w2 ⟨rfl, hb2⟩
    have HB2 := Lib.hid hb2
    clear hb2
    go_wp2
    go_ret
    exact ⟨congrArg Ending.returned (str_eq (by rw [← HE.out] <;> simp)), HB.out.trans (HB2.out.mono HB.out.size)⟩
  · clear HLN hrm
    have z1 : (1 : Int) ≤ (m : Int) + 1 := by omega
    have z2 : (m : Int) + 1 ≤ (c : Int) := by omega
    have z3 : 1 ≤ m + 1 := by omega
    have z4 : (0 : Int) < (m : Int) + 1 := by omega
    have z5 : (1 : Int) ≤ (c : Int) := by omega
    have z6 : 1 ≤ c := by omega
    obtain ⟨c0, c1, c2, c3, c4⟩ := HX.out
    obtain ⟨a0, a1, a2, a3, a4⟩ := HPa.out w0 HR.out
    go_enter Tryd.func86, Tryd.ntmps86
    go_wp2_with fail
    refine (HAa.out w0 HR.out).mono ?_
    rintro e w1 ⟨rfl, hb1⟩
    have HB1 := Lib.hid hb1
    clear hb1 c0 c1 c2 c3 c4 a0 a1 a2 a3 a4
    obtain ⟨c0, c1, c2, c3, c4⟩ := HX.out.keep HB1.out
    obtain ⟨a0, a1, a2, a3, a4⟩ := HPa.out w1 HB1.out
    go_wp2_with fail
    refine (HLI.out w1 HB1.out).mono ?_
    rintro e w2 ⟨rfl, hb2⟩
    have HB2 := Lib.hid hb2
    clear hb2
    go_wp2
    go_ret
    exact ⟨congrArg Ending.returned (str_eq (by rw [← HE.out] <;> simp)), HB.out.trans (HB2.out.mono HB.out.size)⟩

end Go.Proofs.YtcidccifnaecaaaDoor

namespace Go.Proofs.YtcidccifnaecaaaDoor
open Go.RowKit Go.Sort

theorem size_lenQ (s : ByteArray) : s.size = s.data.toList.length := by simp
theorem bytes_extQ {a b : ByteArray} (h : a.data.toList = b.data.toList) : a = b := by
  cases a; cases b
  simp at h
  subst h
  rfl
theorem quoteC_lenQ (c : UInt8) : (quoteC c).length ≤ 4 := by
  unfold quoteC
  repeat' split
  all_goals simp

theorem ext_oneQ {s : ByteArray} {k : Nat} (hk : k < s.size) : (s.extract k (k + 1)).data.toList = [s[k]] := by
  rw [extract_list]
  have h := byte_some hk
  rw [List.take_add_one, h]
  have : (s.data.toList.take k).length = k := by rw [List.length_take, ← size_lenQ]; omega
  rw [List.drop_append_of_le_length (by omega), List.drop_eq_nil_of_le (by omega)]
  simp
theorem app_bytesQ (a b : ByteArray) : (a ++ b).data.toList = a.data.toList ++ b.data.toList := by simp
def hexDigitsQ : ByteArray := ⟨#[48, 49, 50, 51, 52, 53, 54, 55, 56, 57, 97, 98, 99, 100, 101, 102]⟩
theorem hex_extQ (q : Nat) (hq : q < 16) : hexDigitsQ.extract q (q + 1) = ⟨#[hexC q]⟩ := by
  have h : q = 0 ∨ q = 1 ∨ q = 2 ∨ q = 3 ∨ q = 4 ∨ q = 5 ∨ q = 6 ∨ q = 7 ∨ q = 8 ∨ q = 9 ∨ q = 10 ∨ q = 11 ∨ q = 12 ∨ q = 13 ∨ q = 14 ∨ q = 15 := by omega
  rcases h with rfl | rfl | rfl | rfl | rfl | rfl | rfl | rfl | rfl | rfl | rfl | rfl | rfl | rfl | rfl | rfl <;> (show _ = _; kernel_rfl)

/-- What has been quoted of the first k bytes. -/
def QSq (s o : ByteArray) (k : Nat) : Prop := o.data.toList = [34] ++ (s.data.toList.take k).flatMap quoteC ∧ o.size ≤ 1 + 4 * k
theorem QSq.next {s o u : ByteArray} {k : Nat} (h : QSq s o k) (hk : k < s.size) (hu : u.data.toList = quoteC s[k]) : QSq s (o ++ u) (k + 1) := by
  refine ⟨by rw [app_bytesQ, h.1, hu, flat_next quoteC (byte_some hk), List.append_assoc], ?_⟩
  have h1 := quoteC_lenQ s[k]
  have h2 : u.size = (quoteC s[k]).length := by rw [size_lenQ, hu]
  have h3 := h.2
  have h4 : (o ++ u).size = o.size + u.size := ByteArray.size_append
  omega

set_option maxRecDepth 100000 in
set_option maxHeartbeats 2000000 in
theorem rquoteU_calls (w : World) (s : ByteArray) (hs : s.size ≤ 140737488355328) :
    Calls Tryd.prog 42 #[.string s] w fun e w' => e = .returned (.string ⟨(quoteL s.data.toList).toArray⟩) ∧ Below w.heap.size w w' := by
  go_enter Tryd.func42, Tryd.ntmps42
  go_wp2
  go_loopw [4, 5] (fun v i wr => ∃ (k : Nat) (o : ByteArray), k ≤ s.size ∧ v = .string o ∧ i = .int .i64 k ∧ Below w.heap.size w wr ∧ o.size ≤ 562949953421313 ∧ Hid (QSq s o k)) (fun _ i _ => s.size - (intOf i).toNat)
  case atStart => exact ⟨0, ⟨#[34]⟩, by omega, rfl, rfl, Below.refl _ _, by decide, Lib.hid ⟨rfl, by decide⟩⟩
  case round =>
    obtain ⟨k, o, hk, rfl, rfl, hbw, hos, HQ⟩ := hrel
    have HBW := Lib.hid hbw
    clear hbw
    by_cases hlt : k < s.size
    · have hc256 := (s[k]).toNat_lt
      cases h34 : ((s[k].toNat : Int) == 34) with
      | true =>
        have hx := byte_is (d := 34) h34
        have hq := HQ.out.next hlt (u := ⟨#[92]⟩ ++ s.extract k (k + 1)) (by rw [app_bytesQ, ext_oneQ hlt, hx]; rfl)
        rw [← ByteArray.append_assoc] at hq
        have HN := Lib.hid hq
        clear hq hx
        go_wp2
        exact ⟨⟨k + 1, _, by omega, rfl, by go_num, HBW.out, by have := HN.out.2; omega, HN⟩, by simp [intOf]; omega⟩
      | false =>
      have n34 : s[k] ≠ 34 := fun h => by rw [h] at h34; simp at h34
      cases h92 : ((s[k].toNat : Int) == 92) with
      | true =>
        have hx := byte_is (d := 92) h92
        have hq := HQ.out.next hlt (u := ⟨#[92]⟩ ++ s.extract k (k + 1)) (by rw [app_bytesQ, ext_oneQ hlt, hx]; rfl)
        rw [← ByteArray.append_assoc] at hq
        have HN := Lib.hid hq
        clear hq hx n34
        go_wp2
        exact ⟨⟨k + 1, _, by omega, rfl, by go_num, HBW.out, by have := HN.out.2; omega, HN⟩, by simp [intOf]; omega⟩
      | false =>
      have n92 : s[k] ≠ 92 := fun h => by rw [h] at h92; simp at h92
      cases h10 : ((s[k].toNat : Int) == 10) with
      | true =>
        have hx := byte_is (d := 10) h10
        have HN := Lib.hid (HQ.out.next hlt (u := ⟨#[92, 110]⟩) (by rw [hx]; rfl))
        clear hx n34 n92
        go_wp2
        exact ⟨⟨k + 1, _, by omega, rfl, by go_num, HBW.out, by have := HN.out.2; omega, HN⟩, by simp [intOf]; omega⟩
      | false =>
      have n10 : s[k] ≠ 10 := fun h => by rw [h] at h10; simp at h10
      cases h9 : ((s[k].toNat : Int) == 9) with
      | true =>
        have hx := byte_is (d := 9) h9
        have HN := Lib.hid (HQ.out.next hlt (u := ⟨#[92, 116]⟩) (by rw [hx]; rfl))
        clear hx n34 n92 n10
        go_wp2
        exact ⟨⟨k + 1, _, by omega, rfl, by go_num, HBW.out, by have := HN.out.2; omega, HN⟩, by simp [intOf]; omega⟩
      | false =>
      have n9 : s[k] ≠ 9 := fun h => by rw [h] at h9; simp at h9
      by_cases hp : (32 : Int) ≤ (s[k].toNat : Int) ∧ (s[k].toNat : Int) ≤ 126
      · obtain ⟨hp1, hp2⟩ := hp
        have HN := Lib.hid (HQ.out.next hlt (u := s.extract k (k + 1)) (by
          rw [ext_oneQ hlt, quoteC, if_neg n10, if_neg n9, if_neg (by simp [n34, n92]), if_pos (by omega)]))
        clear n34 n92 n10 n9
        go_wp2
        exact ⟨⟨k + 1, _, by omega, rfl, by go_num, HBW.out, by have := HN.out.2; omega, HN⟩, by simp [intOf]; omega⟩
      · obtain ⟨qa, hqa⟩ : ∃ qa, qa = s[k].toNat / 16 := ⟨_, rfl⟩
        obtain ⟨qb, hqb⟩ : ∃ qb, qb = s[k].toNat % 16 := ⟨_, rfl⟩
        have hqa' : (s[k].toNat : Int) / 16 = (qa : Int) := by omega
        have hqb' : (s[k].toNat : Int) % 16 = (qb : Int) := by omega
        have htm : (s[k].toNat : Int).tmod 16 = (qb : Int) := by rw [Int.tmod_eq_emod_of_nonneg (by omega)]; exact hqb'
        have ha16 : qa < 16 := by omega
        have hb16 : qb < 16 := by omega
        have hxa : (⟨#[48, 49, 50, 51, 52, 53, 54, 55, 56, 57, 97, 98, 99, 100, 101, 102]⟩ : ByteArray).extract qa (qa + 1) = ⟨#[hexC qa]⟩ := hex_extQ qa ha16
        have hxb : (⟨#[48, 49, 50, 51, 52, 53, 54, 55, 56, 57, 97, 98, 99, 100, 101, 102]⟩ : ByteArray).extract qb (qb + 1) = ⟨#[hexC qb]⟩ := hex_extQ qb hb16
        have hq := HQ.out.next hlt (u := ⟨#[92, 120]⟩ ++ ⟨#[hexC qa]⟩ ++ ⟨#[hexC qb]⟩) (by
          rw [quoteC, if_neg n10, if_neg n9, if_neg (by simp [n34, n92]), if_neg (by omega), hqa, hqb]
          rfl)
        rw [← ByteArray.append_assoc, ← ByteArray.append_assoc] at hq
        have HN := Lib.hid hq
        have wa : IntKind.u8.wrap (qa : Int) = (qa : Int) := by rw [IntKind.wrap_u8]; omega
        have wb : IntKind.u8.wrap (qb : Int) = (qb : Int) := by rw [IntKind.wrap_u8]; omega
        have wa1 : IntKind.u8.wrap ((qa : Int) + 1) = (qa : Int) + 1 := by rw [IntKind.wrap_u8]; omega
        have wb1 : IntKind.u8.wrap ((qb : Int) + 1) = (qb : Int) + 1 := by rw [IntKind.wrap_u8]; omega
        have la1 : (qa : Int) + 1 ≤ 16 := by omega
        have lb1 : (qb : Int) + 1 ≤ 16 := by omega
        have la2 : (qa : Int) ≤ (qa : Int) + 1 := by omega
        have lb2 : (qb : Int) ≤ (qb : Int) + 1 := by omega
        have ta : ((qa : Int) + 1).toNat = qa + 1 := by omega
        have tb : ((qb : Int) + 1).toNat = qb + 1 := by omega
        have hz1 : ¬ 9223372036854775807 < o.size + 2 := by omega
        have hz2 : ¬ 9223372036854775807 < o.size + 2 + 1 := by omega
        have hz3 : ¬ 9223372036854775807 < o.size + 2 + 1 + 1 := by omega
        clear n34 n92 n10 n9 hqa hqb hq ha16 hb16
        by_cases hp1 : (32 : Int) ≤ (s[k].toNat : Int)
        · have hp2 : (126 : Int) < (s[k].toNat : Int) := by omega
          clear hp
          go_wp2
          go_still (by kernel_rfl)
          change Exit.inBlock _ _ _ _ wr.drew
          go_wp2
          exact ⟨⟨k + 1, _, by omega, rfl, by go_num, HBW.out.drew, by have := HN.out.2; omega, HN⟩, by simp [intOf]; omega⟩
        · clear hp
          go_wp2
          go_still (by kernel_rfl)
          change Exit.inBlock _ _ _ _ wr.drew
          go_wp2
          exact ⟨⟨k + 1, _, by omega, rfl, by go_num, HBW.out.drew, by have := HN.out.2; omega, HN⟩, by simp [intOf]; omega⟩
    · obtain rfl : k = s.size := by omega
      have HE : Hid (o ++ ⟨#[34]⟩ = ⟨(quoteL s.data.toList).toArray⟩) := Lib.hid (bytes_extQ (by
        rw [app_bytesQ, HQ.out.1, List.take_of_length_le (by rw [← size_lenQ]; omega)]; rfl))
      go_wp2
      go_ret
      exact ⟨by rw [← HE.out]; rfl, HBW.out⟩

end Go.Proofs.YtcidccifnaecaaaDoor

namespace Go.Proofs.YtcidccifnaecaaaDoor
open Go.RowKit Go.Sort

set_option maxRecDepth 100000 in
set_option maxHeartbeats 4000000 in
theorem rtext_1 (h : Nat) (t : Tree) (i : ByteArray) (hop : t.op = 1) : ExprD (h + 1) t i := by
  intro d w sl hk
  obtain ⟨hlen, A, c, rfl⟩ := hk.form
  unfold maxLen at hlen
  have HFL : Hid (T (h + 1) t i.data.toList = t.s.data.toList) := Lib.hid (by simp [T, stepT, hop])
  rw [hop]
  obtain ⟨w0, hw0⟩ : ∃ w0, w.alloc (.cells #[.int .i64 1, .string t.s, .int .i64 t.n, .slice A t.l.length c, .int .i64 t.line] 24) = w0 := ⟨_, rfl⟩
  have bx : Blk5 w0 w.heap.size 1 t.s t.n (.slice A t.l.length c) t.line := by rw [← hw0]; exact blk5_new _ _ _ _ _ _
  have hb0 : Below w.heap.size w w0 := by rw [← hw0]; exact (Below.refl _ _).alloc (Nat.le_refl _) _
  have HB := Lib.hid hb0
  have HX := Lib.hid bx
  have HR : Hid (Below w0.heap.size w0 w0) := Lib.hid (Below.refl _ _)
  clear hb0 hk hop bx
  obtain ⟨c0, c1, c2, c3, c4⟩ := HX.out
  go_enter Tryd.func52, Tryd.ntmps52
  go_wp2
  go_ret
  exact ⟨congrArg Ending.returned (str_eq HFL.out.symm), HB.out⟩

set_option maxRecDepth 100000 in
set_option maxHeartbeats 4000000 in
theorem rtext_2 (h : Nat) (t : Tree) (i : ByteArray) (hop : t.op = 2) (hn0 : 0 ≤ t.n) (hn1 : t.n ≤ 999999999999999) : ExprD (h + 1) t i := by
  intro d w sl hk
  obtain ⟨hlen, A, c, rfl⟩ := hk.form
  unfold maxLen at hlen
  have HFL : Hid (T (h + 1) t i.data.toList = Lib.itoa t.n) := Lib.hid (by simp [T, stepT, hop])
  rw [hop]
  obtain ⟨w0, hw0⟩ : ∃ w0, w.alloc (.cells #[.int .i64 2, .string t.s, .int .i64 t.n, .slice A t.l.length c, .int .i64 t.line] 24) = w0 := ⟨_, rfl⟩
  have bx : Blk5 w0 w.heap.size 2 t.s t.n (.slice A t.l.length c) t.line := by rw [← hw0]; exact blk5_new _ _ _ _ _ _
  have hb0 : Below w.heap.size w w0 := by rw [← hw0]; exact (Below.refl _ _).alloc (Nat.le_refl _) _
  have HB := Lib.hid hb0
  have HX := Lib.hid bx
  have HR : Hid (Below w0.heap.size w0 w0) := Lib.hid (Below.refl _ _)
  have HC := Lib.hid (num_calls w0 t.n.toNat (by omega))
  rw [Int.toNat_of_nonneg hn0] at HC
  clear hb0 hk hop bx
  obtain ⟨c0, c1, c2, c3, c4⟩ := HX.out
  go_enter Tryd.func52, Tryd.ntmps52
  go_wp2_with fail
  refine HC.out.mono ?_
  rintro e w1 ⟨rfl, hb1⟩
  have HB1 := Lib.hid hb1
  clear hb1
  go_wp2
  go_ret
  exact ⟨by rw [HFL.out]; rfl, HB.out.trans (HB1.out.mono HB.out.size)⟩

set_option maxRecDepth 100000 in
set_option maxHeartbeats 4000000 in
theorem rtext_3 (h : Nat) (t : Tree) (i : ByteArray) (hop : t.op = 3) (hs : t.s.size ≤ 140737488355328) : ExprD (h + 1) t i := by
  intro d w sl hk
  obtain ⟨hlen, A, c, rfl⟩ := hk.form
  unfold maxLen at hlen
  have HFL : Hid (T (h + 1) t i.data.toList = quoteL t.s.data.toList) := Lib.hid (by simp [T, stepT, hop])
  rw [hop]
  obtain ⟨w0, hw0⟩ : ∃ w0, w.alloc (.cells #[.int .i64 3, .string t.s, .int .i64 t.n, .slice A t.l.length c, .int .i64 t.line] 24) = w0 := ⟨_, rfl⟩
  have bx : Blk5 w0 w.heap.size 3 t.s t.n (.slice A t.l.length c) t.line := by rw [← hw0]; exact blk5_new _ _ _ _ _ _
  have hb0 : Below w.heap.size w w0 := by rw [← hw0]; exact (Below.refl _ _).alloc (Nat.le_refl _) _
  have HB := Lib.hid hb0
  have HX := Lib.hid bx
  have HR : Hid (Below w0.heap.size w0 w0) := Lib.hid (Below.refl _ _)
  have HC := Lib.hid (rquoteU_calls w0 t.s hs)
  clear hb0 hk hop bx
  obtain ⟨c0, c1, c2, c3, c4⟩ := HX.out
  go_enter Tryd.func52, Tryd.ntmps52
  go_wp2_with fail
  refine HC.out.mono ?_
  rintro e w1 ⟨rfl, hb1⟩
  have HB1 := Lib.hid hb1
  clear hb1
  go_wp2
  go_ret
  exact ⟨by rw [HFL.out]; rfl, HB.out.trans (HB1.out.mono HB.out.size)⟩

set_option maxRecDepth 100000 in
set_option maxHeartbeats 4000000 in
theorem rtext_4 (h : Nat) (t : Tree) (i : ByteArray) (hop : t.op = 4) : ExprD (h + 1) t i := by
  intro d w sl hk
  obtain ⟨hlen, A, c, rfl⟩ := hk.form
  unfold maxLen at hlen
  have HFL : Hid (T (h + 1) t i.data.toList = [116, 114, 117, 101]) := Lib.hid (by simp [T, stepT, hop, wordOf])
  rw [hop]
  obtain ⟨w0, hw0⟩ : ∃ w0, w.alloc (.cells #[.int .i64 4, .string t.s, .int .i64 t.n, .slice A t.l.length c, .int .i64 t.line] 24) = w0 := ⟨_, rfl⟩
  have bx : Blk5 w0 w.heap.size 4 t.s t.n (.slice A t.l.length c) t.line := by rw [← hw0]; exact blk5_new _ _ _ _ _ _
  have hb0 : Below w.heap.size w w0 := by rw [← hw0]; exact (Below.refl _ _).alloc (Nat.le_refl _) _
  have HB := Lib.hid hb0
  have HX := Lib.hid bx
  have HR : Hid (Below w0.heap.size w0 w0) := Lib.hid (Below.refl _ _)
  clear hb0 hk hop bx
  obtain ⟨c0, c1, c2, c3, c4⟩ := HX.out
  go_enter Tryd.func52, Tryd.ntmps52
  go_wp2
  go_ret
  exact ⟨by rw [HFL.out]; rfl, HB.out⟩

set_option maxRecDepth 100000 in
set_option maxHeartbeats 4000000 in
theorem rtext_5 (h : Nat) (t : Tree) (i : ByteArray) (hop : t.op = 5) : ExprD (h + 1) t i := by
  intro d w sl hk
  obtain ⟨hlen, A, c, rfl⟩ := hk.form
  unfold maxLen at hlen
  have HFL : Hid (T (h + 1) t i.data.toList = [102, 97, 108, 115, 101]) := Lib.hid (by simp [T, stepT, hop, wordOf])
  rw [hop]
  obtain ⟨w0, hw0⟩ : ∃ w0, w.alloc (.cells #[.int .i64 5, .string t.s, .int .i64 t.n, .slice A t.l.length c, .int .i64 t.line] 24) = w0 := ⟨_, rfl⟩
  have bx : Blk5 w0 w.heap.size 5 t.s t.n (.slice A t.l.length c) t.line := by rw [← hw0]; exact blk5_new _ _ _ _ _ _
  have hb0 : Below w.heap.size w w0 := by rw [← hw0]; exact (Below.refl _ _).alloc (Nat.le_refl _) _
  have HB := Lib.hid hb0
  have HX := Lib.hid bx
  have HR : Hid (Below w0.heap.size w0 w0) := Lib.hid (Below.refl _ _)
  clear hb0 hk hop bx
  obtain ⟨c0, c1, c2, c3, c4⟩ := HX.out
  go_enter Tryd.func52, Tryd.ntmps52
  go_wp2
  go_ret
  exact ⟨by rw [HFL.out]; rfl, HB.out⟩

set_option maxRecDepth 100000 in
set_option maxHeartbeats 4000000 in
theorem rtext_6 (h : Nat) (t : Tree) (i : ByteArray) (hop : t.op = 6) : ExprD (h + 1) t i := by
  intro d w sl hk
  obtain ⟨hlen, A, c, rfl⟩ := hk.form
  unfold maxLen at hlen
  have HFL : Hid (T (h + 1) t i.data.toList = [110, 117, 108, 108]) := Lib.hid (by simp [T, stepT, hop, wordOf])
  rw [hop]
  obtain ⟨w0, hw0⟩ : ∃ w0, w.alloc (.cells #[.int .i64 6, .string t.s, .int .i64 t.n, .slice A t.l.length c, .int .i64 t.line] 24) = w0 := ⟨_, rfl⟩
  have bx : Blk5 w0 w.heap.size 6 t.s t.n (.slice A t.l.length c) t.line := by rw [← hw0]; exact blk5_new _ _ _ _ _ _
  have hb0 : Below w.heap.size w w0 := by rw [← hw0]; exact (Below.refl _ _).alloc (Nat.le_refl _) _
  have HB := Lib.hid hb0
  have HX := Lib.hid bx
  have HR : Hid (Below w0.heap.size w0 w0) := Lib.hid (Below.refl _ _)
  clear hb0 hk hop bx
  obtain ⟨c0, c1, c2, c3, c4⟩ := HX.out
  go_enter Tryd.func52, Tryd.ntmps52
  go_wp2
  go_ret
  exact ⟨by rw [HFL.out]; rfl, HB.out⟩

set_option maxRecDepth 100000 in
set_option maxHeartbeats 4000000 in
theorem rtext_7 (h : Nat) (t : Tree) (i : ByteArray) (hop : t.op = 7) : ExprD (h + 1) t i := by
  intro d w sl hk
  obtain ⟨hlen, A, c, rfl⟩ := hk.form
  unfold maxLen at hlen
  have HFL : Hid (T (h + 1) t i.data.toList = [117, 110, 100, 101, 102, 105, 110, 101, 100]) := Lib.hid (by simp [T, stepT, hop, wordOf])
  rw [hop]
  obtain ⟨w0, hw0⟩ : ∃ w0, w.alloc (.cells #[.int .i64 7, .string t.s, .int .i64 t.n, .slice A t.l.length c, .int .i64 t.line] 24) = w0 := ⟨_, rfl⟩
  have bx : Blk5 w0 w.heap.size 7 t.s t.n (.slice A t.l.length c) t.line := by rw [← hw0]; exact blk5_new _ _ _ _ _ _
  have hb0 : Below w.heap.size w w0 := by rw [← hw0]; exact (Below.refl _ _).alloc (Nat.le_refl _) _
  have HB := Lib.hid hb0
  have HX := Lib.hid bx
  have HR : Hid (Below w0.heap.size w0 w0) := Lib.hid (Below.refl _ _)
  clear hb0 hk hop bx
  obtain ⟨c0, c1, c2, c3, c4⟩ := HX.out
  go_enter Tryd.func52, Tryd.ntmps52
  go_wp2
  go_ret
  exact ⟨by rw [HFL.out]; rfl, HB.out⟩

set_option maxRecDepth 100000 in
set_option maxHeartbeats 4000000 in
theorem rtext_8 (h : Nat) (t : Tree) (i : ByteArray) (hop : t.op = 8) : ExprD (h + 1) t i := by
  intro d w sl hk
  obtain ⟨hlen, A, c, rfl⟩ := hk.form
  unfold maxLen at hlen
  have HFL : Hid (T (h + 1) t i.data.toList = [116, 104, 105, 115]) := Lib.hid (by simp [T, stepT, hop, wordOf])
  rw [hop]
  obtain ⟨w0, hw0⟩ : ∃ w0, w.alloc (.cells #[.int .i64 8, .string t.s, .int .i64 t.n, .slice A t.l.length c, .int .i64 t.line] 24) = w0 := ⟨_, rfl⟩
  have bx : Blk5 w0 w.heap.size 8 t.s t.n (.slice A t.l.length c) t.line := by rw [← hw0]; exact blk5_new _ _ _ _ _ _
  have hb0 : Below w.heap.size w w0 := by rw [← hw0]; exact (Below.refl _ _).alloc (Nat.le_refl _) _
  have HB := Lib.hid hb0
  have HX := Lib.hid bx
  have HR : Hid (Below w0.heap.size w0 w0) := Lib.hid (Below.refl _ _)
  clear hb0 hk hop bx
  obtain ⟨c0, c1, c2, c3, c4⟩ := HX.out
  go_enter Tryd.func52, Tryd.ntmps52
  go_wp2
  go_ret
  exact ⟨by rw [HFL.out]; rfl, HB.out⟩

set_option maxRecDepth 100000 in
set_option maxHeartbeats 4000000 in
theorem rtext_9 (h : Nat) (t : Tree) (i : ByteArray) (hop : t.op = 9) : ExprD (h + 1) t i := by
  intro d w sl hk
  obtain ⟨hlen, A, c, rfl⟩ := hk.form
  unfold maxLen at hlen
  have HFL : Hid (T (h + 1) t i.data.toList = [105, 110, 112, 117, 116]) := Lib.hid (by simp [T, stepT, hop, wordOf])
  rw [hop]
  obtain ⟨w0, hw0⟩ : ∃ w0, w.alloc (.cells #[.int .i64 9, .string t.s, .int .i64 t.n, .slice A t.l.length c, .int .i64 t.line] 24) = w0 := ⟨_, rfl⟩
  have bx : Blk5 w0 w.heap.size 9 t.s t.n (.slice A t.l.length c) t.line := by rw [← hw0]; exact blk5_new _ _ _ _ _ _
  have hb0 : Below w.heap.size w w0 := by rw [← hw0]; exact (Below.refl _ _).alloc (Nat.le_refl _) _
  have HB := Lib.hid hb0
  have HX := Lib.hid bx
  have HR : Hid (Below w0.heap.size w0 w0) := Lib.hid (Below.refl _ _)
  clear hb0 hk hop bx
  obtain ⟨c0, c1, c2, c3, c4⟩ := HX.out
  go_enter Tryd.func52, Tryd.ntmps52
  go_wp2
  go_ret
  exact ⟨by rw [HFL.out]; rfl, HB.out⟩

set_option maxRecDepth 100000 in
set_option maxHeartbeats 4000000 in
theorem rtext_more (h : Nat) (t : Tree) (i : ByteArray) (hop : 13 ≤ t.op) (hm : MoreD (h + 1) t i) : ExprD (h + 1) t i := by
  intro d w sl hk
  obtain ⟨hlen, A, c, rfl⟩ := hk.form
  unfold maxLen at hlen
  have hq1 : (t.op == 1) = false := by simp; omega
  have hq2 : (t.op == 2) = false := by simp; omega
  have hq3 : (t.op == 3) = false := by simp; omega
  have hq4 : (t.op == 4) = false := by simp; omega
  have hq5 : (t.op == 5) = false := by simp; omega
  have hq6 : (t.op == 6) = false := by simp; omega
  have hq7 : (t.op == 7) = false := by simp; omega
  have hq8 : (t.op == 8) = false := by simp; omega
  have hq9 : (t.op == 9) = false := by simp; omega
  have hq10 : (t.op == 10) = false := by simp; omega
  have hq11 : (t.op == 11) = false := by simp; omega
  obtain ⟨w0, hw0⟩ : ∃ w0, w.alloc (.cells #[.int .i64 t.op, .string t.s, .int .i64 t.n, .slice A t.l.length c, .int .i64 t.line] 24) = w0 := ⟨_, rfl⟩
  have bx : Blk5 w0 w.heap.size t.op t.s t.n (.slice A t.l.length c) t.line := by rw [← hw0]; exact blk5_new _ _ _ _ _ _
  have hb0 : Below w.heap.size w w0 := by rw [← hw0]; exact (Below.refl _ _).alloc (Nat.le_refl _) _
  have HB := Lib.hid hb0
  have HX := Lib.hid bx
  have HR : Hid (Below w0.heap.size w0 w0) := Lib.hid (Below.refl _ _)
  have HM := Lib.hid (hm d w0 _ (hk.below hb0))
  clear hb0 hk hop bx hm
  obtain ⟨c0, c1, c2, c3, c4⟩ := HX.out
  go_enter Tryd.func52, Tryd.ntmps52
  go_wp2_with fail
  refine HM.out.mono ?_
  rintro e w1 ⟨rfl, hb1⟩
  have HB1 := Lib.hid hb1
  clear hb1
  go_wp2
  go_ret
  exact ⟨rfl, HB.out.trans (HB1.out.mono HB.out.size)⟩

set_option maxRecDepth 100000 in
set_option maxHeartbeats 4000000 in
theorem rtext_10_none (h : Nat) (t : Tree) (i : ByteArray) (hop : t.op = 10) (hs : t.s.toList.isEmpty = true) (ks : List Tree) (b : Tree) (hta : t.l = ks ++ [b]) (hb32 : b.op = 32) (hc : ∀ u, u ∈ ks → ExprD (h + 1) u i) (hcb : ∀ u, u ∈ b.l → StmtD h u (i ++ ⟨#[32, 32]⟩)) (hS : sumL 2 (ks.map fun u => T (h + 1) u i.data.toList) ≤ 140737488355328) (hi : i.size ≤ 1000000) (hN : ks.length ≤ 1000) (hT : (T (h + 1 + 1) t i.data.toList).length ≤ 140737488355328) : ExprD (h + 1 + 1) t i := by
  intro d w sl hk
  obtain ⟨hlen, A, c, rfl⟩ := hk.form
  unfold maxLen at hlen
  have hs0 : t.s.data.toList = [] := by rw [ByteArray.toList_eq] at hs; simpa using hs
  have hFL : T (h + 1 + 1) t i.data.toList = [40, 102, 117, 110, 99, 116, 105, 111, 110] ++ funL ((ks ++ [b]).map fun u => T (h + 1) u i.data.toList) ++ [41] := by
    rw [T, stepT]
    simp [hop, hta, hs0]
  have hT' := hT
  rw [hFL] at hT'
  simp only [List.length_append, List.length_cons, List.length_nil] at hT'
  have hBC := fun (w9 : World) (v : Value) (k9 : Kids w9 d (ks ++ [b]) v) => rbody_calls h ks b i hb32 hc hcb hS (by omega) hi hN d w9 v k9
  rw [hop]
  obtain ⟨w0, hw0⟩ : ∃ w0, w.alloc (.cells #[.int .i64 10, .string t.s, .int .i64 t.n, .slice A t.l.length c, .int .i64 t.line] 24) = w0 := ⟨_, rfl⟩
  have bx : Blk5 w0 w.heap.size 10 t.s t.n (.slice A t.l.length c) t.line := by rw [← hw0]; exact blk5_new _ _ _ _ _ _
  have hb0 : Below w.heap.size w w0 := by rw [← hw0]; exact (Below.refl _ _).alloc (Nat.le_refl _) _
  have HB := Lib.hid hb0
  have HX := Lib.hid bx
  have HR : Hid (Below w0.heap.size w0 w0) := Lib.hid (Below.refl _ _)
  have HBC := Lib.hid (fun (w9 : World) (hb9 : Below w0.heap.size w0 w9) => (hBC w9 (.slice A t.l.length c) (by rw [← hta]; exact hk.below (HB.out.trans (hb9.mono HB.out.size)))).mono fun e w' (hq : _ ∧ _) => (⟨hq.1, hb9.trans (hq.2.mono hb9.size)⟩ : e = _ ∧ Below w0.heap.size w0 w'))
  have hzf := bs_size (funL ((ks ++ [b]).map fun u => T (h + 1) u i.data.toList))
  have HFL := Lib.hid hFL
  clear hb0 bx hk hT hop hta hFL hc hcb hS hBC
  generalize funL ((ks ++ [b]).map fun u => T (h + 1) u i.data.toList) = Xf at HFL hT' HBC hzf
  obtain ⟨Bf, hBf⟩ : ∃ b : ByteArray, (⟨Xf.toArray⟩ : ByteArray) = b := ⟨_, rfl⟩
  have HE : Hid ([40, 102, 117, 110, 99, 116, 105, 111, 110] ++ Bf.data.toList ++ [41] = T (h + 1 + 1) t i.data.toList) := Lib.hid (by rw [HFL.out, ← hBf])
  rw [hBf] at HBC hzf
  have z0 : ¬ 9223372036854775807 < 9 + Bf.size := by omega
  have z1 : ¬ 9223372036854775807 < 9 + Bf.size + 1 := by omega
  clear HFL hT' hBf hzf
  obtain ⟨c0, c1, c2, c3, c4⟩ := HX.out
  go_enter Tryd.func52, Tryd.ntmps52
  go_wp2_with fail
  refine (HBC.out w0 HR.out).mono ?_
  rintro e w1 ⟨rfl, hb1⟩
  have HB1 := Lib.hid hb1
  clear hb1
  go_wp2
  go_ret
  exact ⟨congrArg Ending.returned (str_eq (by rw [← HE.out] <;> simp)), HB.out.trans (HB1.out.mono HB.out.size)⟩

set_option maxRecDepth 100000 in
set_option maxHeartbeats 4000000 in
theorem rtext_10 (h : Nat) (t : Tree) (i : ByteArray) (hop : t.op = 10) (hs : t.s.toList.isEmpty = false) (ks : List Tree) (b : Tree) (hta : t.l = ks ++ [b]) (hb32 : b.op = 32) (hc : ∀ u, u ∈ ks → ExprD (h + 1) u i) (hcb : ∀ u, u ∈ b.l → StmtD h u (i ++ ⟨#[32, 32]⟩)) (hS : sumL 2 (ks.map fun u => T (h + 1) u i.data.toList) ≤ 140737488355328) (hi : i.size ≤ 1000000) (hN : ks.length ≤ 1000) (hT : (T (h + 1 + 1) t i.data.toList).length ≤ 140737488355328) : ExprD (h + 1 + 1) t i := by
  intro d w sl hk
  obtain ⟨hlen, A, c, rfl⟩ := hk.form
  unfold maxLen at hlen
  have hs0 : ¬ t.s.data.toList = [] := by rw [ByteArray.toList_eq] at hs; simpa using hs
  have hFL : T (h + 1 + 1) t i.data.toList = [40, 102, 117, 110, 99, 116, 105, 111, 110, 32] ++ t.s.data.toList ++ funL ((ks ++ [b]).map fun u => T (h + 1) u i.data.toList) ++ [41] := by
    rw [T, stepT]
    simp [hop, hta, hs0]
  have hT' := hT
  rw [hFL] at hT'
  simp only [List.length_append, List.length_cons, List.length_nil] at hT'
  rw [size_list t.s] at hT'
  have hBC := fun (w9 : World) (v : Value) (k9 : Kids w9 d (ks ++ [b]) v) => rbody_calls h ks b i hb32 hc hcb hS (by omega) hi hN d w9 v k9
  rw [hop]
  obtain ⟨w0, hw0⟩ : ∃ w0, w.alloc (.cells #[.int .i64 10, .string t.s, .int .i64 t.n, .slice A t.l.length c, .int .i64 t.line] 24) = w0 := ⟨_, rfl⟩
  have bx : Blk5 w0 w.heap.size 10 t.s t.n (.slice A t.l.length c) t.line := by rw [← hw0]; exact blk5_new _ _ _ _ _ _
  have hb0 : Below w.heap.size w w0 := by rw [← hw0]; exact (Below.refl _ _).alloc (Nat.le_refl _) _
  have HB := Lib.hid hb0
  have HX := Lib.hid bx
  have HR : Hid (Below w0.heap.size w0 w0) := Lib.hid (Below.refl _ _)
  have HBC := Lib.hid (fun (w9 : World) (hb9 : Below w0.heap.size w0 w9) => (hBC w9 (.slice A t.l.length c) (by rw [← hta]; exact hk.below (HB.out.trans (hb9.mono HB.out.size)))).mono fun e w' (hq : _ ∧ _) => (⟨hq.1, hb9.trans (hq.2.mono hb9.size)⟩ : e = _ ∧ Below w0.heap.size w0 w'))
  have hzf := bs_size (funL ((ks ++ [b]).map fun u => T (h + 1) u i.data.toList))
  have HFL := Lib.hid hFL
  clear hb0 bx hk hT hop hta hFL hc hcb hS hBC
  generalize funL ((ks ++ [b]).map fun u => T (h + 1) u i.data.toList) = Xf at HFL hT' HBC hzf
  obtain ⟨Bf, hBf⟩ : ∃ b : ByteArray, (⟨Xf.toArray⟩ : ByteArray) = b := ⟨_, rfl⟩
  have HE : Hid ([40, 102, 117, 110, 99, 116, 105, 111, 110, 32] ++ t.s.data.toList ++ Bf.data.toList ++ [41] = T (h + 1 + 1) t i.data.toList) := Lib.hid (by rw [HFL.out, ← hBf])
  rw [hBf] at HBC hzf
  have z0 : ¬ 9223372036854775807 < 10 + t.s.size := by omega
  have z1 : ¬ 9223372036854775807 < 10 + t.s.size + Bf.size := by omega
  have z2 : ¬ 9223372036854775807 < 10 + t.s.size + Bf.size + 1 := by omega
  clear HFL hT' hBf hzf
  have SC : Hid (∀ (w9 : World), Below w0.heap.size w0 w9 → (w9.cell? ⟨w.heap.size, 1, none⟩ = some (.string t.s) ∧ w9.cell? ⟨w.heap.size, 3, none⟩ = some (.slice A t.l.length c))) := Lib.hid fun w9 hb9 => ⟨(HX.out.keep hb9).c1, (HX.out.keep hb9).c3⟩
  have hd0 : Below w0.heap.size w0 w0.drew := HR.out.drew
  obtain ⟨c0, c1, c2, c3, c4⟩ := HX.out
  go_enter Tryd.func52, Tryd.ntmps52
  go_wp2
  go_region_held3 (fun w9 => (w9.cell? ⟨w.heap.size, 1, none⟩ = some (.string t.s) ∧ w9.cell? ⟨w.heap.size, 3, none⟩ = some (.slice A t.l.length c))) (first
    | exact SC.out _ (by assumption)
    | go_keep) (first
    | (go_at_call 85; refine (HBC.out _ (by assumption)).mono ?_; rintro e wz ⟨rfl, hbz⟩))
  all_goals
    go_wp2
    go_ret
    exact ⟨congrArg Ending.returned (str_eq (by rw [← HE.out] <;> simp)), HB.out.trans (Below.mono (by assumption) HB.out.size)⟩

set_option maxRecDepth 100000 in
set_option maxHeartbeats 4000000 in
theorem rline_41 (h : Nat) (t : Tree) (i : ByteArray) (hop : t.op = 41) (ks : List Tree) (b : Tree) (hta : t.l = ks ++ [b]) (hb32 : b.op = 32) (hc : ∀ u, u ∈ ks → ExprD (h + 1) u i) (hcb : ∀ u, u ∈ b.l → StmtD h u (i ++ ⟨#[32, 32]⟩)) (hS : sumL 2 (ks.map fun u => T (h + 1) u i.data.toList) ≤ 140737488355328) (hi : i.size ≤ 1000000) (hN : ks.length ≤ 1000) (hT : (T (h + 1 + 1) t i.data.toList).length ≤ 140737488355328) : StmtD (h + 1 + 1) t i := by
  intro d w sl hk
  obtain ⟨hlen, A, c, rfl⟩ := hk.form
  unfold maxLen at hlen
  have hFL : T (h + 1 + 1) t i.data.toList = [102, 117, 110, 99, 116, 105, 111, 110, 32] ++ t.s.data.toList ++ funL ((ks ++ [b]).map fun u => T (h + 1) u i.data.toList) := by
    rw [T, stepT]
    simp [hop, hta]
  have hT' := hT
  rw [hFL] at hT'
  simp only [List.length_append, List.length_cons, List.length_nil] at hT'
  rw [size_list t.s] at hT'
  have hBC := fun (w9 : World) (v : Value) (k9 : Kids w9 d (ks ++ [b]) v) => rbody_calls h ks b i hb32 hc hcb hS (by omega) hi hN d w9 v k9
  have hll : 0 < t.l.length := by rw [hta]; simp
  have hli : (0 : Int) < (t.l.length : Int) := by omega
  rw [hop]
  obtain ⟨w0, hw0⟩ : ∃ w0, w.alloc (.cells #[.int .i64 41, .string t.s, .int .i64 t.n, .slice A t.l.length c, .int .i64 t.line] 24) = w0 := ⟨_, rfl⟩
  have bx : Blk5 w0 w.heap.size 41 t.s t.n (.slice A t.l.length c) t.line := by rw [← hw0]; exact blk5_new _ _ _ _ _ _
  have hb0 : Below w.heap.size w w0 := by rw [← hw0]; exact (Below.refl _ _).alloc (Nat.le_refl _) _
  have HB := Lib.hid hb0
  have HX := Lib.hid bx
  have HR : Hid (Below w0.heap.size w0 w0) := Lib.hid (Below.refl _ _)
  have HBC := Lib.hid (fun (w9 : World) (hb9 : Below w0.heap.size w0 w9) => (hBC w9 (.slice A t.l.length c) (by rw [← hta]; exact hk.below (HB.out.trans (hb9.mono HB.out.size)))).mono fun e w' (hq : _ ∧ _) => (⟨hq.1, hb9.trans (hq.2.mono hb9.size)⟩ : e = _ ∧ Below w0.heap.size w0 w'))
  have hzf := bs_size (funL ((ks ++ [b]).map fun u => T (h + 1) u i.data.toList))
  have HFL := Lib.hid hFL
  clear hb0 bx hk hT hop hta hFL hc hcb hS hBC
  generalize funL ((ks ++ [b]).map fun u => T (h + 1) u i.data.toList) = Xf at HFL hT' HBC hzf
  obtain ⟨Bf, hBf⟩ : ∃ b : ByteArray, (⟨Xf.toArray⟩ : ByteArray) = b := ⟨_, rfl⟩
  have HE : Hid ([102, 117, 110, 99, 116, 105, 111, 110, 32] ++ t.s.data.toList ++ Bf.data.toList = T (h + 1 + 1) t i.data.toList) := Lib.hid (by rw [HFL.out, ← hBf])
  rw [hBf] at HBC hzf
  have z0 : ¬ 9223372036854775807 < 9 + t.s.size := by omega
  have z1 : ¬ 9223372036854775807 < 9 + t.s.size + Bf.size := by omega
  clear HFL hT' hBf hzf
  have SC : Hid (∀ (w9 : World), Below w0.heap.size w0 w9 → (w9.cell? ⟨w.heap.size, 1, none⟩ = some (.string t.s) ∧ w9.cell? ⟨w.heap.size, 3, none⟩ = some (.slice A t.l.length c))) := Lib.hid fun w9 hb9 => ⟨(HX.out.keep hb9).c1, (HX.out.keep hb9).c3⟩
  have hd0 : Below w0.heap.size w0 w0.drew := HR.out.drew
  obtain ⟨c0, c1, c2, c3, c4⟩ := HX.out
  go_enter Tryd.func77, Tryd.ntmps77
  go_wp2
  go_region_held3 (fun w9 => (w9.cell? ⟨w.heap.size, 1, none⟩ = some (.string t.s) ∧ w9.cell? ⟨w.heap.size, 3, none⟩ = some (.slice A t.l.length c))) (first
    | exact SC.out _ (by assumption)
    | go_keep) (first
    | (go_at_call 85; refine (HBC.out _ (by assumption)).mono ?_; rintro e wz ⟨rfl, hbz⟩))
  all_goals
    go_wp2
    go_ret
    exact ⟨congrArg Ending.returned (str_eq (by rw [← HE.out] <;> simp)), HB.out.trans (Below.mono (by assumption) HB.out.size)⟩

set_option maxRecDepth 100000 in
set_option maxHeartbeats 4000000 in
theorem rline_32 (h : Nat) (t : Tree) (i : ByteArray) (hop : t.op = 32) (hcb : BlockD (h + 1) t i) : StmtD (h + 1) t i := by
  intro d w sl hk
  obtain ⟨hlen, A, c, rfl⟩ := hk.form
  unfold maxLen at hlen
  have hcb' := hcb
  unfold BlockD at hcb'
  rw [hop] at hcb'
  rw [hop]
  obtain ⟨w0, hw0⟩ : ∃ w0, w.alloc (.cells #[.int .i64 32, .string t.s, .int .i64 t.n, .slice A t.l.length c, .int .i64 t.line] 24) = w0 := ⟨_, rfl⟩
  have bx : Blk5 w0 w.heap.size 32 t.s t.n (.slice A t.l.length c) t.line := by rw [← hw0]; exact blk5_new _ _ _ _ _ _
  have hb0 : Below w.heap.size w w0 := by rw [← hw0]; exact (Below.refl _ _).alloc (Nat.le_refl _) _
  have HB := Lib.hid hb0
  have HX := Lib.hid bx
  have HR : Hid (Below w0.heap.size w0 w0) := Lib.hid (Below.refl _ _)
  have HC := Lib.hid (hcb' d w0 _ (hk.below hb0))
  clear hb0 hk hop bx hcb hcb'
  by_cases hl0 : (0 : Int) < (t.l.length : Int)
  · obtain ⟨c0, c1, c2, c3, c4⟩ := HX.out
    go_enter Tryd.func77, Tryd.ntmps77
    go_wp2_with fail
    refine HC.out.mono ?_
    rintro e w1 ⟨rfl, hb1⟩
    have HB1 := Lib.hid hb1
    clear hb1
    go_wp2
    go_ret
    exact ⟨rfl, HB.out.trans (HB1.out.mono HB.out.size)⟩
  · obtain ⟨c0, c1, c2, c3, c4⟩ := HX.out
    go_enter Tryd.func77, Tryd.ntmps77
    go_wp2_with fail
    refine HC.out.mono ?_
    rintro e w1 ⟨rfl, hb1⟩
    have HB1 := Lib.hid hb1
    clear hb1
    go_wp2
    go_ret
    exact ⟨rfl, HB.out.trans (HB1.out.mono HB.out.size)⟩

end Go.Proofs.YtcidccifnaecaaaDoor

namespace Go.Proofs.YtcidccifnaecaaaDoor
open Go.RowKit Go.Sort

set_option maxRecDepth 100000 in
set_option maxHeartbeats 4000000 in
theorem rtext_11 (h : Nat) (t : Tree) (i : ByteArray) (hop : t.op = 11) (hc : ∀ u, u ∈ t.l → u.op = 12 ∧ u.s.size ≤ 140737488355328 ∧ ∃ x, u.l = [x] ∧ ExprD h x i) (hS : sumL 2 (t.l.map fun u => T (h + 1) u i.data.toList) ≤ 140737488355328) : ExprD (h + 1 + 1) t i := by
  intro d w sl hk
  obtain ⟨hlen, A, c, rfl⟩ := hk.form
  unfold maxLen at hlen
  have hFL : T (h + 1 + 1) t i.data.toList = [40, 123] ++ Lib.join (t.l.map fun u => T (h + 1) u i.data.toList) [44, 32] ++ [125, 41] := by
    rw [T, stepT]
    simp [hop]
  have HFL := Lib.hid hFL
  have HC := Lib.hid hc
  have HT := Lib.hid hS
  rw [hop]
  obtain ⟨w0, hw0⟩ : ∃ w0, w.alloc (.cells #[.int .i64 11, .string t.s, .int .i64 t.n, .slice A t.l.length c, .int .i64 t.line] 24) = w0 := ⟨_, rfl⟩
  have bx : Blk5 w0 w.heap.size 11 t.s t.n (.slice A t.l.length c) t.line := by rw [← hw0]; exact blk5_new _ _ _ _ _ _
  have hb0 : Below w.heap.size w w0 := by rw [← hw0]; exact (Below.refl _ _).alloc (Nat.le_refl _) _
  have HB := Lib.hid hb0
  have HX := Lib.hid bx
  have HK := Lib.hid (hk.below hb0)
  obtain ⟨c0, c1, c2, c3, c4⟩ := bx
  clear hb0 hk hop hc hS hFL
  go_enter Tryd.func52, Tryd.ntmps52
  go_wp2
  clear c0 c1 c2 c3 c4
  go_loopw [5, 6] (fun s n wr => ∃ k : Nat, k ≤ t.l.length ∧ n = .int .i64 k ∧ s = .string ⟨([40, 123] ++ Lib.join ((t.l.map fun u => T (h + 1) u i.data.toList).take k) [44, 32]).toArray⟩ ∧ Below w0.heap.size w0 wr) (fun _ n _ => t.l.length - (intOf n).toNat)
  case atStart => exact ⟨0, by omega, rfl, by simp [Lib.join, List.intercalate], Below.refl _ _⟩
  case round =>
    obtain ⟨k, hkl, rfl, rfl, hb⟩ := hrel
    have HBW := Lib.hid hb
    clear hb
    by_cases hlt : k < t.l.length
    · have hu : t.l[k]? = some t.l[k] := List.getElem?_eq_getElem hlt
      generalize t.l[k] = u at hu
      obtain ⟨p, su, d1, hd1, rfl, hpu, hku, _⟩ := HK.out.at_ hu
      obtain ⟨_, A3, cu3, rfl⟩ := hku.form
      obtain ⟨hu12, hus, x, hux, hcx⟩ := HC.out u (List.mem_of_getElem? hu)
      obtain ⟨px, sx, d2, _, rfl, hpx, hkx, _⟩ := hku.at_ (show u.l[0]? = some x by rw [hux]; rfl)
      rw [show px.add (0 * 5) = px from rfl] at hpx
      obtain ⟨_, A4, cx4, rfl⟩ := hkx.form
      have hul : u.l.length = 1 := by rw [hux]; rfl
      rw [hul] at hpu hku
      have hTU : T (h + 1) u i.data.toList = quoteL u.s.data.toList ++ [58, 32] ++ T h x i.data.toList := by
        rw [T, stepT]
        simp [hu12, hux]
      have hnx : (t.l.map fun u => T (h + 1) u i.data.toList).take (k + 1) = (t.l.map fun u => T (h + 1) u i.data.toList).take k ++ [T (h + 1) u i.data.toList] := by
        rw [List.take_add_one, List.getElem?_map, hu]; rfl
      have hj := join_snoc (T (h + 1) u i.data.toList) ((t.l.map fun u => T (h + 1) u i.data.toList).take k)
      rw [← hnx] at hj
      have hs1 := sumL_take 2 (t.l.map fun u => T (h + 1) u i.data.toList) (k + 1)
      rw [hnx, sumL_app, sumL_cons] at hs1
      have hs2 := join_len ((t.l.map fun u => T (h + 1) u i.data.toList).take k)
      have hs3 := HT.out
      have h0 : ((t.l.map fun u => T (h + 1) u i.data.toList).take k = []) ↔ k = 0 := by
        constructor
        · intro e
          have := congrArg List.length e
          rw [List.length_take, List.length_map] at this
          simp only [List.length_nil] at this
          omega
        · intro e
          subst e
          rfl
      simp only [h0] at hj
      have hjo : k = 0 → Lib.join ((t.l.map fun u => T (h + 1) u i.data.toList).take k) [44, 32] = [] := by
        rintro rfl
        simp [Lib.join, List.intercalate]
      have hsz : (Lib.join ((t.l.map fun u => T (h + 1) u i.data.toList).take k) [44, 32]).length + (T (h + 1) u i.data.toList).length + 2 ≤ 140737488355328 := by omega
      rw [hTU] at hsz hj
      simp only [List.length_append, List.length_cons, List.length_nil] at hsz
      have HJ := Lib.hid hj
      have HJO := Lib.hid hjo
      have HQ := Lib.hid (fun (w9 : World) (hb9 : Below w0.heap.size w0 w9) => (rquoteU_calls w9 u.s hus).mono fun e w' (hq : _ ∧ _) => (⟨hq.1, hb9.trans (hq.2.mono hb9.size)⟩ : e = _ ∧ Below w0.heap.size w0 w'))
      have HXX := Lib.hid (fun (w9 : World) (hb9 : Below w0.heap.size w0 w9) => (hcx d2 w9 _ (hkx.below hb9)).mono fun e w' (hq : _ ∧ _) => (⟨hq.1, hb9.trans (hq.2.mono hb9.size)⟩ : e = _ ∧ Below w0.heap.size w0 w'))
      have HPU := Lib.hid hpu
      have HPX := Lib.hid hpx
      have SC : Hid (∀ (w9 : World), Below w0.heap.size w0 w9 → (w9.cell? ⟨w.heap.size, 3, none⟩ = some (.slice (some p) t.l.length c) ∧ w9.cell? ⟨(p.add (k * 5)).block, (p.add (k * 5)).off + 1, none⟩ = some (.string u.s) ∧ w9.cell? ⟨(p.add (k * 5)).block, (p.add (k * 5)).off + 3, none⟩ = some (.slice (some px) 1 cu3) ∧ w9.cell? px = some (.int .i64 x.op) ∧ w9.cell? ⟨px.block, px.off + 1, none⟩ = some (.string x.s) ∧ w9.cell? ⟨px.block, px.off + 2, none⟩ = some (.int .i64 x.n) ∧ w9.cell? ⟨px.block, px.off + 3, none⟩ = some (.slice A4 x.l.length cx4) ∧ w9.cell? ⟨px.block, px.off + 4, none⟩ = some (.int .i64 x.line))) := Lib.hid fun w9 hb9 =>
        ⟨(HX.out.keep hb9).c3, (HPU.out.below hb9).c1, (HPU.out.below hb9).c3, (HPX.out.below hb9).c0, (HPX.out.below hb9).c1, (HPX.out.below hb9).c2, (HPX.out.below hb9).c3, (HPX.out.below hb9).c4⟩
      obtain ⟨Z, hZ⟩ : ∃ Z, Lib.join ((t.l.map fun u => T (h + 1) u i.data.toList).take (k + 1)) [44, 32] = Z := ⟨_, rfl⟩
      have HZ := Lib.hid hZ
      rw [hZ] at HJ
      clear hu hpu hku hpx hkx hcx hTU hus hu12 hux hul hnx hj hs1 hs2 hs3 h0 hjo hZ
      generalize Lib.join ((t.l.map fun u => T (h + 1) u i.data.toList).take k) [44, 32] = Y at HJ HJO hsz ⊢
      generalize T h x i.data.toList = X at HJ HXX hsz
      generalize quoteL u.s.data.toList = Q at HJ HQ hsz
      have hX1 := bs_size X
      have hQ1 := bs_size Q
      have hY1 := bs_size ([40, 123] ++ Y)
      simp only [List.length_append, List.length_cons, List.length_nil] at hY1
      obtain ⟨Bx, hBx⟩ : ∃ b : ByteArray, (⟨X.toArray⟩ : ByteArray) = b := ⟨_, rfl⟩
      obtain ⟨Bq, hBq⟩ : ∃ b : ByteArray, (⟨Q.toArray⟩ : ByteArray) = b := ⟨_, rfl⟩
      obtain ⟨By, hBy⟩ : ∃ b : ByteArray, (⟨([40, 123] ++ Y).toArray⟩ : ByteArray) = b := ⟨_, rfl⟩
      have hXL : Bx.data.toList = X := by rw [← hBx]
      have hQL : Bq.data.toList = Q := by rw [← hBq]
      have hYL : By.data.toList = [40, 123] ++ Y := by rw [← hBy]
      rw [hBx] at HXX hX1
      rw [hBq] at HQ hQ1
      rw [hBy] at hY1 ⊢
      have y1 : ¬ 9223372036854775807 < By.size + 2 := by omega
      have y2 : ¬ 9223372036854775807 < By.size + Bq.size := by omega
      have y3 : ¬ 9223372036854775807 < By.size + Bq.size + 2 := by omega
      have y4 : ¬ 9223372036854775807 < By.size + Bq.size + 2 + Bx.size := by omega
      have y5 : ¬ 9223372036854775807 < By.size + 2 + Bq.size := by omega
      have y6 : ¬ 9223372036854775807 < By.size + 2 + Bq.size + 2 := by omega
      have y7 : ¬ 9223372036854775807 < By.size + 2 + Bq.size + 2 + Bx.size := by omega
      have hlti : (k : Int) < (t.l.length : Int) := by omega
      have hk00 : (0 : Int) ≤ (k : Int) := by omega
      have hd0 : Below w0.heap.size w0 wr.drew := HBW.out.drew
      by_cases hk0 : k = 0
      · have g0 : ¬ (0 : Int) < (k : Int) := by omega
        have HE : Hid (By.data.toList ++ Bq.data.toList ++ [58, 32] ++ Bx.data.toList = [40, 123] ++ Z) := Lib.hid (by rw [HJ.out, if_pos hk0, hXL, hYL, hQL, HJO.out hk0]; simp)
        clear hk0 hXL hYL hQL hBx hBq hBy hX1 hQ1 hY1 hsz
        obtain ⟨c0, c1, c2, c3, c4⟩ := HX.out.keep HBW.out
        go_wp2
        go_region_held3 (fun w9 => (w9.cell? ⟨w.heap.size, 3, none⟩ = some (.slice (some p) t.l.length c) ∧ w9.cell? ⟨(p.add (k * 5)).block, (p.add (k * 5)).off + 1, none⟩ = some (.string u.s) ∧ w9.cell? ⟨(p.add (k * 5)).block, (p.add (k * 5)).off + 3, none⟩ = some (.slice (some px) 1 cu3) ∧ w9.cell? px = some (.int .i64 x.op) ∧ w9.cell? ⟨px.block, px.off + 1, none⟩ = some (.string x.s) ∧ w9.cell? ⟨px.block, px.off + 2, none⟩ = some (.int .i64 x.n) ∧ w9.cell? ⟨px.block, px.off + 3, none⟩ = some (.slice A4 x.l.length cx4) ∧ w9.cell? ⟨px.block, px.off + 4, none⟩ = some (.int .i64 x.line))) (first
          | exact SC.out _ (by assumption)
          | go_keep) (first
          | (go_at_call 42; refine (HQ.out _ (by assumption)).mono ?_; rintro e wz ⟨rfl, hbz⟩)
          | (go_at_call 52; refine (HXX.out _ (by assumption)).mono ?_; rintro e wz ⟨rfl, hbz⟩))
        all_goals
          go_wp2
          go_roundw
          case rel => exact ⟨k + 1, by omega, by go_num, str_eq (by rw [HZ.out, ← HE.out]; simp), by assumption⟩
          case measure => simp [intOf]; omega
      · have g0 : (0 : Int) < (k : Int) := by omega
        have HE : Hid (By.data.toList ++ [44, 32] ++ Bq.data.toList ++ [58, 32] ++ Bx.data.toList = [40, 123] ++ Z) := Lib.hid (by rw [HJ.out, if_neg hk0, hXL, hYL, hQL]; simp)
        clear hk0 hXL hYL hQL hBx hBq hBy hX1 hQ1 hY1 hsz
        obtain ⟨c0, c1, c2, c3, c4⟩ := HX.out.keep HBW.out
        go_wp2
        go_region_held3 (fun w9 => (w9.cell? ⟨w.heap.size, 3, none⟩ = some (.slice (some p) t.l.length c) ∧ w9.cell? ⟨(p.add (k * 5)).block, (p.add (k * 5)).off + 1, none⟩ = some (.string u.s) ∧ w9.cell? ⟨(p.add (k * 5)).block, (p.add (k * 5)).off + 3, none⟩ = some (.slice (some px) 1 cu3) ∧ w9.cell? px = some (.int .i64 x.op) ∧ w9.cell? ⟨px.block, px.off + 1, none⟩ = some (.string x.s) ∧ w9.cell? ⟨px.block, px.off + 2, none⟩ = some (.int .i64 x.n) ∧ w9.cell? ⟨px.block, px.off + 3, none⟩ = some (.slice A4 x.l.length cx4) ∧ w9.cell? ⟨px.block, px.off + 4, none⟩ = some (.int .i64 x.line))) (first
          | exact SC.out _ (by assumption)
          | go_keep) (first
          | (go_at_call 42; refine (HQ.out _ (by assumption)).mono ?_; rintro e wz ⟨rfl, hbz⟩)
          | (go_at_call 52; refine (HXX.out _ (by assumption)).mono ?_; rintro e wz ⟨rfl, hbz⟩))
        all_goals
          go_wp2
          go_roundw
          case rel => exact ⟨k + 1, by omega, by go_num, str_eq (by rw [HZ.out, ← HE.out]; simp), by assumption⟩
          case measure => simp [intOf]; omega
    · obtain rfl : k = t.l.length := by omega
      have hdd : decide ((t.l.length : Int) < (t.l.length : Int)) = false := by simp
      rw [List.take_of_length_le (by rw [List.length_map]; exact Nat.le_refl _)]
      have hs2 := join_len (t.l.map fun u => T (h + 1) u i.data.toList)
      have hs3 := HT.out
      have hY1 := bs_size ([40, 123] ++ Lib.join (t.l.map fun u => T (h + 1) u i.data.toList) [44, 32])
      rw [List.length_append] at hY1
      simp only [List.length_cons, List.length_nil] at hY1
      generalize Lib.join (t.l.map fun u => T (h + 1) u i.data.toList) [44, 32] = Y at HFL hY1 hs2 ⊢
      obtain ⟨By, hBy⟩ : ∃ b : ByteArray, (⟨([40, 123] ++ Y).toArray⟩ : ByteArray) = b := ⟨_, rfl⟩
      have HE : Hid (By.data.toList ++ [125, 41] = T (h + 1 + 1) t i.data.toList) := Lib.hid (by rw [HFL.out, ← hBy])
      rw [hBy] at hY1 ⊢
      have y1 : ¬ 9223372036854775807 < By.size + 2 := by omega
      clear hs2 hs3 hY1 hBy HFL
      obtain ⟨c0, c1, c2, c3, c4⟩ := HX.out.keep HBW.out
      go_wp2
      go_ret
      exact ⟨congrArg Ending.returned (str_eq (by rw [← HE.out] <;> simp)), HB.out.trans (HBW.out.mono HB.out.size)⟩

set_option maxRecDepth 100000 in
set_option maxHeartbeats 4000000 in
theorem rtext_11_none (t : Tree) (i : ByteArray) (hop : t.op = 11) (hta : t.l = []) : ExprD 1 t i := by
  intro d w sl hk
  have HFL : Hid (T 1 t i.data.toList = T 2 t i.data.toList) := Lib.hid (by simp [T, stepT, hop, hta])
  have h2 := rtext_11 0 t i hop (fun u hu => by rw [hta] at hu; simp at hu) (by rw [hta]; simp [sumL])
  have h3 := h2 d w sl hk
  rw [show (0 + 1 + 1) = 2 from rfl, ← HFL.out] at h3
  exact h3

end Go.Proofs.YtcidccifnaecaaaDoor

