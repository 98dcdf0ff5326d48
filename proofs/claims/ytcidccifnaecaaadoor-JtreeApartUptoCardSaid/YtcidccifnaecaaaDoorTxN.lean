/- The text of new: walked. -/
import Derived.Test.YtcidccifnaecaaaDoorTxV
namespace Go.Proofs.YtcidccifnaecaaaDoor
open Go.RowKit Go.Sort

set_option maxRecDepth 100000 in
set_option maxHeartbeats 4000000 in
theorem text_16_id (h : Nat) (t a : Tree) (r : List Tree) (i : ByteArray) (hop : t.op = 16) (hao : a.op = 1) (hta : t.l = a :: r) (hca : ExprT h a i) (hcr : ∀ u, u ∈ r → ExprT h u i) (hN : r.length ≤ 1000) (hT : (T (h + 1) t i.data.toList).length ≤ 140737488355328) : ExprT (h + 1) t i := by
  intro d w sl hl hk
  obtain ⟨hlen, A, c, rfl⟩ := hk.form
  unfold maxLen at hlen
  have hFE : T (h + 1) t i.data.toList = [40, 110, 101, 119, 32] ++ T h a i.data.toList ++ [40] ++ Lib.join (r.map fun u => T h u i.data.toList) [44, 32] ++ [41, 41] := by
    rw [T, stepT]
    simp [hop, hta, hao]
  have hTF : (Lib.join (r.map fun u => T h u i.data.toList) [44, 32]).length ≤ 140737488355328 := by
    rw [hFE] at hT
    simp only [List.length_append] at hT
    omega
  have hLC := fun (w9 : World) (v : Value) (h9 : Laid w9) (k9 : Kids w9 d r v) => list_calls h r i hcr hTF (by omega) d w9 v h9 k9
  obtain ⟨p, sa, da, _, rfl, hpa, hka, _⟩ := hk.at_ (show t.l[0]? = some a by rw [hta]; rfl)
  rw [show p.add (0 * 5) = p from rfl] at hpa
  have hcap : t.l.length ≤ c := hk.cap (by rw [hta]; simp)
  have hkd := hk.drop 1 (c - 1) (by rw [hta]; simp) (by omega)
  rw [show t.l.drop 1 = r by rw [hta]; rfl] at hkd
  generalize Lib.join (r.map fun u => T h u i.data.toList) [44, 32] = Xr at hFE hLC
  obtain ⟨F, hF⟩ : ∃ F, T h a i.data.toList = F := ⟨_, rfl⟩
  rw [hF] at hFE
  have HJTE : (([⟨#[40, 110, 101, 119, 32]⟩, ⟨F.toArray⟩, ⟨#[40]⟩, ⟨Xr.toArray⟩, ⟨#[41, 41]⟩] : List ByteArray).map (·.data.toList)).flatten = T (h + 1) t i.data.toList := by rw [hFE]; simp
  have HJTL := hT
  have HFA := Lib.hid hF
  rw [hop]
  have hopw : ∀ v : Value, Value.int .i64 t.op = v → v = .int .i64 16 := fun v e => by rw [← e, hop]
  clear hopw
  obtain ⟨w0, hw0⟩ : ∃ w0, w.alloc (.cells #[.int .i64 16, .string t.s, .int .i64 t.n, (.slice (some p) t.l.length c), .int .i64 t.line] 24) = w0 := ⟨_, rfl⟩
  obtain ⟨w1, hw1⟩ : ∃ w1, w0.alloc (.cells #[.string i] 9) = w1 := ⟨_, rfl⟩
  have bx0 : Blk5 w0 w.heap.size 16 t.s t.n (.slice (some p) t.l.length c) t.line := by rw [← hw0]; exact blk5_new _ _ _ _ _ _
  have hb0 : Below w.heap.size w w0 := by rw [← hw0]; exact (Below.refl _ _).alloc (Nat.le_refl _) _
  have hb1 : Below w0.heap.size w0 w1 := by rw [← hw1]; exact (Below.refl _ _).alloc (Nat.le_refl _) _
  have hm : w1.cell? ⟨w0.heap.size, 0, none⟩ = some (.string i) := by rw [← hw1]; exact cell_of_row _ _ 0 #[.string i] 9 (0, 0) (heap_alloc_new _ _)
  have bx := bx0.keep hb1
  have HB := Lib.hid (hb0.trans (hb1.mono hb0.size))
  have hhd : Held w1 w.heap.size w0.heap.size t (some p) c i := ⟨by rw [hop]; exact bx, hm⟩
  have HH := Lib.hid hhd
  have HL := Lib.hid (hl.below HB.out)
  have HK := Lib.hid (hk.below HB.out)
  have HJT : Hid (∀ (w9 : World), Below w1.heap.size w1 w9 → Calls Tryd.prog 75 #[.slice (some ⟨w9.heap.size, 0, none⟩) 5 5] (w9.alloc (.cells #[.string ⟨#[40, 110, 101, 119, 32]⟩, .string ⟨F.toArray⟩, .string ⟨#[40]⟩, .string ⟨Xr.toArray⟩, .string ⟨#[41, 41]⟩] 9)) fun e w' => e = .returned (.string ⟨(T (h + 1) t i.data.toList).toArray⟩) ∧ Below w1.heap.size w1 w') := Lib.hid fun w9 hb9 => by
    have hj := join_at w9 [⟨#[40, 110, 101, 119, 32]⟩, ⟨F.toArray⟩, ⟨#[40]⟩, ⟨Xr.toArray⟩, ⟨#[41, 41]⟩] (by simp) (by rw [HJTE]; exact HJTL)
    rw [HJTE] at hj
    exact hj.mono fun e w' (hq : _ ∧ _) => (⟨hq.1, hb9.trans (hq.2.mono hb9.size)⟩ : e = _ ∧ Below w1.heap.size w1 w')
  have HLI := Lib.hid (fun (w9 : World) (hb9 : Below w1.heap.size w1 w9) => (hLC w9 _ (HL.out.below hb9) ((hkd.below HB.out).below hb9)).mono fun e w' (hq : _ ∧ _) => (⟨hq.1, hb9.trans (hq.2.mono hb9.size)⟩ : e = _ ∧ Below w1.heap.size w1 w'))
  have HLN : Hid (r = [] → ∀ (w9 : World), Below w1.heap.size w1 w9 → Calls Tryd.prog 83 #[.slice (some p) 0 0, .string i] w9 fun e w' => e = .returned (.string ⟨Xr.toArray⟩) ∧ Below w1.heap.size w1 w') := Lib.hid (fun hr0 w9 hb9 => (hLC w9 _ (HL.out.below hb9) (by rw [hr0]; exact kids_void w9 d (some p) 0)).mono fun e w' (hq : _ ∧ _) => (⟨hq.1, hb9.trans (hq.2.mono hb9.size)⟩ : e = _ ∧ Below w1.heap.size w1 w'))
  have HAa := Lib.hid (fun (w9 : World) (hb9 : Below w1.heap.size w1 w9) => (at_calls w9 w.heap.size w0.heap.size t (some p) c i (HH.out.below hb9) (HL.out.below hb9) d (HK.out.below hb9) 0 a (by rw [hta]; rfl) h hca).mono fun e w' (hq : _ ∧ _) => (⟨hq.1, hb9.trans (hq.2.mono hb9.size)⟩ : e = _ ∧ Below w1.heap.size w1 w'))
  have HPA := Lib.hid (hpa.below HB.out)
  obtain ⟨m, hm⟩ : ∃ m, t.l.length = m + 1 := ⟨r.length, by rw [hta]; rfl⟩
  have hrm : r.length = m := by rw [hta] at hm; simpa using hm
  have SC : Hid (∀ (w9 : World), Below w1.heap.size w1 w9 → (w9.cell? ⟨w.heap.size, 3, none⟩ = some (.slice (some p) (m + 1) c) ∧ w9.cell? ⟨w0.heap.size, 0, none⟩ = some (.string i))) := Lib.hid fun w9 hb9 => ⟨by rw [← hm]; exact (HH.out.below hb9).node.c3, (HH.out.below hb9).margin⟩
  have SA : Hid (∀ (w9 : World), Below w1.heap.size w1 w9 → w9.cell? p = some (.int .i64 a.op)) := Lib.hid fun w9 hb9 => (HPA.out.below hb9).c0
  obtain ⟨c0, c1, c2, c3, c4⟩ := bx
  rw [hm] at c3 hw0 HLI hcap ⊢
  have hd00 : Below w1.heap.size w1 w1 := Below.refl _ _
  clear bx0 hb0 hb1 hl hk hhd hT HJTL hop hta HJTE hcr hca hFE hTF hLC hkd hlen hm HH hpa hka hF HPA
  generalize (T (h + 1) t i.data.toList) = Z at HJT ⊢
  generalize T h a i.data.toList = Xa at HAa HFA
  rw [show p.add (1 * 5) = ⟨p.block, p.off + 5, none⟩ from rfl, show m + 1 - 1 = m from rfl] at HLI
  have z0 : (0 : Int) < (m : Int) + 1 := by omega
  have z00 : 0 < m + 1 := by omega
  obtain rfl := HFA.out
  by_cases hc1 : c = 1
  · subst hc1
    obtain rfl : m = 0 := by omega
    have HLO := Lib.hid (HLN.out (List.eq_nil_of_length_eq_zero hrm))
    clear HLN HLI hrm hcap
    go_enter Tryd.func51, Tryd.ntmps51
    go_wp2_with fail
    refine (HAa.out w1 (Below.refl _ _)).mono ?_
    rintro e v0 ⟨rfl, hv0⟩
    have q0 := (SC.out _ hv0).1
    have q1 := (SC.out _ hv0).2
    have q2 := SA.out _ hv0
    clear c0 c1 c2 c3 c4 hm
    have hq9 : a.op = 1 := hao
    rw [hq9] at q2
    have hd0 := hv0.drew
    go_wp2
    go_region_held3 (fun w9 => (w9.cell? ⟨w.heap.size, 3, none⟩ = some (.slice (some p) 1 1) ∧ w9.cell? ⟨w0.heap.size, 0, none⟩ = some (.string i))) (first
      | exact SC.out _ (by assumption)
      | go_keep) (first
      | (go_at_call 75; refine (HJT.out _ (by assumption)).mono ?_; rintro e wz ⟨rfl, hbz⟩)
      | (go_at_call 83; refine (HLO.out _ (by assumption)).mono ?_; rintro e wz ⟨rfl, hbz⟩))
    all_goals
      go_wp2
      go_ret
      exact ⟨rfl, HB.out.trans (hbz.mono HB.out.size)⟩
  · clear HLN hrm
    have z1 : (1 : Int) ≤ (m : Int) + 1 := by omega
    have z2 : (m : Int) + 1 ≤ (c : Int) := by omega
    have z3 : 1 ≤ m + 1 := by omega
    have z4 : (0 : Int) < (m : Int) + 1 := by omega
    have z5 : (1 : Int) ≤ (c : Int) := by omega
    have z6 : 1 ≤ c := by omega
    go_enter Tryd.func51, Tryd.ntmps51
    go_wp2_with fail
    refine (HAa.out w1 (Below.refl _ _)).mono ?_
    rintro e v0 ⟨rfl, hv0⟩
    have q0 := (SC.out _ hv0).1
    have q1 := (SC.out _ hv0).2
    have q2 := SA.out _ hv0
    clear c0 c1 c2 c3 c4 hm
    have hq9 : a.op = 1 := hao
    rw [hq9] at q2
    have hd0 := hv0.drew
    go_wp2
    go_region_held3 (fun w9 => (w9.cell? ⟨w.heap.size, 3, none⟩ = some (.slice (some p) (m + 1) c) ∧ w9.cell? ⟨w0.heap.size, 0, none⟩ = some (.string i))) (first
      | exact SC.out _ (by assumption)
      | go_keep) (first
      | (go_at_call 75; refine (HJT.out _ (by assumption)).mono ?_; rintro e wz ⟨rfl, hbz⟩)
      | (go_at_call 83; refine (HLI.out _ (by assumption)).mono ?_; rintro e wz ⟨rfl, hbz⟩))
    all_goals
      go_wp2
      go_ret
      exact ⟨rfl, HB.out.trans (hbz.mono HB.out.size)⟩

set_option maxRecDepth 100000 in
set_option maxHeartbeats 4000000 in
theorem text_16 (h : Nat) (t a : Tree) (r : List Tree) (i : ByteArray) (hop : t.op = 16) (hao : ¬ a.op = 1) (hta : t.l = a :: r) (hca : ExprT h a i) (hcr : ∀ u, u ∈ r → ExprT h u i) (hN : r.length ≤ 1000) (hT : (T (h + 1) t i.data.toList).length ≤ 140737488355328) : ExprT (h + 1) t i := by
  intro d w sl hl hk
  obtain ⟨hlen, A, c, rfl⟩ := hk.form
  unfold maxLen at hlen
  have hFE : T (h + 1) t i.data.toList = [40, 110, 101, 119, 32] ++ ([40] ++ T h a i.data.toList ++ [41]) ++ [40] ++ Lib.join (r.map fun u => T h u i.data.toList) [44, 32] ++ [41, 41] := by
    rw [T, stepT]
    simp [hop, hta, hao]
  have hTF : (Lib.join (r.map fun u => T h u i.data.toList) [44, 32]).length ≤ 140737488355328 := by
    rw [hFE] at hT
    simp only [List.length_append] at hT
    omega
  have hLC := fun (w9 : World) (v : Value) (h9 : Laid w9) (k9 : Kids w9 d r v) => list_calls h r i hcr hTF (by omega) d w9 v h9 k9
  obtain ⟨p, sa, da, _, rfl, hpa, hka, _⟩ := hk.at_ (show t.l[0]? = some a by rw [hta]; rfl)
  rw [show p.add (0 * 5) = p from rfl] at hpa
  have hcap : t.l.length ≤ c := hk.cap (by rw [hta]; simp)
  have hkd := hk.drop 1 (c - 1) (by rw [hta]; simp) (by omega)
  rw [show t.l.drop 1 = r by rw [hta]; rfl] at hkd
  generalize Lib.join (r.map fun u => T h u i.data.toList) [44, 32] = Xr at hFE hLC
  obtain ⟨F, hF⟩ : ∃ F, ([40] ++ T h a i.data.toList ++ [41]) = F := ⟨_, rfl⟩
  rw [hF] at hFE
  have HJTE : (([⟨#[40, 110, 101, 119, 32]⟩, ⟨F.toArray⟩, ⟨#[40]⟩, ⟨Xr.toArray⟩, ⟨#[41, 41]⟩] : List ByteArray).map (·.data.toList)).flatten = T (h + 1) t i.data.toList := by rw [hFE]; simp
  have HJTL := hT
  have HJPE : (([⟨#[40]⟩, ⟨(T h a i.data.toList).toArray⟩, ⟨#[41]⟩] : List ByteArray).map (·.data.toList)).flatten = F := by rw [← hF]; simp
  have HJPL : F.length ≤ 140737488355328 := by
    rw [hFE] at hT
    simp only [List.length_append] at hT
    omega
  rw [hop]
  have hopw : ∀ v : Value, Value.int .i64 t.op = v → v = .int .i64 16 := fun v e => by rw [← e, hop]
  clear hopw
  obtain ⟨w0, hw0⟩ : ∃ w0, w.alloc (.cells #[.int .i64 16, .string t.s, .int .i64 t.n, (.slice (some p) t.l.length c), .int .i64 t.line] 24) = w0 := ⟨_, rfl⟩
  obtain ⟨w1, hw1⟩ : ∃ w1, w0.alloc (.cells #[.string i] 9) = w1 := ⟨_, rfl⟩
  have bx0 : Blk5 w0 w.heap.size 16 t.s t.n (.slice (some p) t.l.length c) t.line := by rw [← hw0]; exact blk5_new _ _ _ _ _ _
  have hb0 : Below w.heap.size w w0 := by rw [← hw0]; exact (Below.refl _ _).alloc (Nat.le_refl _) _
  have hb1 : Below w0.heap.size w0 w1 := by rw [← hw1]; exact (Below.refl _ _).alloc (Nat.le_refl _) _
  have hm : w1.cell? ⟨w0.heap.size, 0, none⟩ = some (.string i) := by rw [← hw1]; exact cell_of_row _ _ 0 #[.string i] 9 (0, 0) (heap_alloc_new _ _)
  have bx := bx0.keep hb1
  have HB := Lib.hid (hb0.trans (hb1.mono hb0.size))
  have hhd : Held w1 w.heap.size w0.heap.size t (some p) c i := ⟨by rw [hop]; exact bx, hm⟩
  have HH := Lib.hid hhd
  have HL := Lib.hid (hl.below HB.out)
  have HK := Lib.hid (hk.below HB.out)
  have HJT : Hid (∀ (w9 : World), Below w1.heap.size w1 w9 → Calls Tryd.prog 75 #[.slice (some ⟨w9.heap.size, 0, none⟩) 5 5] (w9.alloc (.cells #[.string ⟨#[40, 110, 101, 119, 32]⟩, .string ⟨F.toArray⟩, .string ⟨#[40]⟩, .string ⟨Xr.toArray⟩, .string ⟨#[41, 41]⟩] 9)) fun e w' => e = .returned (.string ⟨(T (h + 1) t i.data.toList).toArray⟩) ∧ Below w1.heap.size w1 w') := Lib.hid fun w9 hb9 => by
    have hj := join_at w9 [⟨#[40, 110, 101, 119, 32]⟩, ⟨F.toArray⟩, ⟨#[40]⟩, ⟨Xr.toArray⟩, ⟨#[41, 41]⟩] (by simp) (by rw [HJTE]; exact HJTL)
    rw [HJTE] at hj
    exact hj.mono fun e w' (hq : _ ∧ _) => (⟨hq.1, hb9.trans (hq.2.mono hb9.size)⟩ : e = _ ∧ Below w1.heap.size w1 w')
  have HJP : Hid (∀ (w9 : World), Below w1.heap.size w1 w9 → Calls Tryd.prog 75 #[.slice (some ⟨w9.heap.size, 0, none⟩) 3 3] (w9.alloc (.cells #[.string ⟨#[40]⟩, .string ⟨(T h a i.data.toList).toArray⟩, .string ⟨#[41]⟩] 9)) fun e w' => e = .returned (.string ⟨(F).toArray⟩) ∧ Below w1.heap.size w1 w') := Lib.hid fun w9 hb9 => by
    have hj := join_at w9 [⟨#[40]⟩, ⟨(T h a i.data.toList).toArray⟩, ⟨#[41]⟩] (by simp) (by rw [HJPE]; exact HJPL)
    rw [HJPE] at hj
    exact hj.mono fun e w' (hq : _ ∧ _) => (⟨hq.1, hb9.trans (hq.2.mono hb9.size)⟩ : e = _ ∧ Below w1.heap.size w1 w')
  have HLI := Lib.hid (fun (w9 : World) (hb9 : Below w1.heap.size w1 w9) => (hLC w9 _ (HL.out.below hb9) ((hkd.below HB.out).below hb9)).mono fun e w' (hq : _ ∧ _) => (⟨hq.1, hb9.trans (hq.2.mono hb9.size)⟩ : e = _ ∧ Below w1.heap.size w1 w'))
  have HLN : Hid (r = [] → ∀ (w9 : World), Below w1.heap.size w1 w9 → Calls Tryd.prog 83 #[.slice (some p) 0 0, .string i] w9 fun e w' => e = .returned (.string ⟨Xr.toArray⟩) ∧ Below w1.heap.size w1 w') := Lib.hid (fun hr0 w9 hb9 => (hLC w9 _ (HL.out.below hb9) (by rw [hr0]; exact kids_void w9 d (some p) 0)).mono fun e w' (hq : _ ∧ _) => (⟨hq.1, hb9.trans (hq.2.mono hb9.size)⟩ : e = _ ∧ Below w1.heap.size w1 w'))
  have HAa := Lib.hid (fun (w9 : World) (hb9 : Below w1.heap.size w1 w9) => (at_calls w9 w.heap.size w0.heap.size t (some p) c i (HH.out.below hb9) (HL.out.below hb9) d (HK.out.below hb9) 0 a (by rw [hta]; rfl) h hca).mono fun e w' (hq : _ ∧ _) => (⟨hq.1, hb9.trans (hq.2.mono hb9.size)⟩ : e = _ ∧ Below w1.heap.size w1 w'))
  have HPA := Lib.hid (hpa.below HB.out)
  obtain ⟨m, hm⟩ : ∃ m, t.l.length = m + 1 := ⟨r.length, by rw [hta]; rfl⟩
  have hrm : r.length = m := by rw [hta] at hm; simpa using hm
  have SC : Hid (∀ (w9 : World), Below w1.heap.size w1 w9 → (w9.cell? ⟨w.heap.size, 3, none⟩ = some (.slice (some p) (m + 1) c) ∧ w9.cell? ⟨w0.heap.size, 0, none⟩ = some (.string i))) := Lib.hid fun w9 hb9 => ⟨by rw [← hm]; exact (HH.out.below hb9).node.c3, (HH.out.below hb9).margin⟩
  have SA : Hid (∀ (w9 : World), Below w1.heap.size w1 w9 → w9.cell? p = some (.int .i64 a.op)) := Lib.hid fun w9 hb9 => (HPA.out.below hb9).c0
  obtain ⟨c0, c1, c2, c3, c4⟩ := bx
  rw [hm] at c3 hw0 HLI hcap ⊢
  have hd00 : Below w1.heap.size w1 w1 := Below.refl _ _
  clear bx0 hb0 hb1 hl hk hhd hT HJTL hop hta HJTE hcr hca hFE hTF hLC hkd hlen hm HH hpa hka hF HPA HJPE HJPL
  generalize (T (h + 1) t i.data.toList) = Z at HJT ⊢
  generalize T h a i.data.toList = Xa at HAa HJP
  rw [show p.add (1 * 5) = ⟨p.block, p.off + 5, none⟩ from rfl, show m + 1 - 1 = m from rfl] at HLI
  have z0 : (0 : Int) < (m : Int) + 1 := by omega
  have z00 : 0 < m + 1 := by omega
  by_cases hc1 : c = 1
  · subst hc1
    obtain rfl : m = 0 := by omega
    have HLO := Lib.hid (HLN.out (List.eq_nil_of_length_eq_zero hrm))
    clear HLN HLI hrm hcap
    go_enter Tryd.func51, Tryd.ntmps51
    go_wp2_with fail
    refine (HAa.out w1 (Below.refl _ _)).mono ?_
    rintro e v0 ⟨rfl, hv0⟩
    have q0 := (SC.out _ hv0).1
    have q1 := (SC.out _ hv0).2
    have q2 := SA.out _ hv0
    clear c0 c1 c2 c3 c4 hm
    have hq9 : (a.op == 1) = false := by simpa using hao
    have hq8 : decide (a.op = 1) = false := by simpa using hao
    go_wp2_with (go_at_call 75; refine (HJP.out v0 hv0).mono ?_; rintro e v1 ⟨rfl, hv1⟩; have q3 := (SC.out _ hv1).1; have q4 := (SC.out _ hv1).2)
    have hd0 := hv1.drew
    go_region_held3 (fun w9 => (w9.cell? ⟨w.heap.size, 3, none⟩ = some (.slice (some p) 1 1) ∧ w9.cell? ⟨w0.heap.size, 0, none⟩ = some (.string i))) (first
      | exact SC.out _ (by assumption)
      | go_keep) (first
      | (go_at_call 75; refine (HJT.out _ (by assumption)).mono ?_; rintro e wz ⟨rfl, hbz⟩)
      | (go_at_call 83; refine (HLO.out _ (by assumption)).mono ?_; rintro e wz ⟨rfl, hbz⟩))
    all_goals
      go_wp2
      go_ret
      exact ⟨rfl, HB.out.trans (hbz.mono HB.out.size)⟩
  · clear HLN hrm
    have z1 : (1 : Int) ≤ (m : Int) + 1 := by omega
    have z2 : (m : Int) + 1 ≤ (c : Int) := by omega
    have z3 : 1 ≤ m + 1 := by omega
    have z4 : (0 : Int) < (m : Int) + 1 := by omega
    have z5 : (1 : Int) ≤ (c : Int) := by omega
    have z6 : 1 ≤ c := by omega
    go_enter Tryd.func51, Tryd.ntmps51
    go_wp2_with fail
    refine (HAa.out w1 (Below.refl _ _)).mono ?_
    rintro e v0 ⟨rfl, hv0⟩
    have q0 := (SC.out _ hv0).1
    have q1 := (SC.out _ hv0).2
    have q2 := SA.out _ hv0
    clear c0 c1 c2 c3 c4 hm
    have hq9 : (a.op == 1) = false := by simpa using hao
    have hq8 : decide (a.op = 1) = false := by simpa using hao
    go_wp2_with (go_at_call 75; refine (HJP.out v0 hv0).mono ?_; rintro e v1 ⟨rfl, hv1⟩; have q3 := (SC.out _ hv1).1; have q4 := (SC.out _ hv1).2)
    have hd0 := hv1.drew
    go_region_held3 (fun w9 => (w9.cell? ⟨w.heap.size, 3, none⟩ = some (.slice (some p) (m + 1) c) ∧ w9.cell? ⟨w0.heap.size, 0, none⟩ = some (.string i))) (first
      | exact SC.out _ (by assumption)
      | go_keep) (first
      | (go_at_call 75; refine (HJT.out _ (by assumption)).mono ?_; rintro e wz ⟨rfl, hbz⟩)
      | (go_at_call 83; refine (HLI.out _ (by assumption)).mono ?_; rintro e wz ⟨rfl, hbz⟩))
    all_goals
      go_wp2
      go_ret
      exact ⟨rfl, HB.out.trans (hbz.mono HB.out.size)⟩

end Go.Proofs.YtcidccifnaecaaaDoor
