/- shown of the laws on trees, walked: true. -/
import Derived.Test.YtcidccifnaecaaaDoorShowTrees
namespace Go.Proofs.YtcidccifnaecaaaDoor
open Go.RowKit Go.Sort

set_option maxRecDepth 100000 in
set_option maxHeartbeats 800000 in
theorem id_calls (w : World) (s : ByteArray) : Calls Tryd.prog 27 #[.string s] w fun e w' => e = .returned (.agg #[.int .i64 1, .string s, .int .i64 0, .slice none 0 0, .int .i64 0]) ∧ Below w.heap.size w w' := by
  go_enter Tryd.func27, Tryd.ntmps27
  go_wp2
  exact bodyPost_ret (v := .agg #[.int .i64 1, .string s, .int .i64 0, .slice none 0 0, .int .i64 0]) (by simp [results, Tryd.f27, go_sem]) rfl ⟨rfl, ((Below.refl _ _).alloc (Nat.le_refl _) _)⟩

theorem ok_of (op : Int) (s : ByteArray) (n : Int) (l : List Tree) (i : Int) (h : s.size ≤ 100) (h1 : (Lit.int .i64 op).wf = true) (h2 : (Lit.int .i64 n).wf = true) : (Tree.node op s n l i).ok :=
  ⟨by unfold maxLen; show s.size ≤ _; omega, h1, h2⟩

theorem below_al (w : World) (o : Obj) : Below w.heap.size w (w.alloc o) := (Below.refl _ _).alloc (Nat.le_refl _) _
theorem bornA (w1 : World) : Kids ((w1.alloc (.cells #[.int .i64 2, .string ⟨#[]⟩, .int .i64 1, .slice none 0 0, .int .i64 0] 24)).alloc (.cells #[.int .i64 1, .string ⟨#[97]⟩, .int .i64 0, .slice none 0 0, .int .i64 0, .int .i64 20, .string ⟨#[]⟩, .int .i64 0, .slice (some ⟨w1.heap.size, 0, none⟩) 1 1, .int .i64 0] 24)) 3 tA.l (.slice (some ⟨w1.heap.size + 1, 0, none⟩) 2 2) ∧ Below w1.heap.size w1 ((w1.alloc (.cells #[.int .i64 2, .string ⟨#[]⟩, .int .i64 1, .slice none 0 0, .int .i64 0] 24)).alloc (.cells #[.int .i64 1, .string ⟨#[97]⟩, .int .i64 0, .slice none 0 0, .int .i64 0, .int .i64 20, .string ⟨#[]⟩, .int .i64 0, .slice (some ⟨w1.heap.size, 0, none⟩) 1 1, .int .i64 0] 24)) := by
  have e1 : (w1.alloc (.cells #[.int .i64 2, .string ⟨#[]⟩, .int .i64 1, .slice none 0 0, .int .i64 0] 24)).heap.size = w1.heap.size + 1 := by simp
  have b1 := blk5_new w1 2 ⟨#[]⟩ 1 (.slice none 0 0) 0
  have hc : ∀ j, ((w1.alloc (.cells #[.int .i64 2, .string ⟨#[]⟩, .int .i64 1, .slice none 0 0, .int .i64 0] 24)).alloc (.cells #[.int .i64 1, .string ⟨#[97]⟩, .int .i64 0, .slice none 0 0, .int .i64 0, .int .i64 20, .string ⟨#[]⟩, .int .i64 0, .slice (some ⟨w1.heap.size, 0, none⟩) 1 1, .int .i64 0] 24)).cell? ⟨(w1.alloc (.cells #[.int .i64 2, .string ⟨#[]⟩, .int .i64 1, .slice none 0 0, .int .i64 0] 24)).heap.size, j, none⟩ = #[.int .i64 1, .string ⟨#[97]⟩, .int .i64 0, .slice none 0 0, .int .i64 0, .int .i64 20, .string ⟨#[]⟩, .int .i64 0, .slice (some ⟨w1.heap.size, 0, none⟩) 1 1, .int .i64 0][j]? := fun j => cell_of_row _ _ _ _ _ (0, 0) (heap_alloc_new _ _)
  rw [e1] at hc
  have h1 := below_al (w1.alloc (.cells #[.int .i64 2, .string ⟨#[]⟩, .int .i64 1, .slice none 0 0, .int .i64 0] 24)) (.cells #[.int .i64 1, .string ⟨#[97]⟩, .int .i64 0, .slice none 0 0, .int .i64 0, .int .i64 20, .string ⟨#[]⟩, .int .i64 0, .slice (some ⟨w1.heap.size, 0, none⟩) 1 1, .int .i64 0] 24)
  refine ⟨kids_two (u := tId) (v := tNeg) hc (kids_nil _ 2) ?_ (ok_of _ _ _ _ _ (by decide) (by decide) (by decide)) (ok_of _ _ _ _ _ (by decide) (by decide) (by decide)), (below_al _ _).trans (h1.mono (below_al _ _).size)⟩
  exact kids_one (u := tOne) (d := 1) (b1.keep h1) (kids_nil _ 1) (ok_of _ _ _ _ _ (by decide) (by decide) (by decide))
theorem bornB (w1 : World) : Kids ((((w1.alloc (.cells #[.int .i64 1, .string ⟨#[97]⟩, .int .i64 0, .slice none 0 0, .int .i64 0] 24)).alloc (.cells #[.int .i64 13, .string ⟨#[112]⟩, .int .i64 0, .slice (some ⟨w1.heap.size, 0, none⟩) 1 1, .int .i64 0, .int .i64 11, .string ⟨#[]⟩, .int .i64 0, .slice none 0 0, .int .i64 0] 24)).alloc (.cells #[.int .i64 17, .string ⟨#[]⟩, .int .i64 0, .slice (some ⟨w1.heap.size + 1, 0, none⟩) 2 2, .int .i64 0] 24)).alloc (.cells #[.int .i64 31, .string ⟨#[]⟩, .int .i64 0, .slice (some ⟨w1.heap.size + 1 + 1, 0, none⟩) 1 1, .int .i64 0] 24)) 5 tB.l (.slice (some ⟨w1.heap.size + 1 + 1 + 1, 0, none⟩) 1 1) ∧ Below w1.heap.size w1 ((((w1.alloc (.cells #[.int .i64 1, .string ⟨#[97]⟩, .int .i64 0, .slice none 0 0, .int .i64 0] 24)).alloc (.cells #[.int .i64 13, .string ⟨#[112]⟩, .int .i64 0, .slice (some ⟨w1.heap.size, 0, none⟩) 1 1, .int .i64 0, .int .i64 11, .string ⟨#[]⟩, .int .i64 0, .slice none 0 0, .int .i64 0] 24)).alloc (.cells #[.int .i64 17, .string ⟨#[]⟩, .int .i64 0, .slice (some ⟨w1.heap.size + 1, 0, none⟩) 2 2, .int .i64 0] 24)).alloc (.cells #[.int .i64 31, .string ⟨#[]⟩, .int .i64 0, .slice (some ⟨w1.heap.size + 1 + 1, 0, none⟩) 1 1, .int .i64 0] 24)) := by
  obtain ⟨v1, hv1⟩ : ∃ v, (w1.alloc (.cells #[.int .i64 1, .string ⟨#[97]⟩, .int .i64 0, .slice none 0 0, .int .i64 0] 24)) = v := ⟨_, rfl⟩
  have e1 : v1.heap.size = w1.heap.size + 1 := by rw [← hv1]; simp
  have b1 : Blk5 v1 w1.heap.size 1 ⟨#[97]⟩ 0 (.slice none 0 0) 0 := by rw [← hv1]; exact blk5_new _ _ _ _ _ _
  have l1 : Below w1.heap.size w1 v1 := by rw [← hv1]; exact below_al _ _
  rw [hv1]
  obtain ⟨v2, hv2⟩ : ∃ v, (v1.alloc (.cells #[.int .i64 13, .string ⟨#[112]⟩, .int .i64 0, .slice (some ⟨w1.heap.size, 0, none⟩) 1 1, .int .i64 0, .int .i64 11, .string ⟨#[]⟩, .int .i64 0, .slice none 0 0, .int .i64 0] 24)) = v := ⟨_, rfl⟩
  have hc : ∀ j, v2.cell? ⟨v1.heap.size, j, none⟩ = #[.int .i64 13, .string ⟨#[112]⟩, .int .i64 0, .slice (some ⟨w1.heap.size, 0, none⟩) 1 1, .int .i64 0, .int .i64 11, .string ⟨#[]⟩, .int .i64 0, .slice none 0 0, .int .i64 0][j]? := fun j => by rw [← hv2]; exact cell_of_row _ _ _ _ _ (0, 0) (heap_alloc_new _ _)
  rw [e1] at hc
  have e2 : v2.heap.size = w1.heap.size + 1 + 1 := by rw [← hv2, ← e1]; simp
  have l2 : Below v1.heap.size v1 v2 := by rw [← hv2]; exact below_al _ _
  rw [hv2]
  obtain ⟨v3, hv3⟩ : ∃ v, (v2.alloc (.cells #[.int .i64 17, .string ⟨#[]⟩, .int .i64 0, .slice (some ⟨w1.heap.size + 1, 0, none⟩) 2 2, .int .i64 0] 24)) = v := ⟨_, rfl⟩
  have b3 : Blk5 v3 v2.heap.size 17 ⟨#[]⟩ 0 (.slice (some ⟨w1.heap.size + 1, 0, none⟩) 2 2) 0 := by rw [← hv3]; exact blk5_new _ _ _ _ _ _
  rw [e2] at b3
  have e3 : v3.heap.size = w1.heap.size + 1 + 1 + 1 := by rw [← hv3, ← e2]; simp
  have l3 : Below v2.heap.size v2 v3 := by rw [← hv3]; exact below_al _ _
  rw [hv3]
  obtain ⟨v4, hv4⟩ : ∃ v, (v3.alloc (.cells #[.int .i64 31, .string ⟨#[]⟩, .int .i64 0, .slice (some ⟨w1.heap.size + 1 + 1, 0, none⟩) 1 1, .int .i64 0] 24)) = v := ⟨_, rfl⟩
  have b4 : Blk5 v4 v3.heap.size 31 ⟨#[]⟩ 0 (.slice (some ⟨w1.heap.size + 1 + 1, 0, none⟩) 1 1) 0 := by rw [← hv4]; exact blk5_new _ _ _ _ _ _
  rw [e3] at b4
  have l4 : Below v3.heap.size v3 v4 := by rw [← hv4]; exact below_al _ _
  rw [hv4]
  have k1 : Kids v1 2 tMem.l (.slice (some ⟨w1.heap.size, 0, none⟩) 1 1) := kids_one (u := tId) b1 (kids_nil _ 1) (ok_of _ _ _ _ _ (by decide) (by decide) (by decide))
  have k2 : Kids v2 3 tSet.l (.slice (some ⟨w1.heap.size + 1, 0, none⟩) 2 2) := kids_two (u := tMem) (v := tObj) hc (k1.below l2) (kids_nil _ 2) (ok_of _ _ _ _ _ (by decide) (by decide) (by decide)) (ok_of _ _ _ _ _ (by decide) (by decide) (by decide))
  have k3 : Kids v3 4 tStm.l (.slice (some ⟨w1.heap.size + 1 + 1, 0, none⟩) 1 1) := kids_one (u := tSet) b3 (k2.below l3) (ok_of _ _ _ _ _ (by decide) (by decide) (by decide))
  exact ⟨kids_one (u := tStm) b4 (k3.below l4) (ok_of _ _ _ _ _ (by decide) (by decide) (by decide)),
    ((l1.trans (l2.mono l1.size)).trans ((l3.trans (l4.mono l3.size)).mono (Nat.le_trans l1.size l2.size)))⟩

set_option maxRecDepth 100000 in
set_option maxHeartbeats 2000000 in
theorem shown_calls (w : World) (hl : Laid w) : Calls Tryd.prog 17 #[] w fun e w' => e = .returned (.bool true) ∧ Below w.heap.size w w' := by
  have HL := Lib.hid hl
  have hokA : tA.ok := ok_of _ _ _ _ _ (by decide) (by decide) (by decide)
  have hokB : tB.ok := ok_of _ _ _ _ _ (by decide) (by decide) (by decide)
  have hokC : tC.ok := ok_of _ _ _ _ _ (by decide) (by decide) (by decide)
  have HSA := Lib.hid (fun w9 sl hl9 hk9 => showExpr_calls tA (fun _ => tA_T) 3 w9 sl hl9 hk9 hokA)
  have HSB := Lib.hid (fun w9 sl hl9 hk9 => show_calls tB (fun _ => tB_T) (fun _ => by rw [tB_lines]; decide) 5 w9 sl hl9 hk9 hokB)
  have HSC := Lib.hid (fun w9 sl hl9 hk9 => showExpr_calls tC (fun h => by rw [tC_right] at h; cases h) 3 w9 sl hl9 hk9 hokC)
  simp only [tA_right, tB_right, tC_right, if_true, tA_text 97, tB_lines] at HSA HSB HSC
  clear hl hokA hokB hokC
  go_enter Tryd.func17, Tryd.ntmps17
  go_wp2_with fail
  refine (id_calls _ _).mono ?_
  rintro e w1 ⟨rfl, hb1⟩
  have HB1 := Lib.hid hb1
  clear hb1
  go_wp2_with fail
  obtain ⟨hkA, hbA⟩ := bornA w1
  have HBA := Lib.hid (HB1.out.trans (hbA.mono HB1.out.size))
  refine (HSA.out _ _ (HL.out.below HBA.out) hkA).mono ?_
  rintro e w2 ⟨rfl, hb2⟩
  have HB2 := Lib.hid (HBA.out.trans (hb2.mono HBA.out.size))
  clear hb2 hkA hbA HBA HB1 HSA
  go_wp2_with fail
  refine (id_calls _ _).mono ?_
  rintro e w3 ⟨rfl, hb3⟩
  have HB3 := Lib.hid (HB2.out.trans (hb3.mono HB2.out.size))
  clear hb3 HB2
  go_wp2_with fail
  obtain ⟨hkB, hbB⟩ := bornB w3
  have HBB := Lib.hid (HB3.out.trans (hbB.mono HB3.out.size))
  refine (HSB.out _ _ (HL.out.below HBB.out) hkB).mono ?_
  rintro e w4 ⟨rfl, hb4⟩
  have HB4 := Lib.hid (HBB.out.trans (hb4.mono HBB.out.size))
  clear hb4 hkB hbB HBB HB3 HSB
  go_wp2_with fail
  refine (HSC.out _ _ (HL.out.below HB4.out) (kids_nil _ 3)).mono ?_
  rintro e w5 ⟨rfl, hb5⟩
  have HB5 := Lib.hid (HB4.out.trans (hb5.mono HB4.out.size))
  clear hb5 HB4 HSC
  go_wp2
  go_ret
  exact ⟨rfl, HB5.out⟩

end Go.Proofs.YtcidccifnaecaaaDoor
