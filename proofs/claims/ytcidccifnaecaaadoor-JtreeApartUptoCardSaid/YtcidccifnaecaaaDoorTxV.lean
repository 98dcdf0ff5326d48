/- The texts of function expressions, calls, new: walked. -/
import Derived.Test.YtcidccifnaecaaaDoorTxM
namespace Go.Proofs.YtcidccifnaecaaaDoor
open Go.RowKit Go.Sort

theorem kids_void (W : World) (d : Nat) (A : Option Addr) (c : Nat) : Kids W d [] (.slice A 0 c) := by
  cases d with
  | zero => exact ⟨rfl, A, c, rfl⟩
  | succ d => exact ⟨by simp [maxLen], A, c, rfl, fun k t h => by simp at h⟩
theorem bytes_extM {a b : ByteArray} (h : a.data.toList = b.data.toList) : a = b := by
  cases a; cases b
  simp at h
  subst h
  rfl
set_option maxRecDepth 100000 in
set_option maxHeartbeats 4000000 in
theorem text_10_none (h : Nat) (t : Tree) (i : ByteArray) (hop : t.op = 10) (hs : t.s.toList.isEmpty = true) (ks : List Tree) (b : Tree) (hta : t.l = ks ++ [b]) (hc : ∀ u, u ∈ ks → ExprT h u i) (hcb : BlockT h b i) (hN : ks.length ≤ 1000) (hT : (T (h + 1) t i.data.toList).length ≤ 140737488355328) : ExprT (h + 1) t i := by
  intro d w sl hl hk
  obtain ⟨hlen, A, c, rfl⟩ := hk.form
  unfold maxLen at hlen
  have hse : t.s.data.toList = [] := by rw [ByteArray.toList_eq] at hs; exact List.isEmpty_iff.1 hs
  obtain hsz : t.s = ⟨#[]⟩ := bytes_extM hse
  have hFE : T (h + 1) t i.data.toList = [40, 102, 117, 110, 99, 116, 105, 111, 110] ++ ([]) ++ funL (t.l.map fun u => T h u i.data.toList) ++ [41] := by
    have : T (h + 1) t i.data.toList = [40, 102, 117, 110, 99, 116, 105, 111, 110] ++ (if t.s.data.toList = [] then [] else 32 :: t.s.data.toList) ++ funL (t.l.map fun u => T h u i.data.toList) ++ [41] := by
      rw [T, stepT]
      simp [hop]
    rw [this, if_pos hse]
  rw [hta] at hFE
  have hTF : (funL ((ks ++ [b]).map fun u => T h u i.data.toList)).length ≤ 140737488355328 := by
    rw [hFE] at hT
    simp only [List.length_append] at hT
    omega
  have hFC := fun (w9 : World) (h9 : Laid w9) (k9 : Kids w9 d (ks ++ [b]) (.slice A t.l.length c)) => function_calls h ks b i hc hcb hTF hN d w9 _ h9 k9
  rw [← hta] at hFC hFE
  generalize funL (t.l.map fun u => T h u i.data.toList) = Xa at hFC hFE
  have HJTE : (([⟨#[40, 102, 117, 110, 99, 116, 105, 111, 110]⟩, ⟨#[]⟩, ⟨Xa.toArray⟩, ⟨#[41]⟩] : List ByteArray).map (·.data.toList)).flatten = T (h + 1) t i.data.toList := by rw [hFE]; simp
  have HJTL := hT
  rw [hop]
  have hopw : ∀ v : Value, Value.int .i64 t.op = v → v = .int .i64 10 := fun v e => by rw [← e, hop]
  clear hopw
  obtain ⟨w0, hw0⟩ : ∃ w0, w.alloc (.cells #[.int .i64 10, .string t.s, .int .i64 t.n, .slice A t.l.length c, .int .i64 t.line] 24) = w0 := ⟨_, rfl⟩
  obtain ⟨w1, hw1⟩ : ∃ w1, w0.alloc (.cells #[.string i] 9) = w1 := ⟨_, rfl⟩
  have bx0 : Blk5 w0 w.heap.size 10 t.s t.n (.slice A t.l.length c) t.line := by rw [← hw0]; exact blk5_new _ _ _ _ _ _
  have hb0 : Below w.heap.size w w0 := by rw [← hw0]; exact (Below.refl _ _).alloc (Nat.le_refl _) _
  have hb1 : Below w0.heap.size w0 w1 := by rw [← hw1]; exact (Below.refl _ _).alloc (Nat.le_refl _) _
  have hm : w1.cell? ⟨w0.heap.size, 0, none⟩ = some (.string i) := by rw [← hw1]; exact cell_of_row _ _ 0 #[.string i] 9 (0, 0) (heap_alloc_new _ _)
  have bx := bx0.keep hb1
  have HB := Lib.hid (hb0.trans (hb1.mono hb0.size))
  have hhd : Held w1 w.heap.size w0.heap.size t A c i := ⟨by rw [hop]; exact bx, hm⟩
  have HH := Lib.hid hhd
  have HL := Lib.hid (hl.below HB.out)
  have HK := Lib.hid (hk.below HB.out)
  have HJT : Hid (∀ (w9 : World), Below w1.heap.size w1 w9 → Calls Tryd.prog 75 #[.slice (some ⟨w9.heap.size, 0, none⟩) 4 4] (w9.alloc (.cells #[.string ⟨#[40, 102, 117, 110, 99, 116, 105, 111, 110]⟩, .string ⟨#[]⟩, .string ⟨Xa.toArray⟩, .string ⟨#[41]⟩] 9)) fun e w' => e = .returned (.string ⟨(T (h + 1) t i.data.toList).toArray⟩) ∧ Below w1.heap.size w1 w') := Lib.hid fun w9 hb9 => by
    have hj := join_at w9 [⟨#[40, 102, 117, 110, 99, 116, 105, 111, 110]⟩, ⟨#[]⟩, ⟨Xa.toArray⟩, ⟨#[41]⟩] (by simp) (by rw [HJTE]; exact HJTL)
    rw [HJTE] at hj
    exact hj.mono fun e w' (hq : _ ∧ _) => (⟨hq.1, hb9.trans (hq.2.mono hb9.size)⟩ : e = _ ∧ Below w1.heap.size w1 w')
  have HAa := Lib.hid (hFC w1 HL.out HK.out)
  obtain ⟨c0, c1, c2, c3, c4⟩ := bx
  have hd00 : Below w1.heap.size w1 w1 := Below.refl _ _
  clear bx0 hb0 hb1 hl hk hhd hT HJTL hop hta HJTE hc hcb hFC hFE hTF
  generalize (T (h + 1) t i.data.toList) = Z at HJT ⊢
  rw [hsz] at c1
  clear hsz hs hse
  go_enter Tryd.func51, Tryd.ntmps51
  go_wp2_with (first
    | (go_at_call 75; refine (HJT.out v0 HBV.out).mono ?_; rintro e wz ⟨rfl, hbz⟩; have HBZ := Lib.hid hbz; clear hbz)
    | (go_at_call 81; refine HAa.out.mono ?_; rintro e v0 ⟨rfl, hb⟩; have HBV := Lib.hid hb; clear hb))
  go_ret
  exact ⟨rfl, HB.out.trans (HBZ.out.mono HB.out.size)⟩

set_option maxRecDepth 100000 in
set_option maxHeartbeats 4000000 in
theorem text_10 (h : Nat) (t : Tree) (i : ByteArray) (hop : t.op = 10) (hs : t.s.toList.isEmpty = false) (ks : List Tree) (b : Tree) (hta : t.l = ks ++ [b]) (hc : ∀ u, u ∈ ks → ExprT h u i) (hcb : BlockT h b i) (hN : ks.length ≤ 1000) (hT : (T (h + 1) t i.data.toList).length ≤ 140737488355328) : ExprT (h + 1) t i := by
  intro d w sl hl hk
  obtain ⟨hlen, A, c, rfl⟩ := hk.form
  unfold maxLen at hlen
  have hse : ¬ t.s.data.toList = [] := by rw [ByteArray.toList_eq] at hs; intro h9; rw [h9] at hs; cases hs
  have hFE : T (h + 1) t i.data.toList = [40, 102, 117, 110, 99, 116, 105, 111, 110] ++ (32 :: t.s.data.toList) ++ funL (t.l.map fun u => T h u i.data.toList) ++ [41] := by
    have : T (h + 1) t i.data.toList = [40, 102, 117, 110, 99, 116, 105, 111, 110] ++ (if t.s.data.toList = [] then [] else 32 :: t.s.data.toList) ++ funL (t.l.map fun u => T h u i.data.toList) ++ [41] := by
      rw [T, stepT]
      simp [hop]
    rw [this, if_neg hse]
  rw [hta] at hFE
  have hTF : (funL ((ks ++ [b]).map fun u => T h u i.data.toList)).length ≤ 140737488355328 := by
    rw [hFE] at hT
    simp only [List.length_append] at hT
    omega
  have hFC := fun (w9 : World) (h9 : Laid w9) (k9 : Kids w9 d (ks ++ [b]) (.slice A t.l.length c)) => function_calls h ks b i hc hcb hTF hN d w9 _ h9 k9
  rw [← hta] at hFC hFE
  generalize funL (t.l.map fun u => T h u i.data.toList) = Xa at hFC hFE
  have hts : t.s.size ≤ 140737488355328 := by
    have hq := size_list t.s
    rw [hFE] at hT
    simp only [List.length_append, List.length_cons, List.length_nil] at hT
    omega
  have HJTE : (([⟨#[40, 102, 117, 110, 99, 116, 105, 111, 110]⟩, (⟨#[32]⟩ ++ t.s), ⟨Xa.toArray⟩, ⟨#[41]⟩] : List ByteArray).map (·.data.toList)).flatten = T (h + 1) t i.data.toList := by rw [hFE]; simp
  have HJTL := hT
  rw [hop]
  have hopw : ∀ v : Value, Value.int .i64 t.op = v → v = .int .i64 10 := fun v e => by rw [← e, hop]
  clear hopw
  obtain ⟨w0, hw0⟩ : ∃ w0, w.alloc (.cells #[.int .i64 10, .string t.s, .int .i64 t.n, .slice A t.l.length c, .int .i64 t.line] 24) = w0 := ⟨_, rfl⟩
  obtain ⟨w1, hw1⟩ : ∃ w1, w0.alloc (.cells #[.string i] 9) = w1 := ⟨_, rfl⟩
  have bx0 : Blk5 w0 w.heap.size 10 t.s t.n (.slice A t.l.length c) t.line := by rw [← hw0]; exact blk5_new _ _ _ _ _ _
  have hb0 : Below w.heap.size w w0 := by rw [← hw0]; exact (Below.refl _ _).alloc (Nat.le_refl _) _
  have hb1 : Below w0.heap.size w0 w1 := by rw [← hw1]; exact (Below.refl _ _).alloc (Nat.le_refl _) _
  have hm : w1.cell? ⟨w0.heap.size, 0, none⟩ = some (.string i) := by rw [← hw1]; exact cell_of_row _ _ 0 #[.string i] 9 (0, 0) (heap_alloc_new _ _)
  have bx := bx0.keep hb1
  have HB := Lib.hid (hb0.trans (hb1.mono hb0.size))
  have hhd : Held w1 w.heap.size w0.heap.size t A c i := ⟨by rw [hop]; exact bx, hm⟩
  have HH := Lib.hid hhd
  have HL := Lib.hid (hl.below HB.out)
  have HK := Lib.hid (hk.below HB.out)
  have HJT : Hid (∀ (w9 : World), Below w1.heap.size w1 w9 → Calls Tryd.prog 75 #[.slice (some ⟨w9.heap.size, 0, none⟩) 4 4] (w9.alloc (.cells #[.string ⟨#[40, 102, 117, 110, 99, 116, 105, 111, 110]⟩, .string (⟨#[32]⟩ ++ t.s), .string ⟨Xa.toArray⟩, .string ⟨#[41]⟩] 9)) fun e w' => e = .returned (.string ⟨(T (h + 1) t i.data.toList).toArray⟩) ∧ Below w1.heap.size w1 w') := Lib.hid fun w9 hb9 => by
    have hj := join_at w9 [⟨#[40, 102, 117, 110, 99, 116, 105, 111, 110]⟩, (⟨#[32]⟩ ++ t.s), ⟨Xa.toArray⟩, ⟨#[41]⟩] (by simp) (by rw [HJTE]; exact HJTL)
    rw [HJTE] at hj
    exact hj.mono fun e w' (hq : _ ∧ _) => (⟨hq.1, hb9.trans (hq.2.mono hb9.size)⟩ : e = _ ∧ Below w1.heap.size w1 w')
  have HAa := Lib.hid (hFC w1 HL.out HK.out)
  obtain ⟨c0, c1, c2, c3, c4⟩ := bx
  have hd00 : Below w1.heap.size w1 w1 := Below.refl _ _
  clear bx0 hb0 hb1 hl hk hhd hT HJTL hop hta HJTE hc hcb hFC hFE hTF
  generalize (T (h + 1) t i.data.toList) = Z at HJT ⊢
  go_enter Tryd.func51, Tryd.ntmps51
  go_wp2_with (first
    | (go_at_call 75; refine (HJT.out v0 HBV.out).mono ?_; rintro e wz ⟨rfl, hbz⟩; have HBZ := Lib.hid hbz; clear hbz)
    | (go_at_call 81; refine HAa.out.mono ?_; rintro e v0 ⟨rfl, hb⟩; have HBV := Lib.hid hb; clear hb))
  go_ret
  exact ⟨rfl, HB.out.trans (HBZ.out.mono HB.out.size)⟩

set_option maxRecDepth 100000 in
set_option maxHeartbeats 4000000 in
theorem text_15 (h : Nat) (t a : Tree) (r : List Tree) (i : ByteArray) (hop : t.op = 15) (hta : t.l = a :: r) (hca : ExprT h a i) (hcr : ∀ u, u ∈ r → ExprT h u i) (hN : r.length ≤ 1000) (hT : (T (h + 1) t i.data.toList).length ≤ 140737488355328) : ExprT (h + 1) t i := by
  intro d w sl hl hk
  obtain ⟨hlen, A, c, rfl⟩ := hk.form
  unfold maxLen at hlen
  have hFE : T (h + 1) t i.data.toList = T h a i.data.toList ++ [40] ++ Lib.join (r.map fun u => T h u i.data.toList) [44, 32] ++ [41] := by
    rw [T, stepT]
    simp [hop, hta]
  have hTF : (Lib.join (r.map fun u => T h u i.data.toList) [44, 32]).length ≤ 140737488355328 := by
    rw [hFE] at hT
    simp only [List.length_append] at hT
    omega
  have hLC := fun (w9 : World) (v : Value) (h9 : Laid w9) (k9 : Kids w9 d r v) => list_calls h r i hcr hTF (by omega) d w9 v h9 k9
  obtain ⟨p, sa, da, _, rfl, _, _, _⟩ := hk.at_ (show t.l[0]? = some a by rw [hta]; rfl)
  have hcap : t.l.length ≤ c := hk.cap (by rw [hta]; simp)
  have hkd := hk.drop 1 (c - 1) (by rw [hta]; simp) (by omega)
  rw [show t.l.drop 1 = r by rw [hta]; rfl] at hkd
  generalize Lib.join (r.map fun u => T h u i.data.toList) [44, 32] = Xr at hFE hLC
  have HJTE : (([⟨(T h a i.data.toList).toArray⟩, ⟨#[40]⟩, ⟨Xr.toArray⟩, ⟨#[41]⟩] : List ByteArray).map (·.data.toList)).flatten = T (h + 1) t i.data.toList := by rw [hFE]; simp
  have HJTL := hT
  rw [hop]
  have hopw : ∀ v : Value, Value.int .i64 t.op = v → v = .int .i64 15 := fun v e => by rw [← e, hop]
  clear hopw
  obtain ⟨w0, hw0⟩ : ∃ w0, w.alloc (.cells #[.int .i64 15, .string t.s, .int .i64 t.n, (.slice (some p) t.l.length c), .int .i64 t.line] 24) = w0 := ⟨_, rfl⟩
  obtain ⟨w1, hw1⟩ : ∃ w1, w0.alloc (.cells #[.string i] 9) = w1 := ⟨_, rfl⟩
  have bx0 : Blk5 w0 w.heap.size 15 t.s t.n (.slice (some p) t.l.length c) t.line := by rw [← hw0]; exact blk5_new _ _ _ _ _ _
  have hb0 : Below w.heap.size w w0 := by rw [← hw0]; exact (Below.refl _ _).alloc (Nat.le_refl _) _
  have hb1 : Below w0.heap.size w0 w1 := by rw [← hw1]; exact (Below.refl _ _).alloc (Nat.le_refl _) _
  have hm : w1.cell? ⟨w0.heap.size, 0, none⟩ = some (.string i) := by rw [← hw1]; exact cell_of_row _ _ 0 #[.string i] 9 (0, 0) (heap_alloc_new _ _)
  have bx := bx0.keep hb1
  have HB := Lib.hid (hb0.trans (hb1.mono hb0.size))
  have hhd : Held w1 w.heap.size w0.heap.size t (some p) c i := ⟨by rw [hop]; exact bx, hm⟩
  have HH := Lib.hid hhd
  have HL := Lib.hid (hl.below HB.out)
  have HK := Lib.hid (hk.below HB.out)
  have HJT : Hid (∀ (w9 : World), Below w1.heap.size w1 w9 → Calls Tryd.prog 75 #[.slice (some ⟨w9.heap.size, 0, none⟩) 4 4] (w9.alloc (.cells #[.string ⟨(T h a i.data.toList).toArray⟩, .string ⟨#[40]⟩, .string ⟨Xr.toArray⟩, .string ⟨#[41]⟩] 9)) fun e w' => e = .returned (.string ⟨(T (h + 1) t i.data.toList).toArray⟩) ∧ Below w1.heap.size w1 w') := Lib.hid fun w9 hb9 => by
    have hj := join_at w9 [⟨(T h a i.data.toList).toArray⟩, ⟨#[40]⟩, ⟨Xr.toArray⟩, ⟨#[41]⟩] (by simp) (by rw [HJTE]; exact HJTL)
    rw [HJTE] at hj
    exact hj.mono fun e w' (hq : _ ∧ _) => (⟨hq.1, hb9.trans (hq.2.mono hb9.size)⟩ : e = _ ∧ Below w1.heap.size w1 w')
  have HLI := Lib.hid (fun (w9 : World) (hb9 : Below w1.heap.size w1 w9) => (hLC w9 _ (HL.out.below hb9) ((hkd.below HB.out).below hb9)).mono fun e w' (hq : _ ∧ _) => (⟨hq.1, hb9.trans (hq.2.mono hb9.size)⟩ : e = _ ∧ Below w1.heap.size w1 w'))
  have HLN : Hid (r = [] → ∀ (w9 : World), Below w1.heap.size w1 w9 → Calls Tryd.prog 83 #[.slice (some p) 0 0, .string i] w9 fun e w' => e = .returned (.string ⟨Xr.toArray⟩) ∧ Below w1.heap.size w1 w') := Lib.hid (fun hr0 w9 hb9 => (hLC w9 _ (HL.out.below hb9) (by rw [hr0]; exact kids_void w9 d (some p) 0)).mono fun e w' (hq : _ ∧ _) => (⟨hq.1, hb9.trans (hq.2.mono hb9.size)⟩ : e = _ ∧ Below w1.heap.size w1 w'))
  have HAa := Lib.hid (fun (w9 : World) (hb9 : Below w1.heap.size w1 w9) => (at_calls w9 w.heap.size w0.heap.size t (some p) c i (HH.out.below hb9) (HL.out.below hb9) d (HK.out.below hb9) 0 a (by rw [hta]; rfl) h hca).mono fun e w' (hq : _ ∧ _) => (⟨hq.1, hb9.trans (hq.2.mono hb9.size)⟩ : e = _ ∧ Below w1.heap.size w1 w'))
  obtain ⟨m, hm⟩ : ∃ m, t.l.length = m + 1 := ⟨r.length, by rw [hta]; rfl⟩
  have hrm : r.length = m := by rw [hta] at hm; simpa using hm
  have SC : Hid (∀ (w9 : World), Below w1.heap.size w1 w9 → (w9.cell? ⟨w.heap.size, 3, none⟩ = some (.slice (some p) (m + 1) c) ∧ w9.cell? ⟨w0.heap.size, 0, none⟩ = some (.string i))) := Lib.hid fun w9 hb9 => ⟨by rw [← hm]; exact (HH.out.below hb9).node.c3, (HH.out.below hb9).margin⟩
  obtain ⟨c0, c1, c2, c3, c4⟩ := bx
  rw [hm] at c3 hw0 HLI hcap ⊢
  have hd0 : Below w1.heap.size w1 w1.drew := (Below.refl _ _).drew
  clear bx0 hb0 hb1 hl hk hhd hT HJTL hop hta HJTE hcr hca hFE hTF hLC hkd hlen hm HH
  generalize (T (h + 1) t i.data.toList) = Z at HJT ⊢
  generalize T h a i.data.toList = Xa at HJT HAa
  rw [show p.add (1 * 5) = ⟨p.block, p.off + 5, none⟩ from rfl, show m + 1 - 1 = m from rfl] at HLI
  by_cases hc1 : c = 1
  · subst hc1
    obtain rfl : m = 0 := by omega
    have HLO := Lib.hid (HLN.out (List.eq_nil_of_length_eq_zero hrm))
    clear HLN HLI hrm hcap
    go_enter Tryd.func51, Tryd.ntmps51
    go_wp2
    go_region_held3 (fun w9 => (w9.cell? ⟨w.heap.size, 3, none⟩ = some (.slice (some p) 1 1) ∧ w9.cell? ⟨w0.heap.size, 0, none⟩ = some (.string i))) (first
      | exact SC.out _ (by assumption)
      | go_keep) (first
      | (go_at_call 75; refine (HJT.out _ (by assumption)).mono ?_; rintro e wz ⟨rfl, hbz⟩)
      | (go_at_call 83; refine (HLO.out _ (by assumption)).mono ?_; rintro e wz ⟨rfl, hbz⟩)
      | (go_at_call 78; refine (HAa.out _ (by assumption)).mono ?_; rintro e wz ⟨rfl, hbz⟩))
    all_goals
      go_wp2
      go_ret
      exact ⟨rfl, HB.out.trans (Below.mono (by assumption) HB.out.size)⟩
  · clear HLN hrm
    have z1 : (1 : Int) ≤ (m : Int) + 1 := by omega
    have z2 : (m : Int) + 1 ≤ (c : Int) := by omega
    have z3 : 1 ≤ m + 1 := by omega
    have z4 : (0 : Int) < (m : Int) + 1 := by omega
    have z5 : (1 : Int) ≤ (c : Int) := by omega
    have z6 : 1 ≤ c := by omega
    go_enter Tryd.func51, Tryd.ntmps51
    go_wp2
    go_region_held3 (fun w9 => (w9.cell? ⟨w.heap.size, 3, none⟩ = some (.slice (some p) (m + 1) c) ∧ w9.cell? ⟨w0.heap.size, 0, none⟩ = some (.string i))) (first
      | exact SC.out _ (by assumption)
      | go_keep) (first
      | (go_at_call 75; refine (HJT.out _ (by assumption)).mono ?_; rintro e wz ⟨rfl, hbz⟩)
      | (go_at_call 83; refine (HLI.out _ (by assumption)).mono ?_; rintro e wz ⟨rfl, hbz⟩)
      | (go_at_call 78; refine (HAa.out _ (by assumption)).mono ?_; rintro e wz ⟨rfl, hbz⟩))
    all_goals
      go_wp2
      go_ret
      exact ⟨rfl, HB.out.trans (Below.mono (by assumption) HB.out.size)⟩

end Go.Proofs.YtcidccifnaecaaaDoor
