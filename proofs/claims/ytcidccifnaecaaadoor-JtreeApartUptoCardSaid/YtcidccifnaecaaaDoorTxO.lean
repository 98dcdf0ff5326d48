/- The text of an object: walked. -/
import Derived.Test.YtcidccifnaecaaaDoorTxV
import Derived.Deep.AppendLies
namespace Go.Proofs.YtcidccifnaecaaaDoor
open Go.RowKit Go.Sort

theorem mem_join : ∀ {ts : List (List UInt8)} {x : List UInt8}, x ∈ ts → x.length ≤ (Lib.join ts [44, 32]).length
  | [], x, h => by simp at h
  | [y], x, h => by
    obtain rfl : x = y := by simpa using h
    simp [Lib.join, List.intercalate]
  | y :: z :: l, x, h => by
    have e : Lib.join (y :: z :: l) [44, 32] = y ++ [44, 32] ++ Lib.join (z :: l) [44, 32] := by simp [Lib.join, List.intercalate]
    rw [e]
    simp only [List.length_append]
    rcases List.mem_cons.1 h with rfl | h
    · omega
    · have := mem_join h
      omega

set_option maxRecDepth 100000 in
set_option maxHeartbeats 4000000 in
theorem text_11 (h : Nat) (t : Tree) (i : ByteArray) (hop : t.op = 11) (hc : ∀ u, u ∈ t.l → u.op = 12 ∧ u.s.size ≤ maxLen ∧ ∃ x, u.l = [x] ∧ ExprT h x i) (hN : t.l.length ≤ 1000) (hT : (T (h + 1 + 1) t i.data.toList).length ≤ 140737488355328) : ExprT (h + 1 + 1) t i := by
  intro d w sl hl hk
  obtain ⟨hlen, A, c, rfl⟩ := hk.form
  unfold maxLen at hlen
  have hFE : T (h + 1 + 1) t i.data.toList = [40, 123] ++ Lib.join (t.l.map fun u => T (h + 1) u i.data.toList) [44, 32] ++ [125, 41] := by
    rw [T, stepT]
    simp [hop]
  have hTF : (Lib.join (t.l.map fun u => T (h + 1) u i.data.toList) [44, 32]).length ≤ 140737488355328 := by
    rw [hFE] at hT
    simp only [List.length_append] at hT
    omega
  have HTF := Lib.hid hTF
  have HC := Lib.hid hc
  have HJTE : (([⟨#[40, 123]⟩, ⟨(Lib.join (t.l.map fun u => T (h + 1) u i.data.toList) [44, 32]).toArray⟩, ⟨#[125, 41]⟩] : List ByteArray).map (·.data.toList)).flatten = T (h + 1 + 1) t i.data.toList := by rw [hFE]; simp
  have HJT := Lib.hid (fun w9 : World => join_at w9 [⟨#[40, 123]⟩, ⟨(Lib.join (t.l.map fun u => T (h + 1) u i.data.toList) [44, 32]).toArray⟩, ⟨#[125, 41]⟩] (by simp) (by rw [HJTE]; exact hT))
  rw [HJTE] at HJT
  obtain ⟨i0, hi, hz0, hz1, hz2⟩ := info_parts info_strT
  have HI := Lib.hid (And.intro hi (And.intro hz0 (And.intro hz1 hz2)))
  rw [hop]
  have hopw : ∀ v : Value, Value.int .i64 t.op = v → v = .int .i64 11 := fun v e => by rw [← e, hop]
  clear hopw
  obtain ⟨w0, hw0⟩ : ∃ w0, w.alloc (.cells #[.int .i64 11, .string t.s, .int .i64 t.n, .slice A t.l.length c, .int .i64 t.line] 24) = w0 := ⟨_, rfl⟩
  obtain ⟨w1, hw1⟩ : ∃ w1, w0.alloc (.cells #[.string i] 9) = w1 := ⟨_, rfl⟩
  have bx0 : Blk5 w0 w.heap.size 11 t.s t.n (.slice A t.l.length c) t.line := by rw [← hw0]; exact blk5_new _ _ _ _ _ _
  have hb0 : Below w.heap.size w w0 := by rw [← hw0]; exact (Below.refl _ _).alloc (Nat.le_refl _) _
  have hb1 : Below w0.heap.size w0 w1 := by rw [← hw1]; exact (Below.refl _ _).alloc (Nat.le_refl _) _
  have hm : w1.cell? ⟨w0.heap.size, 0, none⟩ = some (.string i) := by rw [← hw1]; exact cell_of_row _ _ 0 #[.string i] 9 (0, 0) (heap_alloc_new _ _)
  have bx := bx0.keep hb1
  have HB := Lib.hid (hb0.trans (hb1.mono hb0.size))
  have hhd : Held w1 w.heap.size w0.heap.size t A c i := ⟨by rw [hop]; exact bx, hm⟩
  have HH := Lib.hid hhd
  have HL := Lib.hid (hl.below HB.out)
  have HK := Lib.hid (hk.below HB.out)
  obtain ⟨c0, c1, c2, c3, c4⟩ := bx
  have HNN := Lib.hid hN
  clear bx0 hb0 hb1 hl hk hhd hT hop hc hFE hTF HJTE hi hz0 hz1 hz2
  generalize T (h + 1 + 1) t i.data.toList = Z at HJT ⊢
  go_enter Tryd.func51, Tryd.ntmps51
  go_wp2
  clear c0 c1 c2 c3 c4
  go_loopw [7, 63] (fun v n wr => ∃ k : Nat, k ≤ t.l.length ∧ n = .int .i64 k ∧ wr.ownsRow w1.heap.size 9 1 v k ((t.l.map fun u => Value.string ⟨(T (h + 1) u i.data.toList).toArray⟩).take k) ∧ Below w1.heap.size w1 wr) (fun _ n _ => t.l.length - (intOf n).toNat)
  case atStart => exact ⟨0, by omega, rfl, World.ownsRow_nil _ _ _ _, Below.refl _ _⟩
  case round =>
    obtain ⟨k, hkl, rfl, hown, hb⟩ := hrel
    obtain ⟨A1, c1, rfl⟩ := own_slice hown
    have HO := Lib.hid hown
    have HBW := Lib.hid hb
    clear hown hb
    by_cases hlt : k < t.l.length
    · have hu : t.l[k]? = some t.l[k] := List.getElem?_eq_getElem hlt
      generalize t.l[k] = u at hu
      obtain ⟨p, su, d1, hd1, rfl, hpu, hku, _⟩ := HK.out.at_ hu
      obtain ⟨_, A3, c3, rfl⟩ := hku.form
      obtain ⟨hu12, hus, x, hux, hcx⟩ := HC.out u (List.mem_of_getElem? hu)
      obtain ⟨px, sx, d2, _, rfl, hpx, hkx, _⟩ := hku.at_ (show u.l[0]? = some x by rw [hux]; rfl)
      rw [show px.add (0 * 5) = px from rfl] at hpx
      obtain ⟨_, A4, c4, rfl⟩ := hkx.form
      have hul : u.l.length = 1 := by rw [hux]; rfl
      rw [hul] at hpu hku
      have hTU : T (h + 1) u i.data.toList = quoteL u.s.data.toList ++ [58, 32] ++ T h x i.data.toList := by
        rw [T, stepT]
        simp [hu12, hux]
      have hTL : (T (h + 1) u i.data.toList).length ≤ 140737488355328 := Nat.le_trans (mem_join (List.mem_map.2 ⟨u, List.mem_of_getElem? hu, rfl⟩)) HTF.out
      have HNX : Hid ((t.l.map (fun u => Value.string ⟨(T (h + 1) u i.data.toList).toArray⟩)).take (k + 1) = (t.l.map (fun u => Value.string ⟨(T (h + 1) u i.data.toList).toArray⟩)).take k ++ [Value.string ⟨(T (h + 1) u i.data.toList).toArray⟩]) := Lib.hid (by
        rw [List.take_add_one, List.getElem?_map, hu]; rfl)
      have HQ := Lib.hid (fun (w8 w9 : World) (hb9 : Below w8.heap.size w8 w9) => (quote_calls w9 u.s (by rw [hTU] at hTL; simp only [List.length_append] at hTL; omega) hus).mono fun e w' (hq : _ ∧ _) => (⟨hq.1, hb9.trans (hq.2.mono hb9.size)⟩ : e = _ ∧ Below w8.heap.size w8 w'))
      have HX := Lib.hid (fun (w8 : World) (hb8 : Below w1.heap.size w1 w8) (w9 : World) (hb9 : Below w8.heap.size w8 w9) => (hcx d2 w9 _ (HL.out.below (hb8.trans (hb9.mono hb8.size))) (hkx.below (hb8.trans (hb9.mono hb8.size)))).mono fun e w' (hq : _ ∧ _) => (⟨hq.1, hb9.trans (hq.2.mono hb9.size)⟩ : e = _ ∧ Below w8.heap.size w8 w'))
      have hJE : (([⟨(quoteL u.s.data.toList).toArray⟩, ⟨#[58, 32]⟩, ⟨(T h x i.data.toList).toArray⟩] : List ByteArray).map (·.data.toList)).flatten = T (h + 1) u i.data.toList := by rw [hTU]; simp
      have HJ : Hid (∀ (w8 w9 : World), Below w8.heap.size w8 w9 → Calls Tryd.prog 75 #[.slice (some ⟨w9.heap.size, 0, none⟩) 3 3] (w9.alloc (.cells #[.string ⟨(quoteL u.s.data.toList).toArray⟩, .string ⟨#[58, 32]⟩, .string ⟨(T h x i.data.toList).toArray⟩] 9)) fun e w' => e = .returned (.string ⟨(T (h + 1) u i.data.toList).toArray⟩) ∧ Below w8.heap.size w8 w') := Lib.hid fun w8 w9 hb9 => by
        have hj := join_at w9 [⟨(quoteL u.s.data.toList).toArray⟩, ⟨#[58, 32]⟩, ⟨(T h x i.data.toList).toArray⟩] (by simp) (by rw [hJE]; exact hTL)
        rw [hJE] at hj
        exact hj.mono fun e w' (hq : _ ∧ _) => (⟨hq.1, hb9.trans (hq.2.mono hb9.size)⟩ : e = _ ∧ Below w8.heap.size w8 w')
      have HPX := Lib.hid hpx
      have hpl : px.block < w1.heap.size := World.block_lt_of_cell? _ _ hpx.c0
      have hml : w0.heap.size < w1.heap.size := World.block_lt_of_cell? _ _ HH.out.margin
      have HPL := Lib.hid hpl
      have HML := Lib.hid hml
      obtain ⟨a0, a1, a2, a3, a4⟩ := hpu.below HBW.out
      clear hu hpu hku hpx hkx hcx hTU hTL hJE hus hu12 hux hul hpl hml
      go_wp2_with fail
      have hb8 : Below wr.heap.size wr (wr.alloc (.cells #[.int .i64 u.op, .string u.s, .int .i64 u.n, .slice (some px) 1 c3, .int .i64 u.line] 24)) := (Below.refl _ _).alloc (Nat.le_refl _) _
      have hO8 : (wr.alloc (.cells #[.int .i64 u.op, .string u.s, .int .i64 u.n, .slice (some px) 1 c3, .int .i64 u.line] 24)).ownsRow w1.heap.size 9 1 (.slice A1 k c1) k ((t.l.map fun u => Value.string ⟨(T (h + 1) u i.data.toList).toArray⟩).take k) := HO.out.alloc _
      have hx8 := blk5_new wr u.op u.s u.n (.slice (some px) 1 c3) u.line
      generalize wr.alloc (.cells #[.int .i64 u.op, .string u.s, .int .i64 u.n, .slice (some px) 1 c3, .int .i64 u.line] 24) = w8 at hb8 hO8 hx8 ⊢
      have hbe : Below w1.heap.size w1 w8 := HBW.out.trans (hb8.mono HBW.out.size)
      have HB8 := Lib.hid hbe
      have HO8 := Lib.hid hO8
      have HX8 := Lib.hid hx8
      have HQ8 := Lib.hid (HQ.out w8)
      have HC8 := Lib.hid (HX.out w8 hbe)
      have HJ8 := Lib.hid (HJ.out w8)
      have hgl : ∀ g, (Value.slice A1 k c1).ownBlock = some g → w1.heap.size ≤ g ∧ g < wr.heap.size := fun g hg => HO.out.lt g hg
      have HGL := Lib.hid hgl
      have SC : Hid (∀ (w9 : World), Below w8.heap.size w8 w9 → (w9.cell? ⟨wr.heap.size, 1, none⟩ = some (.string u.s) ∧ w9.cell? ⟨wr.heap.size, 3, none⟩ = some (.slice (some px) 1 c3) ∧ w9.cell? ⟨w0.heap.size, 0, none⟩ = some (.string i) ∧ w9.cell? px = some (.int .i64 x.op) ∧ w9.cell? ⟨px.block, px.off + 1, none⟩ = some (.string x.s) ∧ w9.cell? ⟨px.block, px.off + 2, none⟩ = some (.int .i64 x.n) ∧ w9.cell? ⟨px.block, px.off + 3, none⟩ = some (.slice A4 x.l.length c4) ∧ w9.cell? ⟨px.block, px.off + 4, none⟩ = some (.int .i64 x.line))) := Lib.hid fun w9 hb9 =>
        have b9 := hbe.trans (hb9.mono hbe.size)
        ⟨(HX8.out.keep hb9).c1, (HX8.out.keep hb9).c3, (HH.out.below b9).margin, (HPX.out.below b9).c0, (HPX.out.below b9).c1, (HPX.out.below b9).c2, (HPX.out.below b9).c3, (HPX.out.below b9).c4⟩
      have S5 : Hid (∀ (wj : World), Below w8.heap.size w8 wj → ∀ w5, (wj.alloc (.cells #[.string ⟨(T (h + 1) u i.data.toList).toArray⟩] 9)).grownBy w5 (Value.slice A1 k c1).ownBlock → (w5.cell? ⟨wr.heap.size, 1, none⟩ = some (.string u.s) ∧ w5.cell? ⟨wr.heap.size, 3, none⟩ = some (.slice (some px) 1 c3) ∧ w5.cell? ⟨w0.heap.size, 0, none⟩ = some (.string i) ∧ w5.cell? px = some (.int .i64 x.op) ∧ w5.cell? ⟨px.block, px.off + 1, none⟩ = some (.string x.s) ∧ w5.cell? ⟨px.block, px.off + 2, none⟩ = some (.int .i64 x.n) ∧ w5.cell? ⟨px.block, px.off + 3, none⟩ = some (.slice A4 x.l.length c4) ∧ w5.cell? ⟨px.block, px.off + 4, none⟩ = some (.int .i64 x.line))) := Lib.hid fun wj hbj w5 hg5 => by
        obtain ⟨q0, q1, q2, q3, q4, q5, q6, q7⟩ := SC.out _ (hbj.alloc hbj.size (.cells #[.string ⟨(T (h + 1) u i.data.toList).toArray⟩] 9))
        have far : ∀ {g j v}, (wj.alloc (.cells #[.string ⟨(T (h + 1) u i.data.toList).toArray⟩] 9)).cell? ⟨g, j, none⟩ = some v → (g < w1.heap.size ∨ wr.heap.size ≤ g) → w5.cell? ⟨g, j, none⟩ = some v := fun {g j v} hc hg => hg5.cell hc (fun e => by have := HGL.out g e.symm; omega)
        have hp : px = ⟨px.block, px.off, none⟩ ∨ True := .inr trivial
        refine ⟨far q0 (.inr (Nat.le_refl _)), far q1 (.inr (Nat.le_refl _)), far q2 (.inl HML.out), ?_, far q4 (.inl HPL.out), far q5 (.inl HPL.out), far q6 (.inl HPL.out), far q7 (.inl HPL.out)⟩
        exact hg5.cell q3 (fun e => by have := HGL.out _ e.symm; have := HPL.out; omega)
      have hd0 : Below w8.heap.size w8 w8.drew := (Below.refl _ _).drew
      have hsz8 : w1.heap.size ≤ w8.heap.size := hbe.size
      have hwr8 : wr.heap.size < w8.heap.size := World.block_lt_of_cell? _ _ hx8.c0
      have hNk := HNN.out
      obtain ⟨e0, e1, e2, e3, e4⟩ := hx8
      clear hb8 hO8 hbe hgl a0 a1 a2 a3 a4 HQ HX HJ
      generalize (T (h + 1) u i.data.toList) = Y at HJ8 HNX S5
      generalize T h x i.data.toList = Yx at HJ8 HC8
      generalize quoteL u.s.data.toList = Yq at HJ8 HQ8
      go_region_held3 (fun w9 => (w9.cell? ⟨wr.heap.size, 1, none⟩ = some (.string u.s) ∧ w9.cell? ⟨wr.heap.size, 3, none⟩ = some (.slice (some px) 1 c3) ∧ w9.cell? ⟨w0.heap.size, 0, none⟩ = some (.string i) ∧ w9.cell? px = some (.int .i64 x.op) ∧ w9.cell? ⟨px.block, px.off + 1, none⟩ = some (.string x.s) ∧ w9.cell? ⟨px.block, px.off + 2, none⟩ = some (.int .i64 x.n) ∧ w9.cell? ⟨px.block, px.off + 3, none⟩ = some (.slice A4 x.l.length c4) ∧ w9.cell? ⟨px.block, px.off + 4, none⟩ = some (.int .i64 x.line))) (first
        | exact SC.out _ (by assumption)
        | exact s5
        | go_keep) (first
        | (refine step_append_lies _ (by rfl) _ _ _ (by rfl) w1.heap.size 9 i0 _ 1 16 Tryd.underlying85 HI.out.1 HI.out.2.1 HI.out.2.2.1 HI.out.2.2.2 rfl (by decide) (.slice A1 k c1) k _ (by rfl) (by exact (hOj.alloc _)) ⟨wj.heap.size, 0, none⟩ 1 1 [.string ⟨Y.toArray⟩] (by rfl) (by rfl) (World.news_of_block (cs := #[.string ⟨Y.toArray⟩]) (t := 9) (fr := (0, 0)) (by exact Blk.new wj _ _)) (by simp [Value.oneCell']) (by omega) (by simp only [maxLen]; omega) (by omega) (by simp; omega) (wj.heap.size + 1) (by simp) ?_; intro gk cap1 w5 hown1 hgrow1 hat1 hlt1; have s5 := S5.out wj hbj w5 hgrow1)
        | (go_at_call 75; refine (HJ8.out _ (by assumption)).mono ?_; rintro e wj ⟨rfl, hbj⟩; have hOj := own_keep HO8.out (fun g hg => hbj.block g (HO8.out.lt g hg).2); have hszj := hbj.size)
        | (go_at_call 39; refine (HQ8.out _ (by assumption)).mono ?_; rintro e wz ⟨rfl, hbz⟩)
        | (go_at_call 51; refine (HC8.out _ (by assumption)).mono ?_; rintro e wz ⟨rfl, hbz⟩))
      all_goals
        rw [← HNX.out] at hown1
        have HO5 := Lib.hid hown1
        have HB5 := Lib.hid (((HB8.out.trans (hbj.mono HB8.out.size)).alloc (by omega) _).grown hgrow1 (by simp; omega) (fun g hg => (HGL.out g hg).1))
        clear hown1 hgrow1 s5
        go_wp2
        go_roundw
        case rel => exact ⟨k + 1, by omega, by go_num, HO5.out, HB5.out⟩
        case measure => simp [intOf]; omega
    · obtain rfl : k = t.l.length := by omega
      have hdd : decide ((t.l.length : Int) < (t.l.length : Int)) = false := by simp
      have hO := HO.out
      rw [List.take_of_length_le (by rw [List.length_map]; exact Nat.le_refl _)] at hO
      have hm : (t.l.map fun u => Value.string ⟨(T (h + 1) u i.data.toList).toArray⟩) = (t.l.map fun u => (⟨(T (h + 1) u i.data.toList).toArray⟩ : ByteArray)).map Value.string := by rw [List.map_map]; rfl
      have hm2 : (t.l.map fun u => (⟨(T (h + 1) u i.data.toList).toArray⟩ : ByteArray)).map (·.data.toList) = t.l.map fun u => T (h + 1) u i.data.toList := by rw [List.map_map]; rfl
      have hJ := join_row (w := wr) (B := w1.heap.size) (v := .slice A1 t.l.length c1) (xs := t.l.map fun u => (⟨(T (h + 1) u i.data.toList).toArray⟩ : ByteArray)) (by rw [List.length_map, ← hm]; exact hO) ⟨#[44, 32]⟩ (by rw [hm2]; exact HTF.out) (by rw [List.length_map]; exact Nat.le_trans HNN.out (by decide))
      rw [hm2] at hJ
      have HJ := Lib.hid hJ
      clear hJ hm hm2 hO
      go_wp2_with (first
        | (go_at_call 75; refine (HJT.out _).mono ?_; rintro e w5 ⟨rfl, hb⟩; have HB5 := Lib.hid (HB3.out.trans (hb.mono HB3.out.size)); clear hb)
        | (go_at_call 82; refine HJ.out.mono ?_; rintro e w3 ⟨rfl, hb3⟩; have HB3 := Lib.hid (HBW.out.trans (hb3.mono HBW.out.size)); clear hb3))
      go_ret
      exact ⟨rfl, HB.out.trans (HB5.out.mono HB.out.size)⟩

end Go.Proofs.YtcidccifnaecaaaDoor
