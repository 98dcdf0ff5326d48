/- The walk of JlexJoins: true. -/
import Derived.Test.YtcidccifnaecaaaDoorLexJ
namespace Go.Proofs.YtcidccifnaecaaaDoor
open Go.RowKit Go.Sort

/-- The tokens of two texts, parted by a line's end. -/
theorem lex_joins {s t : List UInt8} (hs : s.length ≤ 2000) (ht : t.length ≤ 2000) (h1 : (lexF s).2.2 = 0) (h2 : (lexF t).2.2 = 0) :
    (lexF (s ++ 10 :: t)).2.2 = 0 ∧ (lexF (s ++ 10 :: t)).1.map Tl.t = ((lexF s).1 ++ (lexF t).1).map Tl.t := by
  obtain ⟨a1, a2, _⟩ := lexF_toks (s := s) (by omega)
  obtain ⟨b1, b2, _⟩ := lexF_toks (s := t) (by omega)
  obtain ⟨c1, c2, _⟩ := lexF_toks (s := s ++ 10 :: t) (by simp; omega)
  rw [a1] at h1
  rw [b1] at h2
  have hj := toks_join s t (by rw [h1]; decide)
  rw [if_pos h1] at hj
  have hz : (toks (s ++ 10 :: t)).2 = 0 := by rw [hj]; exact h2
  refine ⟨c1.trans hz, ?_⟩
  rw [c2 hz, hj, List.map_append, a2 h1, b2 h2]

/-- A text's first so many bytes, as the law cuts it. -/
theorem cut_at (s : ByteArray) (n : Nat) : ∃ q : Nat, min (s.size : Int) (n : Int) = (q : Int) ∧ q ≤ s.size ∧ (s.extract 0 q).size ≤ n ∧ (s.extract 0 q).data.toList = s.data.toList.take n := by
  by_cases h : s.size ≤ n
  · refine ⟨s.size, by omega, Nat.le_refl _, by rw [ByteArray.size_extract]; omega, ?_⟩
    rw [extract_take, List.take_of_length_le (by rw [← size_len]; omega), List.take_of_length_le (by rw [← size_len]; omega)]
  · refine ⟨n, by omega, by omega, by rw [ByteArray.size_extract]; omega, extract_take s n⟩

theorem LexOut.open {w : World} {s : ByteArray} {e : Ending} {w' : World} (h : LexOut w s.data.toList e w') (hs : s.size ≤ 20000) :
    ∃ (toks : List Tl) (at0 : Nat) (e0 : Int) (A : Option Addr) (cap : Nat), lexF s.data.toList = (toks, at0, e0) ∧ e = .returned (.tuple #[.slice A toks.length cap, .int .i64 at0, .int .i64 e0]) ∧
      w'.ownsRow w.heap.size 45 5 (.slice A toks.length cap) toks.length (tlCells toks) ∧ Below w.heap.size w w' ∧ toks.length ≤ s.size := by
  obtain ⟨A, cap, h1, h2, h3⟩ := h
  have hl := lexF_len (s := s.data.toList) (by rw [← size_len]; exact hs)
  rw [← size_len] at hl
  exact ⟨_, _, _, A, cap, rfl, h1, h2, h3, hl⟩

set_option maxRecDepth 100000 in
set_option maxHeartbeats 4000000 in
theorem wjoins (w : World) (s : ByteArray) (_ : s.size ≤ maxLen) (t : ByteArray) (_ : t.size ≤ maxLen) (hl : LaidJ w) :
    Calls Tryd.prog 13 #[.string s, .string t] w fun e w' => e = .returned (.bool true) ∧ Below w.heap.size w w' := by
  have HL := Lib.hid hl
  obtain ⟨q1, hq1, hq1s, hz1, _⟩ := cut_at s 2000
  obtain ⟨q2, hq2, hq2s, hz2, _⟩ := cut_at t 2000
  replace hq1 : min (s.size : Int) 2000 = (q1 : Int) := hq1
  replace hq2 : min (t.size : Int) 2000 = (q2 : Int) := hq2
  obtain ⟨x, hx⟩ : ∃ x, s.extract 0 q1 = x := ⟨_, rfl⟩
  obtain ⟨y, hy⟩ : ∃ y, t.extract 0 q2 = y := ⟨_, rfl⟩
  rw [hx] at hz1
  rw [hy] at hz2
  have hj : (x ++ ⟨#[10]⟩ ++ y).data.toList = x.data.toList ++ 10 :: y.data.toList := by simp
  have hjs : (x ++ ⟨#[10]⟩ ++ y).size = x.size + 1 + y.size := by rw [ByteArray.size_append, ByteArray.size_append]; rfl
  obtain ⟨z, hz⟩ : ∃ z, x ++ ⟨#[10]⟩ ++ y = z := ⟨_, rfl⟩
  rw [hz] at hj hjs
  have hlj := lex_joins (s := x.data.toList) (t := y.data.toList) (by rw [← size_len]; exact hz1) (by rw [← size_len]; exact hz2)
  rw [← hj] at hlj
  have HLJ := Lib.hid hlj
  have hzs : z.size ≤ 4001 := by omega
  have HX := Lib.hid (fun w9 (h9 : LaidJ w9) => lex_calls w9 h9 x (by unfold maxLen; omega))
  have HY := Lib.hid (fun w9 (h9 : LaidJ w9) => lex_calls w9 h9 y (by unfold maxLen; omega))
  have HZ := Lib.hid (fun w9 (h9 : LaidJ w9) => lex_calls w9 h9 z (by unfold maxLen; omega))
  clear hl hlj hj hjs
  have k1 : ¬ 9223372036854775807 < x.size + 1 := by omega
  have k2 : ¬ 9223372036854775807 < x.size + 1 + y.size := by omega
  go_enter Tryd.func13, Tryd.ntmps13
  go_wp2_with fail
  refine (shownJ_calls w HL.out).mono ?_
  rintro e w1 ⟨rfl, hb1⟩
  have HB1 := Lib.hid hb1
  clear hb1
  go_wp2_with fail
  refine (HX.out w1 (HL.out.below HB1.out)).mono ?_
  rintro e w2 h2
  obtain ⟨ps, pa, pe, A1, c1, hlx, rfl, hown1, hb2, hpl⟩ := h2.open (by omega)
  have HB2 := Lib.hid (HB1.out.trans (hb2.mono HB1.out.size))
  have HO1 := Lib.hid hown1
  clear hb2 h2 hown1
  go_wp2_with fail
  refine (HY.out w2 (HL.out.below HB2.out)).mono ?_
  rintro e w3 h3
  obtain ⟨qs, qa, qe, A2, c2, hly, rfl, hown2, hb3, hql⟩ := h3.open (by omega)
  have HB3 := Lib.hid (HB2.out.trans (hb3.mono HB2.out.size))
  have HO2 := Lib.hid hown2
  have HO1' := Lib.hid (own_keep HO1.out (fun k hk => hb3.block k (HO1.out.lt k hk).2))
  clear hb3 h3 hown2 HO1
  go_wp2_with fail
  refine (HZ.out w3 (HL.out.below HB3.out)).mono ?_
  rintro e w4 h4
  obtain ⟨rs, ra, re, A3, c3, hlz, rfl, hown3, hb4, hrl⟩ := h4.open (by omega)
  have HB4 := Lib.hid (HB3.out.trans (hb4.mono HB3.out.size))
  have HO3 := Lib.hid hown3
  have HO1 := Lib.hid (own_keep HO1'.out (fun k hk => hb4.block k (HO1'.out.lt k hk).2))
  have HO2' := Lib.hid (own_keep HO2.out (fun k hk => hb4.block k (HO2.out.lt k hk).2))
  clear hb4 h4 hown3 HO1' HO2
  rw [hlx, hly, hlz] at HLJ
  cases hpe : (pe == 0) with
  | false =>
    have hp0 : ¬ pe = 0 := by simpa using hpe
    go_wp2
    go_ret
    exact ⟨rfl, HB4.out⟩
  | true =>
    obtain rfl : pe = 0 := by simpa using hpe
    cases hqe : (qe == 0) with
    | false =>
      have hq0 : ¬ qe = 0 := by simpa using hqe
      go_wp2
      go_ret
      exact ⟨rfl, HB4.out⟩
    | true =>
      obtain rfl : qe = 0 := by simpa using hqe
      obtain ⟨hre, hal⟩ := HLJ.out rfl rfl
      obtain rfl : re = 0 := hre
      have HAL : Hid (rs.map Tl.t = (ps ++ qs).map Tl.t) := Lib.hid hal
      have hpl2 : ps.length ≤ 2000 := by omega
      have hql2 : qs.length ≤ 2000 := by omega
      have hrl2 : rs.length ≤ 1000000 := by omega
      obtain ⟨i0, hi, hz0, hz3, hz4⟩ := info_parts info_tok
      clear hpe hqe hal hlx hly hlz HLJ hx hy hz
      have hbase : w.heap.size ≤ w4.heap.size := HB4.out.size
      go_wp2_with (refine wpList_guarded_make (by rfl) _ _ 38 rfl w4.heap.size 45 i0 _ 5 Tryd.underlying38 hi hz0 hz3 .i64 .i64 ((ps.length : Int) + (qs.length : Int)) (ps.length + qs.length) (by rfl) (by rfl) (by omega) ?mb ?ml (Nat.le_refl _) ?_)
      case mb => rw [hz4]; omega
      case ml => simp only [maxLen]; omega
      intro w5 hown5 hg5
      have hb5 : Below w4.heap.size w4 w5 := ⟨hg5.os, hg5.tape, hg5.output, hg5.size, fun k hk => hg5.block k hk (by simp)⟩
      have l1 : ∀ k, (Value.slice A1 ps.length c1).ownBlock = some k → k < w4.heap.size := fun k hk => (HO1.out.lt k hk).2
      have l2 : ∀ k, (Value.slice A2 qs.length c2).ownBlock = some k → k < w4.heap.size := fun k hk => (HO2'.out.lt k hk).2
      have l3 : ∀ k, (Value.slice A3 rs.length c3).ownBlock = some k → k < w4.heap.size := fun k hk => (HO3.out.lt k hk).2
      obtain ⟨w6, hr6, hown6, hg6⟩ := app_row 38 hown5 (own_keep HO1.out (fun k hk => hb5.block k (l1 k hk))) (by omega)
      have hb6 : Below w4.heap.size w4 w6 := hb5.grown hg6 hb5.size (fun k e => by injection e with e; omega)
      obtain ⟨w7, hr7, hown7, hg7⟩ := app_row 38 hown6 (own_keep HO2'.out (fun k hk => hb6.block k (l2 k hk))) (by omega)
      have hb7 : Below w4.heap.size w4 w7 := hb6.grown hg7 hb6.size (fun k e => by injection e with e; omega)
      rw [Nat.zero_add] at hr6 hr7 hown7
      rw [List.nil_append, ← tlCells_append] at hown7
      have HAK := Lib.hid (alike_calls w7 (own_keep HO3.out (fun k hk => hb7.block k (l3 k hk))) rfl hown7 (by simp) HAL.out hrl2)
      have HB7 := Lib.hid (HB4.out.trans (hb7.mono HB4.out.size))
      clear hown5 hg5 hb5 hown6 hg6 hb6 hown7 hg7 hb7 l1 l2 l3 hi hz0 hz3 hz4
      go_wp2_with (at_builtin; first
        | refine wpList_guarded_append (by rfl) _ _ 38 rfl _ _ rfl rfl hr6 ?_
        | refine wpList_guarded_append (by rfl) _ _ 38 rfl _ _ rfl rfl hr7 ?_)
      refine HAK.out.mono ?_
      rintro e w8 ⟨rfl, hb8⟩
      have HB8 := Lib.hid (HB7.out.trans (hb8.mono HB7.out.size))
      clear hb8
      go_wp2
      go_ret
      exact ⟨rfl, HB8.out⟩

end Go.Proofs.YtcidccifnaecaaaDoor
