/- A token: walked. -/
import Derived.Test.YtcidccifnaecaaaDoorLexG
import Derived.Test.YtcidccifnaecaaaDoorNames
namespace Go.Proofs.YtcidccifnaecaaaDoor
open Go.RowKit Go.Sort

theorem tokF_letter {c : UInt8} {r : List UInt8} (h : letterB c = true) : tokenF (c :: r) = (⟨if wordB ((c :: r).take (namesB (c :: r))) then 2 else 1, (c :: r).take (namesB (c :: r)), 0⟩, namesB (c :: r), 0) := by
  simp only [tokenF, h, if_true]
theorem tokF_digit {c : UInt8} {r : List UInt8} (h : letterB c = false) (h2 : digitB8 c = true) : tokenF (c :: r) = numberF (c :: r) := by
  simp only [tokenF, h, h2, if_true, Bool.false_eq_true, if_false]
theorem tokF_quote {c : UInt8} {r : List UInt8} (h : letterB c = false) (h2 : digitB8 c = false) (h3 : c = 34 ∨ c = 39) : tokenF (c :: r) = match quotedF c r.length r with
      | none => (.zero, 0, 22)
      | some p => (⟨4, p.1, 0⟩, p.2 + 1, 0) := by
  simp only [tokenF, h, h2, if_pos h3, Bool.false_eq_true, if_false]
  rfl
theorem tokF_sign {c : UInt8} {r : List UInt8} (h : letterB c = false) (h2 : digitB8 c = false) (h3 : ¬ (c = 34 ∨ c = 39)) : tokenF (c :: r) =
    if beginsF (c :: r) signs5 = 0 then (if signs1.contains c then (⟨5, (c :: r).take 1, 0⟩, 1, 0) else (.zero, 0, 21)) else (⟨5, (c :: r).take (beginsF (c :: r) signs5), 0⟩, beginsF (c :: r) signs5, 0) := by
  simp only [tokenF, h, h2, if_neg h3, Bool.false_eq_true, if_false]

set_option maxRecDepth 100000 in
set_option maxHeartbeats 2000000 in
theorem token_calls (w : World) (hlaid : Laid w) (s : ByteArray) (hs : s.size ≤ 1000000) (h0 : 0 < s.size) :
    Calls Tryd.prog 90 #[.string s] w fun e w' => e = tokOut (tokenF s.data.toList) ∧ Below w.heap.size w w' := by
  obtain ⟨w0, hw0⟩ : ∃ w0, w.alloc (.cells #[.int .i64 0, .string ⟨#[]⟩, .int .i64 0, .int .i64 0, .bool false] 45) = w0 := ⟨_, rfl⟩
  have hb0 : Below w.heap.size w w0 := by rw [← hw0]; exact (Below.refl _ _).alloc (Nat.le_refl _) _
  have hx0 : Blk w0 w.heap.size 45 #[.int .i64 0, .string ⟨#[]⟩, .int .i64 0, .int .i64 0, .bool false] := by rw [← hw0]; exact Blk.new _ _ _
  have HB0 := Lib.hid hb0
  have HX0 := Lib.hid hx0
  have HLD := Lib.hid (hlaid.below hb0)
  clear hb0 hx0 hlaid
  obtain ⟨c, r, hl⟩ : ∃ c r, s.data.toList = c :: r := by
    cases hl : s.data.toList with
    | nil => rw [size_len, hl] at h0; simp at h0
    | cons c r => exact ⟨c, r, rfl⟩
  have hc0 : s[0] = c := byte_at h0 (by rw [hl]; rfl)
  have HL := Lib.hid hl
  rw [hl]
  clear hl
  have hlet : letterI (c.toNat : Int) = letterB c := rfl
  have hdig : digitI (c.toNat : Int) = digitB8 c := rfl
  have HS : Hid (∀ w9 v0 v1 v2 v3 v4, Below w0.heap.size w0 w9 → Blk w9 w.heap.size 45 #[.int .i64 0, .string ⟨#[]⟩, .int .i64 0, .int .i64 0, .bool false] →
      Below w.heap.size w (((((w9.setCell ⟨w.heap.size, 0, none⟩ v0).setCell ⟨w.heap.size, 1, none⟩ v1).setCell ⟨w.heap.size, 2, none⟩ v2).setCell ⟨w.heap.size, 3, none⟩ v3).setCell ⟨w.heap.size, 4, none⟩ v4)) :=
    Lib.hid fun w9 v0 v1 v2 v3 v4 hb9 hx9 => HB0.out.trans ((hb9.mono HB0.out.size).trans ((tok_put hx9 v0 v1 v2 v3 v4).2.below (Nat.le_trans HB0.out.size hb9.size) (fun k e => by omega)))
  cases hL : letterB c with
  | true =>
    rw [hL] at hlet
    have hTF := tokF_letter (r := r) hL
    have hnl := tw_le partB8 (c :: r)
    have HNM := Lib.hid (names_calls w0 s (by unfold maxLen; omega))
    rw [HL.out] at HNM
    unfold namesB at hTF HNM
    generalize ((c :: r).takeWhile partB8).length = n at hTF HNM hnl
    have hns : n ≤ s.size := by rw [size_len, HL.out]; exact hnl
    have HW := Lib.hid (isWord_calls w0 HLD.out (s.extract 0 n) (by rw [ByteArray.size_extract]; unfold maxLen; omega))
    rw [extract_take, HL.out] at HW
    have HT := Lib.hid (take_bytes s n)
    rw [HL.out] at HT
    cases hw : wordB ((c :: r).take n) with
    | true =>
      rw [hw] at hTF HW
      have HTF := Lib.hid hTF
      clear hTF hw hL hdig hnl
      go_enter Tryd.func90, Tryd.ntmps90
      go_wp2_with (first
        | (go_at_call 56; refine (isLetter_calls _ _).mono ?_; rintro e w' ⟨rfl, rfl⟩)
        | (go_at_call 57; refine HNM.out.mono ?_; rintro e w' ⟨rfl, rfl⟩))
      refine HW.out.mono ?_
      rintro e w9 ⟨rfl, hb9⟩
      have HB9 := Lib.hid hb9
      have HX9 := Lib.hid (HX0.out.keep (hb9.block _ HX0.out.lt))
      clear hb9
      have c0 := HX9.out.cell 0
      have c1 := HX9.out.cell 1
      have c2 := HX9.out.cell 2
      have c3 := HX9.out.cell 3
      have c4 := HX9.out.cell 4
      have f0 := HX9.out.frozen 0
      have f1 := HX9.out.frozen 1
      have f2 := HX9.out.frozen 2
      have f3 := HX9.out.frozen 3
      have f4 := HX9.out.frozen 4
      go_wp2
      refine tok_ret rfl rfl (tok_put HX9.out _ _ _ _ _).1 ⟨by rw [HTF.out, HT.out]; rfl, HS.out _ _ _ _ _ _ HB9.out HX9.out⟩
    | false =>
      rw [hw] at hTF HW
      have HTF := Lib.hid hTF
      clear hTF hw hL hdig hnl
      go_enter Tryd.func90, Tryd.ntmps90
      go_wp2_with (first
        | (go_at_call 56; refine (isLetter_calls _ _).mono ?_; rintro e w' ⟨rfl, rfl⟩)
        | (go_at_call 57; refine HNM.out.mono ?_; rintro e w' ⟨rfl, rfl⟩))
      refine HW.out.mono ?_
      rintro e w9 ⟨rfl, hb9⟩
      have HB9 := Lib.hid hb9
      have HX9 := Lib.hid (HX0.out.keep (hb9.block _ HX0.out.lt))
      clear hb9
      have c0 := HX9.out.cell 0
      have c1 := HX9.out.cell 1
      have c2 := HX9.out.cell 2
      have c3 := HX9.out.cell 3
      have c4 := HX9.out.cell 4
      have f0 := HX9.out.frozen 0
      have f1 := HX9.out.frozen 1
      have f2 := HX9.out.frozen 2
      have f3 := HX9.out.frozen 3
      have f4 := HX9.out.frozen 4
      go_wp2
      refine tok_ret rfl rfl (tok_put HX9.out _ _ _ _ _).1 ⟨by rw [HTF.out, HT.out]; rfl, HS.out _ _ _ _ _ _ HB9.out HX9.out⟩
  | false =>
  rw [hL] at hlet
  cases hD : digitB8 c with
  | true =>
    rw [hD] at hdig
    have hTF := tokF_digit (r := r) hL hD
    have HNB := Lib.hid (number_calls w0 s hs h0 (by rw [hc0]; exact hD))
    rw [HL.out, ← hTF] at HNB
    clear hTF
    generalize tokenF (c :: r) = z at HNB ⊢
    obtain ⟨⟨k, u, m⟩, n, e0⟩ := z
    clear hL hD
    go_enter Tryd.func90, Tryd.ntmps90
    go_wp2_with (first
      | (go_at_call 56; refine (isLetter_calls _ _).mono ?_; rintro e w' ⟨rfl, rfl⟩)
      | (go_at_call 92; refine (isDigit_calls _ _).mono ?_; rintro e w' ⟨rfl, rfl⟩))
    refine HNB.out.mono ?_
    rintro e w9 ⟨rfl, hb9⟩
    have HB9 := Lib.hid hb9
    have HX9 := Lib.hid (HX0.out.keep (hb9.block _ HX0.out.lt))
    clear hb9
    have c0 := HX9.out.cell 0
    have c1 := HX9.out.cell 1
    have c2 := HX9.out.cell 2
    have c3 := HX9.out.cell 3
    have c4 := HX9.out.cell 4
    have f0 := HX9.out.frozen 0
    have f1 := HX9.out.frozen 1
    have f2 := HX9.out.frozen 2
    have f3 := HX9.out.frozen 3
    have f4 := HX9.out.frozen 4
    simp only [tokOut, tkVal]
    go_wp2
    refine tok_ret rfl rfl (tok_put HX9.out _ _ _ _ _).1 ⟨rfl, HS.out _ _ _ _ _ _ HB9.out HX9.out⟩
  | false =>
  rw [hD] at hdig
  cases h34 : ((c.toNat : Int) == 34) with
  | true =>
    have hTF := tokF_quote (r := r) hL hD (.inl (byte_is (d := 34) h34))
    have HQ := Lib.hid (quoted_calls w0 s hs c r HL.out)
    cases hq : quotedF c r.length r with
    | none =>
      rw [hq] at hTF HQ
      have HTF := Lib.hid hTF
      clear hTF hq hL hD
      go_enter Tryd.func90, Tryd.ntmps90
      go_wp2_with (first
        | (go_at_call 56; refine (isLetter_calls _ _).mono ?_; rintro e w' ⟨rfl, rfl⟩)
        | (go_at_call 92; refine (isDigit_calls _ _).mono ?_; rintro e w' ⟨rfl, rfl⟩))
      refine HQ.out.mono ?_
      rintro e w9 ⟨rfl, hb9⟩
      have HB9 := Lib.hid hb9
      have HX9 := Lib.hid (HX0.out.keep (hb9.block _ HX0.out.lt))
      clear hb9
      have c0 := HX9.out.cell 0
      have c1 := HX9.out.cell 1
      have c2 := HX9.out.cell 2
      have c3 := HX9.out.cell 3
      have c4 := HX9.out.cell 4
      have f0 := HX9.out.frozen 0
      have f1 := HX9.out.frozen 1
      have f2 := HX9.out.frozen 2
      have f3 := HX9.out.frozen 3
      have f4 := HX9.out.frozen 4
      simp only [quoOut]
      go_wp2
      refine tok_ret rfl rfl (tok_put HX9.out _ _ _ _ _).1 ⟨by rw [HTF.out]; rfl, HS.out _ _ _ _ _ _ HB9.out HX9.out⟩
    | some p =>
      obtain ⟨u, n⟩ := p
      have hn := (quoted_le (by rw [byte_is (d := 34) h34]; decide) hq).2.1
      have hrl : r.length ≤ 1000000 := by have := congrArg List.length HL.out; rw [← size_len, List.length_cons] at this; omega
      rw [hq] at hTF HQ
      have HTF := Lib.hid hTF
      have hn1 : (((n + 1 : Nat) : Int) == 0) = false := by simp; omega
      have hn2 : ¬ ((n + 1 : Nat) : Int) = 0 := by omega
      clear hTF hq hL hD
      go_enter Tryd.func90, Tryd.ntmps90
      go_wp2_with (first
        | (go_at_call 56; refine (isLetter_calls _ _).mono ?_; rintro e w' ⟨rfl, rfl⟩)
        | (go_at_call 92; refine (isDigit_calls _ _).mono ?_; rintro e w' ⟨rfl, rfl⟩))
      refine HQ.out.mono ?_
      rintro e w9 ⟨rfl, hb9⟩
      have HB9 := Lib.hid hb9
      have HX9 := Lib.hid (HX0.out.keep (hb9.block _ HX0.out.lt))
      clear hb9
      have c0 := HX9.out.cell 0
      have c1 := HX9.out.cell 1
      have c2 := HX9.out.cell 2
      have c3 := HX9.out.cell 3
      have c4 := HX9.out.cell 4
      have f0 := HX9.out.frozen 0
      have f1 := HX9.out.frozen 1
      have f2 := HX9.out.frozen 2
      have f3 := HX9.out.frozen 3
      have f4 := HX9.out.frozen 4
      simp only [quoOut]
      go_wp2
      refine tok_ret rfl rfl (tok_put HX9.out _ _ _ _ _).1 ⟨by rw [HTF.out]; rfl, HS.out _ _ _ _ _ _ HB9.out HX9.out⟩
  | false =>
  cases h39 : ((c.toNat : Int) == 39) with
  | true =>
    have hTF := tokF_quote (r := r) hL hD (.inr (byte_is (d := 39) h39))
    have HQ := Lib.hid (quoted_calls w0 s hs c r HL.out)
    cases hq : quotedF c r.length r with
    | none =>
      rw [hq] at hTF HQ
      have HTF := Lib.hid hTF
      clear hTF hq hL hD
      go_enter Tryd.func90, Tryd.ntmps90
      go_wp2_with (first
        | (go_at_call 56; refine (isLetter_calls _ _).mono ?_; rintro e w' ⟨rfl, rfl⟩)
        | (go_at_call 92; refine (isDigit_calls _ _).mono ?_; rintro e w' ⟨rfl, rfl⟩))
      refine HQ.out.mono ?_
      rintro e w9 ⟨rfl, hb9⟩
      have HB9 := Lib.hid hb9
      have HX9 := Lib.hid (HX0.out.keep (hb9.block _ HX0.out.lt))
      clear hb9
      have c0 := HX9.out.cell 0
      have c1 := HX9.out.cell 1
      have c2 := HX9.out.cell 2
      have c3 := HX9.out.cell 3
      have c4 := HX9.out.cell 4
      have f0 := HX9.out.frozen 0
      have f1 := HX9.out.frozen 1
      have f2 := HX9.out.frozen 2
      have f3 := HX9.out.frozen 3
      have f4 := HX9.out.frozen 4
      simp only [quoOut]
      go_wp2
      refine tok_ret rfl rfl (tok_put HX9.out _ _ _ _ _).1 ⟨by rw [HTF.out]; rfl, HS.out _ _ _ _ _ _ HB9.out HX9.out⟩
    | some p =>
      obtain ⟨u, n⟩ := p
      have hn := (quoted_le (by rw [byte_is (d := 39) h39]; decide) hq).2.1
      have hrl : r.length ≤ 1000000 := by have := congrArg List.length HL.out; rw [← size_len, List.length_cons] at this; omega
      rw [hq] at hTF HQ
      have HTF := Lib.hid hTF
      have hn1 : (((n + 1 : Nat) : Int) == 0) = false := by simp; omega
      have hn2 : ¬ ((n + 1 : Nat) : Int) = 0 := by omega
      clear hTF hq hL hD
      go_enter Tryd.func90, Tryd.ntmps90
      go_wp2_with (first
        | (go_at_call 56; refine (isLetter_calls _ _).mono ?_; rintro e w' ⟨rfl, rfl⟩)
        | (go_at_call 92; refine (isDigit_calls _ _).mono ?_; rintro e w' ⟨rfl, rfl⟩))
      refine HQ.out.mono ?_
      rintro e w9 ⟨rfl, hb9⟩
      have HB9 := Lib.hid hb9
      have HX9 := Lib.hid (HX0.out.keep (hb9.block _ HX0.out.lt))
      clear hb9
      have c0 := HX9.out.cell 0
      have c1 := HX9.out.cell 1
      have c2 := HX9.out.cell 2
      have c3 := HX9.out.cell 3
      have c4 := HX9.out.cell 4
      have f0 := HX9.out.frozen 0
      have f1 := HX9.out.frozen 1
      have f2 := HX9.out.frozen 2
      have f3 := HX9.out.frozen 3
      have f4 := HX9.out.frozen 4
      simp only [quoOut]
      go_wp2
      refine tok_ret rfl rfl (tok_put HX9.out _ _ _ _ _).1 ⟨by rw [HTF.out]; rfl, HS.out _ _ _ _ _ _ HB9.out HX9.out⟩
  | false =>
  have hTF := tokF_sign (r := r) hL hD (by
    rintro (h | h)
    · rw [h] at h34; simp at h34
    · rw [h] at h39; simp at h39)
  have HBG : Hid (∀ w9 : World, Calls Tryd.prog 115 #[.string s, .slice (some ⟨w9.heap.size, 0, none⟩) 5 5] (w9.alloc (.cells #[.string ⟨#[61, 61, 61]⟩, .string ⟨#[33, 61, 61]⟩, .string ⟨#[60, 61]⟩, .string ⟨#[38, 38]⟩, .string ⟨#[124, 124]⟩] 9)) fun e w' => e = .returned (.int .i64 (beginsF (c :: r) signs5 : Nat)) ∧ Below w9.heap.size w9 w') := Lib.hid fun w9 => by
    have := begins_at w9 s [⟨#[61, 61, 61]⟩, ⟨#[33, 61, 61]⟩, ⟨#[60, 61]⟩, ⟨#[38, 38]⟩, ⟨#[124, 124]⟩] (by simp)
    rw [HL.out] at this
    exact this
  have HS1 := Lib.hid (Lib.contains_iff_indexByte signs1 c)
  have hge := Lib.indexByte_ge signs1 c
  have HIB : Hid (∀ w9 : World, Calls Tryd.prog 110 #[.string ⟨#[123, 125, 40, 41, 91, 93, 46, 59, 44, 58, 63, 60, 61, 33, 43, 45, 42, 47]⟩, .int .u8 (c.toNat : Int)] w9 fun e w' => e = .returned (.int .i64 (Lib.indexByte signs1 c)) ∧ w' = w9) := Lib.hid fun w9 => by
    have := Tryd.strings_IndexByte ⟨#[123, 125, 40, 41, 91, 93, 46, 59, 44, 58, 63, 60, 61, 33, 43, 45, 42, 47]⟩ (c.toNat : Int) w9
    rw [show ((c.toNat : Int)).toNat.toUInt8 = c by simp] at this
    exact this
  have hbl : beginsF (c :: r) signs5 ≤ s.size := by
    rw [size_len, HL.out]
    by_cases h : beginsF (c :: r) signs5 = 0
    · omega
    · obtain ⟨x, _, hp, he⟩ := begins_of h
      rw [he]
      exact (pre_take hp).2
  obtain ⟨n, hn⟩ : ∃ n, beginsF (c :: r) signs5 = n := ⟨_, rfl⟩
  obtain ⟨q, hq⟩ : ∃ q, Lib.indexByte signs1 c = q := ⟨_, rfl⟩
  rw [hn] at hTF HBG hbl
  rw [hq] at HS1 HIB hge
  have HT := Lib.hid (take_bytes s)
  rw [HL.out] at HT
  clear hn hq hL hD
  cases hn0 : ((n : Int) == 0) with
  | true =>
    obtain rfl : n = 0 := by simp at hn0; omega
    cases hq0 : decide (0 ≤ q) with
    | true =>
      rw [hq0] at HS1
      rw [HS1.out] at hTF
      have HTF := Lib.hid hTF
      clear hTF hn0
      go_enter Tryd.func90, Tryd.ntmps90
      go_wp2_with (first
        | (go_at_call 56; refine (isLetter_calls _ _).mono ?_; rintro e w' ⟨rfl, rfl⟩)
        | (go_at_call 92; refine (isDigit_calls _ _).mono ?_; rintro e w' ⟨rfl, rfl⟩))
      refine (HBG.out _).mono ?_
      rintro e w9 ⟨rfl, hb9⟩
      have HB9 := Lib.hid hb9
      have HX9 := Lib.hid (HX0.out.keep (hb9.block _ HX0.out.lt))
      clear hb9
      have c0 := HX9.out.cell 0
      have c1 := HX9.out.cell 1
      have c2 := HX9.out.cell 2
      have c3 := HX9.out.cell 3
      have c4 := HX9.out.cell 4
      have f0 := HX9.out.frozen 0
      have f1 := HX9.out.frozen 1
      have f2 := HX9.out.frozen 2
      have f3 := HX9.out.frozen 3
      have f4 := HX9.out.frozen 4
      go_wp2_with fail
      refine (HIB.out _).mono ?_
      rintro e w' ⟨rfl, rfl⟩
      go_wp2
      refine tok_ret rfl rfl (tok_put HX9.out _ _ _ _ _).1 ⟨by rw [HTF.out, HT.out 1]; rfl, HS.out _ _ _ _ _ _ HB9.out HX9.out⟩
    | false =>
      rw [hq0] at HS1
      rw [HS1.out] at hTF
      have HTF := Lib.hid hTF
      clear hTF hn0
      go_enter Tryd.func90, Tryd.ntmps90
      go_wp2_with (first
        | (go_at_call 56; refine (isLetter_calls _ _).mono ?_; rintro e w' ⟨rfl, rfl⟩)
        | (go_at_call 92; refine (isDigit_calls _ _).mono ?_; rintro e w' ⟨rfl, rfl⟩))
      refine (HBG.out _).mono ?_
      rintro e w9 ⟨rfl, hb9⟩
      have HB9 := Lib.hid hb9
      have HX9 := Lib.hid (HX0.out.keep (hb9.block _ HX0.out.lt))
      clear hb9
      have c0 := HX9.out.cell 0
      have c1 := HX9.out.cell 1
      have c2 := HX9.out.cell 2
      have c3 := HX9.out.cell 3
      have c4 := HX9.out.cell 4
      have f0 := HX9.out.frozen 0
      have f1 := HX9.out.frozen 1
      have f2 := HX9.out.frozen 2
      have f3 := HX9.out.frozen 3
      have f4 := HX9.out.frozen 4
      go_wp2_with fail
      refine (HIB.out _).mono ?_
      rintro e w' ⟨rfl, rfl⟩
      go_wp2
      refine tok_ret rfl rfl (tok_put HX9.out _ _ _ _ _).1 ⟨by rw [HTF.out]; rfl, HS.out _ _ _ _ _ _ HB9.out HX9.out⟩
  | false =>
    have hn1 : ¬ (n : Int) = 0 := by simpa using hn0
    rw [if_neg (by omega)] at hTF
    have HTF := Lib.hid hTF
    clear hTF
    go_enter Tryd.func90, Tryd.ntmps90
    go_wp2_with (first
      | (go_at_call 56; refine (isLetter_calls _ _).mono ?_; rintro e w' ⟨rfl, rfl⟩)
      | (go_at_call 92; refine (isDigit_calls _ _).mono ?_; rintro e w' ⟨rfl, rfl⟩))
    refine (HBG.out _).mono ?_
    rintro e w9 ⟨rfl, hb9⟩
    have HB9 := Lib.hid hb9
    have HX9 := Lib.hid (HX0.out.keep (hb9.block _ HX0.out.lt))
    clear hb9
    have c0 := HX9.out.cell 0
    have c1 := HX9.out.cell 1
    have c2 := HX9.out.cell 2
    have c3 := HX9.out.cell 3
    have c4 := HX9.out.cell 4
    have f0 := HX9.out.frozen 0
    have f1 := HX9.out.frozen 1
    have f2 := HX9.out.frozen 2
    have f3 := HX9.out.frozen 3
    have f4 := HX9.out.frozen 4
    go_wp2
    refine tok_ret rfl rfl (tok_put HX9.out _ _ _ _ _).1 ⟨by rw [HTF.out, HT.out n]; rfl, HS.out _ _ _ _ _ _ HB9.out HX9.out⟩

end Go.Proofs.YtcidccifnaecaaaDoor
