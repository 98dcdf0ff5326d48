/- The walk of JlexBlanks: true. -/
import Derived.Test.YtcidccifnaecaaaDoorWJoins
import Derived.Test.YtcidccifnaecaaaDoorRquote
namespace Go.Proofs.YtcidccifnaecaaaDoor
open Go.RowKit Go.Sort

/-- What blanks and comments do to two texts' tokens. -/
theorem lex_blanks {c s t z : List UInt8} (hc : ∀ b ∈ c, b ≠ 10) (hcl : c.length ≤ 100) (hs : s.length ≤ 2000) (ht : t.length ≤ 2000)
    (hz : z = 32 :: 9 :: (47 :: 47 :: c ++ 10 :: (s ++ 10 :: (47 :: 47 :: c ++ 10 :: 13 :: (t ++ 10 :: 47 :: 47 :: c))))) (h1 : (lexF s).2.2 ≠ 23) (h2 : (lexF s).2.2 = 0 → (lexF t).2.2 ≠ 23) :
    ((lexF s).2.2 ≠ 0 → (lexF z).2.2 ≠ 0) ∧ ((lexF s).2.2 = 0 → (lexF t).2.2 ≠ 0 → (lexF z).2.2 ≠ 0) ∧
    ((lexF s).2.2 = 0 → (lexF t).2.2 = 0 → (lexF z).2.2 = 0 ∧ (lexF z).1.map Tl.t = ((lexF s).1 ++ (lexF t).1).map Tl.t) := by
  obtain ⟨a1, a2, _⟩ := lexF_toks (s := s) (by omega)
  obtain ⟨b1, b2, _⟩ := lexF_toks (s := t) (by omega)
  have hzl : z.length ≤ 20000 := by rw [hz]; simp; omega
  obtain ⟨c1, c2, _⟩ := lexF_toks hzl
  rw [a1, b1, c1]
  rw [a1] at h1 h2
  rw [b1] at h2
  have hj := toks_blanks hc s t h1 h2
  rw [← hz] at hj
  refine ⟨fun e1 => ?_, fun e1 e2 => ?_, fun e1 e2 => ?_⟩
  · rw [hj, if_pos e1]; exact e1
  · rw [hj, if_neg (by rw [e1]; simp), if_pos e2]; exact e2
  · rw [if_neg (by rw [e1]; simp), if_neg (by rw [e2]; simp)] at hj
    have hz0 : (toks z).2 = 0 := by rw [hj]
    exact ⟨hz0, by rw [c2 hz0, hj, List.map_append, a2 e1, b2 e2]⟩

theorem conv_one (w : World) (c : UInt8) : (convert 37 9 (.slice (some ⟨w.heap.size, 0, none⟩) 1 1)).run Tryd.prog (w.alloc (.cells #[.int .u8 (c.toNat : Int)] 5)) = .ok (.string ⟨#[c]⟩) (w.alloc (.cells #[.int .u8 (c.toNat : Int)] 5)) := by
  have h := run_convert_bytes_back (P := Tryd.prog) (w.alloc (.cells #[.int .u8 (c.toNat : Int)] 5)) 37 9 5 ⟨w.heap.size, 0, none⟩ 1 [c] Tryd.underlying37 Tryd.underlying5 Tryd.underlying9 (fun i hi => by
    have : i = 0 := by simpa using hi
    subst this
    exact (Blk.new w 5 #[.int .u8 (c.toNat : Int)]).cell 0)
  exact h

set_option maxRecDepth 100000 in
set_option maxHeartbeats 4000000 in
theorem wblanks (w : World) (s : ByteArray) (_ : s.size ≤ maxLen) (t : ByteArray) (_ : t.size ≤ maxLen) (u : ByteArray) (hu : u.size ≤ maxLen) (hl : LaidJ w) :
    Calls Tryd.prog 10 #[.string s, .string t, .string u] w fun e w' => e = .returned (.bool true) ∧ Below w.heap.size w w' := by
  have HL := Lib.hid hl
  unfold maxLen at hu
  obtain ⟨q1, hq1, hq1s, hz1, _⟩ := cut_at s 2000
  obtain ⟨q2, hq2, hq2s, hz2, _⟩ := cut_at t 2000
  replace hq1 : min (s.size : Int) 2000 = (q1 : Int) := hq1
  replace hq2 : min (t.size : Int) 2000 = (q2 : Int) := hq2
  obtain ⟨x, hx⟩ : ∃ x, s.extract 0 q1 = x := ⟨_, rfl⟩
  obtain ⟨y, hy⟩ : ∃ y, t.extract 0 q2 = y := ⟨_, rfl⟩
  rw [hx] at hz1
  rw [hy] at hz2
  have HX := Lib.hid (fun w9 (h9 : LaidJ w9) => lex_calls w9 h9 x (by unfold maxLen; omega))
  have HY := Lib.hid (fun w9 (h9 : LaidJ w9) => lex_calls w9 h9 y (by unfold maxLen; omega))
  clear hl
  go_enter Tryd.func10, Tryd.ntmps10
  go_wp2_with fail
  refine (shownJ_calls w HL.out).mono ?_
  rintro e w1 ⟨rfl, hb1⟩
  have HB1 := Lib.hid hb1
  clear hb1
  go_wp2
  go_loopw [8, 9] (fun v i wr => ∃ (k : Nat) (c : List UInt8), v = .string ⟨(47 :: 47 :: c).toArray⟩ ∧ k ≤ u.size ∧ k ≤ 100 ∧ c.length ≤ k ∧ i = .int .i64 k ∧ Below w1.heap.size w1 wr ∧ Hid (∀ b ∈ c, b ≠ 10)) (fun _ i _ => u.size - (intOf i).toNat)
  case atStart => exact ⟨0, [], rfl, by omega, by omega, by simp, rfl, Below.refl _ _, Lib.hid (by simp)⟩
  case round =>
    obtain ⟨k, c, rfl, hk, hk100, hck, rfl, hbw, HC⟩ := hrel
    have HBW := Lib.hid hbw
    clear hbw
    obtain ⟨o, ho⟩ : ∃ o : ByteArray, (⟨(47 :: 47 :: c).toArray⟩ : ByteArray) = o := ⟨_, rfl⟩
    have hol : o.data.toList = 47 :: 47 :: c := by rw [← ho]
    have hos : o.size = c.length + 2 := by rw [size_len, hol]; simp
    rw [ho]
    clear ho
    have HOL := Lib.hid hol
    clear hol
    by_cases hlt : k < u.size
    · by_cases hlt2 : k < 100
      · have hx := byte_some hlt
        have hz8 : ¬ 9223372036854775807 < o.size + 1 := by omega
        by_cases h10 : ((u[k].toNat : Int) = 10)
        · go_wp2
          exact ⟨⟨k + 1, c, by rw [← HOL.out], by omega, by omega, by omega, by go_num, HBW.out, HC⟩, by simp [intOf]; omega⟩
        · have hcv := conv_one wr u[k]
          have hne : u[k] ≠ 10 := fun h => h10 (by rw [h]; rfl)
          have HC2 : Hid (∀ b ∈ c ++ [u[k]], b ≠ 10) := Lib.hid (fun b hb => by
            rcases List.mem_append.1 hb with hb | hb
            · exact HC.out b hb
            · rw [List.mem_singleton.1 hb]; exact hne)
          have HO2 : Hid ((⟨(47 :: 47 :: (c ++ [u[k]])).toArray⟩ : ByteArray) = o ++ ⟨#[u[k]]⟩) := Lib.hid (bs_ext (by rw [app_bytes, HOL.out]; rfl))
          clear hne hx
          go_wp2
          exact ⟨⟨k + 1, c ++ [u[k]], by rw [HO2.out], by omega, by omega, by simp; omega, by go_num, HBW.out.alloc HBW.out.size _, HC2⟩, by simp [intOf]; omega⟩
      · have hk1 : k = 100 := by omega
        subst hk1
        have HBR := Lib.hid (HB1.out.trans (HBW.out.mono HB1.out.size))
        have hzz : ((⟨#[32, 9]⟩ : ByteArray) ++ o ++ ⟨#[10]⟩ ++ x ++ ⟨#[10]⟩ ++ o ++ ⟨#[10, 13]⟩ ++ y ++ ⟨#[10]⟩ ++ o).size = 2 + o.size + 1 + x.size + 1 + o.size + 2 + y.size + 1 + o.size := by
          simp only [ByteArray.size_append]
          rfl
        have hzl : ((⟨#[32, 9]⟩ : ByteArray) ++ o ++ ⟨#[10]⟩ ++ x ++ ⟨#[10]⟩ ++ o ++ ⟨#[10, 13]⟩ ++ y ++ ⟨#[10]⟩ ++ o).data.toList = 32 :: 9 :: (47 :: 47 :: c ++ 10 :: (x.data.toList ++ 10 :: (47 :: 47 :: c ++ 10 :: 13 :: (y.data.toList ++ 10 :: 47 :: 47 :: c)))) := by
          simp only [app_bytes, HOL.out]
          simp
        obtain ⟨z, hz⟩ : ∃ z, (⟨#[32, 9]⟩ : ByteArray) ++ o ++ ⟨#[10]⟩ ++ x ++ ⟨#[10]⟩ ++ o ++ ⟨#[10, 13]⟩ ++ y ++ ⟨#[10]⟩ ++ o = z := ⟨_, rfl⟩
        rw [hz] at hzz hzl
        have HZL := Lib.hid hzl
        have hzs : z.size ≤ 5000 := by omega
        have HZ := Lib.hid (fun w9 (h9 : LaidJ w9) => lex_calls w9 h9 z (by unfold maxLen; omega))
        clear hzz hzl
        have m1 : ¬ 9223372036854775807 < 2 + o.size := by omega
        have m2 : ¬ 9223372036854775807 < 2 + o.size + 1 := by omega
        have m3 : ¬ 9223372036854775807 < 2 + o.size + 1 + x.size := by omega
        have m4 : ¬ 9223372036854775807 < 2 + o.size + 1 + x.size + 1 := by omega
        have m5 : ¬ 9223372036854775807 < 2 + o.size + 1 + x.size + 1 + o.size := by omega
        have m6 : ¬ 9223372036854775807 < 2 + o.size + 1 + x.size + 1 + o.size + 2 := by omega
        have m7 : ¬ 9223372036854775807 < 2 + o.size + 1 + x.size + 1 + o.size + 2 + y.size := by omega
        have m8 : ¬ 9223372036854775807 < 2 + o.size + 1 + x.size + 1 + o.size + 2 + y.size + 1 := by omega
        have m9 : ¬ 9223372036854775807 < 2 + o.size + 1 + x.size + 1 + o.size + 2 + y.size + 1 + o.size := by omega
        go_wp2_with fail
        refine (HX.out wr (HL.out.below HBR.out)).mono ?_
        rintro e w2 h2
        obtain ⟨ps, pa, pe, A1, c1, hlx, rfl, hown1, hb2, hpl⟩ := h2.open (by omega)
        have HB2 := Lib.hid (HBR.out.trans (hb2.mono HBR.out.size))
        have HO1 := Lib.hid hown1
        clear hb2 h2 hown1
        go_wp2_with fail
        refine (HY.out w2 (HL.out.below HB2.out)).mono ?_
        rintro e w3 h3
        obtain ⟨qs, qa, qe, A2, c2, hly, rfl, hown2, hb3, hql⟩ := h3.open (by omega)
        have HB3 := Lib.hid (HB2.out.trans (hb3.mono HB2.out.size))
        have HO2 := Lib.hid hown2
        have HO1' := Lib.hid (own_keep HO1.out (fun k hk => hb3.block k (HO1.out.lt k hk).2))
        clear hb3 h3 hown2 HO1
        go_wp2_with fail
        refine (HZ.out w3 (HL.out.below HB3.out)).mono ?_
        rintro e w4 h4
        obtain ⟨rs, ra, re, A3, c3, hlz, rfl, hown3, hb4, hrl⟩ := h4.open (by omega)
        have HB4 := Lib.hid (HB3.out.trans (hb4.mono HB3.out.size))
        have HO3 := Lib.hid hown3
        have HO1 := Lib.hid (own_keep HO1'.out (fun k hk => hb4.block k (HO1'.out.lt k hk).2))
        have HO2' := Lib.hid (own_keep HO2.out (fun k hk => hb4.block k (HO2.out.lt k hk).2))
        clear hb4 h4 hown3 HO1' HO2
        have hlb := lex_blanks (c := c) (s := x.data.toList) (t := y.data.toList) (z := z.data.toList) HC.out (by omega) (by rw [← size_len]; exact hz1) (by rw [← size_len]; exact hz2) HZL.out
        rw [hlx, hly, hlz] at hlb
        have HLB := Lib.hid hlb
        clear hlb hlx hly hlz
        cases hp23 : (pe == 23) with
        | true =>
          have hp : pe = 23 := by simpa using hp23
          subst hp
          go_wp2
          go_ret
          exact ⟨rfl, HB4.out⟩
        | false =>
          have hp : ¬ pe = 23 := by simpa using hp23
          cases hpe : (pe == 0) with
          | false =>
            have hp0 : ¬ pe = 0 := by simpa using hpe
            have hr0 : ¬ re = 0 := (HLB.out hp (fun h => absurd h hp0)).1 hp0
            have hr2 : (re != 0) = true := by simpa using hr0
            clear HLB
            go_wp2
            go_ret
            exact ⟨rfl, HB4.out⟩
          | true =>
            obtain rfl : pe = 0 := by simpa using hpe
            cases hq23 : (qe == 23) with
            | true =>
              have hq : qe = 23 := by simpa using hq23
              subst hq
              go_wp2
              go_ret
              exact ⟨rfl, HB4.out⟩
            | false =>
              have hq : ¬ qe = 23 := by simpa using hq23
              cases hqe : (qe == 0) with
              | false =>
                have hq0 : ¬ qe = 0 := by simpa using hqe
                have hr0 : ¬ re = 0 := (HLB.out hp (fun _ => hq)).2.1 rfl hq0
                have hr2 : (re != 0) = true := by simpa using hr0
                clear HLB
                go_wp2
                go_ret
                exact ⟨rfl, HB4.out⟩
              | true =>
                obtain rfl : qe = 0 := by simpa using hqe
                obtain ⟨hre, hal⟩ := (HLB.out hp (fun _ => hq)).2.2 rfl rfl
                obtain rfl : re = 0 := hre
                have HAL : Hid (rs.map Tl.t = (ps ++ qs).map Tl.t) := Lib.hid hal
                have hpl2 : ps.length ≤ 2000 := by omega
                have hql2 : qs.length ≤ 2000 := by omega
                have hrl2 : rs.length ≤ 1000000 := by omega
                clear HLB hal hp hq hp23 hpe hq23 hqe
                obtain ⟨i0, hi, hz0, hz3, hz4⟩ := info_parts info_tok
                have hbase : w.heap.size ≤ w4.heap.size := HB4.out.size
                go_wp2_with (refine wpList_guarded_make (by rfl) _ _ 38 rfl w4.heap.size 45 i0 _ 5 Tryd.underlying38 hi hz0 hz3 .i64 .i64 ((ps.length : Int) + (qs.length : Int)) (ps.length + qs.length) (by rfl) (by rfl) (by omega) ?mb ?ml (Nat.le_refl _) ?_)
                case mb => rw [hz4]; omega
                case ml => simp only [maxLen]; omega
                intro w5 hown5 hg5
                have hb5 : Below w4.heap.size w4 w5 := ⟨hg5.os, hg5.tape, hg5.output, hg5.size, fun k hk => hg5.block k hk (by simp)⟩
                have l1 : ∀ k, (Value.slice A1 ps.length c1).ownBlock = some k → k < w4.heap.size := fun k hk => (HO1.out.lt k hk).2
                have l2 : ∀ k, (Value.slice A2 qs.length c2).ownBlock = some k → k < w4.heap.size := fun k hk => (HO2'.out.lt k hk).2
                have l3 : ∀ k, (Value.slice A3 rs.length c3).ownBlock = some k → k < w4.heap.size := fun k hk => (HO3.out.lt k hk).2
                obtain ⟨w6, hr6, hown6, hg6⟩ := app_row 38 hown5 (own_keep HO1.out (fun k hk => hb5.block k (l1 k hk))) (by omega)
                have hb6 : Below w4.heap.size w4 w6 := hb5.grown hg6 hb5.size (fun k e => by injection e with e; omega)
                obtain ⟨w7, hr7, hown7, hg7⟩ := app_row 38 hown6 (own_keep HO2'.out (fun k hk => hb6.block k (l2 k hk))) (by omega)
                have hb7 : Below w4.heap.size w4 w7 := hb6.grown hg7 hb6.size (fun k e => by injection e with e; omega)
                rw [Nat.zero_add] at hr6 hr7 hown7
                rw [List.nil_append, ← tlCells_append] at hown7
                have HAK := Lib.hid (alike_calls w7 (own_keep HO3.out (fun k hk => hb7.block k (l3 k hk))) rfl hown7 (by simp) HAL.out hrl2)
                have HB7 := Lib.hid (HB4.out.trans (hb7.mono HB4.out.size))
                clear hown5 hg5 hb5 hown6 hg6 hb6 hown7 hg7 hb7 l1 l2 l3 hi hz0 hz3 hz4
                go_wp2_with (at_builtin; first
                  | refine wpList_guarded_append (by rfl) _ _ 38 rfl _ _ rfl rfl hr6 ?_
                  | refine wpList_guarded_append (by rfl) _ _ 38 rfl _ _ rfl rfl hr7 ?_)
                refine HAK.out.mono ?_
                rintro e w8 ⟨rfl, hb8⟩
                have HB8 := Lib.hid (HB7.out.trans (hb8.mono HB7.out.size))
                clear hb8
                go_wp2
                go_ret
                exact ⟨rfl, HB8.out⟩
    · have hk1 : k = u.size := by omega
      have hdd : decide ((k : Int) < (u.size : Int)) = false := by simp; omega
      have HBR := Lib.hid (HB1.out.trans (HBW.out.mono HB1.out.size))
      have hzz : ((⟨#[32, 9]⟩ : ByteArray) ++ o ++ ⟨#[10]⟩ ++ x ++ ⟨#[10]⟩ ++ o ++ ⟨#[10, 13]⟩ ++ y ++ ⟨#[10]⟩ ++ o).size = 2 + o.size + 1 + x.size + 1 + o.size + 2 + y.size + 1 + o.size := by
        simp only [ByteArray.size_append]
        rfl
      have hzl : ((⟨#[32, 9]⟩ : ByteArray) ++ o ++ ⟨#[10]⟩ ++ x ++ ⟨#[10]⟩ ++ o ++ ⟨#[10, 13]⟩ ++ y ++ ⟨#[10]⟩ ++ o).data.toList = 32 :: 9 :: (47 :: 47 :: c ++ 10 :: (x.data.toList ++ 10 :: (47 :: 47 :: c ++ 10 :: 13 :: (y.data.toList ++ 10 :: 47 :: 47 :: c)))) := by
        simp only [app_bytes, HOL.out]
        simp
      obtain ⟨z, hz⟩ : ∃ z, (⟨#[32, 9]⟩ : ByteArray) ++ o ++ ⟨#[10]⟩ ++ x ++ ⟨#[10]⟩ ++ o ++ ⟨#[10, 13]⟩ ++ y ++ ⟨#[10]⟩ ++ o = z := ⟨_, rfl⟩
      rw [hz] at hzz hzl
      have HZL := Lib.hid hzl
      have hzs : z.size ≤ 5000 := by omega
      have HZ := Lib.hid (fun w9 (h9 : LaidJ w9) => lex_calls w9 h9 z (by unfold maxLen; omega))
      clear hzz hzl
      have m1 : ¬ 9223372036854775807 < 2 + o.size := by omega
      have m2 : ¬ 9223372036854775807 < 2 + o.size + 1 := by omega
      have m3 : ¬ 9223372036854775807 < 2 + o.size + 1 + x.size := by omega
      have m4 : ¬ 9223372036854775807 < 2 + o.size + 1 + x.size + 1 := by omega
      have m5 : ¬ 9223372036854775807 < 2 + o.size + 1 + x.size + 1 + o.size := by omega
      have m6 : ¬ 9223372036854775807 < 2 + o.size + 1 + x.size + 1 + o.size + 2 := by omega
      have m7 : ¬ 9223372036854775807 < 2 + o.size + 1 + x.size + 1 + o.size + 2 + y.size := by omega
      have m8 : ¬ 9223372036854775807 < 2 + o.size + 1 + x.size + 1 + o.size + 2 + y.size + 1 := by omega
      have m9 : ¬ 9223372036854775807 < 2 + o.size + 1 + x.size + 1 + o.size + 2 + y.size + 1 + o.size := by omega
      go_wp2_with fail
      clear hdd hk1
      refine (HX.out wr (HL.out.below HBR.out)).mono ?_
      rintro e w2 h2
      obtain ⟨ps, pa, pe, A1, c1, hlx, rfl, hown1, hb2, hpl⟩ := h2.open (by omega)
      have HB2 := Lib.hid (HBR.out.trans (hb2.mono HBR.out.size))
      have HO1 := Lib.hid hown1
      clear hb2 h2 hown1
      go_wp2_with fail
      refine (HY.out w2 (HL.out.below HB2.out)).mono ?_
      rintro e w3 h3
      obtain ⟨qs, qa, qe, A2, c2, hly, rfl, hown2, hb3, hql⟩ := h3.open (by omega)
      have HB3 := Lib.hid (HB2.out.trans (hb3.mono HB2.out.size))
      have HO2 := Lib.hid hown2
      have HO1' := Lib.hid (own_keep HO1.out (fun k hk => hb3.block k (HO1.out.lt k hk).2))
      clear hb3 h3 hown2 HO1
      go_wp2_with fail
      refine (HZ.out w3 (HL.out.below HB3.out)).mono ?_
      rintro e w4 h4
      obtain ⟨rs, ra, re, A3, c3, hlz, rfl, hown3, hb4, hrl⟩ := h4.open (by omega)
      have HB4 := Lib.hid (HB3.out.trans (hb4.mono HB3.out.size))
      have HO3 := Lib.hid hown3
      have HO1 := Lib.hid (own_keep HO1'.out (fun k hk => hb4.block k (HO1'.out.lt k hk).2))
      have HO2' := Lib.hid (own_keep HO2.out (fun k hk => hb4.block k (HO2.out.lt k hk).2))
      clear hb4 h4 hown3 HO1' HO2
      have hlb := lex_blanks (c := c) (s := x.data.toList) (t := y.data.toList) (z := z.data.toList) HC.out (by omega) (by rw [← size_len]; exact hz1) (by rw [← size_len]; exact hz2) HZL.out
      rw [hlx, hly, hlz] at hlb
      have HLB := Lib.hid hlb
      clear hlb hlx hly hlz
      cases hp23 : (pe == 23) with
      | true =>
        have hp : pe = 23 := by simpa using hp23
        subst hp
        go_wp2
        go_ret
        exact ⟨rfl, HB4.out⟩
      | false =>
        have hp : ¬ pe = 23 := by simpa using hp23
        cases hpe : (pe == 0) with
        | false =>
          have hp0 : ¬ pe = 0 := by simpa using hpe
          have hr0 : ¬ re = 0 := (HLB.out hp (fun h => absurd h hp0)).1 hp0
          have hr2 : (re != 0) = true := by simpa using hr0
          clear HLB
          go_wp2
          go_ret
          exact ⟨rfl, HB4.out⟩
        | true =>
          obtain rfl : pe = 0 := by simpa using hpe
          cases hq23 : (qe == 23) with
          | true =>
            have hq : qe = 23 := by simpa using hq23
            subst hq
            go_wp2
            go_ret
            exact ⟨rfl, HB4.out⟩
          | false =>
            have hq : ¬ qe = 23 := by simpa using hq23
            cases hqe : (qe == 0) with
            | false =>
              have hq0 : ¬ qe = 0 := by simpa using hqe
              have hr0 : ¬ re = 0 := (HLB.out hp (fun _ => hq)).2.1 rfl hq0
              have hr2 : (re != 0) = true := by simpa using hr0
              clear HLB
              go_wp2
              go_ret
              exact ⟨rfl, HB4.out⟩
            | true =>
              obtain rfl : qe = 0 := by simpa using hqe
              obtain ⟨hre, hal⟩ := (HLB.out hp (fun _ => hq)).2.2 rfl rfl
              obtain rfl : re = 0 := hre
              have HAL : Hid (rs.map Tl.t = (ps ++ qs).map Tl.t) := Lib.hid hal
              have hpl2 : ps.length ≤ 2000 := by omega
              have hql2 : qs.length ≤ 2000 := by omega
              have hrl2 : rs.length ≤ 1000000 := by omega
              clear HLB hal hp hq hp23 hpe hq23 hqe
              obtain ⟨i0, hi, hz0, hz3, hz4⟩ := info_parts info_tok
              have hbase : w.heap.size ≤ w4.heap.size := HB4.out.size
              go_wp2_with (refine wpList_guarded_make (by rfl) _ _ 38 rfl w4.heap.size 45 i0 _ 5 Tryd.underlying38 hi hz0 hz3 .i64 .i64 ((ps.length : Int) + (qs.length : Int)) (ps.length + qs.length) (by rfl) (by rfl) (by omega) ?mb ?ml (Nat.le_refl _) ?_)
              case mb => rw [hz4]; omega
              case ml => simp only [maxLen]; omega
              intro w5 hown5 hg5
              have hb5 : Below w4.heap.size w4 w5 := ⟨hg5.os, hg5.tape, hg5.output, hg5.size, fun k hk => hg5.block k hk (by simp)⟩
              have l1 : ∀ k, (Value.slice A1 ps.length c1).ownBlock = some k → k < w4.heap.size := fun k hk => (HO1.out.lt k hk).2
              have l2 : ∀ k, (Value.slice A2 qs.length c2).ownBlock = some k → k < w4.heap.size := fun k hk => (HO2'.out.lt k hk).2
              have l3 : ∀ k, (Value.slice A3 rs.length c3).ownBlock = some k → k < w4.heap.size := fun k hk => (HO3.out.lt k hk).2
              obtain ⟨w6, hr6, hown6, hg6⟩ := app_row 38 hown5 (own_keep HO1.out (fun k hk => hb5.block k (l1 k hk))) (by omega)
              have hb6 : Below w4.heap.size w4 w6 := hb5.grown hg6 hb5.size (fun k e => by injection e with e; omega)
              obtain ⟨w7, hr7, hown7, hg7⟩ := app_row 38 hown6 (own_keep HO2'.out (fun k hk => hb6.block k (l2 k hk))) (by omega)
              have hb7 : Below w4.heap.size w4 w7 := hb6.grown hg7 hb6.size (fun k e => by injection e with e; omega)
              rw [Nat.zero_add] at hr6 hr7 hown7
              rw [List.nil_append, ← tlCells_append] at hown7
              have HAK := Lib.hid (alike_calls w7 (own_keep HO3.out (fun k hk => hb7.block k (l3 k hk))) rfl hown7 (by simp) HAL.out hrl2)
              have HB7 := Lib.hid (HB4.out.trans (hb7.mono HB4.out.size))
              clear hown5 hg5 hb5 hown6 hg6 hb6 hown7 hg7 hb7 l1 l2 l3 hi hz0 hz3 hz4
              go_wp2_with (at_builtin; first
                | refine wpList_guarded_append (by rfl) _ _ 38 rfl _ _ rfl rfl hr6 ?_
                | refine wpList_guarded_append (by rfl) _ _ 38 rfl _ _ rfl rfl hr7 ?_)
              refine HAK.out.mono ?_
              rintro e w8 ⟨rfl, hb8⟩
              have HB8 := Lib.hid (HB7.out.trans (hb8.mono HB7.out.size))
              clear hb8
              go_wp2
              go_ret
              exact ⟨rfl, HB8.out⟩

end Go.Proofs.YtcidccifnaecaaaDoor
