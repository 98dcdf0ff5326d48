/- The walk of JlexOne: true. -/
import Derived.Test.YtcidccifnaecaaaDoorWBlanks
namespace Go.Proofs.YtcidccifnaecaaaDoor
open Go.RowKit Go.Sort

theorem foldl_num : ∀ (l : List UInt8) (a : Nat), l.foldl (fun a c => a * 10 + (c.toNat - 48)) a = a * 10 ^ l.length + l.foldl (fun a c => a * 10 + (c.toNat - 48)) 0
  | [], a => by simp
  | c :: l, a => by
    rw [List.foldl_cons, List.foldl_cons, foldl_num l (a * 10 + (c.toNat - 48)), foldl_num l (0 * 10 + (c.toNat - 48)), List.length_cons, Nat.pow_succ]
    generalize List.foldl (fun a c => a * 10 + (c.toNat - 48)) 0 l = F
    generalize 10 ^ l.length = P
    generalize c.toNat - 48 = D
    rw [Nat.zero_mul, Nat.zero_add, Nat.add_mul, Nat.add_assoc, show a * 10 * P = a * (P * 10) by rw [Nat.mul_assoc, Nat.mul_comm 10]]
theorem numV_cons (c : UInt8) (d : List UInt8) : numV (c :: d) = (c.toNat - 48) * 10 ^ d.length + numV d := by
  unfold numV
  rw [List.foldl_cons, foldl_num]
  simp
theorem numV_below {d : List UInt8} (h : d.all digitB8 = true) : numV d < 10 ^ d.length := by
  have := num_foldl d 0 h
  unfold numV
  omega

/-- A number, of which some digits are written, and what is left of it. -/
structure DigAt (n : Nat) (d : List UInt8) (k : Nat) : Prop where
  all : d.all digitB8 = true
  val : n = k * 10 ^ d.length + numV d
  lead : d.length ≤ 1 ∨ 10 ^ (d.length - 1) ≤ n
theorem DigAt.start (n : Nat) : DigAt n [] n := ⟨rfl, by simp [numV], .inl (by simp)⟩
theorem dig_byte (k : Nat) : (UInt8.ofNat (48 + k % 10)).toNat = 48 + k % 10 := by
  have : k % 10 < 10 := Nat.mod_lt _ (by omega)
  simp
  omega
theorem DigAt.next {n k : Nat} {d : List UInt8} (h : DigAt n d k) (hk : 0 < k ∨ d = []) : DigAt n (UInt8.ofNat (48 + k % 10) :: d) (k / 10) := by
  have hb := dig_byte k
  have hm : k % 10 < 10 := Nat.mod_lt _ (by omega)
  refine ⟨?_, ?_, ?_⟩
  · rw [List.all_cons, h.all, Bool.and_true]
    simp only [digitB8, digitI, hb, Bool.and_eq_true, decide_eq_true_eq]
    omega
  · rw [numV_cons, hb, List.length_cons, Nat.pow_succ, show 48 + k % 10 - 48 = k % 10 by omega]
    have h1 : k = k / 10 * 10 + k % 10 := by omega
    have h2 := h.val
    rw [Nat.mul_comm (10 ^ d.length) 10, ← Nat.mul_assoc, ← Nat.add_assoc, ← Nat.add_mul, ← h1]
    exact h2
  · rcases hk with hk | hk
    · right
      rw [List.length_cons, Nat.add_sub_cancel]
      have h2 := h.val
      have h3 : 10 ^ d.length ≤ k * 10 ^ d.length := Nat.le_mul_of_pos_left _ hk
      omega
    · left
      rw [hk]
      simp
theorem DigAt.lex {n : Nat} {d : List UInt8} (h : DigAt n d 0) (hd : d ≠ []) (hn : n ≤ 999999999999999) : lexF d = ([⟨⟨3, [], n⟩, 1, false⟩], 0, 0) := by
  have hv : n = numV d := by have := h.val; simpa using this
  have hlen : d.length ≤ 15 := by
    rcases h.lead with h1 | h1
    · omega
    · rcases Nat.lt_or_ge 15 d.length with h2 | h2
      · have h3 : 10 ^ 15 ≤ 10 ^ (d.length - 1) := Nat.pow_le_pow_right (by omega) (by omega)
        omega
      · exact h2
  cases d with
  | nil => exact absurd rfl hd
  | cons c r =>
    rw [lex_number h.all hlen ?_, ← hv]
    intro hc
    have hall := h.all
    rw [List.all_cons, Bool.and_eq_true] at hall
    have hz : numV (c :: r) = numV r := by rw [numV_cons, hc]; simp
    have hlt := numV_below hall.2
    rcases h.lead with h1 | h1
    · exact List.eq_nil_of_length_eq_zero (by simpa using h1)
    · rw [List.length_cons, Nat.add_sub_cancel] at h1
      omega

theorem conv_dig (w : World) (k : Nat) : (convert 37 9 (.slice (some ⟨w.heap.size, 0, none⟩) 1 1)).run Tryd.prog (w.alloc (.cells #[.int .u8 (48 + ((k % 10 : Nat) : Int))] 5)) = .ok (.string ⟨#[UInt8.ofNat (48 + k % 10)]⟩) (w.alloc (.cells #[.int .u8 (48 + ((k % 10 : Nat) : Int))] 5)) := by
  have h := conv_one w (UInt8.ofNat (48 + k % 10))
  have e : ((UInt8.ofNat (48 + k % 10)).toNat : Int) = 48 + ((k % 10 : Nat) : Int) := by rw [dig_byte]; omega
  rw [e] at h
  exact h

set_option maxRecDepth 100000 in
set_option maxHeartbeats 4000000 in
theorem wone (w : World) (s : ByteArray) (_ : s.size ≤ maxLen) (n : Int) (hl : LaidJ w) :
    Calls Tryd.prog 14 #[.string s, .int .i64 n] w fun e w' => e = .returned (.bool true) ∧ Below w.heap.size w w' := by
  have HL := Lib.hid hl
  obtain ⟨q1, hq1, hq1s, hz1, _⟩ := cut_at s 200
  replace hq1 : min (s.size : Int) 200 = (q1 : Int) := hq1
  obtain ⟨x, hx⟩ : ∃ x, s.extract 0 q1 = x := ⟨_, rfl⟩
  rw [hx] at hz1
  have HX := Lib.hid (fun w9 (h9 : LaidJ w9) => lex_calls w9 h9 x (by unfold maxLen; omega))
  have HIN := Lib.hid (fun w9 (h9 : LaidJ w9) => isName_calls w9 h9.laid x (by unfold maxLen; omega))
  have HIW := Lib.hid (fun w9 (h9 : LaidJ w9) => isWord_calls w9 h9.laid x (by unfold maxLen; omega))
  have HN1 := Lib.hid (fun h : nameB x.data.toList = true => lex_name h (by rw [← size_len]; omega))
  have HN2 := Lib.hid (fun h : wordB x.data.toList = true => lex_isword h (by rw [← size_len]; omega))
  have HN3 : Hid (nameB x.data.toList = true → wordB x.data.toList = false) := Lib.hid (fun h => by
    cases hw : wordB x.data.toList with
    | false => rfl
    | true =>
      have := (lex_isword hw (by rw [← size_len]; omega)).2
      rw [h] at this
      cases this)
  have hxe : (⟨x.data.toList.toArray⟩ : ByteArray) = x := bs_ext rfl
  have HXE : Hid (∀ (W : World) (g : Nat), W.cell? ⟨g, 1, none⟩ = some (.string ⟨x.data.toList.toArray⟩) → W.cell? ⟨g, 1, none⟩ = some (.string x)) := Lib.hid (fun W g h => by rw [hxe] at h; exact h)
  clear hl hxe
  go_enter Tryd.func14, Tryd.ntmps14
  go_wp2_with fail
  refine (shownJ_calls w HL.out).mono ?_
  rintro e w1 ⟨rfl, hb1⟩
  have HB1 := Lib.hid hb1
  clear hb1
  go_wp2_with fail
  refine (HX.out w1 (HL.out.below HB1.out)).mono ?_
  rintro e w2 h2
  obtain ⟨ps, pa, pe, A1, c1, hlx, rfl, hown1, hb2, hpl⟩ := h2.open (by omega)
  have HB2 := Lib.hid (HB1.out.trans (hb2.mono HB1.out.size))
  clear hb2 h2
  go_wp2_with fail
  refine (HIN.out w2 (HL.out.below HB2.out)).mono ?_
  rintro e w3 ⟨rfl, hb3⟩
  have HB3 := Lib.hid (HB2.out.trans (hb3.mono HB2.out.size))
  cases hnm : nameB x.data.toList with
  | true =>
    have hwd := HN3.out hnm
    have hlf := HN1.out hnm
    rw [hlf] at hlx
    injection hlx with hl1 hl2
    injection hl2 with hl2 hl3
    subst hl1
    subst hl2
    subst hl3
    simp only [List.length_cons, List.length_nil, Nat.zero_add] at hown1 ⊢
    obtain ⟨g, cap1, hA, _, _⟩ := World.ownsRow.form hown1 (by decide)
    injection hA with hA _ hcap
    subst hA
    have d0 : w3.cell? ⟨g, 0, none⟩ = some (.int .i64 1) := cell_kept hb3 (tl_at hown1 rfl (k := 0) rfl 0 (by decide))
    have d1 : w3.cell? ⟨g, 1, none⟩ = some (.string x) := cell_kept hb3 (HXE.out w2 g (tl_at hown1 rfl (k := 0) rfl 1 (by decide)))
    clear hb3 hown1 hcap hlf hpl
    go_wp2_with fail
    refine (HIW.out w3 (HL.out.below HB3.out)).mono ?_
    rintro e WT ⟨rfl, hb4⟩
    rw [hwd]
    have HBT := Lib.hid (HB3.out.trans (hb4.mono HB3.out.size))
    clear hb4 d0 d1 hwd hnm HX HIN HIW HN1 HN2 HN3 HXE
    cases hn1 : decide (n < 0) with
    | true =>
      go_wp2
      go_ret
      exact ⟨rfl, HBT.out⟩
    | false =>
      cases hn2 : decide ((999999999999999 : Int) < n) with
      | true =>
        have hn1' : 0 ≤ n := by have := of_decide_eq_false hn1; omega
        have hn2' : (999999999999999 : Int) < n := of_decide_eq_true hn2
        clear hn1 hn2
        go_wp2
        go_ret
        exact ⟨rfl, HBT.out⟩
      | false =>
        have hn1' : 0 ≤ n := by have := of_decide_eq_false hn1; omega
        have hn2' : n ≤ 999999999999999 := by have := of_decide_eq_false hn2; omega
        obtain ⟨N, rfl⟩ : ∃ N : Nat, n = N := ⟨n.toNat, by omega⟩
        have hN : N ≤ 999999999999999 := by omega
        have HNN := Lib.hid hN
        clear hn1 hn2 hn1'
        go_wp2
        go_loopg [9, 10] (N + 1) (fun m v i wr => ∃ (k : Nat) (d : List UInt8), m = k + (if d = [] then 1 else 0) ∧ v = .string ⟨d.toArray⟩ ∧ i = .int .i64 k ∧ Below WT.heap.size WT wr ∧ k ≤ N ∧ d.length ≤ 16 ∧ Hid (DigAt N d k))
        case atStart => exact ⟨N, [], by simp, rfl, rfl, Below.refl _ _, Nat.le_refl _, by simp, Lib.hid (DigAt.start N)⟩
        case round =>
          obtain ⟨k, d, hm, rfl, rfl, hbw, hkN, hd16, HD⟩ := hrel
          have HBW := Lib.hid hbw
          have HM := Lib.hid hm
          clear hbw hm
          obtain ⟨o, ho⟩ : ∃ o : ByteArray, (⟨d.toArray⟩ : ByteArray) = o := ⟨_, rfl⟩
          have hol : o.data.toList = d := by rw [← ho]
          have hos : o.size = d.length := by rw [size_len, hol]
          have hem : o.toList.isEmpty = d.isEmpty := by rw [ByteArray.toList_eq, hol]
          rw [ho]
          clear ho
          have HOL := Lib.hid hol
          clear hol
          by_cases hgo : 0 < k ∨ d = []
          · have hnx := HD.out.next hgo
            have hcv := conv_dig wr k
            have h15 : (UInt8.ofNat (48 + k % 10) :: d).length ≤ 16 := by
              rcases hnx.lead with h1 | h1
              · omega
              · rcases Nat.lt_or_ge 16 (UInt8.ofNat (48 + k % 10) :: d).length with h2 | h2
                · have h3 : 10 ^ 16 ≤ 10 ^ ((UInt8.ofNat (48 + k % 10) :: d).length - 1) := Nat.pow_le_pow_right (by omega) (by omega)
                  have := HNN.out
                  omega
                · exact h2
            have hmeas : k / 10 + (if UInt8.ofNat (48 + k % 10) :: d = [] then 1 else 0) < k + (if d = [] then 1 else 0) := by
              simp only [List.cons_ne_nil, if_false]
              rcases Nat.eq_zero_or_pos k with h0 | h0
              · subst h0
                rcases hgo with h1 | h1
                · omega
                · simp [h1]
              · have : k / 10 < k := Nat.div_lt_self h0 (by omega)
                omega
            have HNX := Lib.hid hnx
            have HME := Lib.hid hmeas
            have HO2 : Hid ((⟨(UInt8.ofNat (48 + k % 10) :: d).toArray⟩ : ByteArray) = ⟨#[UInt8.ofNat (48 + k % 10)]⟩ ++ o) := Lib.hid (bs_ext (by rw [app_bytes, HOL.out]; rfl))
            have h15' := Lib.hid h15
            have hmod : k % 10 < 10 := Nat.mod_lt _ (by omega)
            obtain ⟨r, hr⟩ : ∃ r, k % 10 = r := ⟨_, rfl⟩
            obtain ⟨q, hq⟩ : ∃ q, k / 10 = q := ⟨_, rfl⟩
            have e1 : (k : Int) % 10 = (r : Int) := by omega
            have e2 : (k : Int).tmod 10 = (r : Int) := by rw [Int.tmod_eq_emod_of_nonneg (by omega)]; exact e1
            have e3 : (k : Int) / 10 = (q : Int) := by omega
            have e4 : (k : Int).tdiv 10 = (q : Int) := by rw [Int.tdiv_eq_ediv_of_nonneg (by omega)]; exact e3
            have e5 : IntKind.u8.wrap (48 + (r : Int)) = 48 + (r : Int) := by rw [IntKind.wrap_u8]; omega
            have hqN : q ≤ N := by omega
            rw [hr] at hcv HNX HME HO2 h15' hmod
            rw [hq] at HNX HME
            have z1 : ¬ 9223372036854775807 < 1 + o.size := by omega
            clear hnx h15 hmeas hr hq
            rcases Nat.eq_zero_or_pos k with h0 | h0
            · have hdn : d = [] := by
                rcases hgo with h1 | h1
                · omega
                · exact h1
              have hem2 : o.toList.isEmpty = true := by rw [hem, hdn]; rfl
              subst h0
              obtain rfl : r = 0 := by omega
              obtain rfl : q = 0 := by omega
              rw [show (48 + ((0 : Nat) : Int)) = 48 from rfl] at hcv
              clear hem hdn hgo e1 e2 e3 e4 e5
              go_wp2
              go_roundg (0 + (if UInt8.ofNat (48 + 0) :: d = [] then 1 else 0))
              case measure => rw [HM.out]; exact HME.out
              case rel => exact ⟨0, _, rfl, by rw [HO2.out]; first | rfl | simp, rfl, HBW.out.alloc HBW.out.size _, hqN, h15'.out, HNX⟩
            · have hk0 : (0 : Int) < (k : Int) := by omega
              clear hem hgo
              go_wp2
              go_roundg (q + (if UInt8.ofNat (48 + r) :: d = [] then 1 else 0))
              case measure => rw [HM.out]; exact HME.out
              case rel => exact ⟨q, _, rfl, by rw [HO2.out]; first | rfl | simp, rfl, HBW.out.alloc HBW.out.size _, hqN, h15'.out, HNX⟩
          · have h0 : k = 0 := by omega
            have hdn : d ≠ [] := fun h => hgo (.inr h)
            subst h0
            have hem2 : o.toList.isEmpty = false := by
              rw [hem]
              cases d with
              | nil => exact absurd rfl hdn
              | cons c r => rfl
            have hlx2 := HD.out.lex hdn HNN.out
            rw [← HOL.out] at hlx2
            have HLX := Lib.hid hlx2
            have HBU := Lib.hid (HBT.out.trans (HBW.out.mono HBT.out.size))
            have HZ := Lib.hid (fun w9 (h9 : LaidJ w9) => lex_calls w9 h9 o (by unfold maxLen; omega))
            clear hem hgo hdn hlx2
            go_wp2_with fail
            refine (HZ.out wr (HL.out.below HBU.out)).mono ?_
            rintro e w8 h8
            obtain ⟨rs, ra, re, A3, c3, hlz, rfl, hown3, hb8, hrl⟩ := h8.open (by omega)
            rw [HLX.out] at hlz
            injection hlz with hl1 hl2
            injection hl2 with hl2 hl3
            subst hl1
            subst hl2
            subst hl3
            simp only [List.length_cons, List.length_nil, Nat.zero_add] at hown3 ⊢
            obtain ⟨g3, cap3, hA3, _, _⟩ := World.ownsRow.form hown3 (by decide)
            injection hA3 with hA3 _ hcap3
            subst hA3
            have v0 : w8.cell? ⟨g3, 0, none⟩ = some (.int .i64 3) := tl_at hown3 rfl (k := 0) rfl 0 (by decide)
            have v2 : w8.cell? ⟨g3, 2, none⟩ = some (.int .i64 N) := tl_at hown3 rfl (k := 0) rfl 2 (by decide)
            have HB8 := Lib.hid (HBU.out.trans (hb8.mono HBU.out.size))
            clear hown3 hb8 h8 hcap3 hrl
            go_wp2
            go_ret
            exact ⟨rfl, HB8.out⟩
  | false =>
    cases hwd : wordB x.data.toList with
    | true =>
      have hlf := (HN2.out hwd).1
      rw [hlf] at hlx
      injection hlx with hl1 hl2
      injection hl2 with hl2 hl3
      subst hl1
      subst hl2
      subst hl3
      simp only [List.length_cons, List.length_nil, Nat.zero_add] at hown1 ⊢
      obtain ⟨g, cap1, hA, _, _⟩ := World.ownsRow.form hown1 (by decide)
      injection hA with hA _ hcap
      subst hA
      have d0' : w3.cell? ⟨g, 0, none⟩ = some (.int .i64 2) := cell_kept hb3 (tl_at hown1 rfl (k := 0) rfl 0 (by decide))
      have d1' : w3.cell? ⟨g, 1, none⟩ = some (.string x) := cell_kept hb3 (HXE.out w2 g (tl_at hown1 rfl (k := 0) rfl 1 (by decide)))
      clear hb3 hown1 hcap hlf hpl
      go_wp2_with fail
      refine (HIW.out w3 (HL.out.below HB3.out)).mono ?_
      rintro e w4 ⟨rfl, hb4⟩
      rw [hwd]
      have d0 : w4.cell? ⟨g, 0, none⟩ = some (.int .i64 2) := cell_kept hb4 d0'
      have d1 : w4.cell? ⟨g, 1, none⟩ = some (.string x) := cell_kept hb4 d1'
      have HB4 := Lib.hid (HB3.out.trans (hb4.mono HB3.out.size))
      clear hb4 d0' d1'
      go_wp2_with fail
      refine (HIN.out w4 (HL.out.below HB4.out)).mono ?_
      rintro e WT ⟨rfl, hb5⟩
      rw [hnm]
      have HBT := Lib.hid (HB4.out.trans (hb5.mono HB4.out.size))
      clear hb5 d0 d1 hwd hnm HX HIN HIW HN1 HN2 HN3 HXE
      cases hn1 : decide (n < 0) with
      | true =>
        go_wp2
        go_ret
        exact ⟨rfl, HBT.out⟩
      | false =>
        cases hn2 : decide ((999999999999999 : Int) < n) with
        | true =>
          have hn1' : 0 ≤ n := by have := of_decide_eq_false hn1; omega
          have hn2' : (999999999999999 : Int) < n := of_decide_eq_true hn2
          clear hn1 hn2
          go_wp2
          go_ret
          exact ⟨rfl, HBT.out⟩
        | false =>
          have hn1' : 0 ≤ n := by have := of_decide_eq_false hn1; omega
          have hn2' : n ≤ 999999999999999 := by have := of_decide_eq_false hn2; omega
          obtain ⟨N, rfl⟩ : ∃ N : Nat, n = N := ⟨n.toNat, by omega⟩
          have hN : N ≤ 999999999999999 := by omega
          have HNN := Lib.hid hN
          clear hn1 hn2 hn1'
          go_wp2
          go_loopg [9, 10] (N + 1) (fun m v i wr => ∃ (k : Nat) (d : List UInt8), m = k + (if d = [] then 1 else 0) ∧ v = .string ⟨d.toArray⟩ ∧ i = .int .i64 k ∧ Below WT.heap.size WT wr ∧ k ≤ N ∧ d.length ≤ 16 ∧ Hid (DigAt N d k))
          case atStart => exact ⟨N, [], by simp, rfl, rfl, Below.refl _ _, Nat.le_refl _, by simp, Lib.hid (DigAt.start N)⟩
          case round =>
            obtain ⟨k, d, hm, rfl, rfl, hbw, hkN, hd16, HD⟩ := hrel
            have HBW := Lib.hid hbw
            have HM := Lib.hid hm
            clear hbw hm
            obtain ⟨o, ho⟩ : ∃ o : ByteArray, (⟨d.toArray⟩ : ByteArray) = o := ⟨_, rfl⟩
            have hol : o.data.toList = d := by rw [← ho]
            have hos : o.size = d.length := by rw [size_len, hol]
            have hem : o.toList.isEmpty = d.isEmpty := by rw [ByteArray.toList_eq, hol]
            rw [ho]
            clear ho
            have HOL := Lib.hid hol
            clear hol
            by_cases hgo : 0 < k ∨ d = []
            · have hnx := HD.out.next hgo
              have hcv := conv_dig wr k
              have h15 : (UInt8.ofNat (48 + k % 10) :: d).length ≤ 16 := by
                rcases hnx.lead with h1 | h1
                · omega
                · rcases Nat.lt_or_ge 16 (UInt8.ofNat (48 + k % 10) :: d).length with h2 | h2
                  · have h3 : 10 ^ 16 ≤ 10 ^ ((UInt8.ofNat (48 + k % 10) :: d).length - 1) := Nat.pow_le_pow_right (by omega) (by omega)
                    have := HNN.out
                    omega
                  · exact h2
              have hmeas : k / 10 + (if UInt8.ofNat (48 + k % 10) :: d = [] then 1 else 0) < k + (if d = [] then 1 else 0) := by
                simp only [List.cons_ne_nil, if_false]
                rcases Nat.eq_zero_or_pos k with h0 | h0
                · subst h0
                  rcases hgo with h1 | h1
                  · omega
                  · simp [h1]
                · have : k / 10 < k := Nat.div_lt_self h0 (by omega)
                  omega
              have HNX := Lib.hid hnx
              have HME := Lib.hid hmeas
              have HO2 : Hid ((⟨(UInt8.ofNat (48 + k % 10) :: d).toArray⟩ : ByteArray) = ⟨#[UInt8.ofNat (48 + k % 10)]⟩ ++ o) := Lib.hid (bs_ext (by rw [app_bytes, HOL.out]; rfl))
              have h15' := Lib.hid h15
              have hmod : k % 10 < 10 := Nat.mod_lt _ (by omega)
              obtain ⟨r, hr⟩ : ∃ r, k % 10 = r := ⟨_, rfl⟩
              obtain ⟨q, hq⟩ : ∃ q, k / 10 = q := ⟨_, rfl⟩
              have e1 : (k : Int) % 10 = (r : Int) := by omega
              have e2 : (k : Int).tmod 10 = (r : Int) := by rw [Int.tmod_eq_emod_of_nonneg (by omega)]; exact e1
              have e3 : (k : Int) / 10 = (q : Int) := by omega
              have e4 : (k : Int).tdiv 10 = (q : Int) := by rw [Int.tdiv_eq_ediv_of_nonneg (by omega)]; exact e3
              have e5 : IntKind.u8.wrap (48 + (r : Int)) = 48 + (r : Int) := by rw [IntKind.wrap_u8]; omega
              have hqN : q ≤ N := by omega
              rw [hr] at hcv HNX HME HO2 h15' hmod
              rw [hq] at HNX HME
              have z1 : ¬ 9223372036854775807 < 1 + o.size := by omega
              clear hnx h15 hmeas hr hq
              rcases Nat.eq_zero_or_pos k with h0 | h0
              · have hdn : d = [] := by
                  rcases hgo with h1 | h1
                  · omega
                  · exact h1
                have hem2 : o.toList.isEmpty = true := by rw [hem, hdn]; rfl
                subst h0
                obtain rfl : r = 0 := by omega
                obtain rfl : q = 0 := by omega
                rw [show (48 + ((0 : Nat) : Int)) = 48 from rfl] at hcv
                clear hem hdn hgo e1 e2 e3 e4 e5
                go_wp2
                go_roundg (0 + (if UInt8.ofNat (48 + 0) :: d = [] then 1 else 0))
                case measure => rw [HM.out]; exact HME.out
                case rel => exact ⟨0, _, rfl, by rw [HO2.out]; first | rfl | simp, rfl, HBW.out.alloc HBW.out.size _, hqN, h15'.out, HNX⟩
              · have hk0 : (0 : Int) < (k : Int) := by omega
                clear hem hgo
                go_wp2
                go_roundg (q + (if UInt8.ofNat (48 + r) :: d = [] then 1 else 0))
                case measure => rw [HM.out]; exact HME.out
                case rel => exact ⟨q, _, rfl, by rw [HO2.out]; first | rfl | simp, rfl, HBW.out.alloc HBW.out.size _, hqN, h15'.out, HNX⟩
            · have h0 : k = 0 := by omega
              have hdn : d ≠ [] := fun h => hgo (.inr h)
              subst h0
              have hem2 : o.toList.isEmpty = false := by
                rw [hem]
                cases d with
                | nil => exact absurd rfl hdn
                | cons c r => rfl
              have hlx2 := HD.out.lex hdn HNN.out
              rw [← HOL.out] at hlx2
              have HLX := Lib.hid hlx2
              have HBU := Lib.hid (HBT.out.trans (HBW.out.mono HBT.out.size))
              have HZ := Lib.hid (fun w9 (h9 : LaidJ w9) => lex_calls w9 h9 o (by unfold maxLen; omega))
              clear hem hgo hdn hlx2
              go_wp2_with fail
              refine (HZ.out wr (HL.out.below HBU.out)).mono ?_
              rintro e w8 h8
              obtain ⟨rs, ra, re, A3, c3, hlz, rfl, hown3, hb8, hrl⟩ := h8.open (by omega)
              rw [HLX.out] at hlz
              injection hlz with hl1 hl2
              injection hl2 with hl2 hl3
              subst hl1
              subst hl2
              subst hl3
              simp only [List.length_cons, List.length_nil, Nat.zero_add] at hown3 ⊢
              obtain ⟨g3, cap3, hA3, _, _⟩ := World.ownsRow.form hown3 (by decide)
              injection hA3 with hA3 _ hcap3
              subst hA3
              have v0 : w8.cell? ⟨g3, 0, none⟩ = some (.int .i64 3) := tl_at hown3 rfl (k := 0) rfl 0 (by decide)
              have v2 : w8.cell? ⟨g3, 2, none⟩ = some (.int .i64 N) := tl_at hown3 rfl (k := 0) rfl 2 (by decide)
              have HB8 := Lib.hid (HBU.out.trans (hb8.mono HBU.out.size))
              clear hown3 hb8 h8 hcap3 hrl
              go_wp2
              go_ret
              exact ⟨rfl, HB8.out⟩
    | false =>
      clear hb3 hown1 hlx hpl
      go_wp2_with fail
      refine (HIW.out w3 (HL.out.below HB3.out)).mono ?_
      rintro e WT ⟨rfl, hb4⟩
      rw [hwd]
      have HBT := Lib.hid (HB3.out.trans (hb4.mono HB3.out.size))
      clear hb4 hwd hnm HX HIN HIW HN1 HN2 HN3 HXE
      cases hn1 : decide (n < 0) with
      | true =>
        go_wp2
        go_ret
        exact ⟨rfl, HBT.out⟩
      | false =>
        cases hn2 : decide ((999999999999999 : Int) < n) with
        | true =>
          have hn1' : 0 ≤ n := by have := of_decide_eq_false hn1; omega
          have hn2' : (999999999999999 : Int) < n := of_decide_eq_true hn2
          clear hn1 hn2
          go_wp2
          go_ret
          exact ⟨rfl, HBT.out⟩
        | false =>
          have hn1' : 0 ≤ n := by have := of_decide_eq_false hn1; omega
          have hn2' : n ≤ 999999999999999 := by have := of_decide_eq_false hn2; omega
          obtain ⟨N, rfl⟩ : ∃ N : Nat, n = N := ⟨n.toNat, by omega⟩
          have hN : N ≤ 999999999999999 := by omega
          have HNN := Lib.hid hN
          clear hn1 hn2 hn1'
          go_wp2
          go_loopg [9, 10] (N + 1) (fun m v i wr => ∃ (k : Nat) (d : List UInt8), m = k + (if d = [] then 1 else 0) ∧ v = .string ⟨d.toArray⟩ ∧ i = .int .i64 k ∧ Below WT.heap.size WT wr ∧ k ≤ N ∧ d.length ≤ 16 ∧ Hid (DigAt N d k))
          case atStart => exact ⟨N, [], by simp, rfl, rfl, Below.refl _ _, Nat.le_refl _, by simp, Lib.hid (DigAt.start N)⟩
          case round =>
            obtain ⟨k, d, hm, rfl, rfl, hbw, hkN, hd16, HD⟩ := hrel
            have HBW := Lib.hid hbw
            have HM := Lib.hid hm
            clear hbw hm
            obtain ⟨o, ho⟩ : ∃ o : ByteArray, (⟨d.toArray⟩ : ByteArray) = o := ⟨_, rfl⟩
            have hol : o.data.toList = d := by rw [← ho]
            have hos : o.size = d.length := by rw [size_len, hol]
            have hem : o.toList.isEmpty = d.isEmpty := by rw [ByteArray.toList_eq, hol]
            rw [ho]
            clear ho
            have HOL := Lib.hid hol
            clear hol
            by_cases hgo : 0 < k ∨ d = []
            · have hnx := HD.out.next hgo
              have hcv := conv_dig wr k
              have h15 : (UInt8.ofNat (48 + k % 10) :: d).length ≤ 16 := by
                rcases hnx.lead with h1 | h1
                · omega
                · rcases Nat.lt_or_ge 16 (UInt8.ofNat (48 + k % 10) :: d).length with h2 | h2
                  · have h3 : 10 ^ 16 ≤ 10 ^ ((UInt8.ofNat (48 + k % 10) :: d).length - 1) := Nat.pow_le_pow_right (by omega) (by omega)
                    have := HNN.out
                    omega
                  · exact h2
              have hmeas : k / 10 + (if UInt8.ofNat (48 + k % 10) :: d = [] then 1 else 0) < k + (if d = [] then 1 else 0) := by
                simp only [List.cons_ne_nil, if_false]
                rcases Nat.eq_zero_or_pos k with h0 | h0
                · subst h0
                  rcases hgo with h1 | h1
                  · omega
                  · simp [h1]
                · have : k / 10 < k := Nat.div_lt_self h0 (by omega)
                  omega
              have HNX := Lib.hid hnx
              have HME := Lib.hid hmeas
              have HO2 : Hid ((⟨(UInt8.ofNat (48 + k % 10) :: d).toArray⟩ : ByteArray) = ⟨#[UInt8.ofNat (48 + k % 10)]⟩ ++ o) := Lib.hid (bs_ext (by rw [app_bytes, HOL.out]; rfl))
              have h15' := Lib.hid h15
              have hmod : k % 10 < 10 := Nat.mod_lt _ (by omega)
              obtain ⟨r, hr⟩ : ∃ r, k % 10 = r := ⟨_, rfl⟩
              obtain ⟨q, hq⟩ : ∃ q, k / 10 = q := ⟨_, rfl⟩
              have e1 : (k : Int) % 10 = (r : Int) := by omega
              have e2 : (k : Int).tmod 10 = (r : Int) := by rw [Int.tmod_eq_emod_of_nonneg (by omega)]; exact e1
              have e3 : (k : Int) / 10 = (q : Int) := by omega
              have e4 : (k : Int).tdiv 10 = (q : Int) := by rw [Int.tdiv_eq_ediv_of_nonneg (by omega)]; exact e3
              have e5 : IntKind.u8.wrap (48 + (r : Int)) = 48 + (r : Int) := by rw [IntKind.wrap_u8]; omega
              have hqN : q ≤ N := by omega
              rw [hr] at hcv HNX HME HO2 h15' hmod
              rw [hq] at HNX HME
              have z1 : ¬ 9223372036854775807 < 1 + o.size := by omega
              clear hnx h15 hmeas hr hq
              rcases Nat.eq_zero_or_pos k with h0 | h0
              · have hdn : d = [] := by
                  rcases hgo with h1 | h1
                  · omega
                  · exact h1
                have hem2 : o.toList.isEmpty = true := by rw [hem, hdn]; rfl
                subst h0
                obtain rfl : r = 0 := by omega
                obtain rfl : q = 0 := by omega
                rw [show (48 + ((0 : Nat) : Int)) = 48 from rfl] at hcv
                clear hem hdn hgo e1 e2 e3 e4 e5
                go_wp2
                go_roundg (0 + (if UInt8.ofNat (48 + 0) :: d = [] then 1 else 0))
                case measure => rw [HM.out]; exact HME.out
                case rel => exact ⟨0, _, rfl, by rw [HO2.out]; first | rfl | simp, rfl, HBW.out.alloc HBW.out.size _, hqN, h15'.out, HNX⟩
              · have hk0 : (0 : Int) < (k : Int) := by omega
                clear hem hgo
                go_wp2
                go_roundg (q + (if UInt8.ofNat (48 + r) :: d = [] then 1 else 0))
                case measure => rw [HM.out]; exact HME.out
                case rel => exact ⟨q, _, rfl, by rw [HO2.out]; first | rfl | simp, rfl, HBW.out.alloc HBW.out.size _, hqN, h15'.out, HNX⟩
            · have h0 : k = 0 := by omega
              have hdn : d ≠ [] := fun h => hgo (.inr h)
              subst h0
              have hem2 : o.toList.isEmpty = false := by
                rw [hem]
                cases d with
                | nil => exact absurd rfl hdn
                | cons c r => rfl
              have hlx2 := HD.out.lex hdn HNN.out
              rw [← HOL.out] at hlx2
              have HLX := Lib.hid hlx2
              have HBU := Lib.hid (HBT.out.trans (HBW.out.mono HBT.out.size))
              have HZ := Lib.hid (fun w9 (h9 : LaidJ w9) => lex_calls w9 h9 o (by unfold maxLen; omega))
              clear hem hgo hdn hlx2
              go_wp2_with fail
              refine (HZ.out wr (HL.out.below HBU.out)).mono ?_
              rintro e w8 h8
              obtain ⟨rs, ra, re, A3, c3, hlz, rfl, hown3, hb8, hrl⟩ := h8.open (by omega)
              rw [HLX.out] at hlz
              injection hlz with hl1 hl2
              injection hl2 with hl2 hl3
              subst hl1
              subst hl2
              subst hl3
              simp only [List.length_cons, List.length_nil, Nat.zero_add] at hown3 ⊢
              obtain ⟨g3, cap3, hA3, _, _⟩ := World.ownsRow.form hown3 (by decide)
              injection hA3 with hA3 _ hcap3
              subst hA3
              have v0 : w8.cell? ⟨g3, 0, none⟩ = some (.int .i64 3) := tl_at hown3 rfl (k := 0) rfl 0 (by decide)
              have v2 : w8.cell? ⟨g3, 2, none⟩ = some (.int .i64 N) := tl_at hown3 rfl (k := 0) rfl 2 (by decide)
              have HB8 := Lib.hid (HBU.out.trans (hb8.mono HBU.out.size))
              clear hown3 hb8 h8 hcap3 hrl
              go_wp2
              go_ret
              exact ⟨rfl, HB8.out⟩

end Go.Proofs.YtcidccifnaecaaaDoor
