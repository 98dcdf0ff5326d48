/- The scanner's begins, number: walked. -/
import Derived.Test.YtcidccifnaecaaaDoorLexB
import Derived.Test.YtcidccifnaecaaaDoorQuote
import Derived.Lib.AtoiErrMem
namespace Go.Proofs.YtcidccifnaecaaaDoor
open Go.RowKit Go.Sort

/-- begins at texts that have just been laid. -/
theorem begins_at (w0 : World) (s : ByteArray) (xs : List ByteArray) (hN : xs.length ≤ 1000) :
    Calls Tryd.prog 115 #[.string s, .slice (some ⟨w0.heap.size, 0, none⟩) xs.length xs.length] (w0.alloc (.cells ((xs.map Value.string).toArray) 9))
      fun e w' => e = .returned (.int .i64 (beginsF s.data.toList (xs.map (·.data.toList)) : Nat)) ∧ Below w0.heap.size w0 w' := by
  have HB := Lib.hid ((Below.refl w0.heap.size w0).alloc (Nat.le_refl _) (.cells ((xs.map Value.string).toArray) 9))
  have hcell : ∀ i, (w0.alloc (.cells ((xs.map Value.string).toArray) 9)).cell? ⟨w0.heap.size, i, none⟩ = ((xs.map Value.string).toArray)[i]? := fun i => cell_of_row _ _ _ _ _ (0, 0) (heap_alloc_new _ _)
  have HC := Lib.hid hcell
  clear hcell
  generalize w0.alloc (.cells ((xs.map Value.string).toArray) 9) = w1 at HB HC ⊢
  go_enter Tryd.func115, Tryd.ntmps115
  go_wp2
  go_loopw [9] (fun i wr => ∃ k : Nat, k ≤ xs.length ∧ i = .int .i64 k ∧ wr = w1 ∧ Hid (beginsF s.data.toList ((xs.drop k).map (·.data.toList)) = beginsF s.data.toList (xs.map (·.data.toList)))) (fun i _ => xs.length - (intOf i).toNat)
  case atStart => exact ⟨0, by omega, rfl, rfl, Lib.hid (by simp)⟩
  case round =>
    obtain ⟨k, hk, rfl, rfl, HF⟩ := hrel
    by_cases hlt : k < xs.length
    · obtain ⟨x, hx⟩ : ∃ x, xs[k]? = some x := ⟨_, List.getElem?_eq_getElem hlt⟩
      have hc : wr.cell? ⟨w0.heap.size, k, none⟩ = some (.string x) := by rw [HC.out]; simp [hx]
      have hd : xs.drop k = x :: xs.drop (k + 1) := by
        rw [List.drop_eq_getElem_cons hlt]
        congr 1
        rw [List.getElem?_eq_getElem hlt] at hx
        exact Option.some.inj hx
      have hst : beginsF s.data.toList ((xs.drop k).map (·.data.toList)) = if x.data.toList.isPrefixOf s.data.toList then x.data.toList.length else beginsF s.data.toList ((xs.drop (k + 1)).map (·.data.toList)) := by
        rw [hd]; rfl
      rw [HF.out] at hst
      have HST := Lib.hid hst
      have HP := Lib.hid (Tryd.strings_HasPrefix s x wr)
      simp only [Lib.hasPrefix] at HP
      clear hx hd hst
      cases hp : x.data.toList.isPrefixOf s.data.toList with
      | true =>
        rw [hp] at HST HP
        go_wp2_with fail
        refine HP.out.mono ?_
        rintro e w' ⟨rfl, rfl⟩
        go_wp2
        go_ret
        exact ⟨by rw [HST.out]; simp, HB.out⟩
      | false =>
        rw [hp] at HST HP
        go_wp2_with fail
        refine HP.out.mono ?_
        rintro e w' ⟨rfl, rfl⟩
        go_wp2
        go_roundw
        case rel => exact ⟨k + 1, by omega, by go_num, by trivial, Lib.hid (by rw [HST.out]; rfl)⟩
        case measure => simp [intOf]; omega
    · obtain rfl : k = xs.length := by omega
      have hdd : decide ((xs.length : Int) < (xs.length : Int)) = false := by simp
      have HZ : Hid (beginsF s.data.toList (xs.map (·.data.toList)) = 0) := Lib.hid (by rw [← HF.out]; simp [beginsF])
      go_wp2
      go_ret
      exact ⟨by rw [HZ.out]; rfl, HB.out⟩

/-- A token but for where it stands, as a value. -/
def tkVal (t : Tk) (line : Int) (nl : Bool) : Value := .agg #[.int .i64 t.kind, .string ⟨t.s.toArray⟩, .int .i64 t.n, .int .i64 line, .bool nl]
def tokOut (r : Tk × Nat × Int) : Ending := .returned (.tuple #[tkVal r.1 0 false, .int .i64 r.2.1, .int .i64 r.2.2])

theorem digitB8_int (c : UInt8) : digitI (c.toNat : Int) = digitB8 c := rfl
theorem bs_ext {a b : ByteArray} (h : a.data.toList = b.data.toList) : a = b := by
  cases a; cases b
  simp at h
  subst h
  rfl
theorem take_bytes (s : ByteArray) (n : Nat) : s.extract 0 n = ⟨(s.data.toList.take n).toArray⟩ := bs_ext (extract_take s n)
theorem num_foldl : ∀ (l : List UInt8) (a : Nat), l.all digitB8 = true → l.foldl (fun a c => a * 10 + (c.toNat - 48)) a < (a + 1) * 10 ^ l.length
  | [], a, _ => by simp
  | c :: l, a, h => by
    simp only [List.all_cons, Bool.and_eq_true] at h
    have hc : c.toNat ≤ 57 := by
      have := h.1
      simp only [digitB8, digitI, Bool.and_eq_true, decide_eq_true_eq] at this
      omega
    have := num_foldl l (a * 10 + (c.toNat - 48)) h.2
    rw [List.foldl_cons, List.length_cons]
    refine Nat.lt_of_lt_of_le this ?_
    rw [Nat.pow_succ, Nat.mul_comm (10 ^ l.length) 10, ← Nat.mul_assoc]
    exact Nat.mul_le_mul_right _ (by omega)
theorem numV_lt {l : List UInt8} (h : l.all digitB8 = true) (hl : l.length ≤ 15) : numV l < 1000000000000000 := by
  have h1 := num_foldl l 0 h
  have h2 : 10 ^ l.length ≤ 10 ^ 15 := Nat.pow_le_pow_right (by omega) hl
  unfold numV
  omega
theorem take_tw_all (p : UInt8 → Bool) (l : List UInt8) : (l.take (l.takeWhile p).length).all p = true := by
  rw [tw_take, List.all_eq_true]
  exact fun b hb => tw_mem hb

theorem parseUintM_num : ∀ (l : List UInt8) (a : Nat), l.all digitB8 = true → (a + 1) * 10 ^ l.length ≤ 1000000000000000 → Lib.parseUintM 18446744073709551615 a l = .ok (l.foldl (fun a c => a * 10 + (c.toNat - 48)) a)
  | [], a, _, _ => rfl
  | c :: l, a, h, hb => by
    simp only [List.all_cons, Bool.and_eq_true] at h
    have hc : 48 ≤ c.toNat ∧ c.toNat ≤ 57 := by
      have := h.1
      simp only [digitB8, digitI, Bool.and_eq_true, decide_eq_true_eq] at this
      omega
    have h1 : 1 ≤ 10 ^ l.length := Nat.pow_pos (by omega)
    rw [List.length_cons, Nat.pow_succ, Nat.mul_comm (10 ^ l.length) 10, ← Nat.mul_assoc] at hb
    have h2 : (a + 1) * 10 ≤ (a + 1) * 10 * 10 ^ l.length := Nat.le_mul_of_pos_right _ h1
    have h3 : (a * 10 + (c.toNat - 48) + 1) * 10 ^ l.length ≤ (a + 1) * 10 * 10 ^ l.length := Nat.mul_le_mul_right _ (by omega)
    rw [Lib.parseUintM, if_pos hc, if_neg (by omega), if_neg (by omega), parseUintM_num l _ h.2 (by omega)]
    rfl
theorem parse_num {l : List UInt8} (h : l.all digitB8 = true) (hl : l.length ≤ 15) (h0 : l ≠ []) : Lib.parseIntB 64 l = .ok (numV l : Int) := by
  cases l with
  | nil => exact absurd rfl h0
  | cons c r =>
    have hb : 10 ^ (c :: r).length ≤ 10 ^ 15 := Nat.pow_le_pow_right (by omega) hl
    have h1 := parseUintM_num (c :: r) 0 h (by omega)
    have h2 := numV_lt h hl
    have hc : 48 ≤ c.toNat := by
      have := h
      simp only [List.all_cons, Bool.and_eq_true, digitB8, digitI, decide_eq_true_eq] at this
      omega
    have h3 : Lib.parseUintB 64 (c :: r) = .ok (numV (c :: r)) := by rw [Lib.parseUintB, if_neg (by simp)]; exact h1
    have h4 : ¬ (c.toNat = 43 ∨ c.toNat = 45) := by omega
    have h5 : ¬ c.toNat = 45 := by omega
    have h6 : ¬ (2 ^ (64 - 1) ≤ numV (c :: r)) := by omega
    have h7 : Lib.parseIntB 64 (c :: r) = (match Lib.parseUintB 64 (if c.toNat = 43 ∨ c.toNat = 45 then r else c :: r) with
      | .syntax => .syntax
      | .range => .range
      | .ok u => if ¬ c.toNat = 45 ∧ 2 ^ (64 - 1) ≤ u then .range else if c.toNat = 45 ∧ 2 ^ (64 - 1) < u then .range else .ok (if c.toNat = 45 then -(u : Int) else u)) := rfl
    rw [h7, if_neg h4, h3]
    simp only [h5, h6, not_false_eq_true, and_false, false_and, if_false]

theorem numberF_at {l : List UInt8} {k : Nat} (h : (l.takeWhile digitB8).length = k) : numberF l = if [46].isPrefixOf (l.drop k) then (.zero, 0, 25)
    else if namesB l ≠ k ∨ 15 < k ∨ (1 < k ∧ l.head? = some 48) then (.zero, 0, 24) else (⟨3, [], numV (l.take k)⟩, k, 0) := by
  simp only [numberF, h]

/-! ### a token in a box, and handed back out of it -/
theorem tok_put {w : World} {b : Nat} {a0 a1 a2 a3 a4 : Value} (hb : Blk w b 45 #[a0, a1, a2, a3, a4]) (v0 v1 v2 v3 v4 : Value) :
    Blk (((((w.setCell ⟨b, 0, none⟩ v0).setCell ⟨b, 1, none⟩ v1).setCell ⟨b, 2, none⟩ v2).setCell ⟨b, 3, none⟩ v3).setCell ⟨b, 4, none⟩ v4) b 45 #[v0, v1, v2, v3, v4] ∧
    Turn (fun k => k = b) w (((((w.setCell ⟨b, 0, none⟩ v0).setCell ⟨b, 1, none⟩ v1).setCell ⟨b, 2, none⟩ v2).setCell ⟨b, 3, none⟩ v3).setCell ⟨b, 4, none⟩ v4) := by
  refine ⟨?_, (((((Turn.refl (fun k => k = b) w).setCell (p := ⟨b, 0, none⟩) (fun _ => rfl) _).setCell (p := ⟨b, 1, none⟩) (fun _ => rfl) _).setCell (p := ⟨b, 2, none⟩) (fun _ => rfl) _).setCell (p := ⟨b, 3, none⟩) (fun _ => rfl) _).setCell (p := ⟨b, 4, none⟩) (fun _ => rfl) _⟩
  have h1 := ((((hb.set_ 0 v0).set_ 1 v1).set_ 2 v2).set_ 3 v3).set_ 4 v4
  simpa [Array.setIfInBounds] using h1
theorem tok_ret {fn : Func} {p q r : Tmp} (h : fn.results = #[.cell p 45, .tmp q, .tmp r]) {tmps : Array Value} {w : World} {b : Nat} {v0 v1 v2 v3 v4 : Value}
    (hp : tmps.getD p undef = .pointer (some ⟨b, 0, none⟩)) (hb : Blk w b 45 #[v0, v1, v2, v3, v4]) {R : Ending → World → Prop}
    (hR : R (.returned (.tuple #[.agg #[v0, v1, v2, v3, v4], tmps.getD q undef, tmps.getD r undef])) w) : bodyPost Tryd.prog fn R .ret { tmps := tmps, defers := [] } w := by
  refine bodyPost_ret (v := .tuple #[.agg #[v0, v1, v2, v3, v4], tmps.getD q undef, tmps.getD r undef]) ?_ rfl hR
  have hl := run_loadVar_row (P := Tryd.prog) w b 45 45 #[v0, v1, v2, v3, v4] (0, 0) _ hb Tryd.underlying45 rfl (by kernel_rfl)
  have hp' : tmps[p]?.getD undef = .pointer (some ⟨b, 0, none⟩) := by simpa using hp
  simp [results, h, hp', asAddr, hl]

set_option maxRecDepth 100000 in
set_option maxHeartbeats 1600000 in
theorem number_calls (w : World) (s : ByteArray) (hs : s.size ≤ 1000000) (h0 : 0 < s.size) (hd : digitB8 s[0] = true) :
    Calls Tryd.prog 113 #[.string s] w fun e w' => e = tokOut (numberF s.data.toList) ∧ Below w.heap.size w w' := by
  obtain ⟨w0, hw0⟩ : ∃ w0, w.alloc (.cells #[.int .i64 0, .string ByteArray.empty, .int .i64 0, .int .i64 0, .bool false] 45) = w0 := ⟨_, rfl⟩
  have hb0 : Below w.heap.size w w0 := by rw [← hw0]; exact (Below.refl _ _).alloc (Nat.le_refl _) _
  have hx0 : Blk w0 w.heap.size 45 #[.int .i64 0, .string ByteArray.empty, .int .i64 0, .int .i64 0, .bool false] := by rw [← hw0]; exact Blk.new _ _ _
  have HB0 := Lib.hid hb0
  have HX0 := Lib.hid hx0
  have HD := Lib.hid hd
  clear hb0 hx0 hd
  go_enter Tryd.func113, Tryd.ntmps113
  go_wp2
  go_loopw [5] (fun i wr => ∃ k : Nat, k ≤ s.size ∧ i = .int .i64 k ∧ wr = w0 ∧ Hid (∀ j, j < k → ∃ c, s.data.toList[j]? = some c ∧ digitB8 c = true)) (fun i _ => s.size - (intOf i).toNat)
  case atStart => exact ⟨0, by omega, rfl, by trivial, Lib.hid (fun j hj => by omega)⟩
  case round =>
    obtain ⟨k, hk, rfl, rfl, HAL⟩ := hrel
    by_cases hlt : k < s.size
    · have hc := byte_some hlt
      have HC := Lib.hid hc
      clear hc
      cases hl : digitB8 s[k] with
      | true =>
        have hl' : digitI (s[k].toNat : Int) = true := hl
        go_wp2_with (go_at_call 92; refine (isDigit_calls _ _).mono ?_; rintro e w' ⟨rfl, rfl⟩)
        go_roundw
        case rel =>
          refine ⟨k + 1, by omega, by go_num, by trivial, Lib.hid fun j hj => ?_⟩
          by_cases hjk : j < k
          · exact HAL.out j hjk
          · obtain rfl : j = k := by omega
            exact ⟨_, HC.out, hl⟩
        case measure => simp [intOf]; omega
      | false =>
        have hl' : digitI (s[k].toNat : Int) = false := hl
        have hn : (s.data.toList.takeWhile digitB8).length = k := takeWhile_at HAL.out (.inr ⟨_, HC.out, hl⟩)
        go_wp2_with (go_at_call 92; refine (isDigit_calls _ _).mono ?_; rintro e w' ⟨rfl, rfl⟩)
        clear hl hl'
        have HF := Lib.hid (numberF_at hn)
        have HP := Lib.hid (Tryd.strings_HasPrefix (s.extract k s.size) ⟨#[46]⟩)
        rw [show Lib.hasPrefix (s.extract k s.size).data.toList (⟨#[46]⟩ : ByteArray).data.toList = [46].isPrefixOf (s.data.toList.drop k) by rw [extract_drop]; rfl] at HP
        have HHD : Hid (s.data.toList.head? = some s[0]) := Lib.hid (by rw [List.head?_eq_getElem?]; exact byte_some h0)
        have HAD : Hid ((s.data.toList.take k).all digitB8 = true ∧ s.data.toList.take k ≠ []) := Lib.hid ⟨by rw [← hn]; exact take_tw_all _ _, by
          intro h
          have hl := congrArg List.length h
          rw [List.length_take, ← size_len] at hl
          simp only [List.length_nil] at hl
          obtain rfl : k = 0 := by omega
          have h1 := HHD.out
          have h2 := HD.out
          cases hc : s.data.toList with
          | nil => rw [hc] at h1; simp at h1
          | cons c r =>
            rw [hc] at h1 hn
            injection h1 with h1
            rw [← h1] at h2
            have := tw_pos (l := r) h2
            omega⟩
        clear hn
        have c0 := HX0.out.cell 0
        have c1 := HX0.out.cell 1
        have c2 := HX0.out.cell 2
        have c3 := HX0.out.cell 3
        have c4 := HX0.out.cell 4
        have f0 := HX0.out.frozen 0
        have f1 := HX0.out.frozen 1
        have f2 := HX0.out.frozen 2
        have f3 := HX0.out.frozen 3
        have f4 := HX0.out.frozen 4
        cases hp : [46].isPrefixOf (s.data.toList.drop k) with
        | true =>
          rw [hp] at HP HF
          clear hp
          refine (HP.out _).mono ?_
          rintro e w' ⟨rfl, rfl⟩
          go_wp2
          refine tok_ret rfl rfl (tok_put HX0.out _ _ _ _ _).1 ⟨by rw [HF.out]; rfl, ?_⟩
          exact HB0.out.trans ((tok_put HX0.out _ _ _ _ _).2.below HB0.out.size (fun k e => by omega))
        | false =>
          rw [hp] at HP HF
          clear hp
          refine (HP.out _).mono ?_
          rintro e w' ⟨rfl, rfl⟩
          obtain ⟨nm, hnm⟩ : ∃ nm, namesB s.data.toList = nm := ⟨_, rfl⟩
          have HNM := Lib.hid (names_calls w' s (by unfold maxLen; omega))
          rw [hnm] at HF HNM
          clear hnm
          cases h1 : ((nm : Int) == (k : Int)) with
          | false =>
            have h1a : ¬ ((nm : Int) = (k : Int)) := by intro h; rw [h] at h1; simp at h1
            replace HF : Hid (numberF s.data.toList = (.zero, 0, 24)) := Lib.hid (by rw [HF.out, if_neg (by simp), if_pos (.inl (by intro h; rw [h] at h1; simp at h1))])
            go_wp2_with (go_at_call 57; refine HNM.out.mono ?_; rintro e w' ⟨rfl, rfl⟩)
            refine tok_ret rfl rfl (tok_put HX0.out _ _ _ _ _).1 ⟨by rw [HF.out]; rfl, ?_⟩
            exact HB0.out.trans ((tok_put HX0.out _ _ _ _ _).2.below HB0.out.size (fun k e => by omega))
          | true =>
            have h1' : ¬ nm ≠ k := by simp at h1; omega
            obtain rfl : k = nm := by simp at h1; omega
            clear h1
            cases h2 : decide ((15 : Int) < (k : Int)) with
            | true =>
              have h2a : (15 : Int) < (k : Int) := of_decide_eq_true h2
              replace HF : Hid (numberF s.data.toList = (.zero, 0, 24)) := Lib.hid (by rw [HF.out, if_neg (by simp), if_pos (.inr (.inl (by have := of_decide_eq_true h2; omega)))])
              go_wp2_with (go_at_call 57; refine HNM.out.mono ?_; rintro e w' ⟨rfl, rfl⟩)
              refine tok_ret rfl rfl (tok_put HX0.out _ _ _ _ _).1 ⟨by rw [HF.out]; rfl, ?_⟩
              exact HB0.out.trans ((tok_put HX0.out _ _ _ _ _).2.below HB0.out.size (fun k e => by omega))
            | false =>
              have h2a : (k : Int) ≤ 15 := by have := of_decide_eq_false h2; omega
              have h2' : ¬ 15 < k := by have := of_decide_eq_false h2; omega
              have HGO : Hid (¬ (1 < k ∧ s.data.toList.head? = some 48) → numberF s.data.toList = (⟨3, [], numV (s.data.toList.take k)⟩, k, 0)) := Lib.hid (fun h3 => by
                rw [HF.out, if_neg (by simp), if_neg (by rintro (h | h | h); exact h1' h; exact h2' h; exact h3 h)])
              have hv := parse_num HAD.out.1 (by rw [List.length_take]; omega) HAD.out.2
              have HPI := Lib.hid (Tryd.strconv_ParseInt_10_at64_ok (s.extract 0 k) (by rw [ByteArray.size_extract]; omega) _ (by rw [extract_take]; exact hv) w')
              have HB1 : Hid (∀ w9, (w9 = w' ∨ ∃ t, w9 = Lib.bytesWorld w' 5 t) → Below w'.heap.size w' w9) := Lib.hid (fun w9 h => by
                rcases h with rfl | ⟨t, rfl⟩
                · exact Below.refl _ _
                · exact Lib.bytesWorld_below w' _ t)
              clear hv h1'
              cases h3 : decide ((1 : Int) < (k : Int)) with
              | false =>
                have h3a : (k : Int) ≤ 1 := by have := of_decide_eq_false h3; omega
                replace HGO := Lib.hid (HGO.out (fun h => by have := of_decide_eq_false h3; omega))
                go_wp2_with (go_at_call 57; refine HNM.out.mono ?_; rintro e w' ⟨rfl, rfl⟩)
                refine HPI.out.mono ?_
                rintro e w9 ⟨rfl, h9⟩
                have HB9 := Lib.hid (HB1.out w9 h9)
                have HX9 := Lib.hid (HX0.out.keep (HB9.out.block _ HX0.out.lt))
                clear h9 c0 c1 c2 c3 c4 f0 f1 f2 f3 f4
                have c0 := HX9.out.cell 0
                have c1 := HX9.out.cell 1
                have c2 := HX9.out.cell 2
                have c3 := HX9.out.cell 3
                have c4 := HX9.out.cell 4
                have f0 := HX9.out.frozen 0
                have f1 := HX9.out.frozen 1
                have f2 := HX9.out.frozen 2
                have f3 := HX9.out.frozen 3
                have f4 := HX9.out.frozen 4
                go_wp2
                refine tok_ret rfl rfl (tok_put HX9.out _ _ _ _ _).1 ⟨by rw [HGO.out]; rfl, ?_⟩
                exact HB0.out.trans ((HB9.out.mono HB0.out.size).trans ((tok_put HX9.out _ _ _ _ _).2.below (Nat.le_trans HB0.out.size HB9.out.size) (fun k e => by omega)))
              | true =>
                have h3a : (1 : Int) < (k : Int) := of_decide_eq_true h3
                have hlt0 : 0 < s.size := h0
                cases h4 : ((s[0].toNat : Int) == 48) with
                | true =>
                  replace HF : Hid (numberF s.data.toList = (.zero, 0, 24)) := Lib.hid (by rw [HF.out, if_neg (by simp), if_pos (.inr (.inr ⟨by have := of_decide_eq_true h3; omega, by rw [HHD.out, byte_is (d := 48) h4]⟩))])
                  go_wp2_with (go_at_call 57; refine HNM.out.mono ?_; rintro e w' ⟨rfl, rfl⟩)
                  refine tok_ret rfl rfl (tok_put HX0.out _ _ _ _ _).1 ⟨by rw [HF.out]; rfl, ?_⟩
                  exact HB0.out.trans ((tok_put HX0.out _ _ _ _ _).2.below HB0.out.size (fun k e => by omega))
                | false =>
                  replace HGO := Lib.hid (HGO.out (fun h => by have h5 := h.2; rw [HHD.out] at h5; injection h5 with h5; rw [h5] at h4; simp at h4))
                  go_wp2_with (go_at_call 57; refine HNM.out.mono ?_; rintro e w' ⟨rfl, rfl⟩)
                  refine HPI.out.mono ?_
                  rintro e w9 ⟨rfl, h9⟩
                  have HB9 := Lib.hid (HB1.out w9 h9)
                  have HX9 := Lib.hid (HX0.out.keep (HB9.out.block _ HX0.out.lt))
                  clear h9 c0 c1 c2 c3 c4 f0 f1 f2 f3 f4
                  have c0 := HX9.out.cell 0
                  have c1 := HX9.out.cell 1
                  have c2 := HX9.out.cell 2
                  have c3 := HX9.out.cell 3
                  have c4 := HX9.out.cell 4
                  have f0 := HX9.out.frozen 0
                  have f1 := HX9.out.frozen 1
                  have f2 := HX9.out.frozen 2
                  have f3 := HX9.out.frozen 3
                  have f4 := HX9.out.frozen 4
                  go_wp2
                  refine tok_ret rfl rfl (tok_put HX9.out _ _ _ _ _).1 ⟨by rw [HGO.out]; rfl, ?_⟩
                  exact HB0.out.trans ((HB9.out.mono HB0.out.size).trans ((tok_put HX9.out _ _ _ _ _).2.below (Nat.le_trans HB0.out.size HB9.out.size) (fun k e => by omega)))
    · have hn : (s.data.toList.takeWhile digitB8).length = k := takeWhile_at HAL.out (.inl (by rw [← size_len]; omega))
      have hdd : decide ((k : Int) < (s.size : Int)) = false := by simp; omega
      go_wp2_with fail
      clear hdd
      have HF := Lib.hid (numberF_at hn)
      have HP := Lib.hid (Tryd.strings_HasPrefix (s.extract k s.size) ⟨#[46]⟩)
      rw [show Lib.hasPrefix (s.extract k s.size).data.toList (⟨#[46]⟩ : ByteArray).data.toList = [46].isPrefixOf (s.data.toList.drop k) by rw [extract_drop]; rfl] at HP
      have HHD : Hid (s.data.toList.head? = some s[0]) := Lib.hid (by rw [List.head?_eq_getElem?]; exact byte_some h0)
      have HAD : Hid ((s.data.toList.take k).all digitB8 = true ∧ s.data.toList.take k ≠ []) := Lib.hid ⟨by rw [← hn]; exact take_tw_all _ _, by
        intro h
        have hl := congrArg List.length h
        rw [List.length_take, ← size_len] at hl
        simp only [List.length_nil] at hl
        obtain rfl : k = 0 := by omega
        have h1 := HHD.out
        have h2 := HD.out
        cases hc : s.data.toList with
        | nil => rw [hc] at h1; simp at h1
        | cons c r =>
          rw [hc] at h1 hn
          injection h1 with h1
          rw [← h1] at h2
          have := tw_pos (l := r) h2
          omega⟩
      clear hn
      have c0 := HX0.out.cell 0
      have c1 := HX0.out.cell 1
      have c2 := HX0.out.cell 2
      have c3 := HX0.out.cell 3
      have c4 := HX0.out.cell 4
      have f0 := HX0.out.frozen 0
      have f1 := HX0.out.frozen 1
      have f2 := HX0.out.frozen 2
      have f3 := HX0.out.frozen 3
      have f4 := HX0.out.frozen 4
      cases hp : [46].isPrefixOf (s.data.toList.drop k) with
      | true =>
        rw [hp] at HP HF
        clear hp
        refine (HP.out _).mono ?_
        rintro e w' ⟨rfl, rfl⟩
        go_wp2
        refine tok_ret rfl rfl (tok_put HX0.out _ _ _ _ _).1 ⟨by rw [HF.out]; rfl, ?_⟩
        exact HB0.out.trans ((tok_put HX0.out _ _ _ _ _).2.below HB0.out.size (fun k e => by omega))
      | false =>
        rw [hp] at HP HF
        clear hp
        refine (HP.out _).mono ?_
        rintro e w' ⟨rfl, rfl⟩
        obtain ⟨nm, hnm⟩ : ∃ nm, namesB s.data.toList = nm := ⟨_, rfl⟩
        have HNM := Lib.hid (names_calls w' s (by unfold maxLen; omega))
        rw [hnm] at HF HNM
        clear hnm
        cases h1 : ((nm : Int) == (k : Int)) with
        | false =>
          have h1a : ¬ ((nm : Int) = (k : Int)) := by intro h; rw [h] at h1; simp at h1
          replace HF : Hid (numberF s.data.toList = (.zero, 0, 24)) := Lib.hid (by rw [HF.out, if_neg (by simp), if_pos (.inl (by intro h; rw [h] at h1; simp at h1))])
          go_wp2_with (go_at_call 57; refine HNM.out.mono ?_; rintro e w' ⟨rfl, rfl⟩)
          refine tok_ret rfl rfl (tok_put HX0.out _ _ _ _ _).1 ⟨by rw [HF.out]; rfl, ?_⟩
          exact HB0.out.trans ((tok_put HX0.out _ _ _ _ _).2.below HB0.out.size (fun k e => by omega))
        | true =>
          have h1' : ¬ nm ≠ k := by simp at h1; omega
          obtain rfl : k = nm := by simp at h1; omega
          clear h1
          cases h2 : decide ((15 : Int) < (k : Int)) with
          | true =>
            have h2a : (15 : Int) < (k : Int) := of_decide_eq_true h2
            replace HF : Hid (numberF s.data.toList = (.zero, 0, 24)) := Lib.hid (by rw [HF.out, if_neg (by simp), if_pos (.inr (.inl (by have := of_decide_eq_true h2; omega)))])
            go_wp2_with (go_at_call 57; refine HNM.out.mono ?_; rintro e w' ⟨rfl, rfl⟩)
            refine tok_ret rfl rfl (tok_put HX0.out _ _ _ _ _).1 ⟨by rw [HF.out]; rfl, ?_⟩
            exact HB0.out.trans ((tok_put HX0.out _ _ _ _ _).2.below HB0.out.size (fun k e => by omega))
          | false =>
            have h2a : (k : Int) ≤ 15 := by have := of_decide_eq_false h2; omega
            have h2' : ¬ 15 < k := by have := of_decide_eq_false h2; omega
            have HGO : Hid (¬ (1 < k ∧ s.data.toList.head? = some 48) → numberF s.data.toList = (⟨3, [], numV (s.data.toList.take k)⟩, k, 0)) := Lib.hid (fun h3 => by
              rw [HF.out, if_neg (by simp), if_neg (by rintro (h | h | h); exact h1' h; exact h2' h; exact h3 h)])
            have hv := parse_num HAD.out.1 (by rw [List.length_take]; omega) HAD.out.2
            have HPI := Lib.hid (Tryd.strconv_ParseInt_10_at64_ok (s.extract 0 k) (by rw [ByteArray.size_extract]; omega) _ (by rw [extract_take]; exact hv) w')
            have HB1 : Hid (∀ w9, (w9 = w' ∨ ∃ t, w9 = Lib.bytesWorld w' 5 t) → Below w'.heap.size w' w9) := Lib.hid (fun w9 h => by
              rcases h with rfl | ⟨t, rfl⟩
              · exact Below.refl _ _
              · exact Lib.bytesWorld_below w' _ t)
            clear hv h1'
            cases h3 : decide ((1 : Int) < (k : Int)) with
            | false =>
              have h3a : (k : Int) ≤ 1 := by have := of_decide_eq_false h3; omega
              replace HGO := Lib.hid (HGO.out (fun h => by have := of_decide_eq_false h3; omega))
              go_wp2_with (go_at_call 57; refine HNM.out.mono ?_; rintro e w' ⟨rfl, rfl⟩)
              refine HPI.out.mono ?_
              rintro e w9 ⟨rfl, h9⟩
              have HB9 := Lib.hid (HB1.out w9 h9)
              have HX9 := Lib.hid (HX0.out.keep (HB9.out.block _ HX0.out.lt))
              clear h9 c0 c1 c2 c3 c4 f0 f1 f2 f3 f4
              have c0 := HX9.out.cell 0
              have c1 := HX9.out.cell 1
              have c2 := HX9.out.cell 2
              have c3 := HX9.out.cell 3
              have c4 := HX9.out.cell 4
              have f0 := HX9.out.frozen 0
              have f1 := HX9.out.frozen 1
              have f2 := HX9.out.frozen 2
              have f3 := HX9.out.frozen 3
              have f4 := HX9.out.frozen 4
              go_wp2
              refine tok_ret rfl rfl (tok_put HX9.out _ _ _ _ _).1 ⟨by rw [HGO.out]; rfl, ?_⟩
              exact HB0.out.trans ((HB9.out.mono HB0.out.size).trans ((tok_put HX9.out _ _ _ _ _).2.below (Nat.le_trans HB0.out.size HB9.out.size) (fun k e => by omega)))
            | true =>
              have h3a : (1 : Int) < (k : Int) := of_decide_eq_true h3
              have hlt0 : 0 < s.size := h0
              cases h4 : ((s[0].toNat : Int) == 48) with
              | true =>
                replace HF : Hid (numberF s.data.toList = (.zero, 0, 24)) := Lib.hid (by rw [HF.out, if_neg (by simp), if_pos (.inr (.inr ⟨by have := of_decide_eq_true h3; omega, by rw [HHD.out, byte_is (d := 48) h4]⟩))])
                go_wp2_with (go_at_call 57; refine HNM.out.mono ?_; rintro e w' ⟨rfl, rfl⟩)
                refine tok_ret rfl rfl (tok_put HX0.out _ _ _ _ _).1 ⟨by rw [HF.out]; rfl, ?_⟩
                exact HB0.out.trans ((tok_put HX0.out _ _ _ _ _).2.below HB0.out.size (fun k e => by omega))
              | false =>
                replace HGO := Lib.hid (HGO.out (fun h => by have h5 := h.2; rw [HHD.out] at h5; injection h5 with h5; rw [h5] at h4; simp at h4))
                go_wp2_with (go_at_call 57; refine HNM.out.mono ?_; rintro e w' ⟨rfl, rfl⟩)
                refine HPI.out.mono ?_
                rintro e w9 ⟨rfl, h9⟩
                have HB9 := Lib.hid (HB1.out w9 h9)
                have HX9 := Lib.hid (HX0.out.keep (HB9.out.block _ HX0.out.lt))
                clear h9 c0 c1 c2 c3 c4 f0 f1 f2 f3 f4
                have c0 := HX9.out.cell 0
                have c1 := HX9.out.cell 1
                have c2 := HX9.out.cell 2
                have c3 := HX9.out.cell 3
                have c4 := HX9.out.cell 4
                have f0 := HX9.out.frozen 0
                have f1 := HX9.out.frozen 1
                have f2 := HX9.out.frozen 2
                have f3 := HX9.out.frozen 3
                have f4 := HX9.out.frozen 4
                go_wp2
                refine tok_ret rfl rfl (tok_put HX9.out _ _ _ _ _).1 ⟨by rw [HGO.out]; rfl, ?_⟩
                exact HB0.out.trans ((HB9.out.mono HB0.out.size).trans ((tok_put HX9.out _ _ _ _ _).2.below (Nat.le_trans HB0.out.size HB9.out.size) (fun k e => by omega)))

end Go.Proofs.YtcidccifnaecaaaDoor
