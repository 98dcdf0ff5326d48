/- The words that are no names: plain facts; the document's test, walked. -/
import Derived.Test.YtcidccifnaecaaaDoorTests
namespace Go.Proofs.YtcidccifnaecaaaDoor
open Go.RowKit

theorem words_size : wordsText.size = 187 := by decide +kernel
theorem fromAt_le : ∀ k, fromAt k ≤ k
  | 0 => Nat.le_refl _
  | k + 1 => by
    simp only [fromAt]
    split
    · exact Nat.le_refl _
    · have := fromAt_le k; omega
theorem words_facts : ∀ k : Fin 188, (endAt k.val = true → fromAt k.val < k.val ∧ (k.val < 187 → (wordsText.data.toList.getD k.val 0) = 32)) ∧
    (endAt k.val = false → k.val < 187 ∧ (wordsText.data.toList.getD k.val 0) ≠ 32 ∧ (wordsText.data.toList.getD k.val 0).toNat < 128) := by decide +kernel
theorem byte_getD {s : ByteArray} {k : Nat} (hk : k < s.size) (d : UInt8) : s.data.toList.getD k d = s[k]'hk := by
  rw [List.getD_eq_getElem?_getD, byte_some hk]
  rfl

theorem seen_mono {s : List UInt8} {k : Nat} : ∀ {m : Nat}, k ≤ m → seenW s k = true → seenW s m = true
  | 0, h, hs => by
    obtain rfl : k = 0 := by omega
    exact hs
  | m + 1, h, hs => by
    by_cases hk : k = m + 1
    · subst hk; exact hs
    · rw [seenW, seen_mono (m := m) (by omega) hs]; rfl
theorem seen_up {s : List UInt8} {k : Nat} (hk : k ≤ 188) (h : seenW s k = true) : wordB s = true := by
  unfold wordB
  rw [words_size]
  exact seen_mono hk h
theorem beq_bytes (a b : ByteArray) : (a.toList == b.toList) = decide (a.data.toList = b.data.toList) := by
  rw [ByteArray.toList_eq, ByteArray.toList_eq, Bool.eq_iff_iff]
  simp
theorem extract_list (l : ByteArray) (a b : Nat) : (l.extract a b).data.toList = (l.data.toList.take b).drop a := by
  rw [ByteArray.data_extract, Array.toList_extract, List.extract, List.drop_take]

theorem rwords_calls (w : World) : Calls Tryd.prog 62 #[] w fun e w' => e = .returned (.string wordsText) ∧ w = w' := by
  go_enter Tryd.func62, Tryd.ntmps62
  go_wp2
  go_ret
  exact ⟨by kernel_rfl, rfl⟩

set_option maxRecDepth 100000 in
set_option maxHeartbeats 1000000 in
theorem risWord_calls (w : World) (s : ByteArray) : Calls Tryd.prog 40 #[.string s] w fun e w' => e = .returned (.bool (wordB s.data.toList)) ∧ w = w' := by
  obtain ⟨l, hl⟩ : ∃ l, wordsText = l := ⟨_, rfl⟩
  have hsz : l.size = 187 := by rw [← hl]; exact words_size
  have HF : Hid (∀ k, k < 188 → (endAt k = true → fromAt k < k ∧ (k < 187 → (l.data.toList.getD k 0) = 32)) ∧
    (endAt k = false → k < 187 ∧ (l.data.toList.getD k 0) ≠ 32 ∧ (l.data.toList.getD k 0).toNat < 128)) := by
    refine Lib.hid fun k hk => ?_
    rw [← hl]
    exact words_facts ⟨k, hk⟩
  have HT : Hid (∀ k, wordTo k = (l.data.toList.take k).drop (fromAt k)) := Lib.hid fun k => by rw [← hl]; rfl
  have hrw : Hid (∀ w, Calls Tryd.prog 62 #[] w fun e w' => e = .returned (.string l) ∧ w = w') := Lib.hid fun w => by rw [← hl]; exact rwords_calls w
  clear hl
  go_enter Tryd.func40, Tryd.ntmps40
  go_wp2_with (go_at_call 62; refine (hrw.out _).mono ?_; rintro e w' ⟨rfl, rfl⟩)
  clear hrw
  go_loopw [4, 5] (fun f i wr => ∃ k : Nat, k ≤ 188 ∧ i = .int .i64 k ∧ f = .int .i64 (fromAt k) ∧ seenW s.data.toList k = false ∧ wr = w) (fun _ i _ => 189 - (intOf i).toNat)
  case atStart => exact ⟨0, by omega, rfl, rfl, rfl, rfl⟩
  case round =>
    obtain ⟨k, hk, rfl, rfl, hseen, rfl⟩ := hrel
    have HSEEN := Lib.hid hseen
    clear hseen
    have hfl := fromAt_le k
    have hnext : Hid (∀ b, endAt k = b → fromAt (k + 1) = if b then k + 1 else fromAt k) := Lib.hid fun b hb => by rw [fromAt, hb]
    have hseenN : Hid (∀ b, endAt k = b → seenW s.data.toList (k + 1) = (b && decide (wordTo k = s.data.toList))) := Lib.hid fun b hb => by rw [seenW, HSEEN.out, hb]; rfl
    by_cases hlt : k < 187
    · have hlt' : k < l.size := by omega
      have hf := HF.out k (by omega)
      rw [byte_getD hlt'] at hf
      cases he : endAt k with
      | true =>
        have hb : (((l[k]'hlt').toNat : Int) != 32) = false := by rw [(hf.1 he).2 hlt]; rfl
        have hN := Lib.hid (hnext.out _ he)
        have hS := Lib.hid (hseenN.out _ he)
        clear hf hnext hseenN
        have hcmp := beq_bytes (l.extract (fromAt k) k) s
        rw [extract_list, ← HT.out] at hcmp
        cases hd : decide (wordTo k = s.data.toList) with
        | true =>
          rw [hd] at hcmp
          have hT : Hid (wordB s.data.toList = true) := Lib.hid (seen_up (k := k + 1) (by omega) (by rw [hS.out, hd]; rfl))
          clear hd
          go_wp2
          go_ret
          exact ⟨by rw [hT.out]; rfl, rfl⟩
        | false =>
          rw [hd] at hcmp
          have hS' := Lib.hid (hS.out.trans (by rw [hd]; rfl) : seenW s.data.toList (k + 1) = false)
          clear hd
          go_wp2
          go_roundw
          case rel => exact ⟨k + 1, by omega, by go_num, by rw [hN.out]; go_num, hS'.out, by trivial⟩
          case measure => simp [intOf]; omega
      | false =>
        have hb : (((l[k]'hlt').toNat : Int) != 32) = true := by
          rw [bne_iff_ne]
          intro hc
          exact (hf.2 he).2.1 (UInt8.toNat_inj.1 (show (l[k]'hlt').toNat = 32 by omega))
        have hN := Lib.hid (hnext.out _ he)
        have hS := Lib.hid (hseenN.out _ he)
        clear hf hnext hseenN
        go_wp2
        go_roundw
        case rel => exact ⟨k + 1, by omega, by go_num, by rw [hN.out]; rfl, by rw [hS.out]; rfl, by trivial⟩
        case measure => simp [intOf]; omega
    · by_cases hlt2 : k = 187
      · subst hlt2
        have he : endAt 187 = true := by
          have := HF.out 187 (by omega)
          cases he : endAt 187 with
          | true => rfl
          | false => exact absurd (this.2 he).1 (by omega)
        have hN := Lib.hid (hnext.out _ he)
        have hS := Lib.hid (hseenN.out _ he)
        clear hnext hseenN
        have hcmp := beq_bytes (l.extract (fromAt 187) 187) s
        rw [extract_list, ← HT.out] at hcmp
        have dd : decide ((187 : Int) < 187) = false := by decide
        have de : decide ((187 : Int) ≤ 187) = true := by decide
        cases hd : decide (wordTo 187 = s.data.toList) with
        | true =>
          rw [hd] at hcmp
          have hT : Hid (wordB s.data.toList = true) := Lib.hid (seen_up (k := 187 + 1) (by omega) (by rw [hS.out, hd]; rfl))
          clear hd
          go_wp2
          go_ret
          exact ⟨by rw [hT.out]; rfl, rfl⟩
        | false =>
          rw [hd] at hcmp
          have hS' := Lib.hid (hS.out.trans (by rw [hd]; rfl) : seenW s.data.toList (187 + 1) = false)
          clear hd
          go_wp2
          go_roundw
          case rel => exact ⟨187 + 1, by omega, by go_num, by rw [hN.out]; go_num, hS'.out, by trivial⟩
          case measure => simp [intOf]
      · obtain rfl : k = 188 := by omega
        have dd : decide ((188 : Int) ≤ 187) = false := by decide
        have hT : Hid (wordB s.data.toList = false) := by
          refine Lib.hid ?_
          unfold wordB
          rw [words_size]
          exact HSEEN.out
        go_wp2
        go_ret
        exact ⟨by rw [hT.out]; rfl, rfl⟩

end Go.Proofs.YtcidccifnaecaaaDoor
