/- The tests of a node's text: the plain ones, walked. -/
import Derived.Test.YtcidccifnaecaaaDoorSpec
namespace Go.Proofs.YtcidccifnaecaaaDoor
open Go.RowKit

theorem isNone_calls (w : World) (s : ByteArray) : Calls Tryd.prog 65 #[.string s] w fun e w' => e = .returned (.bool s.toList.isEmpty) ∧ w = w' := by
  go_enter Tryd.func65, Tryd.ntmps65
  go_wp2
  go_ret
  refine ⟨?_, rfl⟩
  simp

theorem isText_calls (w : World) (s : ByteArray) : Calls Tryd.prog 66 #[.string s] w fun e w' => e = .returned (.bool true) ∧ w = w' := by
  go_enter Tryd.func66, Tryd.ntmps66
  go_wp2
  go_ret
  exact ⟨rfl, rfl⟩

theorem isDigit_calls (w : World) (c : Int) : Calls Tryd.prog 92 #[.int .u8 c] w fun e w' => e = .returned (.bool (digitI c)) ∧ w = w' := by
  by_cases h1 : 48 ≤ c
  · have f1 : decide (48 ≤ c) = true := by simpa using h1
    go_enter Tryd.func92, Tryd.ntmps92
    go_wp2
    go_ret
    simp [digitI, f1]
  · have f1 : decide (48 ≤ c) = false := by simpa using h1
    go_enter Tryd.func92, Tryd.ntmps92
    go_wp2
    go_ret
    simp [digitI, f1]

theorem isLetter_calls (w : World) (c : Int) : Calls Tryd.prog 56 #[.int .u8 c] w fun e w' => e = .returned (.bool (letterI c)) ∧ w = w' := by
  cases h1 : decide (97 ≤ c) <;> cases h2 : decide (c ≤ 122) <;> cases h3 : decide (65 ≤ c) <;> cases h4 : decide (c ≤ 90) <;> cases h5 : (c == 95) <;> cases h6 : (c == 36)
  all_goals
    first
    | (exfalso; simp at h1 h2 h3 h4 h5 h6; omega)
    | (go_enter Tryd.func56, Tryd.ntmps56
       go_wp2
       go_ret
       simp [letterI, h1, h2, h3, h4, h5, h6])

theorem rdigit_calls (w : World) (c : Int) : Calls Tryd.prog 64 #[.int .u8 c] w fun e w' => e = .returned (.bool (digitI c)) ∧ w = w' := by
  by_cases h1 : 48 ≤ c
  · have f1 : decide (48 ≤ c) = true := by simpa using h1
    go_enter Tryd.func64, Tryd.ntmps64
    go_wp2
    go_ret
    simp [digitI, f1]
  · have f1 : decide (48 ≤ c) = false := by simpa using h1
    go_enter Tryd.func64, Tryd.ntmps64
    go_wp2
    go_ret
    simp [digitI, f1]

theorem rletter_calls (w : World) (c : Int) : Calls Tryd.prog 63 #[.int .u8 c] w fun e w' => e = .returned (.bool (letterI c)) ∧ w = w' := by
  cases h1 : decide (97 ≤ c) <;> cases h2 : decide (c ≤ 122) <;> cases h3 : decide (65 ≤ c) <;> cases h4 : decide (c ≤ 90) <;> cases h5 : (c == 95) <;> cases h6 : (c == 36)
  all_goals
    first
    | (exfalso; simp at h1 h2 h3 h4 h5 h6; omega)
    | (go_enter Tryd.func63, Tryd.ntmps63
       go_wp2
       go_ret
       simp [letterI, h1, h2, h3, h4, h5, h6])

theorem takeWhile_at {p : UInt8 → Bool} : ∀ {l : List UInt8} {k : Nat}, (∀ j, j < k → ∃ c, l[j]? = some c ∧ p c = true) → (l.length = k ∨ ∃ c, l[k]? = some c ∧ p c = false) → (l.takeWhile p).length = k
  | [], k, h, h' => by
    cases k with
    | zero => rfl
    | succ k => obtain ⟨c, hc, _⟩ := h 0 (by omega); simp at hc
  | x :: l, 0, h, h' => by
    rcases h' with h' | ⟨c, hc, hp⟩
    · simp at h'
    · simp at hc
      subst hc
      simp [List.takeWhile, hp]
  | x :: l, k + 1, h, h' => by
    obtain ⟨c, hc, hp⟩ := h 0 (by omega)
    simp at hc
    subst hc
    simp only [List.takeWhile, hp, List.length_cons]
    rw [takeWhile_at (k := k) (fun j hj => by have := h (j + 1) (by omega); simpa using this) (by simpa using h')]
theorem byte_at {s : ByteArray} {k : Nat} {c : UInt8} (hk : k < s.size) (h : s.data.toList[k]? = some c) : s[k]'hk = c := by
  have : s.data.toList[k]? = some (s[k]'hk) := by
    rw [Array.getElem?_toList]
    exact Array.getElem?_eq_getElem hk
  rw [this] at h
  exact Option.some.inj h
theorem byte_some {s : ByteArray} {k : Nat} (hk : k < s.size) : s.data.toList[k]? = some (s[k]'hk) := by
  rw [Array.getElem?_toList]
  exact Array.getElem?_eq_getElem hk

set_option maxHeartbeats 1000000 in
theorem names_calls (w : World) (s : ByteArray) (hs : s.size ≤ maxLen) : Calls Tryd.prog 57 #[.string s] w fun e w' => e = .returned (.int .i64 (namesB s.data.toList)) ∧ w = w' := by
  unfold maxLen at hs
  go_enter Tryd.func57, Tryd.ntmps57
  go_wp2
  go_loopw [3] (fun i wr => ∃ k : Nat, k ≤ s.size ∧ i = .int .i64 k ∧ (∀ j, j < k → ∃ c, s.data.toList[j]? = some c ∧ partB8 c = true) ∧ wr = w) (fun i _ => s.size - (intOf i).toNat)
  case atStart => exact ⟨0, by omega, rfl, fun j hj => by omega, rfl⟩
  case round =>
    obtain ⟨k, hk, rfl, hal, rfl⟩ := hrel
    have HAL := Lib.hid hal
    clear hal
    by_cases hlt : k < s.size
    · have hc := byte_some hlt
      have HC := Lib.hid hc
      clear hc
      cases hl : letterI (s[k].toNat : Int) with
      | true =>
        go_wp2_with (go_at_call 56; refine (isLetter_calls _ _).mono ?_; rintro e w' ⟨rfl, rfl⟩)
        go_roundw
        case rel =>
          refine ⟨k + 1, by omega, by go_num, fun j hj => ?_, by trivial⟩
          by_cases hjk : j < k
          · exact HAL.out j hjk
          · obtain rfl : j = k := by omega
            exact ⟨_, HC.out, by simp [partB8, hl]⟩
        case measure => simp [intOf]; omega
      | false =>
        cases hd : digitI (s[k].toNat : Int) with
        | true =>
          go_wp2_with (first
            | (go_at_call 56; refine (isLetter_calls _ _).mono ?_; rintro e w' ⟨rfl, rfl⟩)
            | (go_at_call 92; refine (isDigit_calls _ _).mono ?_; rintro e w' ⟨rfl, rfl⟩))
          go_roundw
          case rel =>
            refine ⟨k + 1, by omega, by go_num, fun j hj => ?_, by trivial⟩
            by_cases hjk : j < k
            · exact HAL.out j hjk
            · obtain rfl : j = k := by omega
              exact ⟨_, HC.out, by simp [partB8, hd]⟩
          case measure => simp [intOf]; omega
        | false =>
          go_wp2_with (first
            | (go_at_call 56; refine (isLetter_calls _ _).mono ?_; rintro e w' ⟨rfl, rfl⟩)
            | (go_at_call 92; refine (isDigit_calls _ _).mono ?_; rintro e w' ⟨rfl, rfl⟩))
          go_ret
          exact ⟨by unfold namesB; rw [takeWhile_at HAL.out (.inr ⟨_, HC.out, by simp [partB8, hl, hd]⟩)]; rfl, rfl⟩
    · obtain rfl : k = s.size := by omega
      have hdd : decide ((s.size : Int) < (s.size : Int)) = false := by simp
      go_wp2
      go_ret
      exact ⟨by unfold namesB; rw [takeWhile_at HAL.out (.inl (by simp))]; rfl, rfl⟩

end Go.Proofs.YtcidccifnaecaaaDoor
