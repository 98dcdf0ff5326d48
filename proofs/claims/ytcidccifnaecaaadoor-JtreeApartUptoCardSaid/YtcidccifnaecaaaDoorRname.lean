/- The document's IsName, walked. -/
import Derived.Test.YtcidccifnaecaaaDoorNames
namespace Go.Proofs.YtcidccifnaecaaaDoor
open Go.RowKit

theorem all_at {p : UInt8 → Bool} : ∀ {l : List UInt8}, (∀ j, j < l.length → ∃ c, l[j]? = some c ∧ p c = true) → l.all p = true
  | [], _ => rfl
  | x :: l, h => by
    obtain ⟨c, hc, hp⟩ := h 0 (by simp)
    simp at hc
    subst hc
    rw [List.all_cons, hp, all_at (fun j hj => by have := h (j + 1) (by simpa using hj); simpa using this)]
    rfl
theorem not_all_at {p : UInt8 → Bool} {l : List UInt8} {k : Nat} {c : UInt8} (h : l[k]? = some c) (hp : p c = false) : l.all p = false := by
  rw [List.all_eq_false]
  exact ⟨c, List.mem_of_getElem? h, by simp [hp]⟩

set_option maxRecDepth 100000 in
set_option maxHeartbeats 2000000 in
theorem risName_calls (w : World) (s : ByteArray) (hs : s.size ≤ maxLen) :
    Calls Tryd.prog 41 #[.string s] w fun e w' => e = .returned (.bool (nameB s.data.toList)) ∧ w = w' := by
  unfold maxLen at hs
  have hem := empty_list s
  by_cases h0 : s.size = 0
  · have hN : Hid (nameB s.data.toList = false) := by
      refine Lib.hid ?_
      have : s.data.toList = [] := List.length_eq_zero_iff.1 ((size_list s).trans h0)
      rw [this]
      rfl
    rw [decide_eq_true h0] at hem
    clear h0
    go_enter Tryd.func41, Tryd.ntmps41
    go_wp2
    go_ret
    exact ⟨by rw [hN.out]; rfl, rfl⟩
  · have hpos : 0 < s.size := by omega
    rw [decide_eq_false h0] at hem
    clear h0
    have hN := Lib.hid (nameB_eq hpos)
    cases hc : letterI (s[0]'hpos).toNat with
    | false =>
      have hN' : Hid (nameB s.data.toList = false) := Lib.hid (by rw [hN.out, hc]; rfl)
      go_enter Tryd.func41, Tryd.ntmps41
      go_wp2_with (go_at_call 63; refine (rletter_calls _ _).mono ?_; rintro e w' ⟨rfl, rfl⟩)
      go_ret
      exact ⟨by rw [hN'.out]; rfl, rfl⟩
    | true =>
      have h0at : ∃ c, s.data.toList[0]? = some c ∧ partB8 c = true := ⟨_, byte_some hpos, by simp [partB8, hc]⟩
      have H0 := Lib.hid h0at
      clear h0at
      go_enter Tryd.func41, Tryd.ntmps41
      go_wp2_with (go_at_call 63; refine (rletter_calls _ _).mono ?_; rintro e w' ⟨rfl, rfl⟩)
      go_loopw [3] (fun i wr => ∃ k : Nat, 1 ≤ k ∧ k ≤ s.size ∧ i = .int .i64 k ∧ (∀ j, j < k → ∃ c, s.data.toList[j]? = some c ∧ partB8 c = true) ∧ wr = w) (fun i _ => s.size - (intOf i).toNat)
      case atStart =>
        refine ⟨1, by omega, by omega, rfl, fun j hj => ?_, rfl⟩
        obtain rfl : j = 0 := by omega
        exact H0.out
      case round =>
        obtain ⟨k, hk1, hk, rfl, hal, rfl⟩ := hrel
        have HAL := Lib.hid hal
        clear hal
        by_cases hlt : k < s.size
        · have HC := Lib.hid (byte_some hlt)
          cases hl : letterI (s[k].toNat : Int) with
          | true =>
            go_wp2_with (go_at_call 63; refine (rletter_calls _ _).mono ?_; rintro e w' ⟨rfl, rfl⟩)
            go_roundw
            case rel =>
              refine ⟨k + 1, by omega, by omega, by go_num, fun j hj => ?_, by trivial⟩
              by_cases hjk : j < k
              · exact HAL.out j hjk
              · obtain rfl : j = k := by omega
                exact ⟨_, HC.out, by simp [partB8, hl]⟩
            case measure => simp [intOf]; omega
          | false =>
            cases hd : digitI (s[k].toNat : Int) with
            | true =>
              go_wp2_with (first
                | (go_at_call 63; refine (rletter_calls _ _).mono ?_; rintro e w' ⟨rfl, rfl⟩)
                | (go_at_call 64; refine (rdigit_calls _ _).mono ?_; rintro e w' ⟨rfl, rfl⟩))
              go_roundw
              case rel =>
                refine ⟨k + 1, by omega, by omega, by go_num, fun j hj => ?_, by trivial⟩
                by_cases hjk : j < k
                · exact HAL.out j hjk
                · obtain rfl : j = k := by omega
                  exact ⟨_, HC.out, by simp [partB8, hd]⟩
              case measure => simp [intOf]; omega
            | false =>
              have hN' : Hid (nameB s.data.toList = false) := Lib.hid (by rw [hN.out, not_all_at HC.out (by simp [partB8, hl, hd])]; simp)
              go_wp2_with (first
                | (go_at_call 63; refine (rletter_calls _ _).mono ?_; rintro e w' ⟨rfl, rfl⟩)
                | (go_at_call 64; refine (rdigit_calls _ _).mono ?_; rintro e w' ⟨rfl, rfl⟩))
              go_ret
              exact ⟨by rw [hN'.out]; rfl, rfl⟩
        · obtain rfl : k = s.size := by omega
          have hdd : decide ((s.size : Int) < (s.size : Int)) = false := by simp
          have hN' : Hid (nameB s.data.toList = !wordB s.data.toList) := Lib.hid (by rw [hN.out, hc, all_at (by rw [size_list]; exact HAL.out)]; rfl)
          go_wp2_with (go_at_call 40; refine (risWord_calls _ _).mono ?_; rintro e w' ⟨rfl, rfl⟩)
          go_ret
          exact ⟨by rw [hN'.out]; rfl, rfl⟩

end Go.Proofs.YtcidccifnaecaaaDoor
