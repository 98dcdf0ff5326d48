/- strings.FieldsSeq at the words' text: its iterator, walked. -/
import Derived.Test.YtcidccifnaecaaaDoorLaid
import Derived.Test.YtcidccifnaecaaaDoorRange
namespace Go.Proofs.YtcidccifnaecaaaDoor
open Go.RowKit

theorem fseq_calls (w : World) (s : ByteArray) :
    Calls Tryd.prog 93 #[.string s] w fun e w' => e = .returned (.func (.func 117) #[] #[.pointer (some ⟨w.heap.size, 0, none⟩)]) ∧
      w.alloc (.cells #[.string s] 9) = w' := by
  go_enter Tryd.func93, Tryd.ntmps93
  go_wp2
  go_ret
  exact ⟨rfl, rfl⟩

/-- Where the word began that the iterator is in; -1: in none. -/
def startAt (k : Nat) : Int := if fromAt k = k then -1 else fromAt k

set_option maxRecDepth 100000 in
set_option maxHeartbeats 2000000 in
theorem fseq1_in (n : Nat) (l sb : Nat) (x : ByteArray) (hx : x = wordsText) (J : Nat → World → Prop)
    (hJ : ∀ k W, J k W → Laid W ∧ W.cell? ⟨sb, 0, none⟩ = some (.string x))
    (hN : ∀ k W, k ≤ 187 → endAt k = false → J k W → J (k + 1) W)
    (hY : ∀ k W, k ≤ 187 → endAt k = true → J k W → YieldAt Fence.wide (n - 1) Tryd.prog l #[.string (x.extract (fromAt k) k)] W fun e W' => e = .returned (.bool true) ∧ J (k + 1) W')
    (W : World) (h0 : J 0 W) :
    CallsIn Fence.wide n Tryd.prog 117 #[.func (.yield l) #[] #[], .pointer (some ⟨sb, 0, none⟩)] W fun e W' => (∃ v, e = .returned v) ∧ J 188 W' := by
  have hsz : x.size = 187 := by rw [hx]; exact words_size
  have HF : Hid (∀ k, k < 188 → (endAt k = true → fromAt k < k ∧ (k < 187 → (x.data.toList.getD k 0) = 32)) ∧
    (endAt k = false → k < 187 ∧ (x.data.toList.getD k 0) ≠ 32 ∧ (x.data.toList.getD k 0).toNat < 128)) := by
    refine Lib.hid fun k hk => ?_
    rw [hx]
    exact words_facts ⟨k, hk⟩
  have HS : Hid (∀ k, k < 187 → Lib.isSp (x.data.toList.getD k 0) = endAt k) := by
    refine Lib.hid fun k hk => ?_
    rw [hx]
    exact words_space ⟨k, hk⟩
  have HJ := Lib.hid hJ
  have HN := Lib.hid hN
  have HY := Lib.hid hY
  clear hJ hN hY hx
  refine callsIn_of_wp Tryd.func117 rfl trivial ?_ rfl
  simp only [Tryd.ntmps117, List.size_toArray, List.length_cons, List.length_nil, Nat.reduceAdd, Nat.reduceSub, Array.replicate_succ, Array.replicate_zero, List.push_toArray, List.append_toArray, List.nil_append, List.cons_append]
  gi_wp2
  gi_loopw [3, 4] (fun f i wr => ∃ k : Nat, k ≤ 187 ∧ i = .int .i64 k ∧ f = .int .i64 (startAt k) ∧ J k wr) (fun _ i _ => 188 - (intOf i).toNat)
  case atStart => exact ⟨0, by omega, rfl, rfl, h0⟩
  case round =>
    obtain ⟨k, hk, rfl, rfl, hj⟩ := hrel
    obtain ⟨hl, hsb⟩ := HJ.out k wr hj
    have HL := Lib.hid hl
    have HJK := Lib.hid hj
    clear hl hj
    by_cases hlt : k < 187
    · have hlt' : k < x.size := by omega
      have hf := HF.out k (by omega)
      have hs := HS.out k hlt
      rw [byte_getD hlt'] at hf hs
      cases he : endAt k with
      | true =>
        have h32 := (hf.1 he).2 hlt
        have hfk := (hf.1 he).1
        have hcell := HL.out.space 32 (by decide)
        replace hcell : wr.cell? ⟨0, 32, none⟩ = some (.int .u8 1) := hcell
        have hst : startAt k = (fromAt k : Int) := by unfold startAt; rw [if_neg (by omega)]
        have hst' : Hid (startAt (k + 1) = -1) := Lib.hid (by unfold startAt; rw [fromAt, he]; simp)
        obtain ⟨fn, tmps, assign, body, hy, hR⟩ := HY.out k wr hk he HJK.out
        rw [hst]
        clear hs hf hst he
        gi_wp2
        refine ⟨fun hh => (by cases hh), hR.mono ?_⟩
        rintro e W3 ⟨rfl, hj3⟩
        have HJ3 := Lib.hid hj3
        clear hj3 hR hy hcell
        gi_wp2
        exact ⟨⟨k + 1, by omega, by go_num, by rw [hst'.out], HJ3.out⟩, by simp [intOf]; omega⟩
      | false =>
        rw [he] at hs
        have hc256 := (x[k]'hlt').toNat_lt
        have hcell := HL.out.space (x[k]'hlt').toNat hc256
        rw [show UInt8.ofNat (x[k]'hlt').toNat = x[k]'hlt' by simp, hs] at hcell
        replace hcell : wr.cell? ⟨0, (x[k]'hlt').toNat, none⟩ = some (.int .u8 0) := hcell
        have hlow := (hf.2 he).2.2
        have HJN := Lib.hid (HN.out k wr hk he HJK.out)
        have hnx : Hid (fromAt (k + 1) = fromAt k) := Lib.hid (by rw [fromAt, he]; rfl)
        have hle := fromAt_le k
        clear hs hf he
        by_cases hw : fromAt k = k
        · have hst : startAt k = -1 := by unfold startAt; rw [if_pos hw]
          have hst' : Hid (startAt (k + 1) = k) := Lib.hid (by unfold startAt; rw [hnx.out, if_neg (by omega), hw])
          rw [hst]
          clear hst hw
          gi_wp2
          exact ⟨⟨k + 1, by omega, by go_num, by rw [hst'.out], HJN.out⟩, by simp [intOf]; omega⟩
        · have hst : startAt k = (fromAt k : Int) := by unfold startAt; rw [if_neg (by omega)]
          have hst' : Hid (startAt (k + 1) = fromAt k) := Lib.hid (by unfold startAt; rw [hnx.out, if_neg (by omega)])
          rw [hst]
          clear hst hw
          gi_wp2
          exact ⟨⟨k + 1, by omega, by go_num, by rw [hst'.out], HJN.out⟩, by simp [intOf]; omega⟩
    · obtain rfl : k = 187 := by omega
      have dd : decide ((187 : Int) < 187) = false := by decide
      have he : endAt 187 = true := by
        have := HF.out 187 (by omega)
        cases he : endAt 187 with
        | true => rfl
        | false => exact absurd (this.2 he).1 (by omega)
      have hfk := ((HF.out 187 (by omega)).1 he).1
      have hst : startAt 187 = (fromAt 187 : Int) := by unfold startAt; rw [if_neg (by omega)]
      obtain ⟨fn, tmps, assign, body, hy, hR⟩ := HY.out 187 wr hk he HJK.out
      rw [hst]
      clear hst he
      gi_wp2
      refine ⟨fun hh => (by cases hh), hR.mono ?_⟩
      rintro e W3 ⟨rfl, hj3⟩
      have HJ3 := Lib.hid hj3
      clear hj3 hR hy
      gi_wp2
      go_end0
      exact ⟨⟨_, rfl⟩, HJ3.out⟩

end Go.Proofs.YtcidccifnaecaaaDoor
