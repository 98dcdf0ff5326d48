/- Which texts are words and names: walked. -/
import Derived.Test.YtcidccifnaecaaaDoorIsWord
import Derived.Test.YtcidccifnaecaaaDoorShelf
import Derived.Deep.QuietTactic
import Derived.BigQuiet
import Derived.Lib.QuietBelow
import Derived.Lib.Fields
namespace Go.Proofs.YtcidccifnaecaaaDoor
open Go.RowKit

theorem zero_bool (w : World) : (zeroValue 4).run Tryd.prog w = .ok (.bool false) w := by kernel_rfl
theorem size_list (s : ByteArray) : s.data.toList.length = s.size := Array.length_toList
theorem seenF_end (s : List UInt8) : (seenF 188 s).getD (.bool false) = .bool (wordB s) := by
  unfold seenF wordB
  rw [words_size]
  cases seenW s (187 + 1) <;> rfl

set_option maxHeartbeats 1000000 in
theorem isWord_calls (w : World) (hl : Laid w) (s : ByteArray) (hs : s.size ≤ maxLen) :
    Calls Tryd.prog 38 #[.string s] w fun e w' => e = .returned (.bool (wordB s.data.toList)) ∧ Below w.heap.size w w' := by
  have HW := Lib.hid (words_calls w hl)
  clear hl
  go_enter Tryd.func38, Tryd.ntmps38
  go_wp2_with fail
  refine HW.out.mono ?_
  rintro e w' ⟨rfl, hm, hb⟩
  have hrun := hm.look1 Tryd.underlying9 Tryd.underlying65 (z := .bool false) (zero_bool _) hs
  rw [seenF_end] at hrun
  have HB := Lib.hid hb
  clear hm hb
  go_wp2
  go_ret
  exact ⟨rfl, HB.out⟩

theorem takeWhile_all {p : UInt8 → Bool} : ∀ (l : List UInt8), decide ((l.takeWhile p).length = l.length) = l.all p
  | [] => rfl
  | x :: l => by
    cases hp : p x with
    | true => simp [List.takeWhile, hp, ← takeWhile_all l]
    | false => simp [List.takeWhile, hp]
theorem nameB_eq {s : ByteArray} (h : 0 < s.size) : nameB s.data.toList = (letterI (s[0]'h).toNat && s.data.toList.all partB8 && !wordB s.data.toList) := by
  have h0 := byte_some h
  generalize s[0]'h = c at h0
  generalize s.data.toList = l at h0
  cases l with
  | nil => simp at h0
  | cons x l =>
    simp at h0
    subst h0
    rfl
theorem empty_list (s : ByteArray) : s.toList.isEmpty = decide (s.size = 0) := by
  rw [ByteArray.toList_eq, ← size_list]
  cases s.data.toList <;> simp

set_option maxRecDepth 100000 in
set_option maxHeartbeats 2000000 in
theorem isName_calls (w : World) (hl : Laid w) (s : ByteArray) (hs : s.size ≤ maxLen) :
    Calls Tryd.prog 37 #[.string s] w fun e w' => e = .returned (.bool (nameB s.data.toList)) ∧ Below w.heap.size w w' := by
  have hem := empty_list s
  by_cases h0 : s.size = 0
  · have hN : Hid (nameB s.data.toList = false) := by
      refine Lib.hid ?_
      have : s.data.toList = [] := List.length_eq_zero_iff.1 ((size_list s).trans h0)
      rw [this]
      rfl
    rw [decide_eq_true h0] at hem
    clear h0
    go_enter Tryd.func37, Tryd.ntmps37
    go_wp2
    go_ret
    exact ⟨by rw [hN.out]; rfl, Below.refl _ _⟩
  · have hpos : 0 < s.size := by omega
    rw [decide_eq_false h0] at hem
    clear h0
    have hN := Lib.hid (nameB_eq hpos)
    have HT := Lib.hid (takeWhile_all (p := partB8) s.data.toList)
    have HL := Lib.hid hl
    clear hl
    cases hc : letterI (s[0]'hpos).toNat with
    | false =>
      have hN' : Hid (nameB s.data.toList = false) := Lib.hid (by rw [hN.out, hc]; rfl)
      go_enter Tryd.func37, Tryd.ntmps37
      go_wp2_with (go_at_call 56; refine (isLetter_calls _ _).mono ?_; rintro e w' ⟨rfl, rfl⟩)
      go_ret
      exact ⟨by rw [hN'.out]; rfl, Below.refl _ _⟩
    | true =>
      cases ha : s.data.toList.all partB8 with
      | false =>
        have hN' : Hid (nameB s.data.toList = false) := Lib.hid (by rw [hN.out, hc, ha]; rfl)
        have hq : ((namesB s.data.toList : Int) == (s.size : Int)) = false := by
          rw [← ha, ← HT.out, size_list]
          unfold namesB
          generalize (s.data.toList.takeWhile partB8).length = a
          generalize s.size = b
          rw [Bool.eq_iff_iff]
          simp
          omega
        clear ha
        go_enter Tryd.func37, Tryd.ntmps37
        go_wp2_with (first
          | (go_at_call 56; refine (isLetter_calls _ _).mono ?_; rintro e w' ⟨rfl, rfl⟩)
          | (go_at_call 57; refine (names_calls _ _ hs).mono ?_; rintro e w' ⟨rfl, rfl⟩))
        go_ret
        exact ⟨by rw [hN'.out]; rfl, Below.refl _ _⟩
      | true =>
        have hN' : Hid (nameB s.data.toList = !wordB s.data.toList) := Lib.hid (by rw [hN.out, hc, ha]; rfl)
        have hq : ((namesB s.data.toList : Int) == (s.size : Int)) = true := by
          rw [← ha, ← HT.out, size_list]
          unfold namesB
          generalize (s.data.toList.takeWhile partB8).length = a
          generalize s.size = b
          rw [Bool.eq_iff_iff]
          simp
          omega
        clear ha
        go_enter Tryd.func37, Tryd.ntmps37
        go_wp2_with (first
          | (go_at_call 56; refine (isLetter_calls _ _).mono ?_; rintro e w' ⟨rfl, rfl⟩)
          | (go_at_call 57; refine (names_calls _ _ hs).mono ?_; rintro e w' ⟨rfl, rfl⟩)
          | (go_at_call 38; refine (isWord_calls _ HL.out _ hs).mono ?_; rintro e w' ⟨rfl, hb⟩; have HB := Lib.hid hb; clear hb))
        go_ret
        exact ⟨by rw [hN'.out]; rfl, HB.out⟩

set_option maxHeartbeats 1000000 in
theorem isFunName_calls (w : World) (hl : Laid w) (s : ByteArray) (hs : s.size ≤ maxLen) :
    Calls Tryd.prog 67 #[.string s] w fun e w' => e = .returned (.bool (s.data.toList.isEmpty || nameB s.data.toList)) ∧ Below w.heap.size w w' := by
  have HL := Lib.hid hl
  clear hl
  rw [← ByteArray.toList_eq]
  cases hem : s.toList.isEmpty with
  | true =>
    go_enter Tryd.func67, Tryd.ntmps67
    go_wp2
    go_ret
    exact ⟨rfl, Below.refl _ _⟩
  | false =>
    go_enter Tryd.func67, Tryd.ntmps67
    go_wp2_with (go_at_call 37; refine (isName_calls _ HL.out _ hs).mono ?_; rintro e w' ⟨rfl, hb⟩; have HB := Lib.hid hb; clear hb)
    go_ret
    exact ⟨by rw [ByteArray.toList_eq]; rfl, HB.out⟩

set_option maxRecDepth 100000 in
set_option maxHeartbeats 1000000 in
theorem isMember_calls (w : World) (hl : Laid w) (s : ByteArray) (hs : s.size ≤ maxLen) :
    Calls Tryd.prog 68 #[.string s] w fun e w' => e = .returned (.bool (nameB s.data.toList || wordB s.data.toList)) ∧ Below w.heap.size w w' := by
  have HL := Lib.hid hl
  clear hl
  cases hn : nameB s.data.toList with
  | true =>
    go_enter Tryd.func68, Tryd.ntmps68
    go_wp2_with (go_at_call 37; refine (isName_calls _ HL.out _ hs).mono ?_; rintro e w' ⟨rfl, hb⟩; have HB := Lib.hid hb; clear hb)
    go_ret
    exact ⟨rfl, HB.out⟩
  | false =>
    go_enter Tryd.func68, Tryd.ntmps68
    go_wp2_with (first
      | (go_at_call 37; refine (isName_calls _ HL.out _ hs).mono ?_; rintro e w' ⟨rfl, hb⟩; have HL' := Lib.hid (HL.out.below hb); have HB := Lib.hid hb; clear hb)
      | (go_at_call 38; refine (isWord_calls _ HL'.out _ hs).mono ?_; rintro e w' ⟨rfl, hb⟩; have HB' := Lib.hid hb; clear hb))
    go_ret
    exact ⟨rfl, HB.out.trans (HB'.out.mono HB.out.size)⟩

def signsText : ByteArray := ⟨#[43, 32, 45, 32, 42, 32, 60, 32, 60, 61, 32, 61, 61, 61, 32, 33, 61, 61]⟩
theorem signs_fields : Lib.fields signsText.data.toList = signsL := by kernel_rfl
theorem signs_ascii : ∀ (j : Nat) b, signsText.data.toList[j]? = some b → b.toNat < 128 := by
  intro j b h
  have hm := List.mem_of_getElem? h
  have : ∀ x ∈ signsText.data.toList, x.toNat < 128 := by decide +kernel
  exact this b hm
def signsZ : List ByteArray := signsL.map fun l => ⟨l.toArray⟩
theorem signs_cells (j : Nat) (hj : j < signsZ.length) : ((signsL.map fun l => Value.string ⟨l.toArray⟩).toArray)[j]? = some (.string (signsZ.getD j ByteArray.empty)) := by
  unfold signsZ at hj ⊢
  simp only [List.length_map] at hj
  simp [List.getD, hj]
theorem signs_contains (s : ByteArray) : Lib.containsS (signsZ.take 7) s = signB s.data.toList := by
  have h7 : signsZ.take 7 = signsZ := by rfl
  rw [h7, Bool.eq_iff_iff, Lib.containsS_iff]
  unfold signsZ signB
  simp only [List.mem_map, decide_eq_true_eq]
  constructor
  · rintro ⟨l, hl, rfl⟩
    simpa using hl
  · intro h
    refine ⟨_, h, ?_⟩
    cases s
    simp

set_option maxHeartbeats 1000000 in
theorem isSign_calls (w : World) (hl : Laid w) (s : ByteArray) :
    Calls Tryd.prog 69 #[.string s] w fun e w' => e = .returned (.bool (signB s.data.toList)) ∧ Below w.heap.size w w' := by
  have HL := Lib.hid hl
  clear hl
  cases hem : s.toList.isEmpty with
  | true =>
    have hN : Hid (signB s.data.toList = false) := by
      rw [ByteArray.toList_eq] at hem
      rw [List.isEmpty_iff.1 hem]
      exact Lib.hid (by decide)
    go_enter Tryd.func69, Tryd.ntmps69
    go_wp2
    go_ret
    exact ⟨by rw [hN.out]; rfl, Below.refl _ _⟩
  | false =>
    go_enter Tryd.func69, Tryd.ntmps69
    go_wp2_with fail
    refine (Tryd.strings_Fields signsText w (by decide) signs_ascii HL.out.sp).mono ?_
    rintro e w' ⟨rfl, rfl⟩
    rw [signs_fields]
    have hz : Below w.heap.size w (w.alloc (.cells ((signsL.map fun l => Value.string ⟨l.toArray⟩).toArray) 9)) := (Below.refl _ _).alloc (Nat.le_refl _) _
    have hcell : ∀ i, (w.alloc (.cells ((signsL.map fun l => Value.string ⟨l.toArray⟩).toArray) 9)).cell? ⟨w.heap.size, i, none⟩ = ((signsL.map fun l => Value.string ⟨l.toArray⟩).toArray)[i]? := fun i => cell_of_row _ _ _ _ _ (0, 0) (heap_alloc_new _ _)
    have HB := Lib.hid hz
    have HC := Lib.hid hcell
    clear hz hcell
    generalize w.alloc (.cells ((signsL.map fun l => Value.string ⟨l.toArray⟩).toArray) 9) = w1 at HB HC ⊢
    go_wp2_with fail
    refine (Tryd.slices_Contains_string w.heap.size 0 7 7 signsZ s w1 (by decide) (by decide) ?_).mono ?_
    · intro j hj
      rw [Nat.zero_add, HC.out j]
      exact signs_cells j hj
    rintro e w' ⟨rfl, rfl⟩
    go_wp2
    go_ret
    exact ⟨by rw [signs_contains]; rfl, HB.out⟩

theorem beq_lit (a : ByteArray) (l : List UInt8) : (a.toList == l) = decide (a.data.toList = l) := by
  rw [ByteArray.toList_eq, Bool.eq_iff_iff]
  simp
theorem bin_calls (w : World) (s : ByteArray) : Calls Tryd.prog 74 #[.string s] w fun e w' => e = .returned (.bool (signB s.data.toList)) ∧ w = w' := by
  have b1 := beq_lit s [43]
  have b2 := beq_lit s [45]
  have b3 := beq_lit s [42]
  have b4 := beq_lit s [60]
  have b5 := beq_lit s [60, 61]
  have b6 := beq_lit s [61, 61, 61]
  have b7 := beq_lit s [33, 61, 61]
  have hN : Hid (signB s.data.toList = (decide (s.data.toList = [43]) || (decide (s.data.toList = [45]) || (decide (s.data.toList = [42]) || (decide (s.data.toList = [60]) || (decide (s.data.toList = [60, 61]) || (decide (s.data.toList = [61, 61, 61]) || decide (s.data.toList = [33, 61, 61])))))))) := by
    refine Lib.hid ?_
    unfold signB signsL
    simp
  cases h1 : decide (s.data.toList = [43])
  case true =>
    rw [h1] at b1
    have hN' : Hid (signB s.data.toList = true) := Lib.hid (by rw [hN.out, h1]; simp)
    go_enter Tryd.func74, Tryd.ntmps74
    go_wp2
    go_ret
    exact ⟨by rw [hN'.out]; rfl, rfl⟩
  rw [h1] at b1
  cases h2 : decide (s.data.toList = [45])
  case true =>
    rw [h2] at b2
    have hN' : Hid (signB s.data.toList = true) := Lib.hid (by rw [hN.out, h1, h2]; simp)
    go_enter Tryd.func74, Tryd.ntmps74
    go_wp2
    go_ret
    exact ⟨by rw [hN'.out]; rfl, rfl⟩
  rw [h2] at b2
  cases h3 : decide (s.data.toList = [42])
  case true =>
    rw [h3] at b3
    have hN' : Hid (signB s.data.toList = true) := Lib.hid (by rw [hN.out, h1, h2, h3]; simp)
    go_enter Tryd.func74, Tryd.ntmps74
    go_wp2
    go_ret
    exact ⟨by rw [hN'.out]; rfl, rfl⟩
  rw [h3] at b3
  cases h4 : decide (s.data.toList = [60])
  case true =>
    rw [h4] at b4
    have hN' : Hid (signB s.data.toList = true) := Lib.hid (by rw [hN.out, h1, h2, h3, h4]; simp)
    go_enter Tryd.func74, Tryd.ntmps74
    go_wp2
    go_ret
    exact ⟨by rw [hN'.out]; rfl, rfl⟩
  rw [h4] at b4
  cases h5 : decide (s.data.toList = [60, 61])
  case true =>
    rw [h5] at b5
    have hN' : Hid (signB s.data.toList = true) := Lib.hid (by rw [hN.out, h1, h2, h3, h4, h5]; simp)
    go_enter Tryd.func74, Tryd.ntmps74
    go_wp2
    go_ret
    exact ⟨by rw [hN'.out]; rfl, rfl⟩
  rw [h5] at b5
  cases h6 : decide (s.data.toList = [61, 61, 61])
  case true =>
    rw [h6] at b6
    have hN' : Hid (signB s.data.toList = true) := Lib.hid (by rw [hN.out, h1, h2, h3, h4, h5, h6]; simp)
    go_enter Tryd.func74, Tryd.ntmps74
    go_wp2
    go_ret
    exact ⟨by rw [hN'.out]; rfl, rfl⟩
  rw [h6] at b6
  cases h7 : decide (s.data.toList = [33, 61, 61])
  case true =>
    rw [h7] at b7
    have hN' : Hid (signB s.data.toList = true) := Lib.hid (by rw [hN.out, h1, h2, h3, h4, h5, h6, h7]; rfl)
    go_enter Tryd.func74, Tryd.ntmps74
    go_wp2
    go_ret
    exact ⟨by rw [hN'.out]; rfl, rfl⟩
  rw [h7] at b7
  have hN' : Hid (signB s.data.toList = false) := Lib.hid (by rw [hN.out, h1, h2, h3, h4, h5, h6, h7]; rfl)
  go_enter Tryd.func74, Tryd.ntmps74
  go_wp2
  go_ret
  exact ⟨by rw [hN'.out]; rfl, rfl⟩

end Go.Proofs.YtcidccifnaecaaaDoor
