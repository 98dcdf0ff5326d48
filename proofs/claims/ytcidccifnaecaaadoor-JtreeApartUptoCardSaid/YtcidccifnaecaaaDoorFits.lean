/- Which trees may be: fits, walked. -/
import Derived.Test.YtcidccifnaecaaaDoorPart
namespace Go.Proofs.YtcidccifnaecaaaDoor
open Go.RowKit

theorem isEmpty_none (w : World) (s : ByteArray) : Calls Tryd.prog 65 #[.string s] w fun e w' => e = .returned (.bool s.data.toList.isEmpty) ∧ Below w.heap.size w w' :=
  (isNone_calls w s).mono fun _ _ ⟨he, hw⟩ => ⟨by rw [he, ByteArray.toList_eq], hw ▸ Below.refl _ _⟩
theorem isText_below (w : World) (s : ByteArray) : Calls Tryd.prog 66 #[.string s] w fun e w' => e = .returned (.bool true) ∧ Below w.heap.size w w' :=
  (isText_calls w s).mono fun _ _ ⟨he, hw⟩ => ⟨he, hw ▸ Below.refl _ _⟩

/-- What is known of a test: its function can be called, and tells testB. -/
def TestAt (k : Int) (fn : Nat) : Prop := (∀ args w, (callFunc fn args).run Tryd.prog w = .ok (.enter fn args) w) ∧
  ∀ (w : World) (s : ByteArray), Laid w → s.size ≤ maxLen → Calls Tryd.prog fn #[.string s] w fun e w' => e = .returned (.bool (testB k s.data.toList)) ∧ Below w.heap.size w w'

theorem test_name : TestAt 1 37 := ⟨enters_of Tryd.func37 (by kernel_rfl) rfl, fun w s hl hs => isName_calls w hl s hs⟩
theorem test_none : TestAt 2 65 := ⟨enters_of Tryd.func65 (by kernel_rfl) rfl, fun w s _ _ => isEmpty_none w s⟩
theorem test_text : TestAt 3 66 := ⟨enters_of Tryd.func66 (by kernel_rfl) rfl, fun w s _ _ => isText_below w s⟩
theorem test_fun : TestAt 10 67 := ⟨enters_of Tryd.func67 (by kernel_rfl) rfl, fun w s hl hs => isFunName_calls w hl s hs⟩
theorem test_member : TestAt 13 68 := ⟨enters_of Tryd.func68 (by kernel_rfl) rfl, fun w s hl hs => isMember_calls w hl s hs⟩
theorem test_sign : TestAt 18 69 := ⟨enters_of Tryd.func69 (by kernel_rfl) rfl, fun w s hl _ => isSign_calls w hl s⟩
theorem TestAt.of {k k' : Int} {fn : Nat} (h : TestAt k fn) (e : ∀ s, testB k' s = testB k s) : TestAt k' fn := ⟨h.1, fun w s hl hs => by rw [e]; exact h.2 w s hl hs⟩
theorem formF_test (k : Int) (fn : Nat) (lo hi : Int) (h : formF k = some (fn, lo, hi)) : TestAt k fn ∧ 0 ≤ lo ∧ lo ≤ 3 ∧ 0 ≤ hi ∧ hi ≤ 1073741824 := by
  by_cases h1 : k = 1
  · subst h1
    have h' : some ((37 : Nat), (0 : Int), (0 : Int)) = some (fn, lo, hi) := h
    cases h'
    exact ⟨test_name.of (fun s => rfl), by decide, by decide, by decide, by decide⟩
  by_cases h2 : k = 2
  · subst h2
    have h' : some ((65 : Nat), (0 : Int), (0 : Int)) = some (fn, lo, hi) := h
    cases h'
    exact ⟨test_none.of (fun s => rfl), by decide, by decide, by decide, by decide⟩
  by_cases h3 : k = 3
  · subst h3
    have h' : some ((66 : Nat), (0 : Int), (0 : Int)) = some (fn, lo, hi) := h
    cases h'
    exact ⟨test_text.of (fun s => rfl), by decide, by decide, by decide, by decide⟩
  by_cases h4 : k = 4
  · subst h4
    have h' : some ((65 : Nat), (0 : Int), (0 : Int)) = some (fn, lo, hi) := h
    cases h'
    exact ⟨test_none.of (fun s => rfl), by decide, by decide, by decide, by decide⟩
  by_cases h5 : k = 5
  · subst h5
    have h' : some ((65 : Nat), (0 : Int), (0 : Int)) = some (fn, lo, hi) := h
    cases h'
    exact ⟨test_none.of (fun s => rfl), by decide, by decide, by decide, by decide⟩
  by_cases h6 : k = 6
  · subst h6
    have h' : some ((65 : Nat), (0 : Int), (0 : Int)) = some (fn, lo, hi) := h
    cases h'
    exact ⟨test_none.of (fun s => rfl), by decide, by decide, by decide, by decide⟩
  by_cases h7 : k = 7
  · subst h7
    have h' : some ((65 : Nat), (0 : Int), (0 : Int)) = some (fn, lo, hi) := h
    cases h'
    exact ⟨test_none.of (fun s => rfl), by decide, by decide, by decide, by decide⟩
  by_cases h8 : k = 8
  · subst h8
    have h' : some ((65 : Nat), (0 : Int), (0 : Int)) = some (fn, lo, hi) := h
    cases h'
    exact ⟨test_none.of (fun s => rfl), by decide, by decide, by decide, by decide⟩
  by_cases h9 : k = 9
  · subst h9
    have h' : some ((65 : Nat), (0 : Int), (0 : Int)) = some (fn, lo, hi) := h
    cases h'
    exact ⟨test_none.of (fun s => rfl), by decide, by decide, by decide, by decide⟩
  by_cases h10 : k = 10
  · subst h10
    have h' : some ((67 : Nat), (1 : Int), (201 : Int)) = some (fn, lo, hi) := h
    cases h'
    exact ⟨test_fun.of (fun s => rfl), by decide, by decide, by decide, by decide⟩
  by_cases h11 : k = 11
  · subst h11
    have h' : some ((65 : Nat), (0 : Int), (200 : Int)) = some (fn, lo, hi) := h
    cases h'
    exact ⟨test_none.of (fun s => rfl), by decide, by decide, by decide, by decide⟩
  by_cases h12 : k = 12
  · subst h12
    have h' : some ((66 : Nat), (1 : Int), (1 : Int)) = some (fn, lo, hi) := h
    cases h'
    exact ⟨test_text.of (fun s => rfl), by decide, by decide, by decide, by decide⟩
  by_cases h13 : k = 13
  · subst h13
    have h' : some ((68 : Nat), (1 : Int), (1 : Int)) = some (fn, lo, hi) := h
    cases h'
    exact ⟨test_member.of (fun s => rfl), by decide, by decide, by decide, by decide⟩
  by_cases h14 : k = 14
  · subst h14
    have h' : some ((65 : Nat), (2 : Int), (2 : Int)) = some (fn, lo, hi) := h
    cases h'
    exact ⟨test_none.of (fun s => rfl), by decide, by decide, by decide, by decide⟩
  by_cases h15 : k = 15
  · subst h15
    have h' : some ((65 : Nat), (1 : Int), (200 : Int)) = some (fn, lo, hi) := h
    cases h'
    exact ⟨test_none.of (fun s => rfl), by decide, by decide, by decide, by decide⟩
  by_cases h16 : k = 16
  · subst h16
    have h' : some ((65 : Nat), (1 : Int), (200 : Int)) = some (fn, lo, hi) := h
    cases h'
    exact ⟨test_none.of (fun s => rfl), by decide, by decide, by decide, by decide⟩
  by_cases h17 : k = 17
  · subst h17
    have h' : some ((65 : Nat), (2 : Int), (2 : Int)) = some (fn, lo, hi) := h
    cases h'
    exact ⟨test_none.of (fun s => rfl), by decide, by decide, by decide, by decide⟩
  by_cases h18 : k = 18
  · subst h18
    have h' : some ((69 : Nat), (2 : Int), (2 : Int)) = some (fn, lo, hi) := h
    cases h'
    exact ⟨test_sign.of (fun s => rfl), by decide, by decide, by decide, by decide⟩
  by_cases h19 : k = 19
  · subst h19
    have h' : some ((65 : Nat), (1 : Int), (1 : Int)) = some (fn, lo, hi) := h
    cases h'
    exact ⟨test_none.of (fun s => rfl), by decide, by decide, by decide, by decide⟩
  by_cases h20 : k = 20
  · subst h20
    have h' : some ((65 : Nat), (1 : Int), (1 : Int)) = some (fn, lo, hi) := h
    cases h'
    exact ⟨test_none.of (fun s => rfl), by decide, by decide, by decide, by decide⟩
  by_cases h21 : k = 21
  · subst h21
    have h' : some ((65 : Nat), (2 : Int), (2 : Int)) = some (fn, lo, hi) := h
    cases h'
    exact ⟨test_none.of (fun s => rfl), by decide, by decide, by decide, by decide⟩
  by_cases h22 : k = 22
  · subst h22
    have h' : some ((65 : Nat), (2 : Int), (2 : Int)) = some (fn, lo, hi) := h
    cases h'
    exact ⟨test_none.of (fun s => rfl), by decide, by decide, by decide, by decide⟩
  by_cases h23 : k = 23
  · subst h23
    have h' : some ((65 : Nat), (3 : Int), (3 : Int)) = some (fn, lo, hi) := h
    cases h'
    exact ⟨test_none.of (fun s => rfl), by decide, by decide, by decide, by decide⟩
  by_cases h30 : k = 30
  · subst h30
    have h' : some ((37 : Nat), (0 : Int), (1 : Int)) = some (fn, lo, hi) := h
    cases h'
    exact ⟨test_name.of (fun s => rfl), by decide, by decide, by decide, by decide⟩
  by_cases h31 : k = 31
  · subst h31
    have h' : some ((65 : Nat), (1 : Int), (1 : Int)) = some (fn, lo, hi) := h
    cases h'
    exact ⟨test_none.of (fun s => rfl), by decide, by decide, by decide, by decide⟩
  by_cases h32 : k = 32
  · subst h32
    have h' : some ((65 : Nat), (0 : Int), (1073741824 : Int)) = some (fn, lo, hi) := h
    cases h'
    exact ⟨test_none.of (fun s => rfl), by decide, by decide, by decide, by decide⟩
  by_cases h33 : k = 33
  · subst h33
    have h' : some ((65 : Nat), (2 : Int), (3 : Int)) = some (fn, lo, hi) := h
    cases h'
    exact ⟨test_none.of (fun s => rfl), by decide, by decide, by decide, by decide⟩
  by_cases h34 : k = 34
  · subst h34
    have h' : some ((65 : Nat), (2 : Int), (2 : Int)) = some (fn, lo, hi) := h
    cases h'
    exact ⟨test_none.of (fun s => rfl), by decide, by decide, by decide, by decide⟩
  by_cases h35 : k = 35
  · subst h35
    have h' : some ((37 : Nat), (2 : Int), (2 : Int)) = some (fn, lo, hi) := h
    cases h'
    exact ⟨test_name.of (fun s => rfl), by decide, by decide, by decide, by decide⟩
  by_cases h36 : k = 36
  · subst h36
    have h' : some ((65 : Nat), (0 : Int), (1 : Int)) = some (fn, lo, hi) := h
    cases h'
    exact ⟨test_none.of (fun s => rfl), by decide, by decide, by decide, by decide⟩
  by_cases h37 : k = 37
  · subst h37
    have h' : some ((65 : Nat), (1 : Int), (1 : Int)) = some (fn, lo, hi) := h
    cases h'
    exact ⟨test_none.of (fun s => rfl), by decide, by decide, by decide, by decide⟩
  by_cases h38 : k = 38
  · subst h38
    have h' : some ((37 : Nat), (2 : Int), (2 : Int)) = some (fn, lo, hi) := h
    cases h'
    exact ⟨test_name.of (fun s => rfl), by decide, by decide, by decide, by decide⟩
  by_cases h39 : k = 39
  · subst h39
    have h' : some ((65 : Nat), (0 : Int), (0 : Int)) = some (fn, lo, hi) := h
    cases h'
    exact ⟨test_none.of (fun s => rfl), by decide, by decide, by decide, by decide⟩
  by_cases h40 : k = 40
  · subst h40
    have h' : some ((65 : Nat), (0 : Int), (0 : Int)) = some (fn, lo, hi) := h
    cases h'
    exact ⟨test_none.of (fun s => rfl), by decide, by decide, by decide, by decide⟩
  by_cases h41 : k = 41
  · subst h41
    have h' : some ((37 : Nat), (1 : Int), (201 : Int)) = some (fn, lo, hi) := h
    cases h'
    exact ⟨test_name.of (fun s => rfl), by decide, by decide, by decide, by decide⟩
  rw [formF, if_neg h1, if_neg h2, if_neg h3, if_neg h4, if_neg h5, if_neg h6, if_neg h7, if_neg h8, if_neg h9, if_neg h10, if_neg h11, if_neg h12, if_neg h13, if_neg h14, if_neg h15, if_neg h16, if_neg h17, if_neg h18, if_neg h19, if_neg h20, if_neg h21, if_neg h22, if_neg h23, if_neg h30, if_neg h31, if_neg h32, if_neg h33, if_neg h34, if_neg h35, if_neg h36, if_neg h37, if_neg h38, if_neg h39, if_neg h40, if_neg h41] at h
  cases h

def zeroForm : Value := .agg #[.nilFunc, .int .i64 0, .int .i64 0]
theorem zero_form (w : World) : (zeroValue 78).run Tryd.prog w = .ok zeroForm w := by kernel_rfl

end Go.Proofs.YtcidccifnaecaaaDoor
