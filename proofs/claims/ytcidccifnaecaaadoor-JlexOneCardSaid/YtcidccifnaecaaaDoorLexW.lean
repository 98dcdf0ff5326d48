/- What every law on tokens begins with, walked; rows of tokens. -/
import Derived.Test.YtcidccifnaecaaaDoorLexL
namespace Go.Proofs.YtcidccifnaecaaaDoor
open Go.RowKit Go.Sort

theorem tlCells_len : ∀ p : List Tl, (tlCells p).length = p.length * 5
  | [] => by simp [tlCells]
  | t :: p => by
    have := tlCells_len p
    unfold tlCells at this ⊢
    simp only [List.flatMap_cons, List.length_append, this, List.length_cons, tlCells1, List.length_nil]
    omega
theorem tlCells_get : ∀ {p : List Tl} {k : Nat} {t : Tl} (j : Nat), p[k]? = some t → j < 5 → (tlCells p)[k * 5 + j]? = (tlCells1 t)[j]?
  | [], k, t, j, h, _ => by simp at h
  | x :: p, 0, t, j, h, hj => by
    simp only [List.getElem?_cons_zero, Option.some.injEq] at h
    subst h
    simp only [tlCells, List.flatMap_cons, Nat.zero_mul, Nat.zero_add]
    rw [List.getElem?_append_left (by simpa [tlCells1] using hj)]
  | x :: p, k + 1, t, j, h, hj => by
    have ih := tlCells_get (p := p) (k := k) (t := t) j (by simpa using h) hj
    unfold tlCells at ih ⊢
    rw [List.flatMap_cons, List.getElem?_append_right (by simp [tlCells1]; omega)]
    rw [show (k + 1) * 5 + j - (tlCells1 x).length = k * 5 + j by simp [tlCells1]; omega]
    exact ih
/-- A row of tokens: its k-th one, cell by cell. -/
theorem tl_at {W : World} {B g n cap : Nat} {p : List Tl} (h : W.ownsRow B 45 5 (.slice (some ⟨g, 0, none⟩) n cap) n (tlCells p)) (hn : p.length = n) {k : Nat} {t : Tl} (hk : p[k]? = some t) (j : Nat) (hj : j < 5) :
    W.cell? ⟨g, k * 5 + j, none⟩ = (tlCells1 t)[j]? := by
  have hlt : k < p.length := (List.getElem?_eq_some_iff.1 hk).1
  rw [World.ownsRow.cellAt h (k * 5 + j) (by omega), tlCells_get j hk hj]

def cutB (s : ByteArray) : ByteArray := ⟨(s.data.toList.take 3000).toArray⟩
theorem cutB_list (s : ByteArray) : (cutB s).data.toList = s.data.toList.take 3000 := rfl
theorem cutB_size (s : ByteArray) : (cutB s).size ≤ 3000 := by
  rw [size_len, cutB_list, List.length_take]
  omega
set_option maxHeartbeats 400000 in
theorem cut_calls (w : World) (s : ByteArray) (hs : s.size ≤ maxLen) : Calls Tryd.prog 36 #[.string s] w fun e w' => e = .returned (.string (cutB s)) ∧ w = w' := by
  unfold maxLen at hs
  by_cases h : s.size ≤ 3000
  · have hm : min (s.size : Int) 3000 = (s.size : Int) := by omega
    have HE : Hid (s = cutB s) := Lib.hid (bs_ext (by rw [cutB_list, List.take_of_length_le (by rw [← size_len]; omega)]))
    go_enter Tryd.func36, Tryd.ntmps36
    go_wp2
    go_ret
    exact ⟨(congrArg (fun z => Ending.returned (Value.string z)) HE.out).trans rfl, rfl⟩
  · have hm : min (s.size : Int) 3000 = 3000 := by omega
    have HE : Hid (s.extract 0 3000 = cutB s) := Lib.hid (bs_ext (by rw [extract_take, cutB_list]))
    have hle : 3000 ≤ s.size := by omega
    go_enter Tryd.func36, Tryd.ntmps36
    go_wp2
    go_ret
    exact ⟨by rw [← HE.out]; rfl, rfl⟩

def shownA : List UInt8 := [120, 32, 61, 32, 39, 97, 92, 110, 39, 32, 47, 47, 32, 99]
def shownB : List UInt8 := [10, 49, 46, 53]
theorem shownA_lex : lexF shownA = ([⟨⟨1, [120], 0⟩, 1, false⟩, ⟨⟨5, [61], 0⟩, 1, false⟩, ⟨⟨4, [97, 10], 0⟩, 1, false⟩], 0, 0) := by kernel_rfl
theorem shownB_lex : lexF shownB = ([], 2, 25) := by kernel_rfl
theorem while_word : wordB [119, 104, 105, 108, 101] = true := by decide +kernel

set_option maxRecDepth 100000 in
set_option maxHeartbeats 1600000 in
theorem shownJ_calls (w : World) (hl : LaidJ w) : Calls Tryd.prog 33 #[] w fun e w' => e = .returned (.bool true) ∧ Below w.heap.size w w' := by
  have HL := Lib.hid hl
  have HA := Lib.hid (lex_calls w hl ⟨#[120, 32, 61, 32, 39, 97, 92, 110, 39, 32, 47, 47, 32, 99]⟩ (by decide))
  have HB := Lib.hid (fun w9 (h9 : Below w.heap.size w w9) => lex_calls w9 (HL.out.below h9) ⟨#[10, 49, 46, 53]⟩ (by decide))
  have HC := Lib.hid (fun w9 (h9 : Below w.heap.size w w9) => isWord_calls w9 (HL.out.below h9).laid ⟨#[119, 104, 105, 108, 101]⟩ (by decide))
  clear hl
  go_enter Tryd.func33, Tryd.ntmps33
  go_wp2_with fail
  refine HA.out.mono ?_
  rintro e w1 ⟨A, cap, rfl, hown, hb1⟩
  rw [show lexF (⟨#[120, 32, 61, 32, 39, 97, 92, 110, 39, 32, 47, 47, 32, 99]⟩ : ByteArray).data.toList = _ from shownA_lex] at hown ⊢
  simp only [List.length_cons, List.length_nil, Nat.zero_add, Nat.reduceAdd] at hown ⊢
  obtain ⟨g, cap1, hA, _, _⟩ := World.ownsRow.form hown (by decide)
  injection hA with hA _ hcap
  subst hA
  subst hcap
  have d0 := tl_at hown rfl (k := 2) rfl 0 (by decide)
  have d1 := tl_at hown rfl (k := 2) rfl 1 (by decide)
  have HD0 := Lib.hid d0
  have HD1 := Lib.hid d1
  have HB1 := Lib.hid hb1
  clear hown hb1 d0 d1
  go_wp2_with fail
  refine (HB.out w1 HB1.out).mono ?_
  rintro e w2 ⟨A2, cap2, rfl, _, hb2⟩
  rw [show lexF (⟨#[10, 49, 46, 53]⟩ : ByteArray).data.toList = _ from shownB_lex]
  have d0 : w2.cell? ⟨g, 10, none⟩ = some (.int .i64 4) := cell_kept hb2 HD0.out
  have d1 : w2.cell? ⟨g, 11, none⟩ = some (.string ⟨#[97, 10]⟩) := cell_kept hb2 HD1.out
  have HB2 := Lib.hid (HB1.out.trans (hb2.mono HB1.out.size))
  clear hb2
  go_wp2_with fail
  refine (HC.out w2 HB2.out).mono ?_
  rintro e w3 ⟨rfl, hb3⟩
  rw [show wordB (⟨#[119, 104, 105, 108, 101]⟩ : ByteArray).data.toList = true from while_word]
  have HB3 := Lib.hid (HB2.out.trans (hb3.mono HB2.out.size))
  clear hb3 d0 d1
  go_wp2
  go_ret
  exact ⟨rfl, HB3.out⟩

end Go.Proofs.YtcidccifnaecaaaDoor
