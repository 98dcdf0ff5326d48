/- The document's texts: numbers, lists, lines, expressions with parts, statements: walked. -/
import Derived.Test.YtcidccifnaecaaaDoorTxBound
import Derived.Test.YtcidccifnaecaaaDoorTxM
import Derived.Lib.ItoaMem
import Derived.Lib.ItoaLen
import Derived.Deep.RegionHeld3
namespace Go.Proofs.YtcidccifnaecaaaDoor
open Go.RowKit Go.Sort

theorem dec_step (u : Nat) : Lib.decDigits u = if u < 10 then [UInt8.ofNat (48 + u)] else Lib.decDigits (u / 10) ++ [UInt8.ofNat (48 + u % 10)] := by
  rw [Lib.decDigits]
  split <;> rfl

theorem bytes_extD {a b : ByteArray} (h : a.data.toList = b.data.toList) : a = b := by
  cases a; cases b
  simp at h
  subst h
  rfl
theorem conv_oneD (w : World) (c : UInt8) : (convert 37 9 (.slice (some ⟨w.heap.size, 0, none⟩) 1 1)).run Tryd.prog (w.alloc (.cells #[.int .u8 (c.toNat : Int)] 5)) = .ok (.string ⟨#[c]⟩) (w.alloc (.cells #[.int .u8 (c.toNat : Int)] 5)) := by
  have h := run_convert_bytes_back (P := Tryd.prog) (w.alloc (.cells #[.int .u8 (c.toNat : Int)] 5)) 37 9 5 ⟨w.heap.size, 0, none⟩ 1 [c] Tryd.underlying37 Tryd.underlying5 Tryd.underlying9 (fun i hi => by
    have : i = 0 := by simpa using hi
    subst this
    exact cell_of_row _ _ 0 #[.int .u8 (c.toNat : Int)] 5 (0, 0) (heap_alloc_new _ _))
  exact h
theorem dig_byteD (r : Nat) (h : r < 10) : (UInt8.ofNat (48 + r)).toNat = 48 + r := by
  simp
  omega
theorem conv_digD (w : World) (r : Nat) (h : r < 10) : (convert 37 9 (.slice (some ⟨w.heap.size, 0, none⟩) 1 1)).run Tryd.prog (w.alloc (.cells #[.int .u8 (48 + (r : Int))] 5)) = .ok (.string ⟨#[UInt8.ofNat (48 + r)]⟩) (w.alloc (.cells #[.int .u8 (48 + (r : Int))] 5)) := by
  have h1 := conv_oneD w (UInt8.ofNat (48 + r))
  have e : ((UInt8.ofNat (48 + r)).toNat : Int) = 48 + (r : Int) := by rw [dig_byteD r h]; omega
  rw [e] at h1
  exact h1

set_option maxRecDepth 100000 in
set_option maxHeartbeats 4000000 in
theorem num_calls (w : World) (N : Nat) (hN : N ≤ 999999999999999) :
    Calls Tryd.prog 84 #[.int .i64 (N : Int)] w fun e w' => e = .returned (.string ⟨(Lib.itoa (N : Int)).toArray⟩) ∧ Below w.heap.size w w' := by
  rw [Lib.itoa_nonneg]
  have HN := Lib.hid hN
  go_enter Tryd.func84, Tryd.ntmps84
  go_wp2
  go_loopw [0, 3] (fun n s wr => ∃ (k : Nat) (d : List UInt8), k ≤ N ∧ n = .int .i64 (k : Int) ∧ s = .string ⟨d.toArray⟩ ∧ Below w.heap.size w wr ∧ d.length ≤ 100 ∧ Hid (Lib.decDigits N = Lib.decDigits k ++ d ∧ d.length + (Lib.decDigits k).length ≤ 21)) (fun n _ _ => (intOf n).toNat)
  case atStart => exact ⟨N, [], by omega, rfl, rfl, Below.refl _ _, by simp, Lib.hid ⟨by simp, by have := Lib.itoa_length_le (N : Int) (by omega) (by omega); rw [Lib.itoa_nonneg] at this; simpa using this⟩⟩
  case round =>
    obtain ⟨k, d, hk, rfl, rfl, hb, hd, HD⟩ := hrel
    have HB := Lib.hid hb
    clear hb
    have HD2 := Lib.hid HD.out.2
    have hst := dec_step k
    obtain ⟨r, hr⟩ : ∃ r, k % 10 = r := ⟨_, rfl⟩
    obtain ⟨q, hq⟩ : ∃ q, k / 10 = q := ⟨_, rfl⟩
    have hrl : r < 10 := by omega
    have hqk : q ≤ k := by omega
    have e2 : (k : Int).tmod 10 = (r : Int) := by rw [Int.tmod_eq_emod_of_nonneg (by omega)]; omega
    have e4 : (k : Int).tdiv 10 = (q : Int) := by rw [Int.tdiv_eq_ediv_of_nonneg (by omega)]; omega
    have e5 : IntKind.u8.wrap (48 + (r : Int)) = 48 + (r : Int) := by rw [IntKind.wrap_u8]; omega
    have hcv := conv_digD wr r hrl
    rw [hr, hq] at hst
    have HST := Lib.hid hst
    have HQK := Lib.hid hq
    have HRR := Lib.hid hr
    obtain ⟨o, ho⟩ : ∃ o : ByteArray, (⟨d.toArray⟩ : ByteArray) = o := ⟨_, rfl⟩
    have hol : o.data.toList = d := by rw [← ho]
    have hos : o.size = d.length := by rw [← size_list, hol]
    rw [ho]
    have z1 : ¬ 9223372036854775807 < 1 + o.size := by omega
    have HOL := Lib.hid hol
    have hN' := HN.out
    clear ho hol hst hr hq
    by_cases h0 : q = 0
    · subst h0
      go_wp2
      go_ret
      refine ⟨?_, HB.out.alloc HB.out.size _⟩
      have hk9 : k < 10 := by have := HQK.out; omega
      have hkr : k = r := by have := HRR.out; omega
      rw [HD.out.1, HST.out, if_pos hk9, hkr]
      exact congrArg (fun z => Ending.returned (Value.string z)) (bytes_extD (by simp [HOL.out]))
    · have h1 : ¬ (q : Int) = 0 := by omega
      have hdq : decide ((q : Int) = 0) = false := by simpa using h0
      go_wp2
      go_roundw
      case rel =>
        have hk9 : ¬ k < 10 := by have := HQK.out; omega
        have h5 := HST.out
        rw [if_neg hk9] at h5
        have h6 := congrArg List.length h5
        rw [List.length_append] at h6
        simp only [List.length_cons, List.length_nil] at h6
        have h7 := HD2.out
        refine ⟨q, UInt8.ofNat (48 + r) :: d, by omega, rfl, ?_, HB.out.alloc HB.out.size _, by simp; omega, Lib.hid ⟨by rw [HD.out.1, h5]; simp, by simp; omega⟩⟩
        exact congrArg Value.string (bytes_extD (by simp [HOL.out]))
      case measure => have := HQK.out; simp [intOf]; omega

end Go.Proofs.YtcidccifnaecaaaDoor

namespace Go.Proofs.YtcidccifnaecaaaDoor
open Go.RowKit Go.Sort

/-- What the document's text, line and within tell of a tree. -/
def ExprD (h : Nat) (u : Tree) (i : ByteArray) : Prop := ∀ (d : Nat) (w : World) (sl : Value), Kids w d u.l sl →
  Calls Tryd.prog 52 #[.agg #[.int .i64 u.op, .string u.s, .int .i64 u.n, sl, .int .i64 u.line], .string i] w fun e w' => e = .returned (.string ⟨(T h u i.data.toList).toArray⟩) ∧ Below w.heap.size w w'
def MoreD (h : Nat) (u : Tree) (i : ByteArray) : Prop := ∀ (d : Nat) (w : World) (sl : Value), Kids w d u.l sl →
  Calls Tryd.prog 86 #[.agg #[.int .i64 u.op, .string u.s, .int .i64 u.n, sl, .int .i64 u.line], .string i] w fun e w' => e = .returned (.string ⟨(T h u i.data.toList).toArray⟩) ∧ Below w.heap.size w w'
def StmtD (h : Nat) (u : Tree) (i : ByteArray) : Prop := ∀ (d : Nat) (w : World) (sl : Value), Kids w d u.l sl →
  Calls Tryd.prog 77 #[.agg #[.int .i64 u.op, .string u.s, .int .i64 u.n, sl, .int .i64 u.line], .string i] w fun e w' => e = .returned (.string ⟨(T h u i.data.toList).toArray⟩) ∧ Below w.heap.size w w'
def BlockD (h : Nat) (u : Tree) (i : ByteArray) : Prop := ∀ (d : Nat) (w : World) (sl : Value), Kids w d u.l sl →
  Calls Tryd.prog 104 #[.agg #[.int .i64 u.op, .string u.s, .int .i64 u.n, sl, .int .i64 u.line], .string i] w fun e w' => e = .returned (.string ⟨(T h u i.data.toList).toArray⟩) ∧ Below w.heap.size w w'

theorem join_snoc (x : List UInt8) : ∀ ts : List (List UInt8), Lib.join (ts ++ [x]) [44, 32] = if ts = [] then x else Lib.join ts [44, 32] ++ [44, 32] ++ x
  | [] => by simp [Lib.join, List.intercalate]
  | [y] => by simp [Lib.join, List.intercalate]
  | y :: z :: l => by
    have h := join_snoc x (z :: l)
    have e : ∀ r : List (List UInt8), Lib.join (y :: z :: r) [44, 32] = y ++ [44, 32] ++ Lib.join (z :: r) [44, 32] := fun r => by simp [Lib.join, List.intercalate]
    rw [if_neg (by simp)] at h ⊢
    have h2 : (y :: z :: l) ++ [x] = y :: z :: (l ++ [x]) := rfl
    have h3 : (z :: l) ++ [x] = z :: (l ++ [x]) := rfl
    rw [h3] at h
    rw [h2, e, e, h]
    simp
theorem sumL_take (g : Nat) (ts : List (List UInt8)) (k : Nat) : sumL g (ts.take k) ≤ sumL g ts := by
  have h := sumL_app g (ts.take k) (ts.drop k)
  rw [List.take_append_drop] at h
  omega
theorem str_eq {a : ByteArray} {l : List UInt8} (h : a.data.toList = l) : Value.string a = .string ⟨l.toArray⟩ := congrArg Value.string (bytes_extD (by simpa using h))

set_option maxRecDepth 100000 in
set_option maxHeartbeats 2000000 in
theorem rlist_calls (h : Nat) (l : List Tree) (i : ByteArray) (hc : ∀ u, u ∈ l → ExprD h u i) (hT : sumL 2 (l.map fun u => T h u i.data.toList) ≤ 140737488355328) (d : Nat) (w : World) (sl : Value) (hk : Kids w d l sl) :
    Calls Tryd.prog 109 #[sl, .string i] w fun e w' => e = .returned (.string ⟨(Lib.join (l.map fun u => T h u i.data.toList) [44, 32]).toArray⟩) ∧ Below w.heap.size w w' := by
  obtain ⟨hlen, A, c, rfl⟩ := hk.form
  unfold maxLen at hlen
  have HC := Lib.hid hc
  have HT := Lib.hid hT
  have HK := Lib.hid hk
  clear hc hT hk
  go_enter Tryd.func109, Tryd.ntmps109
  go_wp2
  go_loopw [5, 6] (fun s n wr => ∃ k : Nat, k ≤ l.length ∧ n = .int .i64 k ∧ s = .string ⟨(Lib.join ((l.map fun u => T h u i.data.toList).take k) [44, 32]).toArray⟩ ∧ Below w.heap.size w wr) (fun _ n _ => l.length - (intOf n).toNat)
  case atStart => exact ⟨0, by omega, rfl, by simp [Lib.join, List.intercalate], Below.refl _ _⟩
  case round =>
    obtain ⟨k, hkl, rfl, rfl, hb⟩ := hrel
    have HB := Lib.hid hb
    clear hb
    by_cases hlt : k < l.length
    · have hu : l[k]? = some l[k] := List.getElem?_eq_getElem hlt
      generalize l[k] = u at hu
      obtain ⟨p, su, d1, hd1, rfl, hpu, hku, _⟩ := HK.out.at_ hu
      obtain ⟨_, A3, c3, rfl⟩ := hku.form
      have HCU := Lib.hid (HC.out u (List.mem_of_getElem? hu))
      have HKU := Lib.hid hku
      have hnx : (l.map fun u => T h u i.data.toList).take (k + 1) = (l.map fun u => T h u i.data.toList).take k ++ [T h u i.data.toList] := by
        rw [List.take_add_one, List.getElem?_map, hu]; rfl
      have hj := join_snoc (T h u i.data.toList) ((l.map fun u => T h u i.data.toList).take k)
      rw [← hnx] at hj
      have hs1 := sumL_take 2 (l.map fun u => T h u i.data.toList) (k + 1)
      rw [hnx, sumL_app, sumL_cons] at hs1
      have hs2 := join_len ((l.map fun u => T h u i.data.toList).take k)
      have hs3 := HT.out
      have h0 : ((l.map fun u => T h u i.data.toList).take k = []) ↔ k = 0 := by
        constructor
        · intro e
          have := congrArg List.length e
          rw [List.length_take, List.length_map] at this
          simp only [List.length_nil] at this
          omega
        · intro e
          subst e
          rfl
      simp only [h0] at hj
      have hsz : (Lib.join ((l.map fun u => T h u i.data.toList).take k) [44, 32]).length + (T h u i.data.toList).length + 2 ≤ 140737488355328 := by omega
      have HJ := Lib.hid hj
      have hjo : k = 0 → Lib.join ((l.map fun u => T h u i.data.toList).take k) [44, 32] = [] := by
        rintro rfl
        simp [Lib.join, List.intercalate]
      have HJO := Lib.hid hjo
      obtain ⟨a0, a1, a2, a3, a4⟩ := hpu.below HB.out
      clear hu hpu hku hnx hj hs1 hs2 hs3 h0 hjo
      obtain ⟨Z, hZ⟩ : ∃ Z, Lib.join ((l.map fun u => T h u i.data.toList).take (k + 1)) [44, 32] = Z := ⟨_, rfl⟩
      have HZ := Lib.hid hZ
      rw [hZ] at HJ
      clear hZ
      generalize Lib.join ((l.map fun u => T h u i.data.toList).take k) [44, 32] = Y at HJ HJO hsz ⊢
      have HX : Hid (ExprD h u i) := HCU
      unfold ExprD at HX
      generalize T h u i.data.toList = X at HJ HX hsz
      have hX1 := bs_size X
      have hY1 := bs_size Y
      obtain ⟨Bx, hBx⟩ : ∃ b : ByteArray, (⟨X.toArray⟩ : ByteArray) = b := ⟨_, rfl⟩
      obtain ⟨By, hBy⟩ : ∃ b : ByteArray, (⟨Y.toArray⟩ : ByteArray) = b := ⟨_, rfl⟩
      have HXL : Hid (Bx.data.toList = X) := Lib.hid (by rw [← hBx])
      have HYL : Hid (By.data.toList = Y) := Lib.hid (by rw [← hBy])
      rw [hBx] at HX hX1
      rw [hBy] at hY1 ⊢
      have z1 : ¬ 9223372036854775807 < By.size + Bx.size := by omega
      have z2 : ¬ 9223372036854775807 < By.size + 2 := by omega
      have z3 : ¬ 9223372036854775807 < By.size + 2 + Bx.size := by omega
      clear hBx hBy hX1 hY1 hsz
      by_cases hk0 : k = 0
      · have g0 : ¬ (0 : Int) < (k : Int) := by omega
        have HE : Hid (By.data.toList ++ Bx.data.toList = Z) := Lib.hid (by rw [HJ.out, if_pos hk0, HXL.out, HYL.out, HJO.out hk0]; rfl)
        clear hk0
        go_wp2_with fail
        refine (HX.out d1 wr _ (HKU.out.below HB.out)).mono ?_
        rintro e w9 ⟨rfl, hb9⟩
        have HB9 := Lib.hid (HB.out.trans (hb9.mono HB.out.size))
        clear hb9
        go_wp2
        go_roundw
        case rel => exact ⟨k + 1, by omega, by go_num, str_eq (by rw [HZ.out, ← HE.out]; simp), HB9.out⟩
        case measure => simp [intOf]; omega
      · have g0 : (0 : Int) < (k : Int) := by omega
        have HE : Hid (By.data.toList ++ [44, 32] ++ Bx.data.toList = Z) := Lib.hid (by rw [HJ.out, if_neg hk0, HXL.out, HYL.out])
        clear hk0
        go_wp2_with fail
        refine (HX.out d1 wr _ (HKU.out.below HB.out)).mono ?_
        rintro e w9 ⟨rfl, hb9⟩
        have HB9 := Lib.hid (HB.out.trans (hb9.mono HB.out.size))
        clear hb9
        go_wp2
        go_roundw
        case rel => exact ⟨k + 1, by omega, by go_num, str_eq (by rw [HZ.out, ← HE.out]; simp), HB9.out⟩
        case measure => simp [intOf]; omega
    · obtain rfl : k = l.length := by omega
      have hdd : decide ((l.length : Int) < (l.length : Int)) = false := by simp
      rw [List.take_of_length_le (by rw [List.length_map]; exact Nat.le_refl _)]
      go_wp2
      go_ret
      exact ⟨rfl, HB.out⟩

set_option maxRecDepth 100000 in
set_option maxHeartbeats 2000000 in
theorem rlines_calls (h : Nat) (l : List Tree) (i : ByteArray) (hc : ∀ u, u ∈ l → StmtD h u i) (hT : (linesL (T h) l i.data.toList).length ≤ 140737488355328) (d : Nat) (w : World) (sl : Value) (hk : Kids w d l sl) :
    Calls Tryd.prog 50 #[sl, .string i] w fun e w' => e = .returned (.string ⟨(linesL (T h) l i.data.toList).toArray⟩) ∧ Below w.heap.size w w' := by
  obtain ⟨hlen, A, c, rfl⟩ := hk.form
  unfold maxLen at hlen
  have HC := Lib.hid hc
  have HT := Lib.hid hT
  have HK := Lib.hid hk
  clear hc hT hk
  go_enter Tryd.func50, Tryd.ntmps50
  go_wp2
  go_loopw [5, 6] (fun s n wr => ∃ k : Nat, k ≤ l.length ∧ n = .int .i64 k ∧ s = .string ⟨(linesL (T h) (l.take k) i.data.toList).toArray⟩ ∧ Below w.heap.size w wr) (fun _ n _ => l.length - (intOf n).toNat)
  case atStart => exact ⟨0, by omega, rfl, rfl, Below.refl _ _⟩
  case round =>
    obtain ⟨k, hkl, rfl, rfl, hb⟩ := hrel
    have HB := Lib.hid hb
    clear hb
    by_cases hlt : k < l.length
    · have hu : l[k]? = some l[k] := List.getElem?_eq_getElem hlt
      generalize l[k] = u at hu
      obtain ⟨p, su, d1, hd1, rfl, hpu, hku, _⟩ := HK.out.at_ hu
      obtain ⟨_, A3, c3, rfl⟩ := hku.form
      have HX : Hid (StmtD h u i) := Lib.hid (HC.out u (List.mem_of_getElem? hu))
      unfold StmtD at HX
      have HKU := Lib.hid hku
      have HNX := Lib.hid (lines_next (R := T h) (i := i.data.toList) hu)
      have hroom : (linesL (T h) (l.take (k + 1)) i.data.toList).length ≤ 140737488355328 := by
        have h1 := congrArg List.length (lines_split (T h) l i.data.toList (k + 1))
        rw [List.length_append] at h1
        have := HT.out
        omega
      rw [HNX.out] at hroom
      simp only [List.length_append, List.length_cons, List.length_nil] at hroom
      rw [size_list] at hroom
      obtain ⟨a0, a1, a2, a3, a4⟩ := hpu.below HB.out
      clear hu hpu hku
      obtain ⟨Z, hZ⟩ : ∃ Z, linesL (T h) (l.take (k + 1)) i.data.toList = Z := ⟨_, rfl⟩
      have HZ := Lib.hid hZ
      rw [hZ] at HNX
      clear hZ
      generalize linesL (T h) (l.take k) i.data.toList = Y at HNX hroom ⊢
      generalize T h u i.data.toList = X at HNX HX hroom
      have hX1 := bs_size X
      have hY1 := bs_size Y
      obtain ⟨Bx, hBx⟩ : ∃ b : ByteArray, (⟨X.toArray⟩ : ByteArray) = b := ⟨_, rfl⟩
      obtain ⟨By, hBy⟩ : ∃ b : ByteArray, (⟨Y.toArray⟩ : ByteArray) = b := ⟨_, rfl⟩
      have HE : Hid (By.data.toList ++ i.data.toList ++ Bx.data.toList ++ [10] = Z) := Lib.hid (by rw [HNX.out, ← hBx, ← hBy]; simp)
      rw [hBx] at HX hX1
      rw [hBy] at hY1 ⊢
      have z1 : ¬ 9223372036854775807 < By.size + i.size := by omega
      have z2 : ¬ 9223372036854775807 < By.size + i.size + Bx.size := by omega
      have z3 : ¬ 9223372036854775807 < By.size + i.size + Bx.size + 1 := by omega
      clear hBx hBy hX1 hY1 hroom HNX
      go_wp2_with fail
      refine (HX.out d1 wr _ (HKU.out.below HB.out)).mono ?_
      rintro e w9 ⟨rfl, hb9⟩
      have HB9 := Lib.hid (HB.out.trans (hb9.mono HB.out.size))
      clear hb9
      go_wp2
      go_roundw
      case rel => exact ⟨k + 1, by omega, by go_num, str_eq (by rw [HZ.out, ← HE.out]; simp), HB9.out⟩
      case measure => simp [intOf]; omega
    · obtain rfl : k = l.length := by omega
      have hdd : decide ((l.length : Int) < (l.length : Int)) = false := by simp
      rw [List.take_length]
      go_wp2
      go_ret
      exact ⟨rfl, HB.out⟩

set_option maxRecDepth 100000 in
set_option maxHeartbeats 2000000 in
theorem rblock_calls (h : Nat) (t : Tree) (i : ByteArray) (hop : t.op = 32) (hc : ∀ u, u ∈ t.l → StmtD h u (i ++ ⟨#[32, 32]⟩)) (hT : (T (h + 1) t i.data.toList).length ≤ 140737488355328) (hi : i.size ≤ 1000000) : BlockD (h + 1) t i := by
  intro d w sl hk
  obtain ⟨hlen, A, c, rfl⟩ := hk.form
  unfold maxLen at hlen
  obtain ⟨i2, hi2⟩ : ∃ i2 : ByteArray, i ++ ⟨#[32, 32]⟩ = i2 := ⟨_, rfl⟩
  have hi2l : i2.data.toList = i.data.toList ++ [32, 32] := by rw [← hi2]; exact cat_bytes i [32, 32]
  have hLL : T (h + 1) t i.data.toList = [123, 10] ++ linesL (T h) t.l i2.data.toList ++ i.data.toList ++ [125] := by simp [T, stepT, hop, hi2l]
  rw [hi2] at hc
  have hTL : (linesL (T h) t.l i2.data.toList).length ≤ 140737488355328 := by
    rw [hLL] at hT
    simp only [List.length_append] at hT
    omega
  obtain ⟨w0, hw0⟩ : ∃ w0, w.alloc (.cells #[.int .i64 t.op, .string t.s, .int .i64 t.n, .slice A t.l.length c, .int .i64 t.line] 24) = w0 := ⟨_, rfl⟩
  have bx : Blk5 w0 w.heap.size t.op t.s t.n (.slice A t.l.length c) t.line := by rw [← hw0]; exact blk5_new _ _ _ _ _ _
  have hb0 : Below w.heap.size w w0 := by rw [← hw0]; exact (Below.refl _ _).alloc (Nat.le_refl _) _
  have HB := Lib.hid hb0
  have HLN := Lib.hid (rlines_calls h t.l i2 hc hTL d w0 _ (hk.below hb0))
  have hlz := bs_size (linesL (T h) t.l i2.data.toList)
  have HLL := Lib.hid hLL
  obtain ⟨c0, c1, c2, c3, c4⟩ := bx
  clear hb0 hk hT hop hc hi2l hLL
  generalize linesL (T h) t.l i2.data.toList = X at HLN HLL hTL hlz
  obtain ⟨Bx, hBx⟩ : ∃ b : ByteArray, (⟨X.toArray⟩ : ByteArray) = b := ⟨_, rfl⟩
  have HE : Hid ([123, 10] ++ Bx.data.toList ++ i.data.toList ++ [125] = T (h + 1) t i.data.toList) := Lib.hid (by rw [HLL.out, ← hBx])
  rw [hBx] at HLN hlz
  have z0 : ¬ 9223372036854775807 < i.size + 2 := by omega
  have z1 : ¬ 9223372036854775807 < 2 + Bx.size := by omega
  have z2 : ¬ 9223372036854775807 < 2 + Bx.size + i.size := by omega
  have z3 : ¬ 9223372036854775807 < 2 + Bx.size + i.size + 1 := by omega
  clear hBx hlz HLL
  go_enter Tryd.func104, Tryd.ntmps104
  go_wp2_with (go_at_call 50; refine HLN.out.mono ?_; rintro e w1 ⟨rfl, hb⟩; have HB1 := Lib.hid hb; clear hb)
  go_ret
  exact ⟨congrArg Ending.returned (str_eq (by rw [← HE.out]; simp)), HB.out.trans (HB1.out.mono HB.out.size)⟩

end Go.Proofs.YtcidccifnaecaaaDoor

namespace Go.Proofs.YtcidccifnaecaaaDoor
open Go.RowKit Go.Sort

set_option maxRecDepth 100000 in
set_option maxHeartbeats 4000000 in
theorem rmore_13 (h : Nat) (t a : Tree) (i : ByteArray) (hop : t.op = 13) (hta : t.l = [a]) (hao : ¬ a.op = 2) (hca : ExprD h a i) (hT : (T (h + 1) t i.data.toList).length ≤ 140737488355328) : MoreD (h + 1) t i := by
  intro d w sl hk
  obtain ⟨hlen, A, c, rfl⟩ := hk.form
  unfold maxLen at hlen
  have hFL : T (h + 1) t i.data.toList = T h a i.data.toList ++ [46] ++ t.s.data.toList := by simp [T, stepT, hop, hta, hao]
  have hT' := hT
  rw [hFL] at hT'
  simp only [List.length_append, List.length_cons, List.length_nil] at hT'
  rw [size_list t.s] at hT'
  obtain ⟨p, sa, da, _, rfl, hPa, hKa, _⟩ := hk.at_ (show t.l[0]? = some a by rw [hta]; rfl)
  rw [show p.add (0 * 5) = p from rfl] at hPa
  obtain ⟨_, Aa, ca', rfl⟩ := hKa.form
  have hll : t.l.length = 1 := by rw [hta]; rfl
  have hlt0 : 0 < t.l.length := by omega
  have hli0 : (0 : Int) < (t.l.length : Int) := by omega
  have hq : (a.op == 2) = false := by simpa using hao
  rw [hop]
  obtain ⟨w0, hw0⟩ : ∃ w0, w.alloc (.cells #[.int .i64 13, .string t.s, .int .i64 t.n, (.slice (some p) t.l.length c), .int .i64 t.line] 24) = w0 := ⟨_, rfl⟩
  have bx : Blk5 w0 w.heap.size 13 t.s t.n (.slice (some p) t.l.length c) t.line := by rw [← hw0]; exact blk5_new _ _ _ _ _ _
  have hb0 : Below w.heap.size w w0 := by rw [← hw0]; exact (Below.refl _ _).alloc (Nat.le_refl _) _
  have HB := Lib.hid hb0
  have HX := Lib.hid bx
  have HR : Hid (Below w0.heap.size w0 w0) := Lib.hid (Below.refl _ _)
  have HAa := Lib.hid (fun (w9 : World) (hb9 : Below w0.heap.size w0 w9) => (hca da w9 _ (hKa.below (HB.out.trans (hb9.mono HB.out.size)))).mono fun e w' (hq : _ ∧ _) => (⟨hq.1, hb9.trans (hq.2.mono hb9.size)⟩ : e = _ ∧ Below w0.heap.size w0 w'))
  have HPa := Lib.hid (fun (w9 : World) (hb9 : Below w0.heap.size w0 w9) => hPa.below (HB.out.trans (hb9.mono HB.out.size)))
  have hza := bs_size (T h a i.data.toList)
  have HFL := Lib.hid hFL
  clear hb0 hk hT hop hta hFL hll hca hPa hKa
  generalize T h a i.data.toList = Xa at HFL hT' HAa hza
  obtain ⟨Ba, hBa⟩ : ∃ b : ByteArray, (⟨Xa.toArray⟩ : ByteArray) = b := ⟨_, rfl⟩
  have HE : Hid (Ba.data.toList ++ [46] ++ t.s.data.toList = T (h + 1) t i.data.toList) := Lib.hid (by rw [HFL.out, ← hBa])
  rw [hBa] at HAa hza
  have z0 : ¬ 9223372036854775807 < Ba.size + 1 := by omega
  have z1 : ¬ 9223372036854775807 < Ba.size + 1 + t.s.size := by omega
  clear HFL hT' hBa hza
  obtain ⟨c0, c1, c2, c3, c4⟩ := HX.out.keep HR.out
  obtain ⟨a0, a1, a2, a3, a4⟩ := HPa.out w0 HR.out
  go_enter Tryd.func86, Tryd.ntmps86
  go_wp2_with fail
  refine (HAa.out w0 HR.out).mono ?_
  rintro e w1 ⟨rfl, hb1⟩
  have HB1 := Lib.hid hb1
  clear hb1
  clear c0 c1 c2 c3 c4 a0 a1 a2 a3 a4
  obtain ⟨c0, c1, c2, c3, c4⟩ := HX.out.keep HB1.out
  obtain ⟨a0, a1, a2, a3, a4⟩ := HPa.out w1 HB1.out
  go_wp2
  go_ret
  exact ⟨congrArg Ending.returned (str_eq (by rw [← HE.out] <;> simp)), HB.out.trans (HB1.out.mono HB.out.size)⟩

set_option maxRecDepth 100000 in
set_option maxHeartbeats 4000000 in
theorem rmore_13n (h : Nat) (t a : Tree) (i : ByteArray) (hop : t.op = 13) (hta : t.l = [a]) (hao : a.op = 2) (hca : ExprD h a i) (hT : (T (h + 1) t i.data.toList).length ≤ 140737488355328) : MoreD (h + 1) t i := by
  intro d w sl hk
  obtain ⟨hlen, A, c, rfl⟩ := hk.form
  unfold maxLen at hlen
  have hFL : T (h + 1) t i.data.toList = [40] ++ T h a i.data.toList ++ [41, 46] ++ t.s.data.toList := by simp [T, stepT, hop, hta, hao]
  have hT' := hT
  rw [hFL] at hT'
  simp only [List.length_append, List.length_cons, List.length_nil] at hT'
  rw [size_list t.s] at hT'
  obtain ⟨p, sa, da, _, rfl, hPa, hKa, _⟩ := hk.at_ (show t.l[0]? = some a by rw [hta]; rfl)
  rw [show p.add (0 * 5) = p from rfl] at hPa
  obtain ⟨_, Aa, ca', rfl⟩ := hKa.form
  have hll : t.l.length = 1 := by rw [hta]; rfl
  have hlt0 : 0 < t.l.length := by omega
  have hli0 : (0 : Int) < (t.l.length : Int) := by omega
  rw [hop]
  obtain ⟨w0, hw0⟩ : ∃ w0, w.alloc (.cells #[.int .i64 13, .string t.s, .int .i64 t.n, (.slice (some p) t.l.length c), .int .i64 t.line] 24) = w0 := ⟨_, rfl⟩
  have bx : Blk5 w0 w.heap.size 13 t.s t.n (.slice (some p) t.l.length c) t.line := by rw [← hw0]; exact blk5_new _ _ _ _ _ _
  have hb0 : Below w.heap.size w w0 := by rw [← hw0]; exact (Below.refl _ _).alloc (Nat.le_refl _) _
  have HB := Lib.hid hb0
  have HX := Lib.hid bx
  have HR : Hid (Below w0.heap.size w0 w0) := Lib.hid (Below.refl _ _)
  have HAa := Lib.hid (fun (w9 : World) (hb9 : Below w0.heap.size w0 w9) => (hca da w9 _ (hKa.below (HB.out.trans (hb9.mono HB.out.size)))).mono fun e w' (hq : _ ∧ _) => (⟨hq.1, hb9.trans (hq.2.mono hb9.size)⟩ : e = _ ∧ Below w0.heap.size w0 w'))
  have HPa := Lib.hid (fun (w9 : World) (hb9 : Below w0.heap.size w0 w9) => hPa.below (HB.out.trans (hb9.mono HB.out.size)))
  rw [hao] at HAa
  have hza := bs_size (T h a i.data.toList)
  have HFL := Lib.hid hFL
  clear hb0 hk hT hop hta hFL hll hca hPa hKa
  generalize T h a i.data.toList = Xa at HFL hT' HAa hza
  obtain ⟨Ba, hBa⟩ : ∃ b : ByteArray, (⟨Xa.toArray⟩ : ByteArray) = b := ⟨_, rfl⟩
  have HE : Hid ([40] ++ Ba.data.toList ++ [41, 46] ++ t.s.data.toList = T (h + 1) t i.data.toList) := Lib.hid (by rw [HFL.out, ← hBa])
  rw [hBa] at HAa hza
  have z0 : ¬ 9223372036854775807 < 1 + Ba.size := by omega
  have z1 : ¬ 9223372036854775807 < 1 + Ba.size + 2 := by omega
  have z2 : ¬ 9223372036854775807 < 1 + Ba.size + 2 + t.s.size := by omega
  clear HFL hT' hBa hza
  obtain ⟨c0, c1, c2, c3, c4⟩ := HX.out.keep HR.out
  obtain ⟨a0, a1, a2, a3, a4⟩ := HPa.out w0 HR.out
  rw [hao] at a0
  go_enter Tryd.func86, Tryd.ntmps86
  go_wp2_with fail
  refine (HAa.out w0 HR.out).mono ?_
  rintro e w1 ⟨rfl, hb1⟩
  have HB1 := Lib.hid hb1
  clear hb1
  clear c0 c1 c2 c3 c4 a0 a1 a2 a3 a4
  obtain ⟨c0, c1, c2, c3, c4⟩ := HX.out.keep HB1.out
  obtain ⟨a0, a1, a2, a3, a4⟩ := HPa.out w1 HB1.out
  rw [hao] at a0
  go_wp2
  go_ret
  exact ⟨congrArg Ending.returned (str_eq (by rw [← HE.out] <;> simp)), HB.out.trans (HB1.out.mono HB.out.size)⟩

set_option maxRecDepth 100000 in
set_option maxHeartbeats 4000000 in
theorem rmore_14 (h : Nat) (t a b : Tree) (i : ByteArray) (hop : t.op = 14) (hta : t.l = [a, b]) (hca : ExprD h a i) (hcb : ExprD h b i) (hT : (T (h + 1) t i.data.toList).length ≤ 140737488355328) : MoreD (h + 1) t i := by
  intro d w sl hk
  obtain ⟨hlen, A, c, rfl⟩ := hk.form
  unfold maxLen at hlen
  have hFL : T (h + 1) t i.data.toList = T h a i.data.toList ++ [91] ++ T h b i.data.toList ++ [93] := by simp [T, stepT, hop, hta]
  have hT' := hT
  rw [hFL] at hT'
  simp only [List.length_append, List.length_cons, List.length_nil] at hT'
  obtain ⟨p, sa, da, _, rfl, hPa, hKa, _⟩ := hk.at_ (show t.l[0]? = some a by rw [hta]; rfl)
  rw [show p.add (0 * 5) = p from rfl] at hPa
  obtain ⟨_, Aa, ca', rfl⟩ := hKa.form
  obtain ⟨p1, sb, db, _, hpp1, hPb, hKb, _⟩ := hk.at_ (show t.l[1]? = some b by rw [hta]; rfl)
  obtain rfl : p = p1 := by injection hpp1
  rw [show p.add (1 * 5) = ⟨p.block, p.off + 5, none⟩ from rfl] at hPb
  obtain ⟨_, Ab, cb', rfl⟩ := hKb.form
  have hll : t.l.length = 2 := by rw [hta]; rfl
  have hlt0 : 0 < t.l.length := by omega
  have hli0 : (0 : Int) < (t.l.length : Int) := by omega
  have hlt1 : 1 < t.l.length := by omega
  have hli1 : (1 : Int) < (t.l.length : Int) := by omega
  rw [hop]
  obtain ⟨w0, hw0⟩ : ∃ w0, w.alloc (.cells #[.int .i64 14, .string t.s, .int .i64 t.n, (.slice (some p) t.l.length c), .int .i64 t.line] 24) = w0 := ⟨_, rfl⟩
  have bx : Blk5 w0 w.heap.size 14 t.s t.n (.slice (some p) t.l.length c) t.line := by rw [← hw0]; exact blk5_new _ _ _ _ _ _
  have hb0 : Below w.heap.size w w0 := by rw [← hw0]; exact (Below.refl _ _).alloc (Nat.le_refl _) _
  have HB := Lib.hid hb0
  have HX := Lib.hid bx
  have HR : Hid (Below w0.heap.size w0 w0) := Lib.hid (Below.refl _ _)
  have HAa := Lib.hid (fun (w9 : World) (hb9 : Below w0.heap.size w0 w9) => (hca da w9 _ (hKa.below (HB.out.trans (hb9.mono HB.out.size)))).mono fun e w' (hq : _ ∧ _) => (⟨hq.1, hb9.trans (hq.2.mono hb9.size)⟩ : e = _ ∧ Below w0.heap.size w0 w'))
  have HPa := Lib.hid (fun (w9 : World) (hb9 : Below w0.heap.size w0 w9) => hPa.below (HB.out.trans (hb9.mono HB.out.size)))
  have HAb := Lib.hid (fun (w9 : World) (hb9 : Below w0.heap.size w0 w9) => (hcb db w9 _ (hKb.below (HB.out.trans (hb9.mono HB.out.size)))).mono fun e w' (hq : _ ∧ _) => (⟨hq.1, hb9.trans (hq.2.mono hb9.size)⟩ : e = _ ∧ Below w0.heap.size w0 w'))
  have HPb := Lib.hid (fun (w9 : World) (hb9 : Below w0.heap.size w0 w9) => hPb.below (HB.out.trans (hb9.mono HB.out.size)))
  have hza := bs_size (T h a i.data.toList)
  have hzb := bs_size (T h b i.data.toList)
  have HFL := Lib.hid hFL
  clear hb0 hk hT hop hta hFL hll hca hPa hKa hcb hPb hKb
  generalize T h a i.data.toList = Xa at HFL hT' HAa hza
  obtain ⟨Ba, hBa⟩ : ∃ b : ByteArray, (⟨Xa.toArray⟩ : ByteArray) = b := ⟨_, rfl⟩
  generalize T h b i.data.toList = Xb at HFL hT' HAb hzb
  obtain ⟨Bb, hBb⟩ : ∃ b : ByteArray, (⟨Xb.toArray⟩ : ByteArray) = b := ⟨_, rfl⟩
  have HE : Hid (Ba.data.toList ++ [91] ++ Bb.data.toList ++ [93] = T (h + 1) t i.data.toList) := Lib.hid (by rw [HFL.out, ← hBa, ← hBb])
  rw [hBa] at HAa hza
  rw [hBb] at HAb hzb
  have z0 : ¬ 9223372036854775807 < Ba.size + 1 := by omega
  have z1 : ¬ 9223372036854775807 < Ba.size + 1 + Bb.size := by omega
  have z2 : ¬ 9223372036854775807 < Ba.size + 1 + Bb.size + 1 := by omega
  clear HFL hT' hBa hza hBb hzb
  obtain ⟨c0, c1, c2, c3, c4⟩ := HX.out.keep HR.out
  obtain ⟨a0, a1, a2, a3, a4⟩ := HPa.out w0 HR.out
  obtain ⟨b0, b1, b2, b3, b4⟩ := HPb.out w0 HR.out
  go_enter Tryd.func86, Tryd.ntmps86
  go_wp2_with fail
  refine (HAa.out w0 HR.out).mono ?_
  rintro e w1 ⟨rfl, hb1⟩
  have HB1 := Lib.hid hb1
  clear hb1
  clear c0 c1 c2 c3 c4 a0 a1 a2 a3 a4 b0 b1 b2 b3 b4
  obtain ⟨c0, c1, c2, c3, c4⟩ := HX.out.keep HB1.out
  obtain ⟨a0, a1, a2, a3, a4⟩ := HPa.out w1 HB1.out
  obtain ⟨b0, b1, b2, b3, b4⟩ := HPb.out w1 HB1.out
  go_wp2_with fail
  refine (HAb.out w1 HB1.out).mono ?_
  rintro e w2 ⟨rfl, hb2⟩
  have HB2 := Lib.hid hb2
  clear hb2
  clear c0 c1 c2 c3 c4 a0 a1 a2 a3 a4 b0 b1 b2 b3 b4
  obtain ⟨c0, c1, c2, c3, c4⟩ := HX.out.keep HB2.out
  obtain ⟨a0, a1, a2, a3, a4⟩ := HPa.out w2 HB2.out
  obtain ⟨b0, b1, b2, b3, b4⟩ := HPb.out w2 HB2.out
  go_wp2
  go_ret
  exact ⟨congrArg Ending.returned (str_eq (by rw [← HE.out] <;> simp)), HB.out.trans (HB2.out.mono HB.out.size)⟩

set_option maxRecDepth 100000 in
set_option maxHeartbeats 4000000 in
theorem rmore_19 (h : Nat) (t a : Tree) (i : ByteArray) (hop : t.op = 19) (hta : t.l = [a]) (hca : ExprD h a i) (hT : (T (h + 1) t i.data.toList).length ≤ 140737488355328) : MoreD (h + 1) t i := by
  intro d w sl hk
  obtain ⟨hlen, A, c, rfl⟩ := hk.form
  unfold maxLen at hlen
  have hFL : T (h + 1) t i.data.toList = [40, 33] ++ T h a i.data.toList ++ [41] := by simp [T, stepT, hop, hta]
  have hT' := hT
  rw [hFL] at hT'
  simp only [List.length_append, List.length_cons, List.length_nil] at hT'
  obtain ⟨p, sa, da, _, rfl, hPa, hKa, _⟩ := hk.at_ (show t.l[0]? = some a by rw [hta]; rfl)
  rw [show p.add (0 * 5) = p from rfl] at hPa
  obtain ⟨_, Aa, ca', rfl⟩ := hKa.form
  have hll : t.l.length = 1 := by rw [hta]; rfl
  have hlt0 : 0 < t.l.length := by omega
  have hli0 : (0 : Int) < (t.l.length : Int) := by omega
  rw [hop]
  obtain ⟨w0, hw0⟩ : ∃ w0, w.alloc (.cells #[.int .i64 19, .string t.s, .int .i64 t.n, (.slice (some p) t.l.length c), .int .i64 t.line] 24) = w0 := ⟨_, rfl⟩
  have bx : Blk5 w0 w.heap.size 19 t.s t.n (.slice (some p) t.l.length c) t.line := by rw [← hw0]; exact blk5_new _ _ _ _ _ _
  have hb0 : Below w.heap.size w w0 := by rw [← hw0]; exact (Below.refl _ _).alloc (Nat.le_refl _) _
  have HB := Lib.hid hb0
  have HX := Lib.hid bx
  have HR : Hid (Below w0.heap.size w0 w0) := Lib.hid (Below.refl _ _)
  have HAa := Lib.hid (fun (w9 : World) (hb9 : Below w0.heap.size w0 w9) => (hca da w9 _ (hKa.below (HB.out.trans (hb9.mono HB.out.size)))).mono fun e w' (hq : _ ∧ _) => (⟨hq.1, hb9.trans (hq.2.mono hb9.size)⟩ : e = _ ∧ Below w0.heap.size w0 w'))
  have HPa := Lib.hid (fun (w9 : World) (hb9 : Below w0.heap.size w0 w9) => hPa.below (HB.out.trans (hb9.mono HB.out.size)))
  have hza := bs_size (T h a i.data.toList)
  have HFL := Lib.hid hFL
  clear hb0 hk hT hop hta hFL hll hca hPa hKa
  generalize T h a i.data.toList = Xa at HFL hT' HAa hza
  obtain ⟨Ba, hBa⟩ : ∃ b : ByteArray, (⟨Xa.toArray⟩ : ByteArray) = b := ⟨_, rfl⟩
  have HE : Hid ([40, 33] ++ Ba.data.toList ++ [41] = T (h + 1) t i.data.toList) := Lib.hid (by rw [HFL.out, ← hBa])
  rw [hBa] at HAa hza
  have z0 : ¬ 9223372036854775807 < 2 + Ba.size := by omega
  have z1 : ¬ 9223372036854775807 < 2 + Ba.size + 1 := by omega
  clear HFL hT' hBa hza
  obtain ⟨c0, c1, c2, c3, c4⟩ := HX.out.keep HR.out
  obtain ⟨a0, a1, a2, a3, a4⟩ := HPa.out w0 HR.out
  go_enter Tryd.func86, Tryd.ntmps86
  go_wp2_with fail
  refine (HAa.out w0 HR.out).mono ?_
  rintro e w1 ⟨rfl, hb1⟩
  have HB1 := Lib.hid hb1
  clear hb1
  clear c0 c1 c2 c3 c4 a0 a1 a2 a3 a4
  obtain ⟨c0, c1, c2, c3, c4⟩ := HX.out.keep HB1.out
  obtain ⟨a0, a1, a2, a3, a4⟩ := HPa.out w1 HB1.out
  go_wp2
  go_ret
  exact ⟨congrArg Ending.returned (str_eq (by rw [← HE.out] <;> simp)), HB.out.trans (HB1.out.mono HB.out.size)⟩

set_option maxRecDepth 100000 in
set_option maxHeartbeats 4000000 in
theorem rmore_20 (h : Nat) (t a : Tree) (i : ByteArray) (hop : t.op = 20) (hta : t.l = [a]) (hca : ExprD h a i) (hT : (T (h + 1) t i.data.toList).length ≤ 140737488355328) : MoreD (h + 1) t i := by
  intro d w sl hk
  obtain ⟨hlen, A, c, rfl⟩ := hk.form
  unfold maxLen at hlen
  have hFL : T (h + 1) t i.data.toList = [40, 45] ++ T h a i.data.toList ++ [41] := by simp [T, stepT, hop, hta]
  have hT' := hT
  rw [hFL] at hT'
  simp only [List.length_append, List.length_cons, List.length_nil] at hT'
  obtain ⟨p, sa, da, _, rfl, hPa, hKa, _⟩ := hk.at_ (show t.l[0]? = some a by rw [hta]; rfl)
  rw [show p.add (0 * 5) = p from rfl] at hPa
  obtain ⟨_, Aa, ca', rfl⟩ := hKa.form
  have hll : t.l.length = 1 := by rw [hta]; rfl
  have hlt0 : 0 < t.l.length := by omega
  have hli0 : (0 : Int) < (t.l.length : Int) := by omega
  rw [hop]
  obtain ⟨w0, hw0⟩ : ∃ w0, w.alloc (.cells #[.int .i64 20, .string t.s, .int .i64 t.n, (.slice (some p) t.l.length c), .int .i64 t.line] 24) = w0 := ⟨_, rfl⟩
  have bx : Blk5 w0 w.heap.size 20 t.s t.n (.slice (some p) t.l.length c) t.line := by rw [← hw0]; exact blk5_new _ _ _ _ _ _
  have hb0 : Below w.heap.size w w0 := by rw [← hw0]; exact (Below.refl _ _).alloc (Nat.le_refl _) _
  have HB := Lib.hid hb0
  have HX := Lib.hid bx
  have HR : Hid (Below w0.heap.size w0 w0) := Lib.hid (Below.refl _ _)
  have HAa := Lib.hid (fun (w9 : World) (hb9 : Below w0.heap.size w0 w9) => (hca da w9 _ (hKa.below (HB.out.trans (hb9.mono HB.out.size)))).mono fun e w' (hq : _ ∧ _) => (⟨hq.1, hb9.trans (hq.2.mono hb9.size)⟩ : e = _ ∧ Below w0.heap.size w0 w'))
  have HPa := Lib.hid (fun (w9 : World) (hb9 : Below w0.heap.size w0 w9) => hPa.below (HB.out.trans (hb9.mono HB.out.size)))
  have hza := bs_size (T h a i.data.toList)
  have HFL := Lib.hid hFL
  clear hb0 hk hT hop hta hFL hll hca hPa hKa
  generalize T h a i.data.toList = Xa at HFL hT' HAa hza
  obtain ⟨Ba, hBa⟩ : ∃ b : ByteArray, (⟨Xa.toArray⟩ : ByteArray) = b := ⟨_, rfl⟩
  have HE : Hid ([40, 45] ++ Ba.data.toList ++ [41] = T (h + 1) t i.data.toList) := Lib.hid (by rw [HFL.out, ← hBa])
  rw [hBa] at HAa hza
  have z0 : ¬ 9223372036854775807 < 2 + Ba.size := by omega
  have z1 : ¬ 9223372036854775807 < 2 + Ba.size + 1 := by omega
  clear HFL hT' hBa hza
  obtain ⟨c0, c1, c2, c3, c4⟩ := HX.out.keep HR.out
  obtain ⟨a0, a1, a2, a3, a4⟩ := HPa.out w0 HR.out
  go_enter Tryd.func86, Tryd.ntmps86
  go_wp2_with fail
  refine (HAa.out w0 HR.out).mono ?_
  rintro e w1 ⟨rfl, hb1⟩
  have HB1 := Lib.hid hb1
  clear hb1
  clear c0 c1 c2 c3 c4 a0 a1 a2 a3 a4
  obtain ⟨c0, c1, c2, c3, c4⟩ := HX.out.keep HB1.out
  obtain ⟨a0, a1, a2, a3, a4⟩ := HPa.out w1 HB1.out
  go_wp2
  go_ret
  exact ⟨congrArg Ending.returned (str_eq (by rw [← HE.out] <;> simp)), HB.out.trans (HB1.out.mono HB.out.size)⟩

set_option maxRecDepth 100000 in
set_option maxHeartbeats 4000000 in
theorem rmore_17 (h : Nat) (t a b : Tree) (i : ByteArray) (hop : t.op = 17) (hta : t.l = [a, b]) (hca : ExprD h a i) (hcb : ExprD h b i) (hT : (T (h + 1) t i.data.toList).length ≤ 140737488355328) : MoreD (h + 1) t i := by
  intro d w sl hk
  obtain ⟨hlen, A, c, rfl⟩ := hk.form
  unfold maxLen at hlen
  have hFL : T (h + 1) t i.data.toList = [40] ++ T h a i.data.toList ++ [32, 61, 32] ++ T h b i.data.toList ++ [41] := by simp [T, stepT, hop, hta, signOf]
  have hT' := hT
  rw [hFL] at hT'
  simp only [List.length_append, List.length_cons, List.length_nil] at hT'
  obtain ⟨p, sa, da, _, rfl, hPa, hKa, _⟩ := hk.at_ (show t.l[0]? = some a by rw [hta]; rfl)
  rw [show p.add (0 * 5) = p from rfl] at hPa
  obtain ⟨_, Aa, ca', rfl⟩ := hKa.form
  obtain ⟨p1, sb, db, _, hpp1, hPb, hKb, _⟩ := hk.at_ (show t.l[1]? = some b by rw [hta]; rfl)
  obtain rfl : p = p1 := by injection hpp1
  rw [show p.add (1 * 5) = ⟨p.block, p.off + 5, none⟩ from rfl] at hPb
  obtain ⟨_, Ab, cb', rfl⟩ := hKb.form
  have hll : t.l.length = 2 := by rw [hta]; rfl
  have hlt0 : 0 < t.l.length := by omega
  have hli0 : (0 : Int) < (t.l.length : Int) := by omega
  have hlt1 : 1 < t.l.length := by omega
  have hli1 : (1 : Int) < (t.l.length : Int) := by omega
  rw [hop]
  obtain ⟨w0, hw0⟩ : ∃ w0, w.alloc (.cells #[.int .i64 17, .string t.s, .int .i64 t.n, (.slice (some p) t.l.length c), .int .i64 t.line] 24) = w0 := ⟨_, rfl⟩
  have bx : Blk5 w0 w.heap.size 17 t.s t.n (.slice (some p) t.l.length c) t.line := by rw [← hw0]; exact blk5_new _ _ _ _ _ _
  have hb0 : Below w.heap.size w w0 := by rw [← hw0]; exact (Below.refl _ _).alloc (Nat.le_refl _) _
  have HB := Lib.hid hb0
  have HX := Lib.hid bx
  have HR : Hid (Below w0.heap.size w0 w0) := Lib.hid (Below.refl _ _)
  have HAa := Lib.hid (fun (w9 : World) (hb9 : Below w0.heap.size w0 w9) => (hca da w9 _ (hKa.below (HB.out.trans (hb9.mono HB.out.size)))).mono fun e w' (hq : _ ∧ _) => (⟨hq.1, hb9.trans (hq.2.mono hb9.size)⟩ : e = _ ∧ Below w0.heap.size w0 w'))
  have HPa := Lib.hid (fun (w9 : World) (hb9 : Below w0.heap.size w0 w9) => hPa.below (HB.out.trans (hb9.mono HB.out.size)))
  have HAb := Lib.hid (fun (w9 : World) (hb9 : Below w0.heap.size w0 w9) => (hcb db w9 _ (hKb.below (HB.out.trans (hb9.mono HB.out.size)))).mono fun e w' (hq : _ ∧ _) => (⟨hq.1, hb9.trans (hq.2.mono hb9.size)⟩ : e = _ ∧ Below w0.heap.size w0 w'))
  have HPb := Lib.hid (fun (w9 : World) (hb9 : Below w0.heap.size w0 w9) => hPb.below (HB.out.trans (hb9.mono HB.out.size)))
  have hza := bs_size (T h a i.data.toList)
  have hzb := bs_size (T h b i.data.toList)
  have HFL := Lib.hid hFL
  clear hb0 hk hT hop hta hFL hll hca hPa hKa hcb hPb hKb
  generalize T h a i.data.toList = Xa at HFL hT' HAa hza
  obtain ⟨Ba, hBa⟩ : ∃ b : ByteArray, (⟨Xa.toArray⟩ : ByteArray) = b := ⟨_, rfl⟩
  generalize T h b i.data.toList = Xb at HFL hT' HAb hzb
  obtain ⟨Bb, hBb⟩ : ∃ b : ByteArray, (⟨Xb.toArray⟩ : ByteArray) = b := ⟨_, rfl⟩
  have HE : Hid ([40] ++ Ba.data.toList ++ [32, 61, 32] ++ Bb.data.toList ++ [41] = T (h + 1) t i.data.toList) := Lib.hid (by rw [HFL.out, ← hBa, ← hBb])
  rw [hBa] at HAa hza
  rw [hBb] at HAb hzb
  have z0 : ¬ 9223372036854775807 < 1 + Ba.size := by omega
  have z1 : ¬ 9223372036854775807 < 1 + Ba.size + 3 := by omega
  have z2 : ¬ 9223372036854775807 < 1 + Ba.size + 3 + Bb.size := by omega
  have z3 : ¬ 9223372036854775807 < 1 + Ba.size + 3 + Bb.size + 1 := by omega
  clear HFL hT' hBa hza hBb hzb
  obtain ⟨c0, c1, c2, c3, c4⟩ := HX.out.keep HR.out
  obtain ⟨a0, a1, a2, a3, a4⟩ := HPa.out w0 HR.out
  obtain ⟨b0, b1, b2, b3, b4⟩ := HPb.out w0 HR.out
  go_enter Tryd.func86, Tryd.ntmps86
  go_wp2_with fail
  refine (HAa.out w0 HR.out).mono ?_
  rintro e w1 ⟨rfl, hb1⟩
  have HB1 := Lib.hid hb1
  clear hb1
  clear c0 c1 c2 c3 c4 a0 a1 a2 a3 a4 b0 b1 b2 b3 b4
  obtain ⟨c0, c1, c2, c3, c4⟩ := HX.out.keep HB1.out
  obtain ⟨a0, a1, a2, a3, a4⟩ := HPa.out w1 HB1.out
  obtain ⟨b0, b1, b2, b3, b4⟩ := HPb.out w1 HB1.out
  go_wp2_with fail
  refine (HAb.out w1 HB1.out).mono ?_
  rintro e w2 ⟨rfl, hb2⟩
  have HB2 := Lib.hid hb2
  clear hb2
  clear c0 c1 c2 c3 c4 a0 a1 a2 a3 a4 b0 b1 b2 b3 b4
  obtain ⟨c0, c1, c2, c3, c4⟩ := HX.out.keep HB2.out
  obtain ⟨a0, a1, a2, a3, a4⟩ := HPa.out w2 HB2.out
  obtain ⟨b0, b1, b2, b3, b4⟩ := HPb.out w2 HB2.out
  go_wp2
  go_ret
  exact ⟨congrArg Ending.returned (str_eq (by rw [← HE.out] <;> simp)), HB.out.trans (HB2.out.mono HB.out.size)⟩

set_option maxRecDepth 100000 in
set_option maxHeartbeats 4000000 in
theorem rmore_18 (h : Nat) (t a b : Tree) (i : ByteArray) (hop : t.op = 18) (hta : t.l = [a, b]) (hca : ExprD h a i) (hcb : ExprD h b i) (hT : (T (h + 1) t i.data.toList).length ≤ 140737488355328) : MoreD (h + 1) t i := by
  intro d w sl hk
  obtain ⟨hlen, A, c, rfl⟩ := hk.form
  unfold maxLen at hlen
  have hFL : T (h + 1) t i.data.toList = [40] ++ T h a i.data.toList ++ [32] ++ t.s.data.toList ++ [32] ++ T h b i.data.toList ++ [41] := by simp [T, stepT, hop, hta, signOf]
  have hT' := hT
  rw [hFL] at hT'
  simp only [List.length_append, List.length_cons, List.length_nil] at hT'
  rw [size_list t.s] at hT'
  obtain ⟨p, sa, da, _, rfl, hPa, hKa, _⟩ := hk.at_ (show t.l[0]? = some a by rw [hta]; rfl)
  rw [show p.add (0 * 5) = p from rfl] at hPa
  obtain ⟨_, Aa, ca', rfl⟩ := hKa.form
  obtain ⟨p1, sb, db, _, hpp1, hPb, hKb, _⟩ := hk.at_ (show t.l[1]? = some b by rw [hta]; rfl)
  obtain rfl : p = p1 := by injection hpp1
  rw [show p.add (1 * 5) = ⟨p.block, p.off + 5, none⟩ from rfl] at hPb
  obtain ⟨_, Ab, cb', rfl⟩ := hKb.form
  have hll : t.l.length = 2 := by rw [hta]; rfl
  have hlt0 : 0 < t.l.length := by omega
  have hli0 : (0 : Int) < (t.l.length : Int) := by omega
  have hlt1 : 1 < t.l.length := by omega
  have hli1 : (1 : Int) < (t.l.length : Int) := by omega
  rw [hop]
  obtain ⟨w0, hw0⟩ : ∃ w0, w.alloc (.cells #[.int .i64 18, .string t.s, .int .i64 t.n, (.slice (some p) t.l.length c), .int .i64 t.line] 24) = w0 := ⟨_, rfl⟩
  have bx : Blk5 w0 w.heap.size 18 t.s t.n (.slice (some p) t.l.length c) t.line := by rw [← hw0]; exact blk5_new _ _ _ _ _ _
  have hb0 : Below w.heap.size w w0 := by rw [← hw0]; exact (Below.refl _ _).alloc (Nat.le_refl _) _
  have HB := Lib.hid hb0
  have HX := Lib.hid bx
  have HR : Hid (Below w0.heap.size w0 w0) := Lib.hid (Below.refl _ _)
  have HAa := Lib.hid (fun (w9 : World) (hb9 : Below w0.heap.size w0 w9) => (hca da w9 _ (hKa.below (HB.out.trans (hb9.mono HB.out.size)))).mono fun e w' (hq : _ ∧ _) => (⟨hq.1, hb9.trans (hq.2.mono hb9.size)⟩ : e = _ ∧ Below w0.heap.size w0 w'))
  have HPa := Lib.hid (fun (w9 : World) (hb9 : Below w0.heap.size w0 w9) => hPa.below (HB.out.trans (hb9.mono HB.out.size)))
  have HAb := Lib.hid (fun (w9 : World) (hb9 : Below w0.heap.size w0 w9) => (hcb db w9 _ (hKb.below (HB.out.trans (hb9.mono HB.out.size)))).mono fun e w' (hq : _ ∧ _) => (⟨hq.1, hb9.trans (hq.2.mono hb9.size)⟩ : e = _ ∧ Below w0.heap.size w0 w'))
  have HPb := Lib.hid (fun (w9 : World) (hb9 : Below w0.heap.size w0 w9) => hPb.below (HB.out.trans (hb9.mono HB.out.size)))
  have hza := bs_size (T h a i.data.toList)
  have hzb := bs_size (T h b i.data.toList)
  have HFL := Lib.hid hFL
  clear hb0 hk hT hop hta hFL hll hca hPa hKa hcb hPb hKb
  generalize T h a i.data.toList = Xa at HFL hT' HAa hza
  obtain ⟨Ba, hBa⟩ : ∃ b : ByteArray, (⟨Xa.toArray⟩ : ByteArray) = b := ⟨_, rfl⟩
  generalize T h b i.data.toList = Xb at HFL hT' HAb hzb
  obtain ⟨Bb, hBb⟩ : ∃ b : ByteArray, (⟨Xb.toArray⟩ : ByteArray) = b := ⟨_, rfl⟩
  have HE : Hid ([40] ++ Ba.data.toList ++ [32] ++ t.s.data.toList ++ [32] ++ Bb.data.toList ++ [41] = T (h + 1) t i.data.toList) := Lib.hid (by rw [HFL.out, ← hBa, ← hBb])
  rw [hBa] at HAa hza
  rw [hBb] at HAb hzb
  have z0 : ¬ 9223372036854775807 < 1 + Ba.size := by omega
  have z1 : ¬ 9223372036854775807 < 1 + Ba.size + 1 := by omega
  have z2 : ¬ 9223372036854775807 < 1 + Ba.size + 1 + t.s.size := by omega
  have z3 : ¬ 9223372036854775807 < 1 + Ba.size + 1 + t.s.size + 1 := by omega
  have z4 : ¬ 9223372036854775807 < 1 + Ba.size + 1 + t.s.size + 1 + Bb.size := by omega
  have z5 : ¬ 9223372036854775807 < 1 + Ba.size + 1 + t.s.size + 1 + Bb.size + 1 := by omega
  clear HFL hT' hBa hza hBb hzb
  obtain ⟨c0, c1, c2, c3, c4⟩ := HX.out.keep HR.out
  obtain ⟨a0, a1, a2, a3, a4⟩ := HPa.out w0 HR.out
  obtain ⟨b0, b1, b2, b3, b4⟩ := HPb.out w0 HR.out
  go_enter Tryd.func86, Tryd.ntmps86
  go_wp2_with fail
  refine (HAa.out w0 HR.out).mono ?_
  rintro e w1 ⟨rfl, hb1⟩
  have HB1 := Lib.hid hb1
  clear hb1
  clear c0 c1 c2 c3 c4 a0 a1 a2 a3 a4 b0 b1 b2 b3 b4
  obtain ⟨c0, c1, c2, c3, c4⟩ := HX.out.keep HB1.out
  obtain ⟨a0, a1, a2, a3, a4⟩ := HPa.out w1 HB1.out
  obtain ⟨b0, b1, b2, b3, b4⟩ := HPb.out w1 HB1.out
  go_wp2_with fail
  refine (HAb.out w1 HB1.out).mono ?_
  rintro e w2 ⟨rfl, hb2⟩
  have HB2 := Lib.hid hb2
  clear hb2
  clear c0 c1 c2 c3 c4 a0 a1 a2 a3 a4 b0 b1 b2 b3 b4
  obtain ⟨c0, c1, c2, c3, c4⟩ := HX.out.keep HB2.out
  obtain ⟨a0, a1, a2, a3, a4⟩ := HPa.out w2 HB2.out
  obtain ⟨b0, b1, b2, b3, b4⟩ := HPb.out w2 HB2.out
  go_wp2
  go_ret
  exact ⟨congrArg Ending.returned (str_eq (by rw [← HE.out] <;> simp)), HB.out.trans (HB2.out.mono HB.out.size)⟩

set_option maxRecDepth 100000 in
set_option maxHeartbeats 4000000 in
theorem rmore_21 (h : Nat) (t a b : Tree) (i : ByteArray) (hop : t.op = 21) (hta : t.l = [a, b]) (hca : ExprD h a i) (hcb : ExprD h b i) (hT : (T (h + 1) t i.data.toList).length ≤ 140737488355328) : MoreD (h + 1) t i := by
  intro d w sl hk
  obtain ⟨hlen, A, c, rfl⟩ := hk.form
  unfold maxLen at hlen
  have hFL : T (h + 1) t i.data.toList = [40] ++ T h a i.data.toList ++ [32, 38, 38, 32] ++ T h b i.data.toList ++ [41] := by simp [T, stepT, hop, hta, signOf]
  have hT' := hT
  rw [hFL] at hT'
  simp only [List.length_append, List.length_cons, List.length_nil] at hT'
  obtain ⟨p, sa, da, _, rfl, hPa, hKa, _⟩ := hk.at_ (show t.l[0]? = some a by rw [hta]; rfl)
  rw [show p.add (0 * 5) = p from rfl] at hPa
  obtain ⟨_, Aa, ca', rfl⟩ := hKa.form
  obtain ⟨p1, sb, db, _, hpp1, hPb, hKb, _⟩ := hk.at_ (show t.l[1]? = some b by rw [hta]; rfl)
  obtain rfl : p = p1 := by injection hpp1
  rw [show p.add (1 * 5) = ⟨p.block, p.off + 5, none⟩ from rfl] at hPb
  obtain ⟨_, Ab, cb', rfl⟩ := hKb.form
  have hll : t.l.length = 2 := by rw [hta]; rfl
  have hlt0 : 0 < t.l.length := by omega
  have hli0 : (0 : Int) < (t.l.length : Int) := by omega
  have hlt1 : 1 < t.l.length := by omega
  have hli1 : (1 : Int) < (t.l.length : Int) := by omega
  rw [hop]
  obtain ⟨w0, hw0⟩ : ∃ w0, w.alloc (.cells #[.int .i64 21, .string t.s, .int .i64 t.n, (.slice (some p) t.l.length c), .int .i64 t.line] 24) = w0 := ⟨_, rfl⟩
  have bx : Blk5 w0 w.heap.size 21 t.s t.n (.slice (some p) t.l.length c) t.line := by rw [← hw0]; exact blk5_new _ _ _ _ _ _
  have hb0 : Below w.heap.size w w0 := by rw [← hw0]; exact (Below.refl _ _).alloc (Nat.le_refl _) _
  have HB := Lib.hid hb0
  have HX := Lib.hid bx
  have HR : Hid (Below w0.heap.size w0 w0) := Lib.hid (Below.refl _ _)
  have HAa := Lib.hid (fun (w9 : World) (hb9 : Below w0.heap.size w0 w9) => (hca da w9 _ (hKa.below (HB.out.trans (hb9.mono HB.out.size)))).mono fun e w' (hq : _ ∧ _) => (⟨hq.1, hb9.trans (hq.2.mono hb9.size)⟩ : e = _ ∧ Below w0.heap.size w0 w'))
  have HPa := Lib.hid (fun (w9 : World) (hb9 : Below w0.heap.size w0 w9) => hPa.below (HB.out.trans (hb9.mono HB.out.size)))
  have HAb := Lib.hid (fun (w9 : World) (hb9 : Below w0.heap.size w0 w9) => (hcb db w9 _ (hKb.below (HB.out.trans (hb9.mono HB.out.size)))).mono fun e w' (hq : _ ∧ _) => (⟨hq.1, hb9.trans (hq.2.mono hb9.size)⟩ : e = _ ∧ Below w0.heap.size w0 w'))
  have HPb := Lib.hid (fun (w9 : World) (hb9 : Below w0.heap.size w0 w9) => hPb.below (HB.out.trans (hb9.mono HB.out.size)))
  have hza := bs_size (T h a i.data.toList)
  have hzb := bs_size (T h b i.data.toList)
  have HFL := Lib.hid hFL
  clear hb0 hk hT hop hta hFL hll hca hPa hKa hcb hPb hKb
  generalize T h a i.data.toList = Xa at HFL hT' HAa hza
  obtain ⟨Ba, hBa⟩ : ∃ b : ByteArray, (⟨Xa.toArray⟩ : ByteArray) = b := ⟨_, rfl⟩
  generalize T h b i.data.toList = Xb at HFL hT' HAb hzb
  obtain ⟨Bb, hBb⟩ : ∃ b : ByteArray, (⟨Xb.toArray⟩ : ByteArray) = b := ⟨_, rfl⟩
  have HE : Hid ([40] ++ Ba.data.toList ++ [32, 38, 38, 32] ++ Bb.data.toList ++ [41] = T (h + 1) t i.data.toList) := Lib.hid (by rw [HFL.out, ← hBa, ← hBb])
  rw [hBa] at HAa hza
  rw [hBb] at HAb hzb
  have z0 : ¬ 9223372036854775807 < 1 + Ba.size := by omega
  have z1 : ¬ 9223372036854775807 < 1 + Ba.size + 4 := by omega
  have z2 : ¬ 9223372036854775807 < 1 + Ba.size + 4 + Bb.size := by omega
  have z3 : ¬ 9223372036854775807 < 1 + Ba.size + 4 + Bb.size + 1 := by omega
  clear HFL hT' hBa hza hBb hzb
  obtain ⟨c0, c1, c2, c3, c4⟩ := HX.out.keep HR.out
  obtain ⟨a0, a1, a2, a3, a4⟩ := HPa.out w0 HR.out
  obtain ⟨b0, b1, b2, b3, b4⟩ := HPb.out w0 HR.out
  go_enter Tryd.func86, Tryd.ntmps86
  go_wp2_with fail
  refine (HAa.out w0 HR.out).mono ?_
  rintro e w1 ⟨rfl, hb1⟩
  have HB1 := Lib.hid hb1
  clear hb1
  clear c0 c1 c2 c3 c4 a0 a1 a2 a3 a4 b0 b1 b2 b3 b4
  obtain ⟨c0, c1, c2, c3, c4⟩ := HX.out.keep HB1.out
  obtain ⟨a0, a1, a2, a3, a4⟩ := HPa.out w1 HB1.out
  obtain ⟨b0, b1, b2, b3, b4⟩ := HPb.out w1 HB1.out
  go_wp2_with fail
  refine (HAb.out w1 HB1.out).mono ?_
  rintro e w2 ⟨rfl, hb2⟩
  have HB2 := Lib.hid hb2
  clear hb2
  clear c0 c1 c2 c3 c4 a0 a1 a2 a3 a4 b0 b1 b2 b3 b4
  obtain ⟨c0, c1, c2, c3, c4⟩ := HX.out.keep HB2.out
  obtain ⟨a0, a1, a2, a3, a4⟩ := HPa.out w2 HB2.out
  obtain ⟨b0, b1, b2, b3, b4⟩ := HPb.out w2 HB2.out
  go_wp2
  go_ret
  exact ⟨congrArg Ending.returned (str_eq (by rw [← HE.out] <;> simp)), HB.out.trans (HB2.out.mono HB.out.size)⟩

set_option maxRecDepth 100000 in
set_option maxHeartbeats 4000000 in
theorem rmore_22 (h : Nat) (t a b : Tree) (i : ByteArray) (hop : t.op = 22) (hta : t.l = [a, b]) (hca : ExprD h a i) (hcb : ExprD h b i) (hT : (T (h + 1) t i.data.toList).length ≤ 140737488355328) : MoreD (h + 1) t i := by
  intro d w sl hk
  obtain ⟨hlen, A, c, rfl⟩ := hk.form
  unfold maxLen at hlen
  have hFL : T (h + 1) t i.data.toList = [40] ++ T h a i.data.toList ++ [32, 124, 124, 32] ++ T h b i.data.toList ++ [41] := by simp [T, stepT, hop, hta, signOf]
  have hT' := hT
  rw [hFL] at hT'
  simp only [List.length_append, List.length_cons, List.length_nil] at hT'
  obtain ⟨p, sa, da, _, rfl, hPa, hKa, _⟩ := hk.at_ (show t.l[0]? = some a by rw [hta]; rfl)
  rw [show p.add (0 * 5) = p from rfl] at hPa
  obtain ⟨_, Aa, ca', rfl⟩ := hKa.form
  obtain ⟨p1, sb, db, _, hpp1, hPb, hKb, _⟩ := hk.at_ (show t.l[1]? = some b by rw [hta]; rfl)
  obtain rfl : p = p1 := by injection hpp1
  rw [show p.add (1 * 5) = ⟨p.block, p.off + 5, none⟩ from rfl] at hPb
  obtain ⟨_, Ab, cb', rfl⟩ := hKb.form
  have hll : t.l.length = 2 := by rw [hta]; rfl
  have hlt0 : 0 < t.l.length := by omega
  have hli0 : (0 : Int) < (t.l.length : Int) := by omega
  have hlt1 : 1 < t.l.length := by omega
  have hli1 : (1 : Int) < (t.l.length : Int) := by omega
  rw [hop]
  obtain ⟨w0, hw0⟩ : ∃ w0, w.alloc (.cells #[.int .i64 22, .string t.s, .int .i64 t.n, (.slice (some p) t.l.length c), .int .i64 t.line] 24) = w0 := ⟨_, rfl⟩
  have bx : Blk5 w0 w.heap.size 22 t.s t.n (.slice (some p) t.l.length c) t.line := by rw [← hw0]; exact blk5_new _ _ _ _ _ _
  have hb0 : Below w.heap.size w w0 := by rw [← hw0]; exact (Below.refl _ _).alloc (Nat.le_refl _) _
  have HB := Lib.hid hb0
  have HX := Lib.hid bx
  have HR : Hid (Below w0.heap.size w0 w0) := Lib.hid (Below.refl _ _)
  have HAa := Lib.hid (fun (w9 : World) (hb9 : Below w0.heap.size w0 w9) => (hca da w9 _ (hKa.below (HB.out.trans (hb9.mono HB.out.size)))).mono fun e w' (hq : _ ∧ _) => (⟨hq.1, hb9.trans (hq.2.mono hb9.size)⟩ : e = _ ∧ Below w0.heap.size w0 w'))
  have HPa := Lib.hid (fun (w9 : World) (hb9 : Below w0.heap.size w0 w9) => hPa.below (HB.out.trans (hb9.mono HB.out.size)))
  have HAb := Lib.hid (fun (w9 : World) (hb9 : Below w0.heap.size w0 w9) => (hcb db w9 _ (hKb.below (HB.out.trans (hb9.mono HB.out.size)))).mono fun e w' (hq : _ ∧ _) => (⟨hq.1, hb9.trans (hq.2.mono hb9.size)⟩ : e = _ ∧ Below w0.heap.size w0 w'))
  have HPb := Lib.hid (fun (w9 : World) (hb9 : Below w0.heap.size w0 w9) => hPb.below (HB.out.trans (hb9.mono HB.out.size)))
  have hza := bs_size (T h a i.data.toList)
  have hzb := bs_size (T h b i.data.toList)
  have HFL := Lib.hid hFL
  clear hb0 hk hT hop hta hFL hll hca hPa hKa hcb hPb hKb
  generalize T h a i.data.toList = Xa at HFL hT' HAa hza
  obtain ⟨Ba, hBa⟩ : ∃ b : ByteArray, (⟨Xa.toArray⟩ : ByteArray) = b := ⟨_, rfl⟩
  generalize T h b i.data.toList = Xb at HFL hT' HAb hzb
  obtain ⟨Bb, hBb⟩ : ∃ b : ByteArray, (⟨Xb.toArray⟩ : ByteArray) = b := ⟨_, rfl⟩
  have HE : Hid ([40] ++ Ba.data.toList ++ [32, 124, 124, 32] ++ Bb.data.toList ++ [41] = T (h + 1) t i.data.toList) := Lib.hid (by rw [HFL.out, ← hBa, ← hBb])
  rw [hBa] at HAa hza
  rw [hBb] at HAb hzb
  have z0 : ¬ 9223372036854775807 < 1 + Ba.size := by omega
  have z1 : ¬ 9223372036854775807 < 1 + Ba.size + 4 := by omega
  have z2 : ¬ 9223372036854775807 < 1 + Ba.size + 4 + Bb.size := by omega
  have z3 : ¬ 9223372036854775807 < 1 + Ba.size + 4 + Bb.size + 1 := by omega
  clear HFL hT' hBa hza hBb hzb
  obtain ⟨c0, c1, c2, c3, c4⟩ := HX.out.keep HR.out
  obtain ⟨a0, a1, a2, a3, a4⟩ := HPa.out w0 HR.out
  obtain ⟨b0, b1, b2, b3, b4⟩ := HPb.out w0 HR.out
  go_enter Tryd.func86, Tryd.ntmps86
  go_wp2_with fail
  refine (HAa.out w0 HR.out).mono ?_
  rintro e w1 ⟨rfl, hb1⟩
  have HB1 := Lib.hid hb1
  clear hb1
  clear c0 c1 c2 c3 c4 a0 a1 a2 a3 a4 b0 b1 b2 b3 b4
  obtain ⟨c0, c1, c2, c3, c4⟩ := HX.out.keep HB1.out
  obtain ⟨a0, a1, a2, a3, a4⟩ := HPa.out w1 HB1.out
  obtain ⟨b0, b1, b2, b3, b4⟩ := HPb.out w1 HB1.out
  go_wp2_with fail
  refine (HAb.out w1 HB1.out).mono ?_
  rintro e w2 ⟨rfl, hb2⟩
  have HB2 := Lib.hid hb2
  clear hb2
  clear c0 c1 c2 c3 c4 a0 a1 a2 a3 a4 b0 b1 b2 b3 b4
  obtain ⟨c0, c1, c2, c3, c4⟩ := HX.out.keep HB2.out
  obtain ⟨a0, a1, a2, a3, a4⟩ := HPa.out w2 HB2.out
  obtain ⟨b0, b1, b2, b3, b4⟩ := HPb.out w2 HB2.out
  go_wp2
  go_ret
  exact ⟨congrArg Ending.returned (str_eq (by rw [← HE.out] <;> simp)), HB.out.trans (HB2.out.mono HB.out.size)⟩

set_option maxRecDepth 100000 in
set_option maxHeartbeats 4000000 in
theorem rmore_23 (h : Nat) (t a b g : Tree) (i : ByteArray) (hop : t.op = 23) (hta : t.l = [a, b, g]) (hca : ExprD h a i) (hcb : ExprD h b i) (hcg : ExprD h g i) (hT : (T (h + 1) t i.data.toList).length ≤ 140737488355328) : MoreD (h + 1) t i := by
  intro d w sl hk
  obtain ⟨hlen, A, c, rfl⟩ := hk.form
  unfold maxLen at hlen
  have hFL : T (h + 1) t i.data.toList = [40] ++ T h a i.data.toList ++ [32, 63, 32] ++ T h b i.data.toList ++ [32, 58, 32] ++ T h g i.data.toList ++ [41] := by simp [T, stepT, hop, hta]
  have hT' := hT
  rw [hFL] at hT'
  simp only [List.length_append, List.length_cons, List.length_nil] at hT'
  obtain ⟨p, sa, da, _, rfl, hPa, hKa, _⟩ := hk.at_ (show t.l[0]? = some a by rw [hta]; rfl)
  rw [show p.add (0 * 5) = p from rfl] at hPa
  obtain ⟨_, Aa, ca', rfl⟩ := hKa.form
  obtain ⟨p1, sb, db, _, hpp1, hPb, hKb, _⟩ := hk.at_ (show t.l[1]? = some b by rw [hta]; rfl)
  obtain rfl : p = p1 := by injection hpp1
  rw [show p.add (1 * 5) = ⟨p.block, p.off + 5, none⟩ from rfl] at hPb
  obtain ⟨_, Ab, cb', rfl⟩ := hKb.form
  obtain ⟨p2, sg, dg, _, hpp2, hPg, hKg, _⟩ := hk.at_ (show t.l[2]? = some g by rw [hta]; rfl)
  obtain rfl : p = p2 := by injection hpp2
  rw [show p.add (2 * 5) = ⟨p.block, p.off + 10, none⟩ from rfl] at hPg
  obtain ⟨_, Ag, cg', rfl⟩ := hKg.form
  have hll : t.l.length = 3 := by rw [hta]; rfl
  have hlt0 : 0 < t.l.length := by omega
  have hli0 : (0 : Int) < (t.l.length : Int) := by omega
  have hlt1 : 1 < t.l.length := by omega
  have hli1 : (1 : Int) < (t.l.length : Int) := by omega
  have hlt2 : 2 < t.l.length := by omega
  have hli2 : (2 : Int) < (t.l.length : Int) := by omega
  rw [hop]
  obtain ⟨w0, hw0⟩ : ∃ w0, w.alloc (.cells #[.int .i64 23, .string t.s, .int .i64 t.n, (.slice (some p) t.l.length c), .int .i64 t.line] 24) = w0 := ⟨_, rfl⟩
  have bx : Blk5 w0 w.heap.size 23 t.s t.n (.slice (some p) t.l.length c) t.line := by rw [← hw0]; exact blk5_new _ _ _ _ _ _
  have hb0 : Below w.heap.size w w0 := by rw [← hw0]; exact (Below.refl _ _).alloc (Nat.le_refl _) _
  have HB := Lib.hid hb0
  have HX := Lib.hid bx
  have HR : Hid (Below w0.heap.size w0 w0) := Lib.hid (Below.refl _ _)
  have HAa := Lib.hid (fun (w9 : World) (hb9 : Below w0.heap.size w0 w9) => (hca da w9 _ (hKa.below (HB.out.trans (hb9.mono HB.out.size)))).mono fun e w' (hq : _ ∧ _) => (⟨hq.1, hb9.trans (hq.2.mono hb9.size)⟩ : e = _ ∧ Below w0.heap.size w0 w'))
  have HPa := Lib.hid (fun (w9 : World) (hb9 : Below w0.heap.size w0 w9) => hPa.below (HB.out.trans (hb9.mono HB.out.size)))
  have HAb := Lib.hid (fun (w9 : World) (hb9 : Below w0.heap.size w0 w9) => (hcb db w9 _ (hKb.below (HB.out.trans (hb9.mono HB.out.size)))).mono fun e w' (hq : _ ∧ _) => (⟨hq.1, hb9.trans (hq.2.mono hb9.size)⟩ : e = _ ∧ Below w0.heap.size w0 w'))
  have HPb := Lib.hid (fun (w9 : World) (hb9 : Below w0.heap.size w0 w9) => hPb.below (HB.out.trans (hb9.mono HB.out.size)))
  have HAg := Lib.hid (fun (w9 : World) (hb9 : Below w0.heap.size w0 w9) => (hcg dg w9 _ (hKg.below (HB.out.trans (hb9.mono HB.out.size)))).mono fun e w' (hq : _ ∧ _) => (⟨hq.1, hb9.trans (hq.2.mono hb9.size)⟩ : e = _ ∧ Below w0.heap.size w0 w'))
  have HPg := Lib.hid (fun (w9 : World) (hb9 : Below w0.heap.size w0 w9) => hPg.below (HB.out.trans (hb9.mono HB.out.size)))
  have hza := bs_size (T h a i.data.toList)
  have hzb := bs_size (T h b i.data.toList)
  have hzg := bs_size (T h g i.data.toList)
  have HFL := Lib.hid hFL
  clear hb0 hk hT hop hta hFL hll hca hPa hKa hcb hPb hKb hcg hPg hKg
  generalize T h a i.data.toList = Xa at HFL hT' HAa hza
  obtain ⟨Ba, hBa⟩ : ∃ b : ByteArray, (⟨Xa.toArray⟩ : ByteArray) = b := ⟨_, rfl⟩
  generalize T h b i.data.toList = Xb at HFL hT' HAb hzb
  obtain ⟨Bb, hBb⟩ : ∃ b : ByteArray, (⟨Xb.toArray⟩ : ByteArray) = b := ⟨_, rfl⟩
  generalize T h g i.data.toList = Xg at HFL hT' HAg hzg
  obtain ⟨Bg, hBg⟩ : ∃ b : ByteArray, (⟨Xg.toArray⟩ : ByteArray) = b := ⟨_, rfl⟩
  have HE : Hid ([40] ++ Ba.data.toList ++ [32, 63, 32] ++ Bb.data.toList ++ [32, 58, 32] ++ Bg.data.toList ++ [41] = T (h + 1) t i.data.toList) := Lib.hid (by rw [HFL.out, ← hBa, ← hBb, ← hBg])
  rw [hBa] at HAa hza
  rw [hBb] at HAb hzb
  rw [hBg] at HAg hzg
  have z0 : ¬ 9223372036854775807 < 1 + Ba.size := by omega
  have z1 : ¬ 9223372036854775807 < 1 + Ba.size + 3 := by omega
  have z2 : ¬ 9223372036854775807 < 1 + Ba.size + 3 + Bb.size := by omega
  have z3 : ¬ 9223372036854775807 < 1 + Ba.size + 3 + Bb.size + 3 := by omega
  have z4 : ¬ 9223372036854775807 < 1 + Ba.size + 3 + Bb.size + 3 + Bg.size := by omega
  have z5 : ¬ 9223372036854775807 < 1 + Ba.size + 3 + Bb.size + 3 + Bg.size + 1 := by omega
  clear HFL hT' hBa hza hBb hzb hBg hzg
  obtain ⟨c0, c1, c2, c3, c4⟩ := HX.out.keep HR.out
  obtain ⟨a0, a1, a2, a3, a4⟩ := HPa.out w0 HR.out
  obtain ⟨b0, b1, b2, b3, b4⟩ := HPb.out w0 HR.out
  obtain ⟨g0, g1, g2, g3, g4⟩ := HPg.out w0 HR.out
  go_enter Tryd.func86, Tryd.ntmps86
  go_wp2_with fail
  refine (HAa.out w0 HR.out).mono ?_
  rintro e w1 ⟨rfl, hb1⟩
  have HB1 := Lib.hid hb1
  clear hb1
  clear c0 c1 c2 c3 c4 a0 a1 a2 a3 a4 b0 b1 b2 b3 b4 g0 g1 g2 g3 g4
  obtain ⟨c0, c1, c2, c3, c4⟩ := HX.out.keep HB1.out
  obtain ⟨a0, a1, a2, a3, a4⟩ := HPa.out w1 HB1.out
  obtain ⟨b0, b1, b2, b3, b4⟩ := HPb.out w1 HB1.out
  obtain ⟨g0, g1, g2, g3, g4⟩ := HPg.out w1 HB1.out
  go_wp2_with fail
  refine (HAb.out w1 HB1.out).mono ?_
  rintro e w2 ⟨rfl, hb2⟩
  have HB2 := Lib.hid hb2
  clear hb2
  clear c0 c1 c2 c3 c4 a0 a1 a2 a3 a4 b0 b1 b2 b3 b4 g0 g1 g2 g3 g4
  obtain ⟨c0, c1, c2, c3, c4⟩ := HX.out.keep HB2.out
  obtain ⟨a0, a1, a2, a3, a4⟩ := HPa.out w2 HB2.out
  obtain ⟨b0, b1, b2, b3, b4⟩ := HPb.out w2 HB2.out
  obtain ⟨g0, g1, g2, g3, g4⟩ := HPg.out w2 HB2.out
  go_wp2_with fail
  refine (HAg.out w2 HB2.out).mono ?_
  rintro e w3 ⟨rfl, hb3⟩
  have HB3 := Lib.hid hb3
  clear hb3
  clear c0 c1 c2 c3 c4 a0 a1 a2 a3 a4 b0 b1 b2 b3 b4 g0 g1 g2 g3 g4
  obtain ⟨c0, c1, c2, c3, c4⟩ := HX.out.keep HB3.out
  obtain ⟨a0, a1, a2, a3, a4⟩ := HPa.out w3 HB3.out
  obtain ⟨b0, b1, b2, b3, b4⟩ := HPb.out w3 HB3.out
  obtain ⟨g0, g1, g2, g3, g4⟩ := HPg.out w3 HB3.out
  go_wp2
  go_ret
  exact ⟨congrArg Ending.returned (str_eq (by rw [← HE.out] <;> simp)), HB.out.trans (HB3.out.mono HB.out.size)⟩

end Go.Proofs.YtcidccifnaecaaaDoor

namespace Go.Proofs.YtcidccifnaecaaaDoor
open Go.RowKit Go.Sort

theorem calls_fstD {P : Program} {f : FuncId} {a x b : Value} {w : World} {Q : Ending → World → Prop} (h : x = b) (hc : Calls P f #[b, a] w Q) : Calls P f #[x, a] w Q := by rwa [h]

set_option maxRecDepth 100000 in
set_option maxHeartbeats 4000000 in
theorem rline_30n (h : Nat) (t : Tree) (i : ByteArray) (hop : t.op = 30) (hta : t.l = []) (hT : (T (h + 1) t i.data.toList).length ≤ 140737488355328) : StmtD (h + 1) t i := by
  intro d w sl hk
  obtain ⟨hlen, A, c, rfl⟩ := hk.form
  unfold maxLen at hlen
  have hFL : T (h + 1) t i.data.toList = [118, 97, 114, 32] ++ t.s.data.toList ++ [59] := by simp [T, stepT, hop, hta]
  have hT' := hT
  rw [hFL] at hT'
  simp only [List.length_append, List.length_cons, List.length_nil] at hT'
  rw [size_list t.s] at hT'
  have hll : t.l.length = 0 := by rw [hta]; rfl
  have hl0 : ¬ (0 : Int) < (t.l.length : Int) := by omega
  rw [hop]
  obtain ⟨w0, hw0⟩ : ∃ w0, w.alloc (.cells #[.int .i64 30, .string t.s, .int .i64 t.n, (.slice A t.l.length c), .int .i64 t.line] 24) = w0 := ⟨_, rfl⟩
  have bx : Blk5 w0 w.heap.size 30 t.s t.n (.slice A t.l.length c) t.line := by rw [← hw0]; exact blk5_new _ _ _ _ _ _
  have hb0 : Below w.heap.size w w0 := by rw [← hw0]; exact (Below.refl _ _).alloc (Nat.le_refl _) _
  have HB := Lib.hid hb0
  have HX := Lib.hid bx
  have HR : Hid (Below w0.heap.size w0 w0) := Lib.hid (Below.refl _ _)
  have HFL := Lib.hid hFL
  clear hb0 hk hT hop hta hFL hll
  have HE : Hid ([118, 97, 114, 32] ++ t.s.data.toList ++ [59] = T (h + 1) t i.data.toList) := Lib.hid (by rw [HFL.out])
  have z0 : ¬ 9223372036854775807 < 4 + t.s.size := by omega
  have z1 : ¬ 9223372036854775807 < 4 + t.s.size + 1 := by omega
  clear HFL hT'
  obtain ⟨c0, c1, c2, c3, c4⟩ := HX.out.keep HR.out
  go_enter Tryd.func77, Tryd.ntmps77
  go_wp2
  go_ret
  exact ⟨congrArg Ending.returned (str_eq (by rw [← HE.out] <;> simp)), HB.out.trans (HR.out.mono HB.out.size)⟩

set_option maxRecDepth 100000 in
set_option maxHeartbeats 4000000 in
theorem rline_30 (h : Nat) (t a : Tree) (i : ByteArray) (hop : t.op = 30) (hta : t.l = [a]) (hna : T h a i.data.toList ≠ []) (hca : ExprD h a i) (hT : (T (h + 1) t i.data.toList).length ≤ 140737488355328) : StmtD (h + 1) t i := by
  intro d w sl hk
  obtain ⟨hlen, A, c, rfl⟩ := hk.form
  unfold maxLen at hlen
  have hFL : T (h + 1) t i.data.toList = [118, 97, 114, 32] ++ t.s.data.toList ++ [32, 61, 32] ++ T h a i.data.toList ++ [59] := by simp [T, stepT, hop, hta]
  have hT' := hT
  rw [hFL] at hT'
  simp only [List.length_append, List.length_cons, List.length_nil] at hT'
  rw [size_list t.s] at hT'
  obtain ⟨p, sa, da, _, rfl, hPa, hKa, _⟩ := hk.at_ (show t.l[0]? = some a by rw [hta]; rfl)
  rw [show p.add (0 * 5) = p from rfl] at hPa
  obtain ⟨_, Aa, ca', rfl⟩ := hKa.form
  have hll : t.l.length = 1 := by rw [hta]; rfl
  have hlt0 : 0 < t.l.length := by omega
  have hli0 : (0 : Int) < (t.l.length : Int) := by omega
  have hne : (⟨(T h a i.data.toList).toArray⟩ : ByteArray).toList.isEmpty = false := by rw [ByteArray.toList_eq]; simpa using hna
  rw [hop]
  obtain ⟨w0, hw0⟩ : ∃ w0, w.alloc (.cells #[.int .i64 30, .string t.s, .int .i64 t.n, (.slice (some p) t.l.length c), .int .i64 t.line] 24) = w0 := ⟨_, rfl⟩
  have bx : Blk5 w0 w.heap.size 30 t.s t.n (.slice (some p) t.l.length c) t.line := by rw [← hw0]; exact blk5_new _ _ _ _ _ _
  have hb0 : Below w.heap.size w w0 := by rw [← hw0]; exact (Below.refl _ _).alloc (Nat.le_refl _) _
  have HB := Lib.hid hb0
  have HX := Lib.hid bx
  have HR : Hid (Below w0.heap.size w0 w0) := Lib.hid (Below.refl _ _)
  have HAa := Lib.hid (fun (w9 : World) (hb9 : Below w0.heap.size w0 w9) => (hca da w9 _ (hKa.below (HB.out.trans (hb9.mono HB.out.size)))).mono fun e w' (hq : _ ∧ _) => (⟨hq.1, hb9.trans (hq.2.mono hb9.size)⟩ : e = _ ∧ Below w0.heap.size w0 w'))
  have HPa := Lib.hid (fun (w9 : World) (hb9 : Below w0.heap.size w0 w9) => hPa.below (HB.out.trans (hb9.mono HB.out.size)))
  have hza := bs_size (T h a i.data.toList)
  have HFL := Lib.hid hFL
  clear hna hb0 hk hT hop hta hFL hll hca hPa hKa
  generalize T h a i.data.toList = Xa at HFL hT' HAa hza hne
  obtain ⟨Ba, hBa⟩ : ∃ b : ByteArray, (⟨Xa.toArray⟩ : ByteArray) = b := ⟨_, rfl⟩
  have HE : Hid ([118, 97, 114, 32] ++ t.s.data.toList ++ [32, 61, 32] ++ Ba.data.toList ++ [59] = T (h + 1) t i.data.toList) := Lib.hid (by rw [HFL.out, ← hBa])
  rw [hBa] at HAa hza hne
  have z0 : ¬ 9223372036854775807 < 4 + t.s.size := by omega
  have z1 : ¬ 9223372036854775807 < 4 + t.s.size + 3 := by omega
  have z2 : ¬ 9223372036854775807 < 4 + t.s.size + 3 + Ba.size := by omega
  have z3 : ¬ 9223372036854775807 < 4 + t.s.size + 3 + Ba.size + 1 := by omega
  clear HFL hT' hBa hza
  obtain ⟨c0, c1, c2, c3, c4⟩ := HX.out.keep HR.out
  obtain ⟨a0, a1, a2, a3, a4⟩ := HPa.out w0 HR.out
  go_enter Tryd.func77, Tryd.ntmps77
  go_wp2_with fail
  refine (HAa.out w0 HR.out).mono ?_
  rintro e w1 ⟨rfl, hb1⟩
  have HB1 := Lib.hid hb1
  clear hb1
  clear c0 c1 c2 c3 c4 a0 a1 a2 a3 a4
  obtain ⟨c0, c1, c2, c3, c4⟩ := HX.out.keep HB1.out
  obtain ⟨a0, a1, a2, a3, a4⟩ := HPa.out w1 HB1.out
  go_wp2
  go_ret
  exact ⟨congrArg Ending.returned (str_eq (by rw [← HE.out] <;> simp)), HB.out.trans (HB1.out.mono HB.out.size)⟩

set_option maxRecDepth 100000 in
set_option maxHeartbeats 4000000 in
theorem rline_31 (h : Nat) (t a : Tree) (i : ByteArray) (hop : t.op = 31) (hta : t.l = [a]) (hca : ExprD h a i) (hT : (T (h + 1) t i.data.toList).length ≤ 140737488355328) : StmtD (h + 1) t i := by
  intro d w sl hk
  obtain ⟨hlen, A, c, rfl⟩ := hk.form
  unfold maxLen at hlen
  have hFL : T (h + 1) t i.data.toList = T h a i.data.toList ++ [59] := by simp [T, stepT, hop, hta]
  have hT' := hT
  rw [hFL] at hT'
  simp only [List.length_append, List.length_cons, List.length_nil] at hT'
  obtain ⟨p, sa, da, _, rfl, hPa, hKa, _⟩ := hk.at_ (show t.l[0]? = some a by rw [hta]; rfl)
  rw [show p.add (0 * 5) = p from rfl] at hPa
  obtain ⟨_, Aa, ca', rfl⟩ := hKa.form
  have hll : t.l.length = 1 := by rw [hta]; rfl
  have hlt0 : 0 < t.l.length := by omega
  have hli0 : (0 : Int) < (t.l.length : Int) := by omega
  rw [hop]
  obtain ⟨w0, hw0⟩ : ∃ w0, w.alloc (.cells #[.int .i64 31, .string t.s, .int .i64 t.n, (.slice (some p) t.l.length c), .int .i64 t.line] 24) = w0 := ⟨_, rfl⟩
  have bx : Blk5 w0 w.heap.size 31 t.s t.n (.slice (some p) t.l.length c) t.line := by rw [← hw0]; exact blk5_new _ _ _ _ _ _
  have hb0 : Below w.heap.size w w0 := by rw [← hw0]; exact (Below.refl _ _).alloc (Nat.le_refl _) _
  have HB := Lib.hid hb0
  have HX := Lib.hid bx
  have HR : Hid (Below w0.heap.size w0 w0) := Lib.hid (Below.refl _ _)
  have HAa := Lib.hid (fun (w9 : World) (hb9 : Below w0.heap.size w0 w9) => (hca da w9 _ (hKa.below (HB.out.trans (hb9.mono HB.out.size)))).mono fun e w' (hq : _ ∧ _) => (⟨hq.1, hb9.trans (hq.2.mono hb9.size)⟩ : e = _ ∧ Below w0.heap.size w0 w'))
  have HPa := Lib.hid (fun (w9 : World) (hb9 : Below w0.heap.size w0 w9) => hPa.below (HB.out.trans (hb9.mono HB.out.size)))
  have hza := bs_size (T h a i.data.toList)
  have HFL := Lib.hid hFL
  clear hb0 hk hT hop hta hFL hll hca hPa hKa
  generalize T h a i.data.toList = Xa at HFL hT' HAa hza
  obtain ⟨Ba, hBa⟩ : ∃ b : ByteArray, (⟨Xa.toArray⟩ : ByteArray) = b := ⟨_, rfl⟩
  have HE : Hid (Ba.data.toList ++ [59] = T (h + 1) t i.data.toList) := Lib.hid (by rw [HFL.out, ← hBa])
  rw [hBa] at HAa hza
  have z0 : ¬ 9223372036854775807 < Ba.size + 1 := by omega
  clear HFL hT' hBa hza
  obtain ⟨c0, c1, c2, c3, c4⟩ := HX.out.keep HR.out
  obtain ⟨a0, a1, a2, a3, a4⟩ := HPa.out w0 HR.out
  go_enter Tryd.func77, Tryd.ntmps77
  go_wp2_with fail
  refine (HAa.out w0 HR.out).mono ?_
  rintro e w1 ⟨rfl, hb1⟩
  have HB1 := Lib.hid hb1
  clear hb1
  clear c0 c1 c2 c3 c4 a0 a1 a2 a3 a4
  obtain ⟨c0, c1, c2, c3, c4⟩ := HX.out.keep HB1.out
  obtain ⟨a0, a1, a2, a3, a4⟩ := HPa.out w1 HB1.out
  go_wp2
  go_ret
  exact ⟨congrArg Ending.returned (str_eq (by rw [← HE.out] <;> simp)), HB.out.trans (HB1.out.mono HB.out.size)⟩

set_option maxRecDepth 100000 in
set_option maxHeartbeats 4000000 in
theorem rline_33 (h : Nat) (t a b : Tree) (i : ByteArray) (hop : t.op = 33) (hta : t.l = [a, b]) (hca : ExprD h a i) (hcb : BlockD h b i) (hT : (T (h + 1) t i.data.toList).length ≤ 140737488355328) : StmtD (h + 1) t i := by
  intro d w sl hk
  obtain ⟨hlen, A, c, rfl⟩ := hk.form
  unfold maxLen at hlen
  have hFL : T (h + 1) t i.data.toList = [105, 102, 32, 40] ++ T h a i.data.toList ++ [41, 32] ++ T h b i.data.toList := by simp [T, stepT, hop, hta]
  have hT' := hT
  rw [hFL] at hT'
  simp only [List.length_append, List.length_cons, List.length_nil] at hT'
  obtain ⟨p, sa, da, _, rfl, hPa, hKa, _⟩ := hk.at_ (show t.l[0]? = some a by rw [hta]; rfl)
  rw [show p.add (0 * 5) = p from rfl] at hPa
  obtain ⟨_, Aa, ca', rfl⟩ := hKa.form
  obtain ⟨p1, sb, db, _, hpp1, hPb, hKb, _⟩ := hk.at_ (show t.l[1]? = some b by rw [hta]; rfl)
  obtain rfl : p = p1 := by injection hpp1
  rw [show p.add (1 * 5) = ⟨p.block, p.off + 5, none⟩ from rfl] at hPb
  obtain ⟨_, Ab, cb', rfl⟩ := hKb.form
  have hll : t.l.length = 2 := by rw [hta]; rfl
  have hlt0 : 0 < t.l.length := by omega
  have hli0 : (0 : Int) < (t.l.length : Int) := by omega
  have hlt1 : 1 < t.l.length := by omega
  have hli1 : (1 : Int) < (t.l.length : Int) := by omega
  have hl3 : ((t.l.length : Int) == 3) = false := by rw [hll]; rfl
  rw [hop]
  obtain ⟨w0, hw0⟩ : ∃ w0, w.alloc (.cells #[.int .i64 33, .string t.s, .int .i64 t.n, (.slice (some p) t.l.length c), .int .i64 t.line] 24) = w0 := ⟨_, rfl⟩
  have bx : Blk5 w0 w.heap.size 33 t.s t.n (.slice (some p) t.l.length c) t.line := by rw [← hw0]; exact blk5_new _ _ _ _ _ _
  have hb0 : Below w.heap.size w w0 := by rw [← hw0]; exact (Below.refl _ _).alloc (Nat.le_refl _) _
  have HB := Lib.hid hb0
  have HX := Lib.hid bx
  have HR : Hid (Below w0.heap.size w0 w0) := Lib.hid (Below.refl _ _)
  have HAa := Lib.hid (fun (w9 : World) (hb9 : Below w0.heap.size w0 w9) => (hca da w9 _ (hKa.below (HB.out.trans (hb9.mono HB.out.size)))).mono fun e w' (hq : _ ∧ _) => (⟨hq.1, hb9.trans (hq.2.mono hb9.size)⟩ : e = _ ∧ Below w0.heap.size w0 w'))
  have HPa := Lib.hid (fun (w9 : World) (hb9 : Below w0.heap.size w0 w9) => hPa.below (HB.out.trans (hb9.mono HB.out.size)))
  have HAb := Lib.hid (fun (w9 : World) (hb9 : Below w0.heap.size w0 w9) => (hcb db w9 _ (hKb.below (HB.out.trans (hb9.mono HB.out.size)))).mono fun e w' (hq : _ ∧ _) => (⟨hq.1, hb9.trans (hq.2.mono hb9.size)⟩ : e = _ ∧ Below w0.heap.size w0 w'))
  have HPb := Lib.hid (fun (w9 : World) (hb9 : Below w0.heap.size w0 w9) => hPb.below (HB.out.trans (hb9.mono HB.out.size)))
  have hza := bs_size (T h a i.data.toList)
  have hzb := bs_size (T h b i.data.toList)
  have HFL := Lib.hid hFL
  clear hb0 hk hT hop hta hFL hll hca hPa hKa hcb hPb hKb
  generalize T h a i.data.toList = Xa at HFL hT' HAa hza
  obtain ⟨Ba, hBa⟩ : ∃ b : ByteArray, (⟨Xa.toArray⟩ : ByteArray) = b := ⟨_, rfl⟩
  generalize T h b i.data.toList = Xb at HFL hT' HAb hzb
  obtain ⟨Bb, hBb⟩ : ∃ b : ByteArray, (⟨Xb.toArray⟩ : ByteArray) = b := ⟨_, rfl⟩
  have HE : Hid ([105, 102, 32, 40] ++ Ba.data.toList ++ [41, 32] ++ Bb.data.toList = T (h + 1) t i.data.toList) := Lib.hid (by rw [HFL.out, ← hBa, ← hBb])
  rw [hBa] at HAa hza
  rw [hBb] at HAb hzb
  have z0 : ¬ 9223372036854775807 < 4 + Ba.size := by omega
  have z1 : ¬ 9223372036854775807 < 4 + Ba.size + 2 := by omega
  have z2 : ¬ 9223372036854775807 < 4 + Ba.size + 2 + Bb.size := by omega
  clear HFL hT' hBa hza hBb hzb
  obtain ⟨c0, c1, c2, c3, c4⟩ := HX.out.keep HR.out
  obtain ⟨a0, a1, a2, a3, a4⟩ := HPa.out w0 HR.out
  obtain ⟨b0, b1, b2, b3, b4⟩ := HPb.out w0 HR.out
  go_enter Tryd.func77, Tryd.ntmps77
  go_wp2_with fail
  refine (HAa.out w0 HR.out).mono ?_
  rintro e w1 ⟨rfl, hb1⟩
  have HB1 := Lib.hid hb1
  clear hb1
  clear c0 c1 c2 c3 c4 a0 a1 a2 a3 a4 b0 b1 b2 b3 b4
  obtain ⟨c0, c1, c2, c3, c4⟩ := HX.out.keep HB1.out
  obtain ⟨a0, a1, a2, a3, a4⟩ := HPa.out w1 HB1.out
  obtain ⟨b0, b1, b2, b3, b4⟩ := HPb.out w1 HB1.out
  go_wp2_with fail
  refine (HAb.out w1 HB1.out).mono ?_
  rintro e w2 ⟨rfl, hb2⟩
  have HB2 := Lib.hid hb2
  clear hb2
  clear c0 c1 c2 c3 c4 a0 a1 a2 a3 a4 b0 b1 b2 b3 b4
  obtain ⟨c0, c1, c2, c3, c4⟩ := HX.out.keep HB2.out
  obtain ⟨a0, a1, a2, a3, a4⟩ := HPa.out w2 HB2.out
  obtain ⟨b0, b1, b2, b3, b4⟩ := HPb.out w2 HB2.out
  go_wp2
  go_ret
  exact ⟨congrArg Ending.returned (str_eq (by rw [← HE.out] <;> simp)), HB.out.trans (HB2.out.mono HB.out.size)⟩

set_option maxRecDepth 100000 in
set_option maxHeartbeats 4000000 in
theorem rline_33e (h : Nat) (t a b g : Tree) (i : ByteArray) (hop : t.op = 33) (hta : t.l = [a, b, g]) (hca : ExprD h a i) (hcb : BlockD h b i) (hcg : BlockD h g i) (hT : (T (h + 1) t i.data.toList).length ≤ 140737488355328) : StmtD (h + 1) t i := by
  intro d w sl hk
  obtain ⟨hlen, A, c, rfl⟩ := hk.form
  unfold maxLen at hlen
  have hFL : T (h + 1) t i.data.toList = [105, 102, 32, 40] ++ T h a i.data.toList ++ [41, 32] ++ T h b i.data.toList ++ [32, 101, 108, 115, 101, 32] ++ T h g i.data.toList := by simp [T, stepT, hop, hta]
  have hT' := hT
  rw [hFL] at hT'
  simp only [List.length_append, List.length_cons, List.length_nil] at hT'
  obtain ⟨p, sa, da, _, rfl, hPa, hKa, _⟩ := hk.at_ (show t.l[0]? = some a by rw [hta]; rfl)
  rw [show p.add (0 * 5) = p from rfl] at hPa
  obtain ⟨_, Aa, ca', rfl⟩ := hKa.form
  obtain ⟨p1, sb, db, _, hpp1, hPb, hKb, _⟩ := hk.at_ (show t.l[1]? = some b by rw [hta]; rfl)
  obtain rfl : p = p1 := by injection hpp1
  rw [show p.add (1 * 5) = ⟨p.block, p.off + 5, none⟩ from rfl] at hPb
  obtain ⟨_, Ab, cb', rfl⟩ := hKb.form
  obtain ⟨p2, sg, dg, _, hpp2, hPg, hKg, _⟩ := hk.at_ (show t.l[2]? = some g by rw [hta]; rfl)
  obtain rfl : p = p2 := by injection hpp2
  rw [show p.add (2 * 5) = ⟨p.block, p.off + 10, none⟩ from rfl] at hPg
  obtain ⟨_, Ag, cg', rfl⟩ := hKg.form
  have hll : t.l.length = 3 := by rw [hta]; rfl
  have hlt0 : 0 < t.l.length := by omega
  have hli0 : (0 : Int) < (t.l.length : Int) := by omega
  have hlt1 : 1 < t.l.length := by omega
  have hli1 : (1 : Int) < (t.l.length : Int) := by omega
  have hlt2 : 2 < t.l.length := by omega
  have hli2 : (2 : Int) < (t.l.length : Int) := by omega
  have hl3 : ((t.l.length : Int) == 3) = true := by rw [hll]; rfl
  rw [hop]
  obtain ⟨w0, hw0⟩ : ∃ w0, w.alloc (.cells #[.int .i64 33, .string t.s, .int .i64 t.n, (.slice (some p) t.l.length c), .int .i64 t.line] 24) = w0 := ⟨_, rfl⟩
  have bx : Blk5 w0 w.heap.size 33 t.s t.n (.slice (some p) t.l.length c) t.line := by rw [← hw0]; exact blk5_new _ _ _ _ _ _
  have hb0 : Below w.heap.size w w0 := by rw [← hw0]; exact (Below.refl _ _).alloc (Nat.le_refl _) _
  have HB := Lib.hid hb0
  have HX := Lib.hid bx
  have HR : Hid (Below w0.heap.size w0 w0) := Lib.hid (Below.refl _ _)
  have HAa := Lib.hid (fun (w9 : World) (hb9 : Below w0.heap.size w0 w9) => (hca da w9 _ (hKa.below (HB.out.trans (hb9.mono HB.out.size)))).mono fun e w' (hq : _ ∧ _) => (⟨hq.1, hb9.trans (hq.2.mono hb9.size)⟩ : e = _ ∧ Below w0.heap.size w0 w'))
  have HPa := Lib.hid (fun (w9 : World) (hb9 : Below w0.heap.size w0 w9) => hPa.below (HB.out.trans (hb9.mono HB.out.size)))
  have HAb := Lib.hid (fun (w9 : World) (hb9 : Below w0.heap.size w0 w9) => (hcb db w9 _ (hKb.below (HB.out.trans (hb9.mono HB.out.size)))).mono fun e w' (hq : _ ∧ _) => (⟨hq.1, hb9.trans (hq.2.mono hb9.size)⟩ : e = _ ∧ Below w0.heap.size w0 w'))
  have HPb := Lib.hid (fun (w9 : World) (hb9 : Below w0.heap.size w0 w9) => hPb.below (HB.out.trans (hb9.mono HB.out.size)))
  have HAg := Lib.hid (fun (w9 : World) (hb9 : Below w0.heap.size w0 w9) => (hcg dg w9 _ (hKg.below (HB.out.trans (hb9.mono HB.out.size)))).mono fun e w' (hq : _ ∧ _) => (⟨hq.1, hb9.trans (hq.2.mono hb9.size)⟩ : e = _ ∧ Below w0.heap.size w0 w'))
  have HPg := Lib.hid (fun (w9 : World) (hb9 : Below w0.heap.size w0 w9) => hPg.below (HB.out.trans (hb9.mono HB.out.size)))
  have hza := bs_size (T h a i.data.toList)
  have hzb := bs_size (T h b i.data.toList)
  have hzg := bs_size (T h g i.data.toList)
  have HFL := Lib.hid hFL
  clear hb0 hk hT hop hta hFL hll hca hPa hKa hcb hPb hKb hcg hPg hKg
  generalize T h a i.data.toList = Xa at HFL hT' HAa hza
  obtain ⟨Ba, hBa⟩ : ∃ b : ByteArray, (⟨Xa.toArray⟩ : ByteArray) = b := ⟨_, rfl⟩
  generalize T h b i.data.toList = Xb at HFL hT' HAb hzb
  obtain ⟨Bb, hBb⟩ : ∃ b : ByteArray, (⟨Xb.toArray⟩ : ByteArray) = b := ⟨_, rfl⟩
  generalize T h g i.data.toList = Xg at HFL hT' HAg hzg
  obtain ⟨Bg, hBg⟩ : ∃ b : ByteArray, (⟨Xg.toArray⟩ : ByteArray) = b := ⟨_, rfl⟩
  have HE : Hid ([105, 102, 32, 40] ++ Ba.data.toList ++ [41, 32] ++ Bb.data.toList ++ [32, 101, 108, 115, 101, 32] ++ Bg.data.toList = T (h + 1) t i.data.toList) := Lib.hid (by rw [HFL.out, ← hBa, ← hBb, ← hBg])
  rw [hBa] at HAa hza
  rw [hBb] at HAb hzb
  rw [hBg] at HAg hzg
  have z0 : ¬ 9223372036854775807 < 4 + Ba.size := by omega
  have z1 : ¬ 9223372036854775807 < 4 + Ba.size + 2 := by omega
  have z2 : ¬ 9223372036854775807 < 4 + Ba.size + 2 + Bb.size := by omega
  have z3 : ¬ 9223372036854775807 < 4 + Ba.size + 2 + Bb.size + 6 := by omega
  have z4 : ¬ 9223372036854775807 < 4 + Ba.size + 2 + Bb.size + 6 + Bg.size := by omega
  clear HFL hT' hBa hza hBb hzb hBg hzg
  obtain ⟨c0, c1, c2, c3, c4⟩ := HX.out.keep HR.out
  obtain ⟨a0, a1, a2, a3, a4⟩ := HPa.out w0 HR.out
  obtain ⟨b0, b1, b2, b3, b4⟩ := HPb.out w0 HR.out
  obtain ⟨g0, g1, g2, g3, g4⟩ := HPg.out w0 HR.out
  go_enter Tryd.func77, Tryd.ntmps77
  go_wp2_with fail
  refine (HAa.out w0 HR.out).mono ?_
  rintro e w1 ⟨rfl, hb1⟩
  have HB1 := Lib.hid hb1
  clear hb1
  clear c0 c1 c2 c3 c4 a0 a1 a2 a3 a4 b0 b1 b2 b3 b4 g0 g1 g2 g3 g4
  obtain ⟨c0, c1, c2, c3, c4⟩ := HX.out.keep HB1.out
  obtain ⟨a0, a1, a2, a3, a4⟩ := HPa.out w1 HB1.out
  obtain ⟨b0, b1, b2, b3, b4⟩ := HPb.out w1 HB1.out
  obtain ⟨g0, g1, g2, g3, g4⟩ := HPg.out w1 HB1.out
  go_wp2_with fail
  refine (HAb.out w1 HB1.out).mono ?_
  rintro e w2 ⟨rfl, hb2⟩
  have HB2 := Lib.hid hb2
  clear hb2
  clear c0 c1 c2 c3 c4 a0 a1 a2 a3 a4 b0 b1 b2 b3 b4 g0 g1 g2 g3 g4
  obtain ⟨c0, c1, c2, c3, c4⟩ := HX.out.keep HB2.out
  obtain ⟨a0, a1, a2, a3, a4⟩ := HPa.out w2 HB2.out
  obtain ⟨b0, b1, b2, b3, b4⟩ := HPb.out w2 HB2.out
  obtain ⟨g0, g1, g2, g3, g4⟩ := HPg.out w2 HB2.out
  go_wp2_with fail
  refine (HAg.out w2 HB2.out).mono ?_
  rintro e w3 ⟨rfl, hb3⟩
  have HB3 := Lib.hid hb3
  clear hb3
  clear c0 c1 c2 c3 c4 a0 a1 a2 a3 a4 b0 b1 b2 b3 b4 g0 g1 g2 g3 g4
  obtain ⟨c0, c1, c2, c3, c4⟩ := HX.out.keep HB3.out
  obtain ⟨a0, a1, a2, a3, a4⟩ := HPa.out w3 HB3.out
  obtain ⟨b0, b1, b2, b3, b4⟩ := HPb.out w3 HB3.out
  obtain ⟨g0, g1, g2, g3, g4⟩ := HPg.out w3 HB3.out
  go_wp2
  go_ret
  exact ⟨congrArg Ending.returned (str_eq (by rw [← HE.out] <;> simp)), HB.out.trans (HB3.out.mono HB.out.size)⟩

set_option maxRecDepth 100000 in
set_option maxHeartbeats 4000000 in
theorem rline_34 (h : Nat) (t a b : Tree) (i : ByteArray) (hop : t.op = 34) (hta : t.l = [a, b]) (hca : ExprD h a i) (hcb : BlockD h b i) (hT : (T (h + 1) t i.data.toList).length ≤ 140737488355328) : StmtD (h + 1) t i := by
  intro d w sl hk
  obtain ⟨hlen, A, c, rfl⟩ := hk.form
  unfold maxLen at hlen
  have hFL : T (h + 1) t i.data.toList = [119, 104, 105, 108, 101, 32, 40] ++ T h a i.data.toList ++ [41, 32] ++ T h b i.data.toList := by simp [T, stepT, hop, hta]
  have hT' := hT
  rw [hFL] at hT'
  simp only [List.length_append, List.length_cons, List.length_nil] at hT'
  obtain ⟨p, sa, da, _, rfl, hPa, hKa, _⟩ := hk.at_ (show t.l[0]? = some a by rw [hta]; rfl)
  rw [show p.add (0 * 5) = p from rfl] at hPa
  obtain ⟨_, Aa, ca', rfl⟩ := hKa.form
  obtain ⟨p1, sb, db, _, hpp1, hPb, hKb, _⟩ := hk.at_ (show t.l[1]? = some b by rw [hta]; rfl)
  obtain rfl : p = p1 := by injection hpp1
  rw [show p.add (1 * 5) = ⟨p.block, p.off + 5, none⟩ from rfl] at hPb
  obtain ⟨_, Ab, cb', rfl⟩ := hKb.form
  have hll : t.l.length = 2 := by rw [hta]; rfl
  have hlt0 : 0 < t.l.length := by omega
  have hli0 : (0 : Int) < (t.l.length : Int) := by omega
  have hlt1 : 1 < t.l.length := by omega
  have hli1 : (1 : Int) < (t.l.length : Int) := by omega
  rw [hop]
  obtain ⟨w0, hw0⟩ : ∃ w0, w.alloc (.cells #[.int .i64 34, .string t.s, .int .i64 t.n, (.slice (some p) t.l.length c), .int .i64 t.line] 24) = w0 := ⟨_, rfl⟩
  have bx : Blk5 w0 w.heap.size 34 t.s t.n (.slice (some p) t.l.length c) t.line := by rw [← hw0]; exact blk5_new _ _ _ _ _ _
  have hb0 : Below w.heap.size w w0 := by rw [← hw0]; exact (Below.refl _ _).alloc (Nat.le_refl _) _
  have HB := Lib.hid hb0
  have HX := Lib.hid bx
  have HR : Hid (Below w0.heap.size w0 w0) := Lib.hid (Below.refl _ _)
  have HAa := Lib.hid (fun (w9 : World) (hb9 : Below w0.heap.size w0 w9) => (hca da w9 _ (hKa.below (HB.out.trans (hb9.mono HB.out.size)))).mono fun e w' (hq : _ ∧ _) => (⟨hq.1, hb9.trans (hq.2.mono hb9.size)⟩ : e = _ ∧ Below w0.heap.size w0 w'))
  have HPa := Lib.hid (fun (w9 : World) (hb9 : Below w0.heap.size w0 w9) => hPa.below (HB.out.trans (hb9.mono HB.out.size)))
  have HAb := Lib.hid (fun (w9 : World) (hb9 : Below w0.heap.size w0 w9) => (hcb db w9 _ (hKb.below (HB.out.trans (hb9.mono HB.out.size)))).mono fun e w' (hq : _ ∧ _) => (⟨hq.1, hb9.trans (hq.2.mono hb9.size)⟩ : e = _ ∧ Below w0.heap.size w0 w'))
  have HPb := Lib.hid (fun (w9 : World) (hb9 : Below w0.heap.size w0 w9) => hPb.below (HB.out.trans (hb9.mono HB.out.size)))
  have hza := bs_size (T h a i.data.toList)
  have hzb := bs_size (T h b i.data.toList)
  have HFL := Lib.hid hFL
  clear hb0 hk hT hop hta hFL hll hca hPa hKa hcb hPb hKb
  generalize T h a i.data.toList = Xa at HFL hT' HAa hza
  obtain ⟨Ba, hBa⟩ : ∃ b : ByteArray, (⟨Xa.toArray⟩ : ByteArray) = b := ⟨_, rfl⟩
  generalize T h b i.data.toList = Xb at HFL hT' HAb hzb
  obtain ⟨Bb, hBb⟩ : ∃ b : ByteArray, (⟨Xb.toArray⟩ : ByteArray) = b := ⟨_, rfl⟩
  have HE : Hid ([119, 104, 105, 108, 101, 32, 40] ++ Ba.data.toList ++ [41, 32] ++ Bb.data.toList = T (h + 1) t i.data.toList) := Lib.hid (by rw [HFL.out, ← hBa, ← hBb])
  rw [hBa] at HAa hza
  rw [hBb] at HAb hzb
  have z0 : ¬ 9223372036854775807 < 7 + Ba.size := by omega
  have z1 : ¬ 9223372036854775807 < 7 + Ba.size + 2 := by omega
  have z2 : ¬ 9223372036854775807 < 7 + Ba.size + 2 + Bb.size := by omega
  clear HFL hT' hBa hza hBb hzb
  obtain ⟨c0, c1, c2, c3, c4⟩ := HX.out.keep HR.out
  obtain ⟨a0, a1, a2, a3, a4⟩ := HPa.out w0 HR.out
  obtain ⟨b0, b1, b2, b3, b4⟩ := HPb.out w0 HR.out
  go_enter Tryd.func77, Tryd.ntmps77
  go_wp2_with fail
  refine (HAa.out w0 HR.out).mono ?_
  rintro e w1 ⟨rfl, hb1⟩
  have HB1 := Lib.hid hb1
  clear hb1
  clear c0 c1 c2 c3 c4 a0 a1 a2 a3 a4 b0 b1 b2 b3 b4
  obtain ⟨c0, c1, c2, c3, c4⟩ := HX.out.keep HB1.out
  obtain ⟨a0, a1, a2, a3, a4⟩ := HPa.out w1 HB1.out
  obtain ⟨b0, b1, b2, b3, b4⟩ := HPb.out w1 HB1.out
  go_wp2_with fail
  refine (HAb.out w1 HB1.out).mono ?_
  rintro e w2 ⟨rfl, hb2⟩
  have HB2 := Lib.hid hb2
  clear hb2
  clear c0 c1 c2 c3 c4 a0 a1 a2 a3 a4 b0 b1 b2 b3 b4
  obtain ⟨c0, c1, c2, c3, c4⟩ := HX.out.keep HB2.out
  obtain ⟨a0, a1, a2, a3, a4⟩ := HPa.out w2 HB2.out
  obtain ⟨b0, b1, b2, b3, b4⟩ := HPb.out w2 HB2.out
  go_wp2
  go_ret
  exact ⟨congrArg Ending.returned (str_eq (by rw [← HE.out] <;> simp)), HB.out.trans (HB2.out.mono HB.out.size)⟩

set_option maxRecDepth 100000 in
set_option maxHeartbeats 4000000 in
theorem rline_35 (h : Nat) (t a b : Tree) (i : ByteArray) (hop : t.op = 35) (hta : t.l = [a, b]) (hca : ExprD h a i) (hcb : BlockD h b i) (hT : (T (h + 1) t i.data.toList).length ≤ 140737488355328) : StmtD (h + 1) t i := by
  intro d w sl hk
  obtain ⟨hlen, A, c, rfl⟩ := hk.form
  unfold maxLen at hlen
  have hFL : T (h + 1) t i.data.toList = [102, 111, 114, 32, 40, 118, 97, 114, 32] ++ t.s.data.toList ++ [32, 105, 110, 32] ++ T h a i.data.toList ++ [41, 32] ++ T h b i.data.toList := by simp [T, stepT, hop, hta]
  have hT' := hT
  rw [hFL] at hT'
  simp only [List.length_append, List.length_cons, List.length_nil] at hT'
  rw [size_list t.s] at hT'
  obtain ⟨p, sa, da, _, rfl, hPa, hKa, _⟩ := hk.at_ (show t.l[0]? = some a by rw [hta]; rfl)
  rw [show p.add (0 * 5) = p from rfl] at hPa
  obtain ⟨_, Aa, ca', rfl⟩ := hKa.form
  obtain ⟨p1, sb, db, _, hpp1, hPb, hKb, _⟩ := hk.at_ (show t.l[1]? = some b by rw [hta]; rfl)
  obtain rfl : p = p1 := by injection hpp1
  rw [show p.add (1 * 5) = ⟨p.block, p.off + 5, none⟩ from rfl] at hPb
  obtain ⟨_, Ab, cb', rfl⟩ := hKb.form
  have hll : t.l.length = 2 := by rw [hta]; rfl
  have hlt0 : 0 < t.l.length := by omega
  have hli0 : (0 : Int) < (t.l.length : Int) := by omega
  have hlt1 : 1 < t.l.length := by omega
  have hli1 : (1 : Int) < (t.l.length : Int) := by omega
  rw [hop]
  obtain ⟨w0, hw0⟩ : ∃ w0, w.alloc (.cells #[.int .i64 35, .string t.s, .int .i64 t.n, (.slice (some p) t.l.length c), .int .i64 t.line] 24) = w0 := ⟨_, rfl⟩
  have bx : Blk5 w0 w.heap.size 35 t.s t.n (.slice (some p) t.l.length c) t.line := by rw [← hw0]; exact blk5_new _ _ _ _ _ _
  have hb0 : Below w.heap.size w w0 := by rw [← hw0]; exact (Below.refl _ _).alloc (Nat.le_refl _) _
  have HB := Lib.hid hb0
  have HX := Lib.hid bx
  have HR : Hid (Below w0.heap.size w0 w0) := Lib.hid (Below.refl _ _)
  have HAa := Lib.hid (fun (w9 : World) (hb9 : Below w0.heap.size w0 w9) => (hca da w9 _ (hKa.below (HB.out.trans (hb9.mono HB.out.size)))).mono fun e w' (hq : _ ∧ _) => (⟨hq.1, hb9.trans (hq.2.mono hb9.size)⟩ : e = _ ∧ Below w0.heap.size w0 w'))
  have HPa := Lib.hid (fun (w9 : World) (hb9 : Below w0.heap.size w0 w9) => hPa.below (HB.out.trans (hb9.mono HB.out.size)))
  have HAb := Lib.hid (fun (w9 : World) (hb9 : Below w0.heap.size w0 w9) => (hcb db w9 _ (hKb.below (HB.out.trans (hb9.mono HB.out.size)))).mono fun e w' (hq : _ ∧ _) => (⟨hq.1, hb9.trans (hq.2.mono hb9.size)⟩ : e = _ ∧ Below w0.heap.size w0 w'))
  have HPb := Lib.hid (fun (w9 : World) (hb9 : Below w0.heap.size w0 w9) => hPb.below (HB.out.trans (hb9.mono HB.out.size)))
  have hza := bs_size (T h a i.data.toList)
  have hzb := bs_size (T h b i.data.toList)
  have HFL := Lib.hid hFL
  clear hb0 hk hT hop hta hFL hll hca hPa hKa hcb hPb hKb
  generalize T h a i.data.toList = Xa at HFL hT' HAa hza
  obtain ⟨Ba, hBa⟩ : ∃ b : ByteArray, (⟨Xa.toArray⟩ : ByteArray) = b := ⟨_, rfl⟩
  generalize T h b i.data.toList = Xb at HFL hT' HAb hzb
  obtain ⟨Bb, hBb⟩ : ∃ b : ByteArray, (⟨Xb.toArray⟩ : ByteArray) = b := ⟨_, rfl⟩
  have HE : Hid ([102, 111, 114, 32, 40, 118, 97, 114, 32] ++ t.s.data.toList ++ [32, 105, 110, 32] ++ Ba.data.toList ++ [41, 32] ++ Bb.data.toList = T (h + 1) t i.data.toList) := Lib.hid (by rw [HFL.out, ← hBa, ← hBb])
  rw [hBa] at HAa hza
  rw [hBb] at HAb hzb
  have z0 : ¬ 9223372036854775807 < 9 + t.s.size := by omega
  have z1 : ¬ 9223372036854775807 < 9 + t.s.size + 4 := by omega
  have z2 : ¬ 9223372036854775807 < 9 + t.s.size + 4 + Ba.size := by omega
  have z3 : ¬ 9223372036854775807 < 9 + t.s.size + 4 + Ba.size + 2 := by omega
  have z4 : ¬ 9223372036854775807 < 9 + t.s.size + 4 + Ba.size + 2 + Bb.size := by omega
  clear HFL hT' hBa hza hBb hzb
  obtain ⟨c0, c1, c2, c3, c4⟩ := HX.out.keep HR.out
  obtain ⟨a0, a1, a2, a3, a4⟩ := HPa.out w0 HR.out
  obtain ⟨b0, b1, b2, b3, b4⟩ := HPb.out w0 HR.out
  go_enter Tryd.func77, Tryd.ntmps77
  go_wp2_with fail
  refine (HAa.out w0 HR.out).mono ?_
  rintro e w1 ⟨rfl, hb1⟩
  have HB1 := Lib.hid hb1
  clear hb1
  clear c0 c1 c2 c3 c4 a0 a1 a2 a3 a4 b0 b1 b2 b3 b4
  obtain ⟨c0, c1, c2, c3, c4⟩ := HX.out.keep HB1.out
  obtain ⟨a0, a1, a2, a3, a4⟩ := HPa.out w1 HB1.out
  obtain ⟨b0, b1, b2, b3, b4⟩ := HPb.out w1 HB1.out
  have SC : Hid (∀ (w9 : World), Below w0.heap.size w0 w9 → (w9.cell? ⟨w.heap.size, 3, none⟩ = some (.slice (some p) t.l.length c) ∧ w9.cell? ⟨w.heap.size, 1, none⟩ = some (.string t.s) ∧ w9.cell? ⟨p.block, p.off + 5, none⟩ = some (.int .i64 b.op) ∧ w9.cell? ⟨p.block, p.off + 6, none⟩ = some (.string b.s) ∧ w9.cell? ⟨p.block, p.off + 7, none⟩ = some (.int .i64 b.n) ∧ w9.cell? ⟨p.block, p.off + 8, none⟩ = some (.slice Ab b.l.length cb') ∧ w9.cell? ⟨p.block, p.off + 9, none⟩ = some (.int .i64 b.line))) := Lib.hid fun w9 hb9 => ⟨(HX.out.keep hb9).c3, (HX.out.keep hb9).c1, (HPb.out w9 hb9).c0, (HPb.out w9 hb9).c1, (HPb.out w9 hb9).c2, (HPb.out w9 hb9).c3, (HPb.out w9 hb9).c4⟩
  have hd0 : Below w0.heap.size w0 w1.drew := HB1.out.drew
  go_wp2
  go_region_held3 (fun w9 => (w9.cell? ⟨w.heap.size, 3, none⟩ = some (.slice (some p) t.l.length c) ∧ w9.cell? ⟨w.heap.size, 1, none⟩ = some (.string t.s) ∧ w9.cell? ⟨p.block, p.off + 5, none⟩ = some (.int .i64 b.op) ∧ w9.cell? ⟨p.block, p.off + 6, none⟩ = some (.string b.s) ∧ w9.cell? ⟨p.block, p.off + 7, none⟩ = some (.int .i64 b.n) ∧ w9.cell? ⟨p.block, p.off + 8, none⟩ = some (.slice Ab b.l.length cb') ∧ w9.cell? ⟨p.block, p.off + 9, none⟩ = some (.int .i64 b.line))) (first
    | exact SC.out _ (by assumption)
    | go_keep) (first
    | (go_at_call 104; refine (HAb.out _ (by assumption)).mono ?_; rintro e wz ⟨rfl, hbz⟩))
  all_goals
    go_wp2
    go_ret
    exact ⟨congrArg Ending.returned (str_eq (by rw [← HE.out] <;> simp)), HB.out.trans (Below.mono (by assumption) HB.out.size)⟩

set_option maxRecDepth 100000 in
set_option maxHeartbeats 4000000 in
theorem rline_36n (h : Nat) (t : Tree) (i : ByteArray) (hop : t.op = 36) (hta : t.l = []) (hT : (T (h + 1) t i.data.toList).length ≤ 140737488355328) : StmtD (h + 1) t i := by
  intro d w sl hk
  obtain ⟨hlen, A, c, rfl⟩ := hk.form
  unfold maxLen at hlen
  have hFL : T (h + 1) t i.data.toList = [114, 101, 116, 117, 114, 110, 59] := by simp [T, stepT, hop, hta]
  have hT' := hT
  rw [hFL] at hT'
  simp only [List.length_cons, List.length_nil] at hT'
  have hll : t.l.length = 0 := by rw [hta]; rfl
  have hl0 : ¬ (0 : Int) < (t.l.length : Int) := by omega
  rw [hop]
  obtain ⟨w0, hw0⟩ : ∃ w0, w.alloc (.cells #[.int .i64 36, .string t.s, .int .i64 t.n, (.slice A t.l.length c), .int .i64 t.line] 24) = w0 := ⟨_, rfl⟩
  have bx : Blk5 w0 w.heap.size 36 t.s t.n (.slice A t.l.length c) t.line := by rw [← hw0]; exact blk5_new _ _ _ _ _ _
  have hb0 : Below w.heap.size w w0 := by rw [← hw0]; exact (Below.refl _ _).alloc (Nat.le_refl _) _
  have HB := Lib.hid hb0
  have HX := Lib.hid bx
  have HR : Hid (Below w0.heap.size w0 w0) := Lib.hid (Below.refl _ _)
  have HFL := Lib.hid hFL
  clear hb0 hk hT hop hta hFL hll
  have HE : Hid ([114, 101, 116, 117, 114, 110, 59] = T (h + 1) t i.data.toList) := Lib.hid (by rw [HFL.out])
  clear HFL hT'
  obtain ⟨c0, c1, c2, c3, c4⟩ := HX.out.keep HR.out
  go_enter Tryd.func77, Tryd.ntmps77
  go_wp2
  go_ret
  exact ⟨congrArg Ending.returned (str_eq (by rw [← HE.out] <;> simp)), HB.out.trans (HR.out.mono HB.out.size)⟩

set_option maxRecDepth 100000 in
set_option maxHeartbeats 4000000 in
theorem rline_36 (h : Nat) (t a : Tree) (i : ByteArray) (hop : t.op = 36) (hta : t.l = [a]) (hna : T h a i.data.toList ≠ []) (hca : ExprD h a i) (hT : (T (h + 1) t i.data.toList).length ≤ 140737488355328) : StmtD (h + 1) t i := by
  intro d w sl hk
  obtain ⟨hlen, A, c, rfl⟩ := hk.form
  unfold maxLen at hlen
  have hFL : T (h + 1) t i.data.toList = [114, 101, 116, 117, 114, 110, 32] ++ T h a i.data.toList ++ [59] := by simp [T, stepT, hop, hta]
  have hT' := hT
  rw [hFL] at hT'
  simp only [List.length_append, List.length_cons, List.length_nil] at hT'
  obtain ⟨p, sa, da, _, rfl, hPa, hKa, _⟩ := hk.at_ (show t.l[0]? = some a by rw [hta]; rfl)
  rw [show p.add (0 * 5) = p from rfl] at hPa
  obtain ⟨_, Aa, ca', rfl⟩ := hKa.form
  have hll : t.l.length = 1 := by rw [hta]; rfl
  have hlt0 : 0 < t.l.length := by omega
  have hli0 : (0 : Int) < (t.l.length : Int) := by omega
  have hne : (⟨(T h a i.data.toList).toArray⟩ : ByteArray).toList.isEmpty = false := by rw [ByteArray.toList_eq]; simpa using hna
  rw [hop]
  obtain ⟨w0, hw0⟩ : ∃ w0, w.alloc (.cells #[.int .i64 36, .string t.s, .int .i64 t.n, (.slice (some p) t.l.length c), .int .i64 t.line] 24) = w0 := ⟨_, rfl⟩
  have bx : Blk5 w0 w.heap.size 36 t.s t.n (.slice (some p) t.l.length c) t.line := by rw [← hw0]; exact blk5_new _ _ _ _ _ _
  have hb0 : Below w.heap.size w w0 := by rw [← hw0]; exact (Below.refl _ _).alloc (Nat.le_refl _) _
  have HB := Lib.hid hb0
  have HX := Lib.hid bx
  have HR : Hid (Below w0.heap.size w0 w0) := Lib.hid (Below.refl _ _)
  have HAa := Lib.hid (fun (w9 : World) (hb9 : Below w0.heap.size w0 w9) => (hca da w9 _ (hKa.below (HB.out.trans (hb9.mono HB.out.size)))).mono fun e w' (hq : _ ∧ _) => (⟨hq.1, hb9.trans (hq.2.mono hb9.size)⟩ : e = _ ∧ Below w0.heap.size w0 w'))
  have HPa := Lib.hid (fun (w9 : World) (hb9 : Below w0.heap.size w0 w9) => hPa.below (HB.out.trans (hb9.mono HB.out.size)))
  have hza := bs_size (T h a i.data.toList)
  have HFL := Lib.hid hFL
  clear hna hb0 hk hT hop hta hFL hll hca hPa hKa
  generalize T h a i.data.toList = Xa at HFL hT' HAa hza hne
  obtain ⟨Ba, hBa⟩ : ∃ b : ByteArray, (⟨Xa.toArray⟩ : ByteArray) = b := ⟨_, rfl⟩
  have HE : Hid ([114, 101, 116, 117, 114, 110, 32] ++ Ba.data.toList ++ [59] = T (h + 1) t i.data.toList) := Lib.hid (by rw [HFL.out, ← hBa])
  rw [hBa] at HAa hza hne
  have z0 : ¬ 9223372036854775807 < 7 + Ba.size := by omega
  have z1 : ¬ 9223372036854775807 < 7 + Ba.size + 1 := by omega
  clear HFL hT' hBa hza
  obtain ⟨c0, c1, c2, c3, c4⟩ := HX.out.keep HR.out
  obtain ⟨a0, a1, a2, a3, a4⟩ := HPa.out w0 HR.out
  go_enter Tryd.func77, Tryd.ntmps77
  go_wp2_with fail
  refine (HAa.out w0 HR.out).mono ?_
  rintro e w1 ⟨rfl, hb1⟩
  have HB1 := Lib.hid hb1
  clear hb1
  clear c0 c1 c2 c3 c4 a0 a1 a2 a3 a4
  obtain ⟨c0, c1, c2, c3, c4⟩ := HX.out.keep HB1.out
  obtain ⟨a0, a1, a2, a3, a4⟩ := HPa.out w1 HB1.out
  go_wp2
  go_ret
  exact ⟨congrArg Ending.returned (str_eq (by rw [← HE.out] <;> simp)), HB.out.trans (HB1.out.mono HB.out.size)⟩

set_option maxRecDepth 100000 in
set_option maxHeartbeats 4000000 in
theorem rline_37 (h : Nat) (t a : Tree) (i : ByteArray) (hop : t.op = 37) (hta : t.l = [a]) (hca : ExprD h a i) (hT : (T (h + 1) t i.data.toList).length ≤ 140737488355328) : StmtD (h + 1) t i := by
  intro d w sl hk
  obtain ⟨hlen, A, c, rfl⟩ := hk.form
  unfold maxLen at hlen
  have hFL : T (h + 1) t i.data.toList = [116, 104, 114, 111, 119, 32] ++ T h a i.data.toList ++ [59] := by simp [T, stepT, hop, hta]
  have hT' := hT
  rw [hFL] at hT'
  simp only [List.length_append, List.length_cons, List.length_nil] at hT'
  obtain ⟨p, sa, da, _, rfl, hPa, hKa, _⟩ := hk.at_ (show t.l[0]? = some a by rw [hta]; rfl)
  rw [show p.add (0 * 5) = p from rfl] at hPa
  obtain ⟨_, Aa, ca', rfl⟩ := hKa.form
  have hll : t.l.length = 1 := by rw [hta]; rfl
  have hlt0 : 0 < t.l.length := by omega
  have hli0 : (0 : Int) < (t.l.length : Int) := by omega
  rw [hop]
  obtain ⟨w0, hw0⟩ : ∃ w0, w.alloc (.cells #[.int .i64 37, .string t.s, .int .i64 t.n, (.slice (some p) t.l.length c), .int .i64 t.line] 24) = w0 := ⟨_, rfl⟩
  have bx : Blk5 w0 w.heap.size 37 t.s t.n (.slice (some p) t.l.length c) t.line := by rw [← hw0]; exact blk5_new _ _ _ _ _ _
  have hb0 : Below w.heap.size w w0 := by rw [← hw0]; exact (Below.refl _ _).alloc (Nat.le_refl _) _
  have HB := Lib.hid hb0
  have HX := Lib.hid bx
  have HR : Hid (Below w0.heap.size w0 w0) := Lib.hid (Below.refl _ _)
  have HAa := Lib.hid (fun (w9 : World) (hb9 : Below w0.heap.size w0 w9) => (hca da w9 _ (hKa.below (HB.out.trans (hb9.mono HB.out.size)))).mono fun e w' (hq : _ ∧ _) => (⟨hq.1, hb9.trans (hq.2.mono hb9.size)⟩ : e = _ ∧ Below w0.heap.size w0 w'))
  have HPa := Lib.hid (fun (w9 : World) (hb9 : Below w0.heap.size w0 w9) => hPa.below (HB.out.trans (hb9.mono HB.out.size)))
  have hza := bs_size (T h a i.data.toList)
  have HFL := Lib.hid hFL
  clear hb0 hk hT hop hta hFL hll hca hPa hKa
  generalize T h a i.data.toList = Xa at HFL hT' HAa hza
  obtain ⟨Ba, hBa⟩ : ∃ b : ByteArray, (⟨Xa.toArray⟩ : ByteArray) = b := ⟨_, rfl⟩
  have HE : Hid ([116, 104, 114, 111, 119, 32] ++ Ba.data.toList ++ [59] = T (h + 1) t i.data.toList) := Lib.hid (by rw [HFL.out, ← hBa])
  rw [hBa] at HAa hza
  have z0 : ¬ 9223372036854775807 < 6 + Ba.size := by omega
  have z1 : ¬ 9223372036854775807 < 6 + Ba.size + 1 := by omega
  clear HFL hT' hBa hza
  obtain ⟨c0, c1, c2, c3, c4⟩ := HX.out.keep HR.out
  obtain ⟨a0, a1, a2, a3, a4⟩ := HPa.out w0 HR.out
  go_enter Tryd.func77, Tryd.ntmps77
  go_wp2_with fail
  refine (HAa.out w0 HR.out).mono ?_
  rintro e w1 ⟨rfl, hb1⟩
  have HB1 := Lib.hid hb1
  clear hb1
  clear c0 c1 c2 c3 c4 a0 a1 a2 a3 a4
  obtain ⟨c0, c1, c2, c3, c4⟩ := HX.out.keep HB1.out
  obtain ⟨a0, a1, a2, a3, a4⟩ := HPa.out w1 HB1.out
  go_wp2
  go_ret
  exact ⟨congrArg Ending.returned (str_eq (by rw [← HE.out] <;> simp)), HB.out.trans (HB1.out.mono HB.out.size)⟩

set_option maxRecDepth 100000 in
set_option maxHeartbeats 4000000 in
theorem rline_38 (h : Nat) (t a b : Tree) (i : ByteArray) (hop : t.op = 38) (hta : t.l = [a, b]) (hca : BlockD h a i) (hcb : BlockD h b i) (hT : (T (h + 1) t i.data.toList).length ≤ 140737488355328) : StmtD (h + 1) t i := by
  intro d w sl hk
  obtain ⟨hlen, A, c, rfl⟩ := hk.form
  unfold maxLen at hlen
  have hFL : T (h + 1) t i.data.toList = [116, 114, 121, 32] ++ T h a i.data.toList ++ [32, 99, 97, 116, 99, 104, 32, 40] ++ t.s.data.toList ++ [41, 32] ++ T h b i.data.toList := by simp [T, stepT, hop, hta]
  have hT' := hT
  rw [hFL] at hT'
  simp only [List.length_append, List.length_cons, List.length_nil] at hT'
  rw [size_list t.s] at hT'
  obtain ⟨p, sa, da, _, rfl, hPa, hKa, _⟩ := hk.at_ (show t.l[0]? = some a by rw [hta]; rfl)
  rw [show p.add (0 * 5) = p from rfl] at hPa
  obtain ⟨_, Aa, ca', rfl⟩ := hKa.form
  obtain ⟨p1, sb, db, _, hpp1, hPb, hKb, _⟩ := hk.at_ (show t.l[1]? = some b by rw [hta]; rfl)
  obtain rfl : p = p1 := by injection hpp1
  rw [show p.add (1 * 5) = ⟨p.block, p.off + 5, none⟩ from rfl] at hPb
  obtain ⟨_, Ab, cb', rfl⟩ := hKb.form
  have hll : t.l.length = 2 := by rw [hta]; rfl
  have hlt0 : 0 < t.l.length := by omega
  have hli0 : (0 : Int) < (t.l.length : Int) := by omega
  have hlt1 : 1 < t.l.length := by omega
  have hli1 : (1 : Int) < (t.l.length : Int) := by omega
  rw [hop]
  obtain ⟨w0, hw0⟩ : ∃ w0, w.alloc (.cells #[.int .i64 38, .string t.s, .int .i64 t.n, (.slice (some p) t.l.length c), .int .i64 t.line] 24) = w0 := ⟨_, rfl⟩
  have bx : Blk5 w0 w.heap.size 38 t.s t.n (.slice (some p) t.l.length c) t.line := by rw [← hw0]; exact blk5_new _ _ _ _ _ _
  have hb0 : Below w.heap.size w w0 := by rw [← hw0]; exact (Below.refl _ _).alloc (Nat.le_refl _) _
  have HB := Lib.hid hb0
  have HX := Lib.hid bx
  have HR : Hid (Below w0.heap.size w0 w0) := Lib.hid (Below.refl _ _)
  have HAa := Lib.hid (fun (w9 : World) (hb9 : Below w0.heap.size w0 w9) => (hca da w9 _ (hKa.below (HB.out.trans (hb9.mono HB.out.size)))).mono fun e w' (hq : _ ∧ _) => (⟨hq.1, hb9.trans (hq.2.mono hb9.size)⟩ : e = _ ∧ Below w0.heap.size w0 w'))
  have HPa := Lib.hid (fun (w9 : World) (hb9 : Below w0.heap.size w0 w9) => hPa.below (HB.out.trans (hb9.mono HB.out.size)))
  have HAb := Lib.hid (fun (w9 : World) (hb9 : Below w0.heap.size w0 w9) => (hcb db w9 _ (hKb.below (HB.out.trans (hb9.mono HB.out.size)))).mono fun e w' (hq : _ ∧ _) => (⟨hq.1, hb9.trans (hq.2.mono hb9.size)⟩ : e = _ ∧ Below w0.heap.size w0 w'))
  have HPb := Lib.hid (fun (w9 : World) (hb9 : Below w0.heap.size w0 w9) => hPb.below (HB.out.trans (hb9.mono HB.out.size)))
  have hza := bs_size (T h a i.data.toList)
  have hzb := bs_size (T h b i.data.toList)
  have HFL := Lib.hid hFL
  clear hb0 hk hT hop hta hFL hll hca hPa hKa hcb hPb hKb
  generalize T h a i.data.toList = Xa at HFL hT' HAa hza
  obtain ⟨Ba, hBa⟩ : ∃ b : ByteArray, (⟨Xa.toArray⟩ : ByteArray) = b := ⟨_, rfl⟩
  generalize T h b i.data.toList = Xb at HFL hT' HAb hzb
  obtain ⟨Bb, hBb⟩ : ∃ b : ByteArray, (⟨Xb.toArray⟩ : ByteArray) = b := ⟨_, rfl⟩
  have HE : Hid ([116, 114, 121, 32] ++ Ba.data.toList ++ [32, 99, 97, 116, 99, 104, 32, 40] ++ t.s.data.toList ++ [41, 32] ++ Bb.data.toList = T (h + 1) t i.data.toList) := Lib.hid (by rw [HFL.out, ← hBa, ← hBb])
  rw [hBa] at HAa hza
  rw [hBb] at HAb hzb
  have z0 : ¬ 9223372036854775807 < 4 + Ba.size := by omega
  have z1 : ¬ 9223372036854775807 < 4 + Ba.size + 8 := by omega
  have z2 : ¬ 9223372036854775807 < 4 + Ba.size + 8 + t.s.size := by omega
  have z3 : ¬ 9223372036854775807 < 4 + Ba.size + 8 + t.s.size + 2 := by omega
  have z4 : ¬ 9223372036854775807 < 4 + Ba.size + 8 + t.s.size + 2 + Bb.size := by omega
  clear HFL hT' hBa hza hBb hzb
  obtain ⟨c0, c1, c2, c3, c4⟩ := HX.out.keep HR.out
  obtain ⟨a0, a1, a2, a3, a4⟩ := HPa.out w0 HR.out
  obtain ⟨b0, b1, b2, b3, b4⟩ := HPb.out w0 HR.out
  go_enter Tryd.func77, Tryd.ntmps77
  have SC : Hid (∀ (w9 : World), Below w0.heap.size w0 w9 → (w9.cell? ⟨w.heap.size, 3, none⟩ = some (.slice (some p) t.l.length c) ∧ w9.cell? ⟨w.heap.size, 1, none⟩ = some (.string t.s) ∧ w9.cell? p = some (.int .i64 a.op) ∧ w9.cell? ⟨p.block, p.off + 1, none⟩ = some (.string a.s) ∧ w9.cell? ⟨p.block, p.off + 2, none⟩ = some (.int .i64 a.n) ∧ w9.cell? ⟨p.block, p.off + 3, none⟩ = some (.slice Aa a.l.length ca') ∧ w9.cell? ⟨p.block, p.off + 4, none⟩ = some (.int .i64 a.line) ∧ w9.cell? ⟨p.block, p.off + 5, none⟩ = some (.int .i64 b.op) ∧ w9.cell? ⟨p.block, p.off + 6, none⟩ = some (.string b.s) ∧ w9.cell? ⟨p.block, p.off + 7, none⟩ = some (.int .i64 b.n) ∧ w9.cell? ⟨p.block, p.off + 8, none⟩ = some (.slice Ab b.l.length cb') ∧ w9.cell? ⟨p.block, p.off + 9, none⟩ = some (.int .i64 b.line))) := Lib.hid fun w9 hb9 => ⟨(HX.out.keep hb9).c3, (HX.out.keep hb9).c1, (HPa.out w9 hb9).c0, (HPa.out w9 hb9).c1, (HPa.out w9 hb9).c2, (HPa.out w9 hb9).c3, (HPa.out w9 hb9).c4, (HPb.out w9 hb9).c0, (HPb.out w9 hb9).c1, (HPb.out w9 hb9).c2, (HPb.out w9 hb9).c3, (HPb.out w9 hb9).c4⟩
  have hd0 : Below w0.heap.size w0 w0.drew := HR.out.drew
  go_wp2
  go_region_held3 (fun w9 => (w9.cell? ⟨w.heap.size, 3, none⟩ = some (.slice (some p) t.l.length c) ∧ w9.cell? ⟨w.heap.size, 1, none⟩ = some (.string t.s) ∧ w9.cell? p = some (.int .i64 a.op) ∧ w9.cell? ⟨p.block, p.off + 1, none⟩ = some (.string a.s) ∧ w9.cell? ⟨p.block, p.off + 2, none⟩ = some (.int .i64 a.n) ∧ w9.cell? ⟨p.block, p.off + 3, none⟩ = some (.slice Aa a.l.length ca') ∧ w9.cell? ⟨p.block, p.off + 4, none⟩ = some (.int .i64 a.line) ∧ w9.cell? ⟨p.block, p.off + 5, none⟩ = some (.int .i64 b.op) ∧ w9.cell? ⟨p.block, p.off + 6, none⟩ = some (.string b.s) ∧ w9.cell? ⟨p.block, p.off + 7, none⟩ = some (.int .i64 b.n) ∧ w9.cell? ⟨p.block, p.off + 8, none⟩ = some (.slice Ab b.l.length cb') ∧ w9.cell? ⟨p.block, p.off + 9, none⟩ = some (.int .i64 b.line))) (first
    | exact SC.out _ (by assumption)
    | go_keep) (first
    | (go_at_call 104; refine calls_fstD (b := .agg #[.int .i64 a.op, .string a.s, .int .i64 a.n, .slice Aa a.l.length ca', .int .i64 a.line]) rfl ?_; refine (HAa.out _ (by assumption)).mono ?_; rintro e wz ⟨rfl, hbz⟩)
    | (go_at_call 104; refine calls_fstD (b := .agg #[.int .i64 b.op, .string b.s, .int .i64 b.n, .slice Ab b.l.length cb', .int .i64 b.line]) rfl ?_; refine (HAb.out _ (by assumption)).mono ?_; rintro e wz ⟨rfl, hbz⟩))
  all_goals
    go_wp2
    go_ret
    exact ⟨congrArg Ending.returned (str_eq (by rw [← HE.out] <;> simp)), HB.out.trans (Below.mono (by assumption) HB.out.size)⟩

set_option maxRecDepth 100000 in
set_option maxHeartbeats 4000000 in
theorem rline_39 (h : Nat) (t : Tree) (i : ByteArray) (hop : t.op = 39) (hta : t.l = []) (hT : (T (h + 1) t i.data.toList).length ≤ 140737488355328) : StmtD (h + 1) t i := by
  intro d w sl hk
  obtain ⟨hlen, A, c, rfl⟩ := hk.form
  unfold maxLen at hlen
  have hFL : T (h + 1) t i.data.toList = [98, 114, 101, 97, 107, 59] := by simp [T, stepT, hop]
  have hT' := hT
  rw [hFL] at hT'
  simp only [List.length_cons, List.length_nil] at hT'
  have hll : t.l.length = 0 := by rw [hta]; rfl
  have hl0 : ¬ (0 : Int) < (t.l.length : Int) := by omega
  rw [hop]
  obtain ⟨w0, hw0⟩ : ∃ w0, w.alloc (.cells #[.int .i64 39, .string t.s, .int .i64 t.n, (.slice A t.l.length c), .int .i64 t.line] 24) = w0 := ⟨_, rfl⟩
  have bx : Blk5 w0 w.heap.size 39 t.s t.n (.slice A t.l.length c) t.line := by rw [← hw0]; exact blk5_new _ _ _ _ _ _
  have hb0 : Below w.heap.size w w0 := by rw [← hw0]; exact (Below.refl _ _).alloc (Nat.le_refl _) _
  have HB := Lib.hid hb0
  have HX := Lib.hid bx
  have HR : Hid (Below w0.heap.size w0 w0) := Lib.hid (Below.refl _ _)
  have HFL := Lib.hid hFL
  clear hb0 hk hT hop hta hFL hll
  have HE : Hid ([98, 114, 101, 97, 107, 59] = T (h + 1) t i.data.toList) := Lib.hid (by rw [HFL.out])
  clear HFL hT'
  obtain ⟨c0, c1, c2, c3, c4⟩ := HX.out.keep HR.out
  go_enter Tryd.func77, Tryd.ntmps77
  go_wp2
  go_ret
  exact ⟨congrArg Ending.returned (str_eq (by rw [← HE.out] <;> simp)), HB.out.trans (HR.out.mono HB.out.size)⟩

set_option maxRecDepth 100000 in
set_option maxHeartbeats 4000000 in
theorem rline_40 (h : Nat) (t : Tree) (i : ByteArray) (hop : t.op = 40) (hta : t.l = []) (hT : (T (h + 1) t i.data.toList).length ≤ 140737488355328) : StmtD (h + 1) t i := by
  intro d w sl hk
  obtain ⟨hlen, A, c, rfl⟩ := hk.form
  unfold maxLen at hlen
  have hFL : T (h + 1) t i.data.toList = [99, 111, 110, 116, 105, 110, 117, 101, 59] := by simp [T, stepT, hop]
  have hT' := hT
  rw [hFL] at hT'
  simp only [List.length_cons, List.length_nil] at hT'
  have hll : t.l.length = 0 := by rw [hta]; rfl
  have hl0 : ¬ (0 : Int) < (t.l.length : Int) := by omega
  rw [hop]
  obtain ⟨w0, hw0⟩ : ∃ w0, w.alloc (.cells #[.int .i64 40, .string t.s, .int .i64 t.n, (.slice A t.l.length c), .int .i64 t.line] 24) = w0 := ⟨_, rfl⟩
  have bx : Blk5 w0 w.heap.size 40 t.s t.n (.slice A t.l.length c) t.line := by rw [← hw0]; exact blk5_new _ _ _ _ _ _
  have hb0 : Below w.heap.size w w0 := by rw [← hw0]; exact (Below.refl _ _).alloc (Nat.le_refl _) _
  have HB := Lib.hid hb0
  have HX := Lib.hid bx
  have HR : Hid (Below w0.heap.size w0 w0) := Lib.hid (Below.refl _ _)
  have HFL := Lib.hid hFL
  clear hb0 hk hT hop hta hFL hll
  have HE : Hid ([99, 111, 110, 116, 105, 110, 117, 101, 59] = T (h + 1) t i.data.toList) := Lib.hid (by rw [HFL.out])
  clear HFL hT'
  obtain ⟨c0, c1, c2, c3, c4⟩ := HX.out.keep HR.out
  go_enter Tryd.func77, Tryd.ntmps77
  go_wp2
  go_ret
  exact ⟨congrArg Ending.returned (str_eq (by rw [← HE.out] <;> simp)), HB.out.trans (HR.out.mono HB.out.size)⟩

end Go.Proofs.YtcidccifnaecaaaDoor

