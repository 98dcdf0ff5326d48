/- A byte in two digits of sixteen; an escape: walked. -/
import Derived.Test.YtcidccifnaecaaaDoorLexC
import Derived.Lib.ConvBytes
import Derived.Lib.SlTrimSet
import Derived.BigCall
import Derived.BigGuard
namespace Go.Proofs.YtcidccifnaecaaaDoor
open Go.RowKit Go.Sort

theorem lower_calls (w : World) (c : Int) : Calls Tryd.prog 166 #[.int .u8 c] w fun e w' => e = .returned (.int .u8 (bits .or .u8 c 32)) ∧ w = w' := by
  go_enter Tryd.func166, Tryd.ntmps166
  go_wp2
  go_ret
  exact ⟨rfl, rfl⟩
theorem or_32 : ∀ c : Fin 256, hexB (UInt8.ofNat c.val) = true → 57 < c.val → bits .or .u8 (c.val : Int) 32 = c.val := by decide +kernel
theorem hexB_cases {c : UInt8} (h : hexB c = true) : (48 ≤ c.toNat ∧ c.toNat ≤ 57 ∧ hexV c = c.toNat - 48) ∨ (97 ≤ c.toNat ∧ c.toNat ≤ 102 ∧ hexV c = c.toNat - 87 ∧ bits .or .u8 (c.toNat : Int) 32 = c.toNat) := by
  have h0 := h
  simp only [hexB, Bool.or_eq_true, Bool.and_eq_true, decide_eq_true_eq] at h
  rcases h with ⟨h1, h2⟩ | ⟨h1, h2⟩
  · exact .inl ⟨h1, h2, by unfold hexV; rw [if_pos h2]⟩
  · have := or_32 ⟨c.toNat, c.toNat_lt⟩ (by simpa using h0) (by show 57 < c.toNat; omega)
    exact .inr ⟨h1, h2, by unfold hexV; rw [if_neg (by omega)], this⟩

/-- The number of the first of two bytes. -/
def hexTo (x y : UInt8) : Nat → Nat
  | 0 => 0
  | 1 => hexV x
  | _ => 16 * hexV x + hexV y
theorem hexTo_next {x y : UInt8} (hx : hexB x = true) (hy : hexB y = true) (k : Nat) (hk : k < 2) : hexB ([x, y].getD k 0) = true ∧ hexTo x y k ≤ 15 ∧ hexTo x y (k + 1) = hexTo x y k * 16 + hexV ([x, y].getD k 0) := by
  have h1 : hexV x ≤ 15 := by rcases hexB_cases hx with ⟨_, _, h⟩ | ⟨_, _, h, _⟩ <;> omega
  match k, hk with
  | 0, _ => exact ⟨hx, by simp [hexTo], by simp [hexTo]⟩
  | 1, _ => exact ⟨hy, h1, by simp [hexTo]; omega⟩

set_option maxRecDepth 100000 in
set_option maxHeartbeats 4000000 in
theorem parse16_calls (w : World) (t : ByteArray) (x y : UInt8) (ht : t.data.toList = [x, y]) (hx : hexB x = true) (hy : hexB y = true) :
    Calls Tryd.prog 154 #[.string t, .int .i64 16, .int .i64 8] w fun e w' => e = .returned (.tuple #[.int .u64 (16 * hexV x + hexV y : Nat), .nilIface]) ∧ Below w.heap.size w w' := by
  have hsz : t.size = 2 := by rw [size_len, ht]; rfl
  have hemp : t.toList.isEmpty = false := by rw [ByteArray.toList_eq, ht]; rfl
  have hcv := Lib.run_convert_string_bytes (P := Tryd.prog) w 9 37 5 t (u := .string) Tryd.underlying9 Tryd.underlying37 Tryd.underlying5
  have hB : ∀ j, j < t.size → (Lib.bytesWorld w 5 t).cell? ⟨w.heap.size, j, none⟩ = some (.int .u8 (t.data.toList.getD j 0).toNat) := fun j hj => Lib.bytesWorld_cell w 5 t j hj
  have HB0 := Lib.hid (Lib.bytesWorld_below w 5 t)
  obtain ⟨W1, hW1⟩ : ∃ W1, W1 = Lib.bytesWorld w 5 t := ⟨_, rfl⟩
  rw [← hW1] at hcv hB HB0
  have HB := Lib.hid hB
  have HV := Lib.hid (hexTo_next hx hy)
  have HE : Hid (hexTo x y 2 = 16 * hexV x + hexV y) := Lib.hid rfl
  have HT := Lib.hid ht
  clear hW1 hB hx hy ht
  have hmv : IntKind.u64.wrap (IntKind.u64.wrap 256 - 1) = 255 := by
    rw [IntKind.wrap_u64, IntKind.wrap_u64]
    decide
  go_enter Tryd.func154, Tryd.ntmps154
  go_wp2
  go_loopw [12, 13, 101] (fun vu vn vi wr => ∃ (k : Nat) (a : Int), vu = .bool false ∧ vn = .int .u64 a ∧ vi = .int .i64 k ∧ k ≤ 2 ∧ wr = W1 ∧ Hid (a = (hexTo x y k : Int)))
    (fun _ _ vi _ => 2 - (intOf vi).toNat)
  case atStart => exact ⟨0, 0, rfl, rfl, rfl, by omega, by trivial, Lib.hid rfl⟩
  case round =>
    obtain ⟨k, a, rfl, rfl, rfl, hk, rfl, HA⟩ := hrel
    by_cases hkn : k < 2
    · have hc := HB.out k (by omega)
      rw [HT.out] at hc
      obtain ⟨h1, h2, h3⟩ := HV.out k hkn
      generalize [x, y].getD k 0 = c at hc h1 h3
      have hc256 : c.toNat < 256 := c.toNat_lt
      have a0 : 0 ≤ a := by have := HA.out; omega
      have a1 : a ≤ 15 := by have := HA.out; omega
      have HX := Lib.hid h3
      rcases hexB_cases h1 with ⟨hd0, hd1, hd2⟩ | ⟨hd0, hd1, hd2, hd3⟩
      · have HN : Hid (a * 16 + ((c.toNat : Int) - 48) = (hexTo x y (k + 1) : Int)) := Lib.hid (by have := HA.out; rw [HX.out, hd2]; omega)
        have iov : a * 16 + ((c.toNat : Int) - 48) ≤ 255 := by omega
        have icut : a < 1152921504606846976 := by omega
        clear h1 h2 h3 hd2
        go_wp2
        exact ⟨⟨k + 1, a * 16 + ((c.toNat : Int) - 48), rfl, (by first | rfl | (congr 1; omega)), (by first | rfl | (congr 1; omega)), by omega, by trivial, HN⟩, by simp [intOf]; omega⟩
      · have HN : Hid (a * 16 + ((c.toNat : Int) - 87) = (hexTo x y (k + 1) : Int)) := Lib.hid (by have := HA.out; rw [HX.out, hd2]; omega)
        have iov : a * 16 + ((c.toNat : Int) - 97 + 10) ≤ 255 := by omega
        have icut : a < 1152921504606846976 := by omega
        clear h1 h2 h3 hd2
        go_wp2_with (go_at_call 166; refine (lower_calls _ _).mono ?_; rintro e w' ⟨rfl, rfl⟩)
        exact ⟨⟨k + 1, a * 16 + ((c.toNat : Int) - 87), rfl, (by first | rfl | (congr 1; omega)), (by first | rfl | (congr 1; omega)), by omega, by trivial, HN⟩, by simp [intOf]; omega⟩
    · obtain rfl : k = 2 := by omega
      go_wp2
      go_ret2
      exact ⟨by rw [HA.out, HE.out]; rfl, HB0.out⟩

set_option maxRecDepth 100000 in
set_option maxHeartbeats 1000000 in
theorem pub16_calls (w : World) (t : ByteArray) (x y : UInt8) (ht : t.data.toList = [x, y]) (hx : hexB x = true) (hy : hexB y = true) :
    Calls Tryd.prog 150 #[.string t, .int .i64 16, .int .i64 8] w fun e w' => e = .returned (.tuple #[.int .u64 (16 * hexV x + hexV y : Nat), .nilIface]) ∧ Below w.heap.size w w' := by
  have HC := Lib.hid (parse16_calls w t x y ht hx hy)
  generalize 16 * hexV x + hexV y = q at HC ⊢
  clear ht hx hy
  go_enter Tryd.func150, Tryd.ntmps150
  go_wp2_with fail
  refine HC.out.mono ?_
  rintro e w' ⟨rfl, hb⟩
  have HB := Lib.hid hb
  clear hb
  go_wp2
  go_ret2
  exact ⟨rfl, HB.out⟩

def hexSet : ByteArray := ⟨#[48, 49, 50, 51, 52, 53, 54, 55, 56, 57, 97, 98, 99, 100, 101, 102]⟩
theorem hexSet_is : ∀ c : Fin 256, hexSet.data.toList.contains (UInt8.ofNat c.val) = hexB (UInt8.ofNat c.val) := by decide +kernel
theorem hexSet_at (c : UInt8) : hexSet.data.toList.contains c = hexB c := by
  have := hexSet_is ⟨c.toNat, c.toNat_lt⟩
  simpa using this
theorem hexSet_ascii : ∀ (j : Nat) b, hexSet.data.toList[j]? = some b → b.toNat < 128 := by
  intro j b h
  have hm := List.mem_of_getElem? h
  have : ∀ x ∈ hexSet.data.toList, x.toNat < 128 := by decide +kernel
  exact this b hm
theorem trim_two (a b : UInt8) : (Lib.trimS [a, b] hexSet.data.toList = []) ↔ (hexB a && hexB b) = true := by
  rw [← hexSet_at a, ← hexSet_at b]
  generalize hexSet.data.toList = cs
  unfold Lib.trimS Lib.trimLeftS Lib.trimRightS
  cases h1 : cs.contains a <;> cases h2 : cs.contains b <;>
    simp only [List.reverse_cons, List.reverse_nil, List.nil_append, List.cons_append, List.dropWhile, h1, h2] <;> simp

def escOut (r : Option (UInt8 × Nat)) : Ending := match r with
  | none => .returned (.tuple #[.int .u8 0, .int .i64 0])
  | some p => .returned (.tuple #[.int .u8 p.1.toNat, .int .i64 p.2])
theorem byte_u8 (n : Nat) (h : n < 256) : (UInt8.ofNat n).toNat = n := by simp; omega

set_option maxRecDepth 100000 in
set_option maxHeartbeats 1600000 in
theorem escaped_calls (w : World) (s : ByteArray) (hs : s.size ≤ 1000000) :
    Calls Tryd.prog 131 #[.string s] w fun e w' => e = escOut (escapedF s.data.toList) ∧ Below w.heap.size w w' := by
  obtain ⟨l, hl⟩ : ∃ l, s.data.toList = l := ⟨_, rfl⟩
  have hsz : s.size = l.length := by rw [size_len, hl]
  rw [hl]
  cases l with
  | nil =>
    have hem : s.toList.isEmpty = true := by rw [ByteArray.toList_eq, hl]; rfl
    clear hl hsz
    go_enter Tryd.func131, Tryd.ntmps131
    go_wp2
    go_ret2
    exact ⟨rfl, Below.refl _ _⟩
  | cons c r =>
    have hem : s.toList.isEmpty = false := by rw [ByteArray.toList_eq, hl]; rfl
    have hpos : 0 < s.size := by rw [hsz]; simp
    have hc0 : s[0] = c := byte_at hpos (by rw [hl]; rfl)
    have HL := Lib.hid hl
    have HSZ := Lib.hid hsz
    clear hl hsz
    cases h1 : ((c.toNat : Int) == 110) with
    | true =>
      have HE : Hid (escapedF (c :: r) = some (10, 1)) := Lib.hid (by rw [byte_is (d := 110) h1]; rfl)
      go_enter Tryd.func131, Tryd.ntmps131
      go_wp2
      go_ret2
      exact ⟨by rw [HE.out]; rfl, Below.refl _ _⟩
    | false =>
    cases h2 : ((c.toNat : Int) == 116) with
    | true =>
      have HE : Hid (escapedF (c :: r) = some (9, 1)) := Lib.hid (by rw [byte_is (d := 116) h2]; rfl)
      go_enter Tryd.func131, Tryd.ntmps131
      go_wp2
      go_ret2
      exact ⟨by rw [HE.out]; rfl, Below.refl _ _⟩
    | false =>
    cases h3 : ((c.toNat : Int) == 92) with
    | true =>
      have HE : Hid (escapedF (c :: r) = some (c, 1)) := Lib.hid (by rw [byte_is (d := 92) h3]; rfl)
      go_enter Tryd.func131, Tryd.ntmps131
      go_wp2
      go_ret2
      exact ⟨by rw [HE.out]; rfl, Below.refl _ _⟩
    | false =>
    cases h4 : ((c.toNat : Int) == 34) with
    | true =>
      have HE : Hid (escapedF (c :: r) = some (c, 1)) := Lib.hid (by rw [byte_is (d := 34) h4]; rfl)
      go_enter Tryd.func131, Tryd.ntmps131
      go_wp2
      go_ret2
      exact ⟨by rw [HE.out]; rfl, Below.refl _ _⟩
    | false =>
    cases h5 : ((c.toNat : Int) == 39) with
    | true =>
      have HE : Hid (escapedF (c :: r) = some (c, 1)) := Lib.hid (by rw [byte_is (d := 39) h5]; rfl)
      go_enter Tryd.func131, Tryd.ntmps131
      go_wp2
      go_ret2
      exact ⟨by rw [HE.out]; rfl, Below.refl _ _⟩
    | false =>
    have n1 : c ≠ 110 := fun h => by rw [h] at h1; simp at h1
    have n2 : c ≠ 116 := fun h => by rw [h] at h2; simp at h2
    have n3 : ¬ (c = 92 ∨ c = 34 ∨ c = 39) := by
      rintro (h | h | h)
      · rw [h] at h3; simp at h3
      · rw [h] at h4; simp at h4
      · rw [h] at h5; simp at h5
    cases h6 : ((c.toNat : Int) == 120) with
    | false =>
      have HE : Hid (escapedF (c :: r) = none) := Lib.hid (by
        have n6 : c ≠ 120 := fun h => by rw [h] at h6; simp at h6
        simp only [escapedF, n1, n2, n3, n6, if_false])
      clear n1 n2 n3
      go_enter Tryd.func131, Tryd.ntmps131
      go_wp2
      go_ret2
      exact ⟨by rw [HE.out]; rfl, Below.refl _ _⟩
    | true =>
    have n6 := byte_is (d := 120) h6
    match r, HL, HSZ with
    | [], HL, HSZ =>
      have HE : Hid (escapedF [c] = none) := Lib.hid (by simp only [escapedF, n1, n2, n3, if_false]; simp [n6])
      have hlt : s.size = 1 := HSZ.out
      clear n1 n2 n3 n6
      go_enter Tryd.func131, Tryd.ntmps131
      go_wp2
      go_ret2
      exact ⟨by rw [HE.out]; rfl, Below.refl _ _⟩
    | [a], HL, HSZ =>
      have HE : Hid (escapedF [c, a] = none) := Lib.hid (by simp only [escapedF, n1, n2, n3, if_false]; simp [n6])
      have hlt : s.size = 2 := HSZ.out
      clear n1 n2 n3 n6
      go_enter Tryd.func131, Tryd.ntmps131
      go_wp2
      go_ret2
      exact ⟨by rw [HE.out]; rfl, Below.refl _ _⟩
    | a :: b :: r, HL, HSZ =>
      have HE : Hid (escapedF (c :: a :: b :: r) = if hexB a && hexB b then some (UInt8.ofNat (16 * hexV a + hexV b), 3) else none) := Lib.hid (by simp only [escapedF, n1, n2, n3, if_false]; simp [n6])
      have hlt : 3 ≤ s.size := by rw [HSZ.out]; simp
      have hx : (s.extract 1 3).data.toList = [a, b] := by rw [extract_list, HL.out]; rfl
      have HT := Lib.hid (Tryd.strings_Trim (s.extract 1 3) hexSet w (by rw [ByteArray.size_extract]; omega) (by decide) hexSet_ascii)
      have HX := Lib.hid hx
      have htr := trim_two a b
      rw [hx] at HT
      generalize Lib.trimS [a, b] hexSet.data.toList = z at HT htr
      clear n1 n2 n3 n6 hx
      cases hab : (hexB a && hexB b) with
      | false =>
        have hz : (⟨z.toArray⟩ : ByteArray).toList.isEmpty = false := by
          rw [ByteArray.toList_eq]
          cases z with
          | nil => have := htr.1 rfl; rw [hab] at this; cases this
          | cons u z => rfl
        rw [hab] at HE
        generalize (⟨z.toArray⟩ : ByteArray) = zz at HT hz
        clear htr hab
        go_enter Tryd.func131, Tryd.ntmps131
        go_wp2_with fail
        refine HT.out.mono ?_
        rintro e w1 ⟨rfl, hb⟩
        have HB := Lib.hid hb
        clear hb
        go_wp2
        go_ret2
        exact ⟨by rw [HE.out]; rfl, HB.out⟩
      | true =>
        have hz : (⟨z.toArray⟩ : ByteArray).toList.isEmpty = true := by
          rw [ByteArray.toList_eq, htr.2 hab]
          rfl
        rw [hab] at HE
        have hq : 16 * hexV a + hexV b < 256 := by
          have := hab
          simp only [Bool.and_eq_true] at this
          rcases hexB_cases this.1 with ⟨_, _, h⟩ | ⟨_, _, h, _⟩ <;> rcases hexB_cases this.2 with ⟨_, _, h'⟩ | ⟨_, _, h', _⟩ <;> omega
        have HP := Lib.hid (fun w9 => pub16_calls w9 (s.extract 1 3) a b HX.out (by simp only [Bool.and_eq_true] at hab; exact hab.1) (by simp only [Bool.and_eq_true] at hab; exact hab.2))
        generalize (⟨z.toArray⟩ : ByteArray) = zz at HT hz
        generalize 16 * hexV a + hexV b = q at HE HP hq
        have hqi : (q : Int) < 256 := by omega
        have HQ := Lib.hid (byte_u8 q hq)
        clear htr hab hq
        go_enter Tryd.func131, Tryd.ntmps131
        go_wp2_with fail
        refine HT.out.mono ?_
        rintro e w1 ⟨rfl, hb⟩
        have HB := Lib.hid hb
        clear hb
        go_wp2_with fail
        refine (HP.out w1).mono ?_
        rintro e w2 ⟨rfl, hb⟩
        have HB2 := Lib.hid (HB.out.trans (hb.mono HB.out.size))
        clear hb
        go_wp2
        go_ret2
        exact ⟨by rw [HE.out]; show _ = Ending.returned (.tuple #[.int .u8 (UInt8.ofNat q).toNat, .int .i64 3]); rw [HQ.out]; rfl, HB2.out⟩

end Go.Proofs.YtcidccifnaecaaaDoor
