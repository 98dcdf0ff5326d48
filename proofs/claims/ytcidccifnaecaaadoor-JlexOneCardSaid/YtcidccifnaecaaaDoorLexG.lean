/- A text in quotes: walked. -/
import Derived.Test.YtcidccifnaecaaaDoorLexE
namespace Go.Proofs.YtcidccifnaecaaaDoor
open Go.RowKit Go.Sort

def quoOut (r : Option (List UInt8 × Nat)) : Ending := match r with
  | none => .returned (.tuple #[.string ⟨#[]⟩, .int .i64 0])
  | some p => .returned (.tuple #[.string ⟨p.1.toArray⟩, .int .i64 (p.2 + 1 : Nat)])

/-- Where a quoted text is gone through: what it says so far, what is to come. -/
def QAt (c : UInt8) (r l acc : List UInt8) (k : Nat) : Prop := acc.length ≤ k ∧ ∃ f, (l.drop k).length ≤ f ∧ quotedF c r.length r = (quotedF c f (l.drop k)).map fun p => (acc ++ p.1, p.2 + (k - 1))
theorem QAt.start (c : UInt8) (r : List UInt8) : QAt c r (c :: r) [] 1 := by
  refine ⟨by simp, r.length, by simp, ?_⟩
  simp
theorem QAt.over {c : UInt8} {r l acc : List UInt8} {k : Nat} (h : QAt c r l acc k) (hk : l.length ≤ k) : quotedF c r.length r = none := by
  obtain ⟨_, f, _, h⟩ := h
  rw [List.drop_eq_nil_of_le hk] at h
  rw [h]
  cases f <;> rfl
section
variable {c b : UInt8} {r l acc : List UInt8} {k : Nat}
theorem QAt.at_ (h : QAt c r l acc k) (hk : l[k]? = some b) : acc.length ≤ k ∧ ∃ f, (l.drop (k + 1)).length ≤ f ∧ quotedF c r.length r = (quotedF c (f + 1) (b :: l.drop (k + 1))).map fun p => (acc ++ p.1, p.2 + (k - 1)) := by
  obtain ⟨h0, f, hf, h⟩ := h
  have hlt : k < l.length := (List.getElem?_eq_some_iff.1 hk).1
  have hd : l.drop k = b :: l.drop (k + 1) := by
    rw [List.drop_eq_getElem_cons hlt]
    congr 1
    rw [List.getElem?_eq_getElem hlt] at hk
    exact Option.some.inj hk
  rw [hd] at hf h
  simp only [List.length_cons] at hf
  obtain ⟨f, rfl⟩ : ∃ g, f = g + 1 := ⟨f - 1, by omega⟩
  exact ⟨h0, f, by omega, h⟩
theorem QAt.close (h : QAt c r l acc k) (hk : l[k]? = some b) (hb : b = c) (h1 : 1 ≤ k) : quotedF c r.length r = some (acc, k) := by
  obtain ⟨_, f, _, h⟩ := h.at_ hk
  rw [h]
  simp only [quotedF, if_pos hb, Option.map_some, List.append_nil]
  congr 2
  omega
theorem QAt.bad (h : QAt c r l acc k) (hk : l[k]? = some b) (hb : b ≠ c) (h1 : b = 92) (he : escapedF (l.drop (k + 1)) = none) : quotedF c r.length r = none := by
  obtain ⟨_, f, _, h⟩ := h.at_ hk
  rw [h]
  simp only [quotedF, if_neg hb, if_pos h1, he, Option.map_none]
theorem QAt.esc (h : QAt c r l acc k) (hk : l[k]? = some b) (hb : b ≠ c) (h1 : b = 92) {x : UInt8} {m : Nat} (he : escapedF (l.drop (k + 1)) = some (x, m)) (hk1 : 1 ≤ k) : QAt c r l (acc ++ [x]) (k + m + 1) ∧ k + m + 1 ≤ l.length := by
  obtain ⟨h0, f, hf, h⟩ := h.at_ hk
  obtain ⟨e1, e2, _⟩ := escaped_le he
  rw [List.length_drop] at e2
  have hlt : k < l.length := (List.getElem?_eq_some_iff.1 hk).1
  refine ⟨⟨by simp; omega, f, by rw [List.length_drop] at hf ⊢; omega, ?_⟩, by omega⟩
  rw [h]
  simp only [quotedF, if_neg hb, if_pos h1, he, List.drop_drop]
  rw [show k + 1 + m = k + m + 1 by omega]
  cases quotedF c f (l.drop (k + m + 1)) with
  | none => rfl
  | some p =>
    simp only [Option.map_some, List.append_assoc, List.cons_append, List.nil_append]
    congr 2
    omega
theorem QAt.far (h : QAt c r l acc k) (hk : l[k]? = some b) (hb : b ≠ c) (h1 : b ≠ 92) (h2 : b.toNat < 32 ∨ 126 < b.toNat) : quotedF c r.length r = none := by
  obtain ⟨_, f, _, h⟩ := h.at_ hk
  rw [h]
  simp only [quotedF, if_neg hb, if_neg h1, if_pos h2, Option.map_none]
theorem QAt.plain (h : QAt c r l acc k) (hk : l[k]? = some b) (hb : b ≠ c) (h1 : b ≠ 92) (h2 : ¬ (b.toNat < 32 ∨ 126 < b.toNat)) (hk1 : 1 ≤ k) : QAt c r l (acc ++ [b]) (k + 1) := by
  obtain ⟨h0, f, hf, h⟩ := h.at_ hk
  refine ⟨by simp; omega, f, hf, ?_⟩
  rw [h]
  simp only [quotedF, if_neg hb, if_neg h1, if_neg h2]
  cases quotedF c f (l.drop (k + 1)) with
  | none => rfl
  | some p =>
    simp only [Option.map_some, List.append_assoc, List.cons_append, List.nil_append]
    congr 2
    omega
end

set_option maxRecDepth 100000 in
set_option maxHeartbeats 2000000 in
theorem quoted_calls (w : World) (s : ByteArray) (hs : s.size ≤ 1000000) (c : UInt8) (r : List UInt8) (hl : s.data.toList = c :: r) :
    Calls Tryd.prog 114 #[.string s] w fun e w' => e = quoOut (quotedF c r.length r) ∧ Below w.heap.size w w' := by
  have HN := Lib.hid (Bld.new w)
  have hsz : s.size = r.length + 1 := by rw [size_len, hl]; rfl
  have hpos : 0 < s.size := by omega
  have hc0 : s[0] = c := byte_at hpos (by rw [hl]; rfl)
  have HL := Lib.hid hl
  have HSZ := Lib.hid hsz
  clear hl hsz
  go_enter Tryd.func114, Tryd.ntmps114
  go_wp2
  go_loopw [5] (fun i wr => ∃ (k : Nat) (acc : List UInt8), 1 ≤ k ∧ k ≤ s.size ∧ i = .int .i64 k ∧ Bld w acc wr ∧ Hid (QAt c r (c :: r) acc k)) (fun i _ => s.size - (intOf i).toNat)
  case atStart => exact ⟨1, [], by omega, by omega, rfl, HN.out, Lib.hid (QAt.start c r)⟩
  case round =>
    obtain ⟨k, acc, hk1, hk, rfl, hb, HQ⟩ := hrel
    have HB := Lib.hid hb
    clear hb
    by_cases hlt : k < s.size
    · have hx := byte_some hlt
      rw [HL.out] at hx
      have hc256 := (s[k]).toNat_lt
      have HX := Lib.hid hx
      have HAL : Hid (acc.length ≤ k) := Lib.hid HQ.out.1
      clear hx
      cases h1 : ((s[k].toNat : Int) == (c.toNat : Int)) with
      | true =>
        have HF := Lib.hid (HQ.out.close HX.out (byte_is h1) hk1)
        go_wp2_with fail
        refine HB.out.told.mono ?_
        rintro e w3 ⟨rfl, hb3⟩
        have HB3 := Lib.hid hb3
        clear hb3
        go_wp2
        go_ret2
        exact ⟨by rw [HF.out]; rfl, HB3.out⟩
      | false =>
      have n1 : s[k] ≠ c := fun h => by rw [h] at h1; simp at h1
      cases h2 : ((s[k].toNat : Int) == 92) with
      | true =>
        have e92 := byte_is (d := 92) h2
        have HC := Lib.hid (escaped_calls wr (s.extract (k + 1) s.size) (by rw [ByteArray.size_extract]; omega))
        rw [extract_drop, HL.out] at HC
        cases he : escapedF ((c :: r).drop (k + 1)) with
        | none =>
          have HF := Lib.hid (HQ.out.bad HX.out n1 e92 he)
          rw [he] at HC
          clear n1 e92 he
          go_wp2_with fail
          refine HC.out.mono ?_
          rintro e w3 ⟨rfl, hb3⟩
          have HB3 := Lib.hid (HB.out.below hb3)
          clear hb3
          simp only [escOut]
          go_wp2
          go_ret2
          exact ⟨by rw [HF.out]; rfl, HB3.out.low⟩
        | some p =>
          obtain ⟨x, m⟩ := p
          obtain ⟨hq, hqm⟩ := HQ.out.esc HX.out n1 e92 he hk1
          have hm1 := (escaped_le he).1
          have HQ2 := Lib.hid hq
          have hkm : k + m + 1 ≤ s.size := by rw [HSZ.out]; simpa using hqm
          have hmi : ((m : Int) == 0) = false := by simp; omega
          have hmj : ¬ (m : Int) = 0 := by omega
          rw [he] at HC
          clear n1 e92 he hq hqm
          go_wp2_with fail
          refine HC.out.mono ?_
          rintro e w3 ⟨rfl, hb3⟩
          have HB3 := Lib.hid (HB.out.below hb3)
          clear hb3
          simp only [escOut]
          go_wp2_with fail
          refine (HB3.out.byte x (by have := HAL.out; omega)).mono ?_
          rintro e w4 ⟨rfl, hb4⟩
          have HB4 := Lib.hid hb4
          clear hb4
          go_wp2
          go_roundw
          case rel => exact ⟨k + m + 1, acc ++ [x], by omega, by omega, by go_num, HB4.out, HQ2⟩
          case measure => simp [intOf]; omega
      | false =>
      have n2 : s[k] ≠ 92 := fun h => by rw [h] at h2; simp at h2
      by_cases h3 : (s[k].toNat : Int) < 32
      · have HF := Lib.hid (HQ.out.far HX.out n1 n2 (.inl (by omega)))
        clear n1 n2
        go_wp2
        go_ret2
        exact ⟨by rw [HF.out]; rfl, HB.out.low⟩
      · by_cases h4 : (126 : Int) < (s[k].toNat : Int)
        · have HF := Lib.hid (HQ.out.far HX.out n1 n2 (.inr (by omega)))
          clear n1 n2
          go_wp2
          go_ret2
          exact ⟨by rw [HF.out]; rfl, HB.out.low⟩
        · have HQ2 := Lib.hid (HQ.out.plain HX.out n1 n2 (by omega) hk1)
          have h3' : (32 : Int) ≤ (s[k].toNat : Int) := by omega
          have h4' : (s[k].toNat : Int) ≤ 126 := by omega
          clear n1 n2 h3 h4
          go_wp2_with fail
          refine (HB.out.byte s[k] (by have := HAL.out; omega)).mono ?_
          rintro e w4 ⟨rfl, hb4⟩
          have HB4 := Lib.hid hb4
          clear hb4
          go_wp2
          go_roundw
          case rel => exact ⟨k + 1, acc ++ [s[k]], by omega, by omega, by go_num, HB4.out, HQ2⟩
          case measure => simp [intOf]; omega
    · have HF := Lib.hid (HQ.out.over (by have := HSZ.out; simp; omega))
      have hkk : k = s.size := by omega
      subst hkk
      have hdd : decide ((s.size : Int) < (s.size : Int)) = false := by simp
      go_wp2
      go_ret2
      exact ⟨by rw [HF.out]; rfl, HB.out.low⟩

end Go.Proofs.YtcidccifnaecaaaDoor
