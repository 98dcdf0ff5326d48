/- The scanner's blanks, walked. -/
import Derived.Test.YtcidccifnaecaaaDoorLexA
import Derived.Test.YtcidccifnaecaaaDoorLexQ
import Derived.Test.YtcidccifnaecaaaDoorLaid
import Derived.Lib.IndexAny
import Derived.Deep.LoopGhost
namespace Go.Proofs.YtcidccifnaecaaaDoor
open Go.RowKit Go.Sort

theorem cell_kept {w w' : World} (hb : Below w.heap.size w w') {a : Addr} {v : Value} (hc : w.cell? a = some v) : w'.cell? a = some v := (hb.cell (World.block_lt_of_cell? w a hc)).trans hc
/-- What is laid, and the library's number of bytes. -/
structure LaidJ (w : World) : Prop where
  laid : Laid w
  mx : ∃ m, w.cell? ⟨3, 0, none⟩ = some (.int .i64 m)
theorem LaidJ.below {w w' : World} (h : LaidJ w) (hb : Below w.heap.size w w') : LaidJ w' := by
  obtain ⟨m, hm⟩ := h.mx
  exact ⟨h.laid.below hb, m, cell_kept hb hm⟩

theorem blankN_space {c : UInt8} {r : List UInt8} (h : 0 ≤ Lib.indexByte [32, 9, 13, 10] c) : blankN (c :: r) = some 1 := by
  have : spacesL.contains c = true := by rw [spacesL, Lib.contains_iff_indexByte]; simpa using h
  rw [blankN, if_pos this]
theorem blankN_line {c : UInt8} {r : List UInt8} (h : ¬ 0 ≤ Lib.indexByte [32, 9, 13, 10] c) (hp : [47, 47].isPrefixOf (c :: r) = true) :
    blankN (c :: r) = some (if Lib.indexByte (c :: r) 10 < 0 then (c :: r).length else (Lib.indexByte (c :: r) 10).toNat) ∧ 0 < (if Lib.indexByte (c :: r) 10 < 0 then (c :: r).length else (Lib.indexByte (c :: r) 10).toNat) := by
  have : ¬ spacesL.contains c = true := by rw [spacesL, Lib.contains_iff_indexByte]; simpa using h
  refine ⟨by rw [blankN, if_neg this, if_pos hp], ?_⟩
  simp only [List.isPrefixOf, Bool.and_eq_true, beq_iff_eq] at hp
  obtain ⟨rfl, _⟩ := hp
  have h0 := Lib.indexByte_ge r 10
  have h1 : Lib.indexByte (47 :: r) 10 = if Lib.indexByte r 10 == -1 then -1 else Lib.indexByte r 10 + 1 := by simp [Lib.indexByte]
  split
  · simp
  · rename_i h2
    rw [h1] at h2 ⊢
    split at h2
    · omega
    · rename_i h3
      rw [if_neg h3]
      simp at h3
      omega
theorem blankN_open {c : UInt8} {r : List UInt8} (h : ¬ 0 ≤ Lib.indexByte [32, 9, 13, 10] c) (hp : ¬ [47, 47].isPrefixOf (c :: r) = true) (hq : [47, 42].isPrefixOf (c :: r) = true) :
    blankN (c :: r) = if Lib.index ((c :: r).drop 2) [42, 47] < 0 then none else some ((Lib.index ((c :: r).drop 2) [42, 47]).toNat + 4) := by
  have : ¬ spacesL.contains c = true := by rw [spacesL, Lib.contains_iff_indexByte]; simpa using h
  rw [blankN, if_neg this, if_neg hp, if_pos hq]
  rfl
theorem blankN_none {c : UInt8} {r : List UInt8} (h : ¬ 0 ≤ Lib.indexByte [32, 9, 13, 10] c) (hp : ¬ [47, 47].isPrefixOf (c :: r) = true) (hq : ¬ [47, 42].isPrefixOf (c :: r) = true) : blankN (c :: r) = some 0 := by
  have : ¬ spacesL.contains c = true := by rw [spacesL, Lib.contains_iff_indexByte]; simpa using h
  rw [blankN, if_neg this, if_neg hp, if_neg hq]
theorem blanksF_step {f n : Nat} {x : Sc} (h : blankN x.s = some n) (hn : 0 < n) (hf : x.s.length ≤ f) (hs : x.s ≠ []) : ∃ g, blanksF f x = blanksF g (passF x n) ∧ (passF x n).s.length ≤ g ∧ (passF x n).s.length < x.s.length := by
  have hl : 0 < x.s.length := List.length_pos_iff.2 hs
  obtain ⟨g, rfl⟩ : ∃ g, f = g + 1 := ⟨f - 1, by omega⟩
  obtain ⟨m, rfl⟩ : ∃ m, n = m + 1 := ⟨n - 1, by omega⟩
  have hp := passF_len x (m + 1)
  exact ⟨g, by simp only [blanksF, h], by omega, by omega⟩
theorem blanksF_none {f : Nat} {x : Sc} (h : blankN x.s = none) (hf : x.s.length ≤ f) (hs : x.s ≠ []) : blanksF f x = (false, x) := by
  have hl : 0 < x.s.length := List.length_pos_iff.2 hs
  obtain ⟨g, rfl⟩ : ∃ g, f = g + 1 := ⟨f - 1, by omega⟩
  simp only [blanksF, h]
theorem passF_sum {x : Sc} {n B : Nat} (h : x.line + x.s.length ≤ B) : (passF x n).line + (passF x n).s.length ≤ B := by
  have h1 : (x.s.take n).count 10 ≤ (x.s.take n).length := List.count_le_length
  simp only [passF, List.length_take, List.length_drop] at h1 ⊢
  omega

set_option maxRecDepth 100000 in
set_option maxHeartbeats 1600000 in
theorem blanks_calls (w : World) (b : Nat) (x : Sc) (hx : ScAt w b x) (hL : ∀ w', Turn (fun k => k = b) w w' → LaidJ w') (hl : x.line + x.s.length ≤ 1000000) :
    Calls Tryd.prog 89 #[.pointer (some ⟨b, 0, none⟩)] w fun e w' => e = .returned (.bool (blanksF x.s.length x).1) ∧ ScAt w' b (blanksF x.s.length x).2 ∧ Turn (fun k => k = b) w w' := by
  have HX := Lib.hid hx
  have HJ := Lib.hid hL
  have HLN := Lib.hid hl
  clear hx hL hl
  go_enter Tryd.func89, Tryd.ntmps89
  go_wp2
  go_loopg [] (x.s.length) (fun k wr => ∃ (y : Sc) (f : Nat), k = y.s.length ∧ y.s.length ≤ f ∧ ScAt wr b y ∧ Turn (fun k => k = b) w wr ∧ y.line + y.s.length ≤ 1000000 ∧ blanksF f y = blanksF x.s.length x)
  case atStart => exact ⟨x, x.s.length, rfl, Nat.le_refl _, HX.out, Turn.refl _ _, HLN.out, rfl⟩
  case round =>
    obtain ⟨y, f, hk, hf, hat, hT, hln, hF⟩ := hrel
    have HAT := Lib.hid hat
    obtain ⟨cur, hcur, hb⟩ := hat
    have HT := Lib.hid hT
    have HF := Lib.hid hF
    have HFL := Lib.hid hf
    have HLY := Lib.hid hln
    have HK := Lib.hid hk
    have HC := Lib.hid hcur
    have c0 := hb.cell 0
    clear hT hF hf hln hk hb
    cases hem : cur.toList.isEmpty with
    | true =>
      have hs : y.s = [] := by
        rw [ByteArray.toList_eq] at hem
        rw [← hcur]
        exact List.isEmpty_iff.1 hem
      have HE : Hid (blanksF x.s.length x = (true, y)) := Lib.hid (by rw [← HF.out, blanksF_zero (by rw [hs]; rfl)])
      clear hcur hs
      go_wp2
      go_ret
      rw [HE.out]
      exact ⟨rfl, HAT.out, HT.out⟩
    | false =>
      have hs : y.s ≠ [] := by
        intro h
        rw [ByteArray.toList_eq, hcur, h] at hem
        simp at hem
      have hsz : cur.size = y.s.length := by rw [size_len, hcur]
      have hpos : 0 < cur.size := by rw [hsz]; exact List.length_pos_iff.2 hs
      have hlen : cur.size ≤ 1000000 := by have := HLY.out; omega
      have hcons : y.s = cur[0] :: y.s.drop 1 := by
        have h0 := byte_some hpos
        rw [hcur] at h0
        cases hy : y.s with
        | nil => exact absurd hy hs
        | cons c r => rw [hy] at h0; simp at h0; simp [h0]
      have HS := Lib.hid hs
      have HCONS := Lib.hid hcons
      have HSZ := Lib.hid hsz
      clear hcons hs hsz hcur
      go_wp2_with fail
      refine (Tryd.strings_IndexByte _ _ _).mono ?_
      rintro e w' ⟨rfl, rfl⟩
      have e8 : Lib.indexByte (⟨#[32, 9, 13, 10]⟩ : ByteArray).data.toList ((cur[0].toNat : Int)).toNat.toUInt8 = Lib.indexByte [32, 9, 13, 10] cur[0] := by simp
      rw [e8]
      clear e8
      have HP1 := Lib.hid (Tryd.strings_HasPrefix cur ⟨#[47, 47]⟩)
      have HP2 := Lib.hid (Tryd.strings_HasPrefix cur ⟨#[47, 42]⟩)
      rw [show Lib.hasPrefix cur.data.toList (⟨#[47, 47]⟩ : ByteArray).data.toList = [47, 47].isPrefixOf y.s by rw [HC.out]; rfl] at HP1
      rw [show Lib.hasPrefix cur.data.toList (⟨#[47, 42]⟩ : ByteArray).data.toList = [47, 42].isPrefixOf y.s by rw [HC.out]; rfl] at HP2
      have HGO : Hid (∀ n : Nat, blankN y.s = some n → 0 < n → (∃ g, blanksF f y = blanksF g (passF y n) ∧ (passF y n).s.length ≤ g ∧ (passF y n).s.length < y.s.length) ∧ n ≤ y.s.length ∧ (passF y n).line + (passF y n).s.length ≤ 1000000) :=
        Lib.hid fun n h1 h2 => ⟨blanksF_step h1 h2 HFL.out HS.out, blankN_le _ h1, passF_sum HLY.out⟩
      obtain ⟨q, hq⟩ : ∃ q, Lib.indexByte [32, 9, 13, 10] cur[0] = q := ⟨_, rfl⟩
      rw [hq]
      have HQ := Lib.hid hq
      clear hq
      cases h1 : decide (0 ≤ q) with
      | true =>
        have hb1 : blankN y.s = some 1 := by rw [HCONS.out]; exact blankN_space (by rw [HQ.out]; simpa using h1)
        obtain ⟨⟨g, hg1, hg2, hg3⟩, hle, hsum⟩ := HGO.out 1 hb1 (by decide)
        have HE := Lib.hid hg1
        clear hb1 hg1
        go_wp2_with fail
        refine (pass_calls _ b y 1 HAT.out hle HLY.out).mono ?_
        rintro e w2 ⟨⟨v, rfl⟩, hat2, hT2⟩
        have HA2 := Lib.hid hat2
        have HT2 := Lib.hid (HT.out.trans hT2 (fun _ _ h => h))
        clear hat2 hT2
        go_wp2
        go_roundg ((passF y 1).s.length)
        case measure => rw [HK.out]; exact hg3
        case rel => exact ⟨passF y 1, g, rfl, hg2, HA2.out, HT2.out, hsum, by rw [← HE.out]; exact HF.out⟩
      | false =>
      have hn1 : ¬ 0 ≤ Lib.indexByte [32, 9, 13, 10] cur[0] := by rw [HQ.out]; simpa using h1
      have HN1 := Lib.hid hn1
      clear hn1
      cases hp1 : [47, 47].isPrefixOf y.s with
      | true =>
        rw [hp1] at HP1
        have hbl := blankN_line (r := y.s.drop 1) HN1.out (by rw [← HCONS.out]; exact hp1)
        rw [← HCONS.out] at hbl
        obtain ⟨m2, hm2⟩ : ∃ m2, (if Lib.indexByte y.s 10 < 0 then y.s.length else (Lib.indexByte y.s 10).toNat) = m2 := ⟨_, rfl⟩
        rw [hm2] at hbl
        obtain ⟨⟨g, hg1, hg2, hg3⟩, hle, hsum⟩ := HGO.out m2 hbl.1 hbl.2
        have HE := Lib.hid hg1
        obtain ⟨q2, hq2⟩ : ∃ q2, Lib.indexByte y.s 10 = q2 := ⟨_, rfl⟩
        rw [hq2] at hm2
        have HQ2 := Lib.hid hq2
        clear hbl hg1 hp1 hq2
        go_wp2_with fail
        refine (HP1.out _).mono ?_
        rintro e w' ⟨rfl, rfl⟩
        go_wp2_with fail
        refine (Tryd.strings_IndexByte _ _ _).mono ?_
        rintro e w' ⟨rfl, rfl⟩
        have e8 : Lib.indexByte cur.data.toList (10 : Int).toNat.toUInt8 = q2 := by rw [HC.out, ← HQ2.out]; rfl
        rw [e8]
        clear e8
        cases h2 : decide (q2 < 0) with
        | true =>
          rw [if_pos (by simpa using h2)] at hm2
          have hm3 : (cur.size : Int) = (m2 : Int) := by rw [HSZ.out, hm2]
          clear hm2
          go_wp2_with fail
          refine (pass_calls _ b y m2 HAT.out hle HLY.out).mono ?_
          rintro e w2 ⟨⟨v, rfl⟩, hat2, hT2⟩
          have HA2 := Lib.hid hat2
          have HT2 := Lib.hid (HT.out.trans hT2 (fun _ _ h => h))
          clear hat2 hT2 hm3
          go_wp2
          go_roundg ((passF y m2).s.length)
          case measure => rw [HK.out]; exact hg3
          case rel => exact ⟨passF y m2, g, rfl, hg2, HA2.out, HT2.out, hsum, by rw [← HE.out]; exact HF.out⟩
        | false =>
          rw [if_neg (by simpa using h2)] at hm2
          have hm3 : q2 = (m2 : Int) := by
            have : ¬ q2 < 0 := by simpa using h2
            omega
          clear hm2
          subst hm3
          go_wp2_with fail
          refine (pass_calls _ b y m2 HAT.out hle HLY.out).mono ?_
          rintro e w2 ⟨⟨v, rfl⟩, hat2, hT2⟩
          have HA2 := Lib.hid hat2
          have HT2 := Lib.hid (HT.out.trans hT2 (fun _ _ h => h))
          clear hat2 hT2
          go_wp2
          go_roundg ((passF y m2).s.length)
          case measure => rw [HK.out]; exact hg3
          case rel => exact ⟨passF y m2, g, rfl, hg2, HA2.out, HT2.out, hsum, by rw [← HE.out]; exact HF.out⟩
      | false =>
      rw [hp1] at HP1
      have hn2 : ¬ ([47, 47] : List UInt8).isPrefixOf (cur[0] :: y.s.drop 1) = true := by rw [← HCONS.out, hp1]; decide
      have HN2 := Lib.hid hn2
      clear hn2 hp1
      cases hp2 : [47, 42].isPrefixOf y.s with
      | true =>
        rw [hp2] at HP2
        have hbl := blankN_open (r := y.s.drop 1) HN1.out HN2.out (by rw [← HCONS.out]; exact hp2)
        rw [← HCONS.out] at hbl
        obtain ⟨mx, hmx⟩ := (HJ.out _ HT.out).mx
        have hl2 : 2 ≤ cur.size := by
          have := (pre_take hp2).2
          rw [HSZ.out]
          simpa using this
        obtain ⟨q3, hq3⟩ : ∃ q3, Lib.index (y.s.drop 2) [42, 47] = q3 := ⟨_, rfl⟩
        rw [hq3] at hbl
        have hlq : q3 ≤ y.s.length := by
          have h1 := Lib.index_ge (y.s.drop 2) [42, 47]
          by_cases h2 : 0 ≤ q3
          · have h3 := Lib.index_room (y.s.drop 2) [42, 47] (by rw [hq3]; exact h2)
            rw [hq3] at h3
            simp only [List.length_drop, List.length_cons, List.length_nil] at h3
            omega
          · omega
        have hlq2 : q3 ≤ 1000000 := by have := HSZ.out; omega
        have HI := Lib.hid (Tryd.strings_Index (cur.extract 2 cur.size) ⟨#[42, 47]⟩ mx _ (by rw [ByteArray.size_extract]; omega) hmx)
        rw [extract_drop, HC.out, show (⟨#[42, 47]⟩ : ByteArray).data.toList = [42, 47] from rfl, hq3] at HI
        have HBL := Lib.hid hbl
        clear hbl hp2 hmx hq3 hlq
        go_wp2_with fail
        refine (HP1.out _).mono ?_
        rintro e w' ⟨rfl, rfl⟩
        go_wp2_with fail
        refine (HP2.out _).mono ?_
        rintro e w' ⟨rfl, rfl⟩
        go_wp2_with fail
        refine HI.out.mono ?_
        rintro e w' ⟨rfl, rfl⟩
        cases h2 : decide (q3 < 0) with
        | true =>
          have HE : Hid (blanksF x.s.length x = (false, y)) := Lib.hid (by rw [← HF.out, blanksF_none (by rw [HBL.out, if_pos (by simpa using h2)]) HFL.out HS.out])
          go_wp2
          go_ret
          rw [HE.out]
          exact ⟨rfl, HAT.out, HT.out⟩
        | false =>
          have hq0 : 0 ≤ q3 := by
            have : ¬ q3 < 0 := by simpa using h2
            omega
          obtain ⟨m3, rfl⟩ : ∃ m3 : Nat, q3 = m3 := ⟨q3.toNat, by omega⟩
          have hbl : blankN y.s = some (m3 + 4) := by rw [HBL.out, if_neg (by omega)]; rfl
          obtain ⟨⟨g, hg1, hg2, hg3⟩, hle, hsum⟩ := HGO.out (m3 + 4) hbl (by omega)
          have HE := Lib.hid hg1
          clear hg1 hbl hq0
          go_wp2_with fail
          rw [show (m3 : Int) + 4 = ((m3 + 4 : Nat) : Int) by omega]
          refine (pass_calls _ b y (m3 + 4) HAT.out hle HLY.out).mono ?_
          rintro e w2 ⟨⟨v, rfl⟩, hat2, hT2⟩
          have HA2 := Lib.hid hat2
          have HT2 := Lib.hid (HT.out.trans hT2 (fun _ _ h => h))
          clear hat2 hT2
          go_wp2
          go_roundg ((passF y (m3 + 4)).s.length)
          case measure => rw [HK.out]; exact hg3
          case rel => exact ⟨passF y (m3 + 4), g, rfl, hg2, HA2.out, HT2.out, hsum, by rw [← HE.out]; exact HF.out⟩
      | false =>
        rw [hp2] at HP2
        have HE : Hid (blanksF x.s.length x = (true, y)) := Lib.hid (by
          rw [← HF.out, blanksF_zero]
          rw [HCONS.out]
          exact blankN_none HN1.out HN2.out (by rw [← HCONS.out, hp2]; decide))
        clear hp2
        go_wp2_with fail
        refine (HP1.out _).mono ?_
        rintro e w' ⟨rfl, rfl⟩
        go_wp2_with fail
        refine (HP2.out _).mono ?_
        rintro e w' ⟨rfl, rfl⟩
        go_wp2
        go_ret
        rw [HE.out]
        exact ⟨rfl, HAT.out, HT.out⟩

end Go.Proofs.YtcidccifnaecaaaDoor
