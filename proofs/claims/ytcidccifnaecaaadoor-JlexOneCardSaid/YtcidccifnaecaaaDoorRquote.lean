/- The document's Quote, walked. -/
import Derived.Test.YtcidccifnaecaaaDoorLexW
import Derived.Test.YtcidccifnaecaaaDoorQuote
namespace Go.Proofs.YtcidccifnaecaaaDoor
open Go.RowKit Go.Sort

theorem ext_one {s : ByteArray} {k : Nat} (hk : k < s.size) : (s.extract k (k + 1)).data.toList = [s[k]] := by
  rw [extract_list]
  have h := byte_some hk
  rw [List.take_add_one, h]
  have : (s.data.toList.take k).length = k := by rw [List.length_take, ← size_len]; omega
  rw [List.drop_append_of_le_length (by omega), List.drop_eq_nil_of_le (by omega)]
  simp
theorem app_bytes (a b : ByteArray) : (a ++ b).data.toList = a.data.toList ++ b.data.toList := by simp
def hexDigits : ByteArray := ⟨#[48, 49, 50, 51, 52, 53, 54, 55, 56, 57, 97, 98, 99, 100, 101, 102]⟩
theorem hex_ext (q : Nat) (hq : q < 16) : hexDigits.extract q (q + 1) = ⟨#[hexC q]⟩ := by
  have h : q = 0 ∨ q = 1 ∨ q = 2 ∨ q = 3 ∨ q = 4 ∨ q = 5 ∨ q = 6 ∨ q = 7 ∨ q = 8 ∨ q = 9 ∨ q = 10 ∨ q = 11 ∨ q = 12 ∨ q = 13 ∨ q = 14 ∨ q = 15 := by omega
  rcases h with rfl | rfl | rfl | rfl | rfl | rfl | rfl | rfl | rfl | rfl | rfl | rfl | rfl | rfl | rfl | rfl <;> (show _ = _; kernel_rfl)

/-- What has been quoted of the first k bytes. -/
def QSo (s o : ByteArray) (k : Nat) : Prop := o.data.toList = [34] ++ (s.data.toList.take k).flatMap quoteC ∧ o.size ≤ 1 + 4 * k
theorem QSo.next {s o u : ByteArray} {k : Nat} (h : QSo s o k) (hk : k < s.size) (hu : u.data.toList = quoteC s[k]) : QSo s (o ++ u) (k + 1) := by
  refine ⟨by rw [app_bytes, h.1, hu, flat_next quoteC (byte_some hk), List.append_assoc], ?_⟩
  have h1 := quoteC_len s[k]
  have h2 : u.size = (quoteC s[k]).length := by rw [size_len, hu]
  have h3 := h.2
  have h4 : (o ++ u).size = o.size + u.size := ByteArray.size_append
  omega

set_option maxRecDepth 100000 in
set_option maxHeartbeats 2000000 in
theorem rquote_calls (w : World) (s : ByteArray) (hs : s.size ≤ 1000000) :
    Calls Tryd.prog 42 #[.string s] w fun e w' => e = .returned (.string ⟨(quoteL s.data.toList).toArray⟩) ∧ Below w.heap.size w w' := by
  go_enter Tryd.func42, Tryd.ntmps42
  go_wp2
  go_loopw [4, 5] (fun v i wr => ∃ (k : Nat) (o : ByteArray), k ≤ s.size ∧ v = .string o ∧ i = .int .i64 k ∧ Below w.heap.size w wr ∧ o.size ≤ 4000001 ∧ Hid (QSo s o k)) (fun _ i _ => s.size - (intOf i).toNat)
  case atStart => exact ⟨0, ⟨#[34]⟩, by omega, rfl, rfl, Below.refl _ _, by decide, Lib.hid ⟨rfl, by decide⟩⟩
  case round =>
    obtain ⟨k, o, hk, rfl, rfl, hbw, hos, HQ⟩ := hrel
    have HBW := Lib.hid hbw
    clear hbw
    by_cases hlt : k < s.size
    · have hc256 := (s[k]).toNat_lt
      cases h34 : ((s[k].toNat : Int) == 34) with
      | true =>
        have hx := byte_is (d := 34) h34
        have hq := HQ.out.next hlt (u := ⟨#[92]⟩ ++ s.extract k (k + 1)) (by rw [app_bytes, ext_one hlt, hx]; rfl)
        rw [← ByteArray.append_assoc] at hq
        have HN := Lib.hid hq
        clear hq hx
        go_wp2
        exact ⟨⟨k + 1, _, by omega, rfl, by go_num, HBW.out, by have := HN.out.2; omega, HN⟩, by simp [intOf]; omega⟩
      | false =>
      have n34 : s[k] ≠ 34 := fun h => by rw [h] at h34; simp at h34
      cases h92 : ((s[k].toNat : Int) == 92) with
      | true =>
        have hx := byte_is (d := 92) h92
        have hq := HQ.out.next hlt (u := ⟨#[92]⟩ ++ s.extract k (k + 1)) (by rw [app_bytes, ext_one hlt, hx]; rfl)
        rw [← ByteArray.append_assoc] at hq
        have HN := Lib.hid hq
        clear hq hx n34
        go_wp2
        exact ⟨⟨k + 1, _, by omega, rfl, by go_num, HBW.out, by have := HN.out.2; omega, HN⟩, by simp [intOf]; omega⟩
      | false =>
      have n92 : s[k] ≠ 92 := fun h => by rw [h] at h92; simp at h92
      cases h10 : ((s[k].toNat : Int) == 10) with
      | true =>
        have hx := byte_is (d := 10) h10
        have HN := Lib.hid (HQ.out.next hlt (u := ⟨#[92, 110]⟩) (by rw [hx]; rfl))
        clear hx n34 n92
        go_wp2
        exact ⟨⟨k + 1, _, by omega, rfl, by go_num, HBW.out, by have := HN.out.2; omega, HN⟩, by simp [intOf]; omega⟩
      | false =>
      have n10 : s[k] ≠ 10 := fun h => by rw [h] at h10; simp at h10
      cases h9 : ((s[k].toNat : Int) == 9) with
      | true =>
        have hx := byte_is (d := 9) h9
        have HN := Lib.hid (HQ.out.next hlt (u := ⟨#[92, 116]⟩) (by rw [hx]; rfl))
        clear hx n34 n92 n10
        go_wp2
        exact ⟨⟨k + 1, _, by omega, rfl, by go_num, HBW.out, by have := HN.out.2; omega, HN⟩, by simp [intOf]; omega⟩
      | false =>
      have n9 : s[k] ≠ 9 := fun h => by rw [h] at h9; simp at h9
      by_cases hp : (32 : Int) ≤ (s[k].toNat : Int) ∧ (s[k].toNat : Int) ≤ 126
      · obtain ⟨hp1, hp2⟩ := hp
        have HN := Lib.hid (HQ.out.next hlt (u := s.extract k (k + 1)) (by
          rw [ext_one hlt, quoteC, if_neg n10, if_neg n9, if_neg (by simp [n34, n92]), if_pos (by omega)]))
        clear n34 n92 n10 n9
        go_wp2
        exact ⟨⟨k + 1, _, by omega, rfl, by go_num, HBW.out, by have := HN.out.2; omega, HN⟩, by simp [intOf]; omega⟩
      · obtain ⟨qa, hqa⟩ : ∃ qa, qa = s[k].toNat / 16 := ⟨_, rfl⟩
        obtain ⟨qb, hqb⟩ : ∃ qb, qb = s[k].toNat % 16 := ⟨_, rfl⟩
        have hqa' : (s[k].toNat : Int) / 16 = (qa : Int) := by omega
        have hqb' : (s[k].toNat : Int) % 16 = (qb : Int) := by omega
        have htm : (s[k].toNat : Int).tmod 16 = (qb : Int) := by rw [Int.tmod_eq_emod_of_nonneg (by omega)]; exact hqb'
        have ha16 : qa < 16 := by omega
        have hb16 : qb < 16 := by omega
        have hxa : (⟨#[48, 49, 50, 51, 52, 53, 54, 55, 56, 57, 97, 98, 99, 100, 101, 102]⟩ : ByteArray).extract qa (qa + 1) = ⟨#[hexC qa]⟩ := hex_ext qa ha16
        have hxb : (⟨#[48, 49, 50, 51, 52, 53, 54, 55, 56, 57, 97, 98, 99, 100, 101, 102]⟩ : ByteArray).extract qb (qb + 1) = ⟨#[hexC qb]⟩ := hex_ext qb hb16
        have hq := HQ.out.next hlt (u := ⟨#[92, 120]⟩ ++ ⟨#[hexC qa]⟩ ++ ⟨#[hexC qb]⟩) (by
          rw [quoteC, if_neg n10, if_neg n9, if_neg (by simp [n34, n92]), if_neg (by omega), hqa, hqb]
          rfl)
        rw [← ByteArray.append_assoc, ← ByteArray.append_assoc] at hq
        have HN := Lib.hid hq
        have wa : IntKind.u8.wrap (qa : Int) = (qa : Int) := by rw [IntKind.wrap_u8]; omega
        have wb : IntKind.u8.wrap (qb : Int) = (qb : Int) := by rw [IntKind.wrap_u8]; omega
        have wa1 : IntKind.u8.wrap ((qa : Int) + 1) = (qa : Int) + 1 := by rw [IntKind.wrap_u8]; omega
        have wb1 : IntKind.u8.wrap ((qb : Int) + 1) = (qb : Int) + 1 := by rw [IntKind.wrap_u8]; omega
        have la1 : (qa : Int) + 1 ≤ 16 := by omega
        have lb1 : (qb : Int) + 1 ≤ 16 := by omega
        have la2 : (qa : Int) ≤ (qa : Int) + 1 := by omega
        have lb2 : (qb : Int) ≤ (qb : Int) + 1 := by omega
        have ta : ((qa : Int) + 1).toNat = qa + 1 := by omega
        have tb : ((qb : Int) + 1).toNat = qb + 1 := by omega
        have hz1 : ¬ 9223372036854775807 < o.size + 2 := by omega
        have hz2 : ¬ 9223372036854775807 < o.size + 2 + 1 := by omega
        have hz3 : ¬ 9223372036854775807 < o.size + 2 + 1 + 1 := by omega
        clear n34 n92 n10 n9 hqa hqb hq ha16 hb16
        by_cases hp1 : (32 : Int) ≤ (s[k].toNat : Int)
        · have hp2 : (126 : Int) < (s[k].toNat : Int) := by omega
          clear hp
          go_wp2
          go_still (by kernel_rfl)
          change Exit.inBlock _ _ _ _ wr.drew
          go_wp2
          exact ⟨⟨k + 1, _, by omega, rfl, by go_num, HBW.out.drew, by have := HN.out.2; omega, HN⟩, by simp [intOf]; omega⟩
        · clear hp
          go_wp2
          go_still (by kernel_rfl)
          change Exit.inBlock _ _ _ _ wr.drew
          go_wp2
          exact ⟨⟨k + 1, _, by omega, rfl, by go_num, HBW.out.drew, by have := HN.out.2; omega, HN⟩, by simp [intOf]; omega⟩
    · obtain rfl : k = s.size := by omega
      have HE : Hid (o ++ ⟨#[34]⟩ = ⟨(quoteL s.data.toList).toArray⟩) := Lib.hid (bs_ext (by
        rw [app_bytes, HQ.out.1, List.take_of_length_le (by rw [← size_len]; omega)]; rfl))
      go_wp2
      go_ret
      exact ⟨by rw [← HE.out]; rfl, HBW.out⟩

end Go.Proofs.YtcidccifnaecaaaDoor
