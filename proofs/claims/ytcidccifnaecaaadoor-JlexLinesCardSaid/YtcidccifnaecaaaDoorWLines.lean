/- The walk of JlexLines: true. -/
import Derived.Test.YtcidccifnaecaaaDoorWQuotes
import Derived.Test.YtcidccifnaecaaaDoorLexR
namespace Go.Proofs.YtcidccifnaecaaaDoor
open Go.RowKit Go.Sort

theorem count_next {l : List UInt8} {k : Nat} {c : UInt8} (h : l[k]? = some c) : (l.take (k + 1)).count 10 = (l.take k).count 10 + (if c = 10 then 1 else 0) := by
  rw [List.take_add_one, h, List.count_append]
  simp [List.count_cons]

set_option maxRecDepth 100000 in
set_option maxHeartbeats 4000000 in
theorem wlines (w : World) (s : ByteArray) (hs : s.size ≤ maxLen) (hl : LaidJ w) :
    Calls Tryd.prog 11 #[.string s] w fun e w' => e = .returned (.bool true) ∧ Below w.heap.size w w' := by
  have HL := Lib.hid hl
  have HCUT := Lib.hid (fun w9 => cut_calls w9 s hs)
  have hc3 := cutB_size s
  have HLEX := Lib.hid (fun w9 (h9 : LaidJ w9) => lex_calls w9 h9 (cutB s) (cutB_maxlen s))
  obtain ⟨hf1, hf2, hf3⟩ := lexF_lines (s := (cutB s).data.toList) (by rw [← size_len]; omega)
  have hlen := lexF_len (s := (cutB s).data.toList) (by rw [← size_len]; omega)
  rw [← size_len] at hlen
  have hcs : ∀ k, k < (cutB s).size → ∃ c, s.data.toList[k]? = some c ∧ (cutB s).data.toList[k]? = some c := fun k hk => by
    refine ⟨(cutB s)[k], ?_, byte_some hk⟩
    have h1 := byte_some hk
    rw [cutB_list, List.getElem?_take] at h1
    split at h1
    · exact h1
    · cases h1
  have hcl : (cutB s).size ≤ s.size := by
    rw [size_len, size_len, cutB_list, List.length_take]
    omega
  have HCS := Lib.hid hcs
  have HF1 := Lib.hid hf1
  have HF2 := Lib.hid hf2
  have HF3 := Lib.hid hf3
  clear hl hf1 hf2 hf3 hcs
  have hcz : (cutB s).data.toList.length = (cutB s).size := by rw [size_len]
  generalize cutB s = c at *
  obtain ⟨⟨toks, at0, e0⟩, hlf⟩ : ∃ z, lexF c.data.toList = z := ⟨_, rfl⟩
  rw [hlf] at HF1 HF2 HF3 hlen
  replace hlen : toks.length ≤ c.size := hlen
  have HLF := Lib.hid hlf
  clear hlf
  have HTK := Lib.hid hlen
  clear hlen
  go_enter Tryd.func11, Tryd.ntmps11
  go_wp2_with fail
  refine (shownJ_calls w HL.out).mono ?_
  rintro e w1 ⟨rfl, hb1⟩
  have HB1 := Lib.hid hb1
  clear hb1
  go_wp2_with fail
  refine (HCUT.out w1).mono ?_
  rintro e w' ⟨rfl, rfl⟩
  go_wp2_with fail
  refine (HLEX.out w1 (HL.out.below HB1.out)).mono ?_
  rintro e w3 ⟨A, cap, rfl, hown, hb3⟩
  rw [HLF.out] at hown ⊢
  simp only at hown ⊢
  have HB3 := Lib.hid (HB1.out.trans (hb3.mono HB1.out.size))
  have HOWN := Lib.hid hown
  clear hown hb3
  go_wp2
  go_loopw [7, 8] (fun v i wr => ∃ k : Nat, k ≤ c.size ∧ v = .int .i64 ((1 + (c.data.toList.take k).count 10 : Nat) : Int) ∧ i = .int .i64 k ∧ w3 = wr) (fun _ i _ => c.size - (intOf i).toNat)
  case atStart => exact ⟨0, by omega, by simp, rfl, by trivial⟩
  case round =>
    obtain ⟨k, hk, rfl, rfl, rfl⟩ := hrel
    have hcnt : (c.data.toList.take k).count 10 ≤ c.size := by
      have h1 : (c.data.toList.take k).count 10 ≤ (c.data.toList.take k).length := List.count_le_length
      rw [List.length_take] at h1
      omega
    by_cases hlt : k < c.size
    · obtain ⟨x, hx1, hx2⟩ := HCS.out k hlt
      have hks : k < s.size := by omega
      have hxk : s[k] = x := byte_at hks hx1
      have HCN := Lib.hid (count_next hx2)
      obtain ⟨q, hq⟩ : ∃ q, (c.data.toList.take k).count 10 = q := ⟨_, rfl⟩
      rw [hq] at HCN hcnt ⊢
      clear hx1 hx2 hq
      have hqi : ((1 + q : Nat) : Int) ≤ 1000000 := by omega
      cases h10 : ((x.toNat : Int) == 10) with
      | true =>
        have hx := byte_is (d := 10) h10
        rw [hx, if_pos rfl] at HCN
        clear hx
        go_wp2_with fail
        refine (HCUT.out _).mono ?_
        rintro e w' ⟨rfl, rfl⟩
        go_wp2
        exact ⟨⟨k + 1, by omega, by rw [HCN.out]; congr 1, by go_num, by trivial⟩, by simp [intOf]; omega⟩
      | false =>
        have hx : x ≠ 10 := fun h => by rw [h] at h10; simp at h10
        rw [if_neg hx] at HCN
        clear hx
        go_wp2_with fail
        refine (HCUT.out _).mono ?_
        rintro e w' ⟨rfl, rfl⟩
        go_wp2
        exact ⟨⟨k + 1, by omega, by rw [HCN.out]; rfl, by go_num, by trivial⟩, by simp [intOf]; omega⟩
    · obtain rfl : k = c.size := by omega
      have hdd : decide ((c.size : Int) < (c.size : Int)) = false := by simp
      rw [List.take_of_length_le (by omega)]
      obtain ⟨bd, hbd⟩ : ∃ bd, 1 + c.data.toList.count 10 = bd := ⟨_, rfl⟩
      have hbi : bd ≤ 1000000 := by
        have h1 : c.data.toList.count 10 ≤ c.data.toList.length := List.count_le_length
        omega
      rw [hbd] at HF1 HF2 ⊢
      clear hbd hcnt hlt
      cases he : (e0 == 0) with
      | false =>
        have he0 : e0 ≠ 0 := by simpa using he
        obtain ⟨g1, g2, g3⟩ := HF2.out he0
        replace g1 : toks = [] := g1
        replace g2 : 1 ≤ at0 := g2
        replace g3 : at0 ≤ bd := g3
        subst g1
        have i1 : (1 : Int) ≤ (at0 : Int) := by omega
        have i2 : (at0 : Int) ≤ (bd : Int) := by omega
        clear g2 g3
        go_wp2_with fail
        refine (HCUT.out _).mono ?_
        rintro e w' ⟨rfl, rfl⟩
        go_wp2
        go_ret
        exact ⟨rfl, HB3.out⟩
      | true =>
        have he0 : e0 = 0 := by simpa using he
        have ha : at0 = 0 := HF3.out he0
        subst he0
        subst ha
        go_wp2_with fail
        refine (HCUT.out _).mono ?_
        rintro e w' ⟨rfl, rfl⟩
        go_wp2
        have htl := HTK.out
        go_loopw [2, 9, 10] (fun r v i wx => ∃ (k last : Nat), r = .bool false ∧ k ≤ toks.length ∧ v = .int .i64 last ∧ i = .int .i64 k ∧ Below w3.heap.size w3 wx ∧ Hid (linesOk bd last (toks.drop k))) (fun _ _ i _ => toks.length - (intOf i).toNat)
        case atStart => exact ⟨0, 1, rfl, by omega, rfl, rfl, Below.refl _ _, Lib.hid (by simpa using HF1.out)⟩
        case round =>
          obtain ⟨k, last, rfl, hk, rfl, rfl, hbx, HLO⟩ := hrel
          have HBX := Lib.hid hbx
          clear hbx
          by_cases hlt : k < toks.length
          · obtain ⟨t, ht⟩ : ∃ t, toks[k]? = some t := ⟨_, List.getElem?_eq_getElem hlt⟩
            have hd : toks.drop k = t :: toks.drop (k + 1) := by
              rw [List.drop_eq_getElem_cons hlt]
              congr 1
              rw [List.getElem?_eq_getElem hlt] at ht
              exact Option.some.inj ht
            have hlo := HLO.out
            rw [hd] at hlo
            obtain ⟨l1, l2, l3, l4⟩ := hlo
            have HLN := Lib.hid l4
            obtain ⟨g, cap1, hA, _, _⟩ := World.ownsRow.form HOWN.out (by omega)
            injection hA with hA _ hcap
            subst hA
            subst hcap
            have d3 : wr.cell? ⟨g, k * 5 + 3, none⟩ = some (.int .i64 t.line) := cell_kept HBX.out (tl_at HOWN.out rfl ht 3 (by decide))
            have d4 : wr.cell? ⟨g, k * 5 + 4, none⟩ = some (.bool t.nl) := cell_kept HBX.out (tl_at HOWN.out rfl ht 4 (by decide))
            have g3 := cell_regrown d3
            have g4 := cell_regrown d4
            obtain ⟨tl, htl2⟩ : ∃ tl, t.line = tl := ⟨_, rfl⟩
            obtain ⟨tn, htn2⟩ : ∃ tn, t.nl = tn := ⟨_, rfl⟩
            rw [htl2] at l1 l2 l3 HLN g3
            rw [htn2] at l3 g4
            have HBQ := Lib.hid (fun dq osq => below_regrown wr dq osq)
            have i2 : (tl : Int) ≤ (bd : Int) := by omega
            clear d3 d4 htl2 htn2 hd l4 ht l2
            by_cases hlast : (last : Int) < (tl : Int)
            · have htn : tn = true := by rw [l3]; simp; omega
              subst htn
              have i1 : decide (tl < last) = false := by simp; omega
              have i3 : decide (bd < tl) = false := by simp; omega
              have i4 : decide (last < tl) = true := by simp; omega
              clear l1 l3 i2
              go_wp2
              refine wp_region_quiet_below (by kernel_rfl) (by kernel_rfl) ?_
              repeat (first | go_big_quiet_skip | quiet_step ((fail)))
              refine wpQuiet_nil ?_
              intro _ hw'
              obtain ⟨⟨dq, osq⟩, rfl⟩ := hw'
              go_wp2
              exact ⟨⟨k + 1, tl, rfl, by omega, rfl, by go_num, HBX.out.trans ((HBQ.out dq osq).mono HBX.out.size), HLN⟩, by simp [intOf]; omega⟩
            · have htn : tn = false := by rw [l3]; simp; omega
              subst htn
              obtain rfl : last = tl := by omega
              have i1 : decide ((last : Int) < (last : Int)) = false := by simp
              have i3 : decide (bd < last) = false := by simp; omega
              clear l1 l3 i2 hlast
              go_wp2
              refine wp_region_quiet_below (by kernel_rfl) (by kernel_rfl) ?_
              repeat (first | go_big_quiet_skip | quiet_step ((fail)))
              refine wpQuiet_nil ?_
              intro _ hw'
              obtain ⟨⟨dq, osq⟩, rfl⟩ := hw'
              go_wp2
              exact ⟨⟨k + 1, last, rfl, by omega, rfl, by go_num, HBX.out.trans ((HBQ.out dq osq).mono HBX.out.size), HLN⟩, by simp [intOf]; omega⟩
          · obtain rfl : k = toks.length := by omega
            have hd2 : decide ((toks.length : Int) < (toks.length : Int)) = false := by simp
            go_wp2
            go_ret
            exact ⟨rfl, HB3.out.trans (HBX.out.mono HB3.out.size)⟩

end Go.Proofs.YtcidccifnaecaaaDoor
