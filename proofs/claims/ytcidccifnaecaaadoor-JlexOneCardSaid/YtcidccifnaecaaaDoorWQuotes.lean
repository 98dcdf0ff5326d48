/- The walk of JlexQuotes: true. -/
import Derived.Test.YtcidccifnaecaaaDoorLexW
import Derived.Test.YtcidccifnaecaaaDoorQuote
import Derived.Lib.QuietBelow
import Derived.BigQuiet
import Derived.Deep.QuietTactic
namespace Go.Proofs.YtcidccifnaecaaaDoor
open Go.RowKit Go.Sort

theorem cutB_maxlen (s : ByteArray) : (cutB s).size ≤ maxLen := by have := cutB_size s; unfold maxLen; omega

set_option maxRecDepth 100000 in
set_option maxHeartbeats 4000000 in
theorem wquotes (w : World) (s : ByteArray) (hs : s.size ≤ maxLen) (hl : LaidJ w) :
    Calls Tryd.prog 15 #[.string s] w fun e w' => e = .returned (.bool true) ∧ Below w.heap.size w w' := by
  have HL := Lib.hid hl
  have HCUT := Lib.hid (fun w9 => cut_calls w9 s hs)
  have hc3 := cutB_size s
  have hq4 := quoteL_len (cutB s).data.toList
  rw [← size_len] at hq4
  have hql : (quoteL (cutB s).data.toList).length ≤ 20000 := by
    simp only [quoteL, List.length_append, List.length_cons, List.length_nil]
    omega
  have HQ := Lib.hid (fun w9 => quote_calls w9 (cutB s) (by omega) (by unfold maxLen; omega))
  have HLEX := Lib.hid (fun w9 (h9 : LaidJ w9) => lex_calls w9 h9 ⟨(quoteL (cutB s).data.toList).toArray⟩ (by rw [size_len]; show (quoteL (cutB s).data.toList).length ≤ maxLen; unfold maxLen; omega))
  have hlq : lexF (⟨(quoteL (cutB s).data.toList).toArray⟩ : ByteArray).data.toList = ([⟨⟨4, (cutB s).data.toList, 0⟩, 1, false⟩], 0, 0) := lex_quote (by rw [← size_len]; exact hc3)
  have HLQ := Lib.hid hlq
  clear hl hq4 hql hlq hc3
  generalize (⟨(quoteL (cutB s).data.toList).toArray⟩ : ByteArray) = qs at HQ HLEX HLQ
  generalize cutB s = c at HCUT HQ HLQ
  go_enter Tryd.func15, Tryd.ntmps15
  go_wp2_with fail
  refine (shownJ_calls w HL.out).mono ?_
  rintro e w1 ⟨rfl, hb1⟩
  have HB1 := Lib.hid hb1
  clear hb1
  go_wp2_with fail
  refine (HCUT.out w1).mono ?_
  rintro e w' ⟨rfl, rfl⟩
  go_wp2_with fail
  refine (HQ.out w1).mono ?_
  rintro e w2 ⟨rfl, hb2⟩
  have HB2 := Lib.hid (HB1.out.trans (hb2.mono HB1.out.size))
  clear hb2
  go_wp2_with fail
  refine (HLEX.out w2 (HL.out.below HB2.out)).mono ?_
  rintro e w3 ⟨A, cap, rfl, hown, hb3⟩
  rw [HLQ.out] at hown ⊢
  simp only [List.length_cons, List.length_nil, Nat.zero_add] at hown ⊢
  obtain ⟨g, cap1, hA, _, _⟩ := World.ownsRow.form hown (by decide)
  injection hA with hA _ hcap
  subst hA
  subst hcap
  have d0 : w3.cell? ⟨g, 0, none⟩ = some (.int .i64 4) := tl_at hown rfl (k := 0) rfl 0 (by decide)
  have d1 : w3.cell? ⟨g, 1, none⟩ = some (.string c) := (tl_at hown rfl (k := 0) rfl 1 (by decide)).trans (by show some (Value.string ⟨c.data.toList.toArray⟩) = _; rw [show (⟨c.data.toList.toArray⟩ : ByteArray) = c from bs_ext rfl])
  have d3 : w3.cell? ⟨g, 3, none⟩ = some (.int .i64 1) := tl_at hown rfl (k := 0) rfl 3 (by decide)
  have d4 : w3.cell? ⟨g, 4, none⟩ = some (.bool false) := tl_at hown rfl (k := 0) rfl 4 (by decide)
  have HB3 := Lib.hid (HB2.out.trans (hb3.mono HB2.out.size))
  clear hown hb3
  go_wp2
  have g0 := cell_regrown d0
  have g1 := cell_regrown d1
  have g3 := cell_regrown d3
  have g4 := cell_regrown d4
  clear d0 d1 d3 d4
  refine wp_region_quiet_below (by kernel_rfl) (by kernel_rfl) ?_
  repeat (first
    | go_big_quiet_skip
    | quiet_step ((go_at_call 36; exact Calls.regrown_of ((HCUT.out _).mono fun _ _ hh => ⟨hh.1, by rw [hh.2]; exact Below.refl _ _⟩))))
  refine wpQuiet_nil ?_
  intro _ hw'
  obtain ⟨⟨dq, osq⟩, rfl⟩ := hw'
  go_wp2
  go_ret
  exact ⟨rfl, HB3.out.trans ((below_regrown w3 dq osq).mono HB3.out.size)⟩

end Go.Proofs.YtcidccifnaecaaaDoor
