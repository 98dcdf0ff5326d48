/- The walk of JlexWords: true. -/
import Derived.Test.YtcidccifnaecaaaDoorRquote
import Derived.Test.YtcidccifnaecaaaDoorRname
import Derived.Test.YtcidccifnaecaaaDoorWQuotes
namespace Go.Proofs.YtcidccifnaecaaaDoor
open Go.RowKit Go.Sort

set_option maxRecDepth 100000 in
set_option maxHeartbeats 4000000 in
theorem wwords (w : World) (s : ByteArray) (hs : s.size ≤ maxLen) (hl : LaidJ w) :
    Calls Tryd.prog 16 #[.string s] w fun e w' => e = .returned (.bool true) ∧ Below w.heap.size w w' := by
  have HL := Lib.hid hl
  have HCUT := Lib.hid (fun w9 => cut_calls w9 s hs)
  have hc3 := cutB_size s
  have hq4 := quoteL_len (cutB s).data.toList
  rw [← size_len] at hq4
  have hql : (quoteL (cutB s).data.toList).length ≤ 20000 := by
    simp only [quoteL, List.length_append, List.length_cons, List.length_nil]
    omega
  have HQ := Lib.hid (fun w9 => quote_calls w9 (cutB s) (by omega) (by unfold maxLen; omega))
  have HRQ := Lib.hid (fun w9 => rquote_calls w9 (cutB s) (by omega))
  have HIW := Lib.hid (fun w9 (h9 : LaidJ w9) => isWord_calls w9 h9.laid s hs)
  have HRW := Lib.hid (fun w9 => risWord_calls w9 s)
  have HIN := Lib.hid (fun w9 (h9 : LaidJ w9) => isName_calls w9 h9.laid s hs)
  have HRN := Lib.hid (fun w9 => risName_calls w9 s hs)
  clear hl hq4 hql hc3
  generalize (⟨(quoteL (cutB s).data.toList).toArray⟩ : ByteArray) = qs at HQ HRQ
  generalize cutB s = c at HCUT HQ HRQ
  generalize wordB s.data.toList = b1 at HIW HRW
  generalize nameB s.data.toList = b2 at HIN HRN
  have h11 : (b1 == b1) = true := by cases b1 <;> rfl
  have h22 : (b2 == b2) = true := by cases b2 <;> rfl
  go_enter Tryd.func16, Tryd.ntmps16
  go_wp2_with fail
  refine (shownJ_calls w HL.out).mono ?_
  rintro e w1 ⟨rfl, hb1⟩
  have HB1 := Lib.hid hb1
  clear hb1
  go_wp2_with fail
  refine (HIW.out w1 (HL.out.below HB1.out)).mono ?_
  rintro e w2 ⟨rfl, hb2⟩
  have HB2 := Lib.hid (HB1.out.trans (hb2.mono HB1.out.size))
  clear hb2
  go_wp2_with fail
  refine (HRW.out w2).mono ?_
  rintro e w' ⟨rfl, rfl⟩
  go_wp2_with fail
  refine (HIN.out w2 (HL.out.below HB2.out)).mono ?_
  rintro e w3 ⟨rfl, hb3⟩
  have HB3 := Lib.hid (HB2.out.trans (hb3.mono HB2.out.size))
  clear hb3
  go_wp2_with fail
  refine (HRN.out w3).mono ?_
  rintro e w' ⟨rfl, rfl⟩
  go_wp2_with fail
  refine (HCUT.out w3).mono ?_
  rintro e w' ⟨rfl, rfl⟩
  go_wp2_with fail
  refine (HQ.out w3).mono ?_
  rintro e w4 ⟨rfl, hb4⟩
  have HB4 := Lib.hid (HB3.out.trans (hb4.mono HB3.out.size))
  clear hb4
  go_wp2_with fail
  refine (HCUT.out w4).mono ?_
  rintro e w' ⟨rfl, rfl⟩
  go_wp2_with fail
  refine (HRQ.out w4).mono ?_
  rintro e w5 ⟨rfl, hb5⟩
  have HB5 := Lib.hid (HB4.out.trans (hb5.mono HB4.out.size))
  clear hb5
  go_wp2
  go_ret
  exact ⟨rfl, HB5.out⟩

end Go.Proofs.YtcidccifnaecaaaDoor
