/- Laws of texts' tokens, more: plain words, no program in sight. -/
import Derived.Test.YtcidccifnaecaaaDoorLexQ
namespace Go.Proofs.YtcidccifnaecaaaDoor
open Go.RowKit

theorem lexL_len : ∀ (f : Nat) (x : Sc), (lexL f x).1.length ≤ x.s.length
  | 0, x => by simp [lexL]
  | f + 1, x => by
    cases hb : blankN x.s with
    | none => rw [lexL_bad hb]; simp
    | some n =>
      cases n with
      | succ n =>
        rw [lexL_blank hb]
        have := lexL_len f (passF x (n + 1))
        rw [passF_len] at this
        omega
      | zero =>
        by_cases hs : x.s = []
        · rw [lexL_end hs]; simp
        · by_cases he : (tokenF x.s).2.2 = 0
          · obtain ⟨h1, h2, _⟩ := token_ok he
            have := lexL_len f { passF x (tokenF x.s).2.1 with nl := false }
            have h3 : ({ passF x (tokenF x.s).2.1 with nl := false } : Sc).s.length = x.s.length - (tokenF x.s).2.1 := passF_len x _
            rw [h3] at this
            rw [lexL_tok hb hs he, List.length_cons]
            omega
          · rw [lexL_err hb hs he]; simp
theorem lexF_len {s : List UInt8} (h : s.length ≤ 20000) : (lexF s).1.length ≤ s.length := by
  have h1 := lexL_len s.length ⟨s, 1, false⟩
  rw [lexF_eq h]
  cases hr : lexL s.length ⟨s, 1, false⟩ with
  | mk l e =>
    rw [hr] at h1
    cases e with
    | none => exact h1
    | some p => simp

end Go.Proofs.YtcidccifnaecaaaDoor
