/- The method All by a total function; what a put makes, in short. -/
import Derived.Test.YtbdkbjfaialeoaaCalls
import Derived.Test.YtbdkbjfaialeoaaAll
namespace Go.Proofs.Ytbdkbjfaialeoaa
open Go.RowKit Go.Sort

def allT (os : List Ob) (p : Int) : List ByteArray := allK os (chainT os p)

theorem chainF_len {os : List Ob} (h : Tied os) : ∀ (f : Nat) (p : Int), (chainF os f p).length ≤ (p + 1).toNat
  | 0, p => by simp [chainF]
  | f + 1, p => by
    by_cases hq : p < 0 ∨ os.length ≤ p
    · rw [chainF, objT_out hq]; simp
    · obtain ⟨k, o, rfl, ho, hoT⟩ := objT_in hq
      rw [chainF, hoT]
      have h1 := chainF_len h f o.o.proto
      have h2 := (h k o ho).2
      simp only [List.length_cons]
      omega
theorem chainT_len {os : List Ob} (h : Tied os) (p : Int) : (chainT os p).length ≤ os.length := by
  by_cases hq : p < 0 ∨ os.length ≤ p
  · unfold chainT
    cases hf : (p + 1).toNat with
    | zero => simp [chainF]
    | succ f => rw [chainF, objT_out hq]; simp
  · have := chainF_len h (p + 1).toNat p
    unfold chainT
    omega

theorem hall_calls (w : World) (B hb : Nat) (F : Nat → Prop) (os : List Ob) (p : Int) (h : Hp w B hb F os) (hT : Tied os) (hn : Small 100000 os) (hl : os.length ≤ 10000) :
    Calls Try.prog 21 #[.pointer (some ⟨hb, 0, none⟩), .int .i64 p] w fun e w' => ∃ v, e = .returned v ∧ w'.ownsRow w.heap.size 9 1 v (allT os p).length ((allT os p).map Value.string) ∧ Below w.heap.size w w' := by
  obtain ⟨lv, Ls, hat, _⟩ := h
  exact all_any w B (some hb) lv Ls os p (chainT os p) hat hT (chainT_chain hT p) hn (Nat.le_trans (chainT_len hT p) hl)

theorem all_nil (w : World) (p : Int) :
    Calls Try.prog 21 #[.pointer none, .int .i64 p] w fun e w' => ∃ v, e = .returned v ∧ w'.ownsRow w.heap.size 9 1 v 0 [] ∧ Below w.heap.size w w' :=
  all_any w 0 none undef [] [] p [] ⟨rfl, rfl⟩ (fun i o h => by simp at h) (.stop (by simp; omega)) (by simp) (by simp)

theorem putT_ok {os : List Ob} {p : Nat} {o : Ob} {key : ByteArray} {v : Vl} (ho : os[p]? = some o) (hr : right v.kind v.n v.s = true) (h5 : v.kind ≠ 5) : putT os p key v = (0, os.set p (o.put key v)) := by
  unfold putT
  rw [objT_nat, ho]
  dsimp only
  rw [if_neg (by rintro (x | x); rw [hr] at x; cases x; exact h5 x.1), show ((p : Int)).toNat = p by omega]


end Go.Proofs.Ytbdkbjfaialeoaa
