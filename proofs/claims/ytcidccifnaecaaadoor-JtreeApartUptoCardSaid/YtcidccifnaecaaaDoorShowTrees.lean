/- The trees that every law on trees begins with, and what is told of them. -/
import Derived.Test.YtcidccifnaecaaaDoorShow
import Derived.Test.YtcidccifnaecaaaDoorTxA
import Derived.Test.YtcidccifnaecaaaDoorTxB
import Derived.Test.YtcidccifnaecaaaDoorTxC
namespace Go.Proofs.YtcidccifnaecaaaDoor
open Go.RowKit Go.Sort

def e0 : ByteArray := ⟨#[]⟩
def tId : Tree := .node 1 ⟨#[97]⟩ 0 [] 0
def tOne : Tree := .node 2 ⟨#[]⟩ 1 [] 0
def tNeg : Tree := .node 20 ⟨#[]⟩ 0 [tOne] 0
def tA : Tree := .node 18 ⟨#[43]⟩ 0 [tId, tNeg] 0
def tMem : Tree := .node 13 ⟨#[112]⟩ 0 [tId] 0
def tObj : Tree := .node 11 ⟨#[]⟩ 0 [] 0
def tSet : Tree := .node 17 ⟨#[]⟩ 0 [tMem, tObj] 0
def tStm : Tree := .node 31 ⟨#[]⟩ 0 [tSet] 0
def tB : Tree := .node 32 ⟨#[]⟩ 0 [tStm] 0
def tC : Tree := .node 0 ⟨#[]⟩ 0 [] 0

theorem tA_right : rightE tA = true := by decide +kernel
theorem tB_right : rightB tB = true := by decide +kernel
theorem tC_right : rightE tC = false := by decide +kernel

theorem tOne_text (h : Nat) (i : List UInt8) : T (h + 1) tOne i = [49] := by
  have h1 : Lib.itoa 1 = [49] := by
    rw [Lib.itoa, if_neg (by decide)]
    exact Lib.decDigits_one (i := 1) (by decide)
  simp [T, stepT, tOne, Tree.op, Tree.n, h1]
theorem tId_text (h : Nat) (i : List UInt8) : T (h + 1) tId i = [97] := by simp [T, stepT, tId, Tree.op, Tree.s]
theorem tNeg_text (h : Nat) (i : List UInt8) : T (h + 1 + 1) tNeg i = [40, 45, 49, 41] := by
  have := tOne_text h i
  rw [T, stepT]
  simp [tNeg, Tree.op, Tree.l, this]
theorem tA_text (h : Nat) (i : List UInt8) : T (h + 1 + 1 + 1) tA i = [40, 97, 32, 43, 32, 40, 45, 49, 41, 41] := by
  have h1 := tNeg_text h i
  have h2 := tId_text (h + 1) i
  rw [T, stepT]
  simp [tA, Tree.op, Tree.s, Tree.l, h1, h2, signOf]
theorem tMem_text (h : Nat) (i : List UInt8) : T (h + 1 + 1) tMem i = [97, 46, 112] := by
  have h2 := tId_text h i
  rw [T, stepT]
  simp [tMem, Tree.op, Tree.s, Tree.l, h2]
  rfl
theorem tObj_text (h : Nat) (i : List UInt8) : T (h + 1) tObj i = [40, 123, 125, 41] := by
  rw [T, stepT]
  simp [tObj, Tree.op, Tree.l, Lib.join, List.intercalate]
theorem tSet_text (h : Nat) (i : List UInt8) : T (h + 1 + 1 + 1) tSet i = [40, 97, 46, 112, 32, 61, 32, 40, 123, 125, 41, 41] := by
  have h1 := tMem_text h i
  have h2 := tObj_text (h + 1) i
  rw [T, stepT]
  simp [tSet, Tree.op, Tree.l, h1, h2, signOf]
theorem tStm_text (h : Nat) (i : List UInt8) : T (h + 1 + 1 + 1 + 1) tStm i = [40, 97, 46, 112, 32, 61, 32, 40, 123, 125, 41, 41, 59] := by
  have h1 := tSet_text h i
  rw [T, stepT]
  simp [tStm, Tree.op, Tree.l, h1]
theorem tB_lines : linesP tB = [40, 97, 46, 112, 32, 61, 32, 40, 123, 125, 41, 41, 59, 10] := by
  have h1 := tStm_text 95 []
  unfold linesP linesL
  simp [tB, Tree.l, h1]

theorem tId_T (h : Nat) (i : ByteArray) : ExprT (h + 1) tId i := text_1 h tId i rfl
theorem tA_T : ExprT 100 tA ⟨#[]⟩ := by
  refine text_18 99 tA tId tNeg ⟨#[]⟩ rfl rfl (tId_T 98 _) ?_ (by rw [tA_text 97]; decide)
  refine text_20 98 tNeg tOne ⟨#[]⟩ rfl rfl ?_ (by rw [tNeg_text 97]; decide)
  exact text_2 97 tOne ⟨#[]⟩ rfl (by decide) (by decide)
theorem tB_T : ∀ u, u ∈ tB.l → StmtT 99 u ⟨#[]⟩ := by
  intro u hu
  obtain rfl : u = tStm := by simpa [tB, Tree.l] using hu
  refine stext_31 98 tStm tSet ⟨#[]⟩ rfl rfl ?_ (by rw [tStm_text 95]; decide)
  refine text_17 97 tSet tMem tObj ⟨#[]⟩ rfl rfl ?_ ?_ (by rw [tSet_text 95]; decide)
  · exact text_13 96 tMem tId ⟨#[]⟩ rfl rfl (tId_T 95 _) (by rw [tMem_text 95]; decide)
  · exact text_11_none 96 tObj ⟨#[]⟩ rfl rfl

/-- One tree in a new block. -/
theorem kids_one {W : World} {g d : Nat} {u : Tree} {sl : Value} (hb : Blk5 W g u.op u.s u.n sl u.line) (hk : Kids W d u.l sl) (hok : u.ok) : Kids W (d + 1) [u] (.slice (some ⟨g, 0, none⟩) 1 1) := by
  refine ⟨by simp [maxLen], _, 1, rfl, fun k t hkt => ?_⟩
  match k, hkt with
  | 0, hkt =>
    obtain rfl : t = u := by simpa using hkt.symm
    exact ⟨⟨g, 0, none⟩, sl, rfl, ⟨World.block_lt_of_cell? W _ hb.c0, by simp⟩, hok, hb.c0, hb.c1, hb.c2, hb.c3, hb.c4, hk⟩
  | k + 1, hkt => simp at hkt
theorem kids_two {W : World} {g d : Nat} {u v : Tree} {sl sm : Value} (hc : ∀ i, W.cell? ⟨g, i, none⟩ = #[.int .i64 u.op, .string u.s, .int .i64 u.n, sl, .int .i64 u.line, .int .i64 v.op, .string v.s, .int .i64 v.n, sm, .int .i64 v.line][i]?)
    (hk : Kids W d u.l sl) (hm : Kids W d v.l sm) (hok : u.ok) (hov : v.ok) : Kids W (d + 1) [u, v] (.slice (some ⟨g, 0, none⟩) 2 2) := by
  have hlt := World.block_lt_of_cell? W _ (hc 0)
  refine ⟨by simp [maxLen], _, 2, rfl, fun k t hkt => ?_⟩
  match k, hkt with
  | 0, hkt =>
    obtain rfl : t = u := by simpa using hkt.symm
    exact ⟨⟨g, 0, none⟩, sl, rfl, ⟨hlt, by simp⟩, hok, hc 0, hc 1, hc 2, hc 3, hc 4, hk⟩
  | 1, hkt =>
    obtain rfl : t = v := by simpa using hkt.symm
    exact ⟨⟨g, 0, none⟩, sm, rfl, ⟨hlt, by simp⟩, hov, hc 5, hc 6, hc 7, hc 8, hc 9, hm⟩
  | k + 2, hkt => simp at hkt
theorem kids_nil (W : World) (d : Nat) : Kids W d [] (.slice none 0 0) := by
  cases d with
  | zero => exact ⟨rfl, none, 0, rfl⟩
  | succ d => exact ⟨by simp [maxLen], none, 0, rfl, fun k t h => by simp at h⟩

end Go.Proofs.YtcidccifnaecaaaDoor
