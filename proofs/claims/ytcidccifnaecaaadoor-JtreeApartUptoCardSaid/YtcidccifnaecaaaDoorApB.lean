/- Unlike trees have unlike texts, second part: which trees fit, kind by kind, their texts, how they begin. Plain words, no program in sight. -/
import Derived.Test.YtcidccifnaecaaaDoorApA
namespace Go.Proofs.YtcidccifnaecaaaDoor
open Go.RowKit

def wV : List UInt8 := [118, 97, 114]
def wI : List UInt8 := [105, 102]
def wW : List UInt8 := [119, 104, 105, 108, 101]
def wO : List UInt8 := [102, 111, 114]
def wR : List UInt8 := [114, 101, 116, 117, 114, 110]
def wT : List UInt8 := [116, 104, 114, 111, 119]
def wY : List UInt8 := [116, 114, 121]
def wB : List UInt8 := [98, 114, 101, 97, 107]
def wC : List UInt8 := [99, 111, 110, 116, 105, 110, 117, 101]
def runF : List UInt8 := [102, 117, 110, 99, 116, 105, 111, 110]
def runN : List UInt8 := [110, 101, 119]

theorem node_op (o : Int) (s : ByteArray) (n : Int) (l : List Tree) (ln : Int) : (Tree.node o s n l ln).op = o := rfl
theorem node_s (o : Int) (s : ByteArray) (n : Int) (l : List Tree) (ln : Int) : (Tree.node o s n l ln).s = s := rfl
theorem node_n (o : Int) (s : ByteArray) (n : Int) (l : List Tree) (ln : Int) : (Tree.node o s n l ln).n = n := rfl
theorem node_l (o : Int) (s : ByteArray) (n : Int) (l : List Tree) (ln : Int) : (Tree.node o s n l ln).l = l := rfl

/-! ### texts, each with what comes behind it -/
theorem tx_t1 {h : Nat} {i x : List UInt8} {s : ByteArray} {n : Int} {ln : Int} (hf : fitsB (h + 1) (.node 1 s n [] ln) = true) (hh : h + 1 ≤ 100) : tx (.node 1 s n [] ln) i ++ x = s.data.toList ++ x := by
  rw [tx_eq hf hh]
  simp [stepT, node_op, node_s]
theorem tx_t2 {h : Nat} {i x : List UInt8} {s : ByteArray} {n : Int} {ln : Int} (hf : fitsB (h + 1) (.node 2 s n [] ln) = true) (hh : h + 1 ≤ 100) : tx (.node 2 s n [] ln) i ++ x = Lib.itoa n ++ x := by
  rw [tx_eq hf hh]
  simp [stepT, node_op, node_n]
theorem tx_t3 {h : Nat} {i x : List UInt8} {s : ByteArray} {n : Int} {ln : Int} (hf : fitsB (h + 1) (.node 3 s n [] ln) = true) (hh : h + 1 ≤ 100) : tx (.node 3 s n [] ln) i ++ x = quoteL s.data.toList ++ x := by
  rw [tx_eq hf hh]
  simp [stepT, node_op, node_s]
theorem tx_t10 {h : Nat} {i x : List UInt8} {s : ByteArray} {n : Int} {ks : List Tree} {b : Tree} {ln : Int} (hf : fitsB (h + 1) (.node 10 s n (ks ++ [b]) ln) = true) (hh : h + 1 ≤ 100) : tx (.node 10 s n (ks ++ [b]) ln) i ++ x = 40 :: (runF ++ ((if s.data.toList = [] then [] else 32 :: s.data.toList) ++ (40 :: (Lib.join (ks.map fun u => tx u i) [44, 32] ++ (41 :: 32 :: (tx b i ++ (41 :: x))))))) := by
  rw [tx_eq hf hh]
  simp [stepT, node_op, node_s, node_l, funL, runF]
theorem tx_t11 {h : Nat} {i x : List UInt8} {s : ByteArray} {n : Int} {l : List Tree} {ln : Int} (hf : fitsB (h + 1) (.node 11 s n l ln) = true) (hh : h + 1 ≤ 100) : tx (.node 11 s n l ln) i ++ x = 40 :: 123 :: (Lib.join (l.map fun u => tx u i) [44, 32] ++ (125 :: 41 :: x)) := by
  rw [tx_eq hf hh]
  simp [stepT, node_op, node_l]
theorem tx_t12 {h : Nat} {i x : List UInt8} {s : ByteArray} {n : Int} {a : Tree} {ln : Int} (hf : fitsB (h + 1) (.node 12 s n [a] ln) = true) (hh : h + 1 ≤ 100) : tx (.node 12 s n [a] ln) i ++ x = quoteL s.data.toList ++ (58 :: 32 :: (tx a i ++ x)) := by
  rw [tx_eq hf hh]
  simp [stepT, node_op, node_s, node_l]
theorem tx_t13n {h : Nat} {i x : List UInt8} {s : ByteArray} {n : Int} {a : Tree} {ln : Int} (hf : fitsB (h + 1) (.node 13 s n [a] ln) = true) (hh : h + 1 ≤ 100) (ha : a.op = 2) : tx (.node 13 s n [a] ln) i ++ x = 40 :: (tx a i ++ (41 :: 46 :: (s.data.toList ++ x))) := by
  rw [tx_eq hf hh]
  simp [stepT, node_op, node_s, node_l, ha]
theorem tx_t13 {h : Nat} {i x : List UInt8} {s : ByteArray} {n : Int} {a : Tree} {ln : Int} (hf : fitsB (h + 1) (.node 13 s n [a] ln) = true) (hh : h + 1 ≤ 100) (ha : ¬ a.op = 2) : tx (.node 13 s n [a] ln) i ++ x = tx a i ++ (46 :: (s.data.toList ++ x)) := by
  rw [tx_eq hf hh]
  simp [stepT, node_op, node_s, node_l, ha]
theorem tx_t14 {h : Nat} {i x : List UInt8} {s : ByteArray} {n : Int} {a b : Tree} {ln : Int} (hf : fitsB (h + 1) (.node 14 s n [a, b] ln) = true) (hh : h + 1 ≤ 100) : tx (.node 14 s n [a, b] ln) i ++ x = tx a i ++ (91 :: (tx b i ++ (93 :: x))) := by
  rw [tx_eq hf hh]
  simp [stepT, node_op, node_l]
theorem tx_t15 {h : Nat} {i x : List UInt8} {s : ByteArray} {n : Int} {a : Tree} {r : List Tree} {ln : Int} (hf : fitsB (h + 1) (.node 15 s n (a :: r) ln) = true) (hh : h + 1 ≤ 100) : tx (.node 15 s n (a :: r) ln) i ++ x = tx a i ++ (40 :: (Lib.join (r.map fun u => tx u i) [44, 32] ++ (41 :: x))) := by
  rw [tx_eq hf hh]
  simp [stepT, node_op, node_l]
theorem tx_t16i {h : Nat} {i x : List UInt8} {s : ByteArray} {n : Int} {a : Tree} {r : List Tree} {ln : Int} (hf : fitsB (h + 1) (.node 16 s n (a :: r) ln) = true) (hh : h + 1 ≤ 100) (ha : a.op = 1) : tx (.node 16 s n (a :: r) ln) i ++ x = 40 :: (runN ++ (32 :: (tx a i ++ (40 :: (Lib.join (r.map fun u => tx u i) [44, 32] ++ (41 :: 41 :: x)))))) := by
  rw [tx_eq hf hh]
  simp [stepT, node_op, node_l, ha, runN]
theorem tx_t16 {h : Nat} {i x : List UInt8} {s : ByteArray} {n : Int} {a : Tree} {r : List Tree} {ln : Int} (hf : fitsB (h + 1) (.node 16 s n (a :: r) ln) = true) (hh : h + 1 ≤ 100) (ha : ¬ a.op = 1) : tx (.node 16 s n (a :: r) ln) i ++ x = 40 :: (runN ++ (32 :: 40 :: (tx a i ++ (41 :: 40 :: (Lib.join (r.map fun u => tx u i) [44, 32] ++ (41 :: 41 :: x)))))) := by
  rw [tx_eq hf hh]
  simp [stepT, node_op, node_l, ha, runN]
theorem tx_t19 {h : Nat} {i x : List UInt8} {s : ByteArray} {n : Int} {a : Tree} {ln : Int} (hf : fitsB (h + 1) (.node 19 s n [a] ln) = true) (hh : h + 1 ≤ 100) : tx (.node 19 s n [a] ln) i ++ x = 40 :: 33 :: (tx a i ++ (41 :: x)) := by
  rw [tx_eq hf hh]
  simp [stepT, node_op, node_l]
theorem tx_t20 {h : Nat} {i x : List UInt8} {s : ByteArray} {n : Int} {a : Tree} {ln : Int} (hf : fitsB (h + 1) (.node 20 s n [a] ln) = true) (hh : h + 1 ≤ 100) : tx (.node 20 s n [a] ln) i ++ x = 40 :: 45 :: (tx a i ++ (41 :: x)) := by
  rw [tx_eq hf hh]
  simp [stepT, node_op, node_l]
theorem tx_t23 {h : Nat} {i x : List UInt8} {s : ByteArray} {n : Int} {a b c : Tree} {ln : Int} (hf : fitsB (h + 1) (.node 23 s n [a, b, c] ln) = true) (hh : h + 1 ≤ 100) : tx (.node 23 s n [a, b, c] ln) i ++ x = 40 :: (tx a i ++ (32 :: 63 :: 32 :: (tx b i ++ (32 :: 58 :: 32 :: (tx c i ++ (41 :: x)))))) := by
  rw [tx_eq hf hh]
  simp [stepT, node_op, node_l]
theorem tx_s30n {h : Nat} {i x : List UInt8} {s : ByteArray} {n : Int} {ln : Int} (hf : fitsB (h + 1) (.node 30 s n [] ln) = true) (hh : h + 1 ≤ 100) : tx (.node 30 s n [] ln) i ++ x = wV ++ (32 :: (s.data.toList ++ (59 :: x))) := by
  rw [tx_eq hf hh]
  simp [stepT, node_op, node_s, node_l, wV]
theorem tx_s30 {h : Nat} {i x : List UInt8} {s : ByteArray} {n : Int} {a : Tree} {ln : Int} (hf : fitsB (h + 1) (.node 30 s n [a] ln) = true) (hh : h + 1 ≤ 100) : tx (.node 30 s n [a] ln) i ++ x = wV ++ (32 :: (s.data.toList ++ (32 :: 61 :: 32 :: (tx a i ++ (59 :: x))))) := by
  rw [tx_eq hf hh]
  simp [stepT, node_op, node_s, node_l, wV]
theorem tx_s31 {h : Nat} {i x : List UInt8} {s : ByteArray} {n : Int} {a : Tree} {ln : Int} (hf : fitsB (h + 1) (.node 31 s n [a] ln) = true) (hh : h + 1 ≤ 100) : tx (.node 31 s n [a] ln) i ++ x = tx a i ++ (59 :: x) := by
  rw [tx_eq hf hh]
  simp [stepT, node_op, node_l]
theorem tx_s32 {h : Nat} {i x : List UInt8} {s : ByteArray} {n : Int} {l : List Tree} {ln : Int} (hf : fitsB (h + 1) (.node 32 s n l ln) = true) (hh : h + 1 ≤ 100) : tx (.node 32 s n l ln) i ++ x = 123 :: 10 :: (linesL tx l (i ++ [32, 32]) ++ (i ++ (125 :: x))) := by
  rw [tx_eq hf hh]
  simp [stepT, node_op, node_l]
theorem tx_s33 {h : Nat} {i x : List UInt8} {s : ByteArray} {n : Int} {a b : Tree} {ln : Int} (hf : fitsB (h + 1) (.node 33 s n [a, b] ln) = true) (hh : h + 1 ≤ 100) : tx (.node 33 s n [a, b] ln) i ++ x = wI ++ (32 :: 40 :: (tx a i ++ (41 :: 32 :: (tx b i ++ x)))) := by
  rw [tx_eq hf hh]
  simp [stepT, node_op, node_l, wI]
theorem tx_s33e {h : Nat} {i x : List UInt8} {s : ByteArray} {n : Int} {a b c : Tree} {ln : Int} (hf : fitsB (h + 1) (.node 33 s n [a, b, c] ln) = true) (hh : h + 1 ≤ 100) : tx (.node 33 s n [a, b, c] ln) i ++ x = wI ++ (32 :: 40 :: (tx a i ++ (41 :: 32 :: (tx b i ++ (32 :: 101 :: 108 :: 115 :: 101 :: 32 :: (tx c i ++ x)))))) := by
  rw [tx_eq hf hh]
  simp [stepT, node_op, node_l, wI]
theorem tx_s34 {h : Nat} {i x : List UInt8} {s : ByteArray} {n : Int} {a b : Tree} {ln : Int} (hf : fitsB (h + 1) (.node 34 s n [a, b] ln) = true) (hh : h + 1 ≤ 100) : tx (.node 34 s n [a, b] ln) i ++ x = wW ++ (32 :: 40 :: (tx a i ++ (41 :: 32 :: (tx b i ++ x)))) := by
  rw [tx_eq hf hh]
  simp [stepT, node_op, node_l, wW]
theorem tx_s35 {h : Nat} {i x : List UInt8} {s : ByteArray} {n : Int} {a b : Tree} {ln : Int} (hf : fitsB (h + 1) (.node 35 s n [a, b] ln) = true) (hh : h + 1 ≤ 100) : tx (.node 35 s n [a, b] ln) i ++ x = wO ++ (32 :: 40 :: 118 :: 97 :: 114 :: 32 :: (s.data.toList ++ (32 :: 105 :: 110 :: 32 :: (tx a i ++ (41 :: 32 :: (tx b i ++ x)))))) := by
  rw [tx_eq hf hh]
  simp [stepT, node_op, node_s, node_l, wO]
theorem tx_s36n {h : Nat} {i x : List UInt8} {s : ByteArray} {n : Int} {ln : Int} (hf : fitsB (h + 1) (.node 36 s n [] ln) = true) (hh : h + 1 ≤ 100) : tx (.node 36 s n [] ln) i ++ x = wR ++ (59 :: x) := by
  rw [tx_eq hf hh]
  simp [stepT, node_op, node_l, wR]
theorem tx_s36 {h : Nat} {i x : List UInt8} {s : ByteArray} {n : Int} {a : Tree} {ln : Int} (hf : fitsB (h + 1) (.node 36 s n [a] ln) = true) (hh : h + 1 ≤ 100) : tx (.node 36 s n [a] ln) i ++ x = wR ++ (32 :: (tx a i ++ (59 :: x))) := by
  rw [tx_eq hf hh]
  simp [stepT, node_op, node_l, wR]
theorem tx_s37 {h : Nat} {i x : List UInt8} {s : ByteArray} {n : Int} {a : Tree} {ln : Int} (hf : fitsB (h + 1) (.node 37 s n [a] ln) = true) (hh : h + 1 ≤ 100) : tx (.node 37 s n [a] ln) i ++ x = wT ++ (32 :: (tx a i ++ (59 :: x))) := by
  rw [tx_eq hf hh]
  simp [stepT, node_op, node_l, wT]
theorem tx_s38 {h : Nat} {i x : List UInt8} {s : ByteArray} {n : Int} {a b : Tree} {ln : Int} (hf : fitsB (h + 1) (.node 38 s n [a, b] ln) = true) (hh : h + 1 ≤ 100) : tx (.node 38 s n [a, b] ln) i ++ x = wY ++ (32 :: (tx a i ++ (32 :: 99 :: 97 :: 116 :: 99 :: 104 :: 32 :: 40 :: (s.data.toList ++ (41 :: 32 :: (tx b i ++ x)))))) := by
  rw [tx_eq hf hh]
  simp [stepT, node_op, node_s, node_l, wY]
theorem tx_s39 {h : Nat} {i x : List UInt8} {s : ByteArray} {n : Int} {ln : Int} (hf : fitsB (h + 1) (.node 39 s n [] ln) = true) (hh : h + 1 ≤ 100) : tx (.node 39 s n [] ln) i ++ x = wB ++ (59 :: x) := by
  rw [tx_eq hf hh]
  simp [stepT, node_op, wB]
theorem tx_s40 {h : Nat} {i x : List UInt8} {s : ByteArray} {n : Int} {ln : Int} (hf : fitsB (h + 1) (.node 40 s n [] ln) = true) (hh : h + 1 ≤ 100) : tx (.node 40 s n [] ln) i ++ x = wC ++ (59 :: x) := by
  rw [tx_eq hf hh]
  simp [stepT, node_op, wC]
theorem tx_s41 {h : Nat} {i x : List UInt8} {s : ByteArray} {n : Int} {ks : List Tree} {b : Tree} {ln : Int} (hf : fitsB (h + 1) (.node 41 s n (ks ++ [b]) ln) = true) (hh : h + 1 ≤ 100) : tx (.node 41 s n (ks ++ [b]) ln) i ++ x = runF ++ (32 :: (s.data.toList ++ (40 :: (Lib.join (ks.map fun u => tx u i) [44, 32] ++ (41 :: 32 :: (tx b i ++ x)))))) := by
  rw [tx_eq hf hh]
  simp [stepT, node_op, node_s, node_l, funL, runF]
theorem tx_c {h : Nat} {i : List UInt8} {k : Int} {s : ByteArray} {n : Int} {ln : Int} (hf : fitsB (h + 1) (.node k s n [] ln) = true) (hh : h + 1 ≤ 100) (h4 : 4 ≤ k) (h9 : k ≤ 9) : tx (.node k s n [] ln) i = wordOf k := by
  rw [tx_eq hf hh]
  simp [stepT, node_op, show ¬ k = 1 by omega, show ¬ k = 2 by omega, show ¬ k = 3 by omega, h4, h9]
/-- the kinds with a sign between two -/
def BinK (k : Int) (s : ByteArray) : Prop := (k = 17 ∧ s = ⟨#[]⟩) ∨ (k = 18 ∧ signB s.data.toList = true) ∨ (k = 21 ∧ s = ⟨#[]⟩) ∨ (k = 22 ∧ s = ⟨#[]⟩)
theorem tx_b {h : Nat} {i x : List UInt8} {k : Int} {s : ByteArray} {n : Int} {a b : Tree} {ln : Int} (hf : fitsB (h + 1) (.node k s n [a, b] ln) = true) (hh : h + 1 ≤ 100) (hk : BinK k s) : tx (.node k s n [a, b] ln) i ++ x = 40 :: (tx a i ++ 32 :: (signOf k s.data.toList ++ 32 :: (tx b i ++ 41 :: x))) := by
  rw [tx_eq hf hh]
  rcases hk with ⟨rfl, _⟩ | ⟨rfl, _⟩ | ⟨rfl, _⟩ | ⟨rfl, _⟩ <;> simp [stepT, node_op, node_s, node_l]

/-! ### which trees -/
def EF (h : Nat) (t : Tree) : Prop := fitsB h t = true ∧ exprK t.op = true
def BF (h : Nat) (t : Tree) : Prop := fitsB h t = true ∧ t.op = 32
def SF (h : Nat) (t : Tree) : Prop := fitsB h t = true ∧ stmtK t.op = true
inductive EK (h : Nat) : Tree → Prop where
  | name (s : ByteArray) (ln : Int) : nameB s.data.toList = true → EK h (.node 1 s 0 [] ln)
  | num (n ln : Int) : 0 ≤ n → EK h (.node 2 ⟨#[]⟩ n [] ln)
  | str (s : ByteArray) (ln : Int) : EK h (.node 3 s 0 [] ln)
  | con (k ln : Int) : 4 ≤ k → k ≤ 9 → EK h (.node k ⟨#[]⟩ 0 [] ln)
  | fn (s : ByteArray) (ks : List Tree) (b : Tree) (ln : Int) : (s.data.toList = [] ∨ nameB s.data.toList = true) → (∀ u, u ∈ ks → EF h u) → BF h b → EK h (.node 10 s 0 (ks ++ [b]) ln)
  | obj (l : List Tree) (ln : Int) : (∀ u, u ∈ l → u.op = 12 ∧ fitsB h u = true) → EK h (.node 11 ⟨#[]⟩ 0 l ln)
  | mem (s : ByteArray) (a : Tree) (ln : Int) : s.data.toList.all partB8 = true → EF h a → EK h (.node 13 s 0 [a] ln)
  | idx (a b : Tree) (ln : Int) : EF h a → EF h b → EK h (.node 14 ⟨#[]⟩ 0 [a, b] ln)
  | call (a : Tree) (r : List Tree) (ln : Int) : EF h a → (∀ u, u ∈ r → EF h u) → EK h (.node 15 ⟨#[]⟩ 0 (a :: r) ln)
  | new (a : Tree) (r : List Tree) (ln : Int) : EF h a → (∀ u, u ∈ r → EF h u) → EK h (.node 16 ⟨#[]⟩ 0 (a :: r) ln)
  | bin (k : Int) (s : ByteArray) (a b : Tree) (ln : Int) : BinK k s → EF h a → EF h b → EK h (.node k s 0 [a, b] ln)
  | not (a : Tree) (ln : Int) : EF h a → EK h (.node 19 ⟨#[]⟩ 0 [a] ln)
  | neg (a : Tree) (ln : Int) : EF h a → EK h (.node 20 ⟨#[]⟩ 0 [a] ln)
  | cond (a b c : Tree) (ln : Int) : EF h a → EF h b → EF h c → EK h (.node 23 ⟨#[]⟩ 0 [a, b, c] ln)
inductive SK (h : Nat) : Tree → Prop where
  | v0 (s : ByteArray) (ln : Int) : nameB s.data.toList = true → SK h (.node 30 s 0 [] ln)
  | v1 (s : ByteArray) (a : Tree) (ln : Int) : nameB s.data.toList = true → EF h a → SK h (.node 30 s 0 [a] ln)
  | ex (a : Tree) (ln : Int) : EF h a → SK h (.node 31 ⟨#[]⟩ 0 [a] ln)
  | blk (l : List Tree) (ln : Int) : (∀ u, u ∈ l → SF h u) → SK h (.node 32 ⟨#[]⟩ 0 l ln)
  | i2 (a b : Tree) (ln : Int) : EF h a → BF h b → SK h (.node 33 ⟨#[]⟩ 0 [a, b] ln)
  | i3 (a b c : Tree) (ln : Int) : EF h a → BF h b → BF h c → SK h (.node 33 ⟨#[]⟩ 0 [a, b, c] ln)
  | wh (a b : Tree) (ln : Int) : EF h a → BF h b → SK h (.node 34 ⟨#[]⟩ 0 [a, b] ln)
  | fo (s : ByteArray) (a b : Tree) (ln : Int) : nameB s.data.toList = true → EF h a → BF h b → SK h (.node 35 s 0 [a, b] ln)
  | r0 (ln : Int) : SK h (.node 36 ⟨#[]⟩ 0 [] ln)
  | r1 (a : Tree) (ln : Int) : EF h a → SK h (.node 36 ⟨#[]⟩ 0 [a] ln)
  | th (a : Tree) (ln : Int) : EF h a → SK h (.node 37 ⟨#[]⟩ 0 [a] ln)
  | tr (s : ByteArray) (a b : Tree) (ln : Int) : nameB s.data.toList = true → BF h a → BF h b → SK h (.node 38 s 0 [a, b] ln)
  | br (ln : Int) : SK h (.node 39 ⟨#[]⟩ 0 [] ln)
  | co (ln : Int) : SK h (.node 40 ⟨#[]⟩ 0 [] ln)
  | fn (s : ByteArray) (ks : List Tree) (b : Tree) (ln : Int) : nameB s.data.toList = true → (∀ u, u ∈ ks → EF h u) → BF h b → SK h (.node 41 s 0 (ks ++ [b]) ln)

theorem words_part : ((List.range 400).all fun k => !endAt k || (wordTo k).all partB8) = true := by decide +kernel
theorem seen_part {s : List UInt8} : ∀ {k : Nat}, k ≤ 400 → seenW s k = true → s.all partB8 = true
  | 0, _, h => by simp [seenW] at h
  | k + 1, hk, h => by
    simp only [seenW, Bool.or_eq_true, Bool.and_eq_true, decide_eq_true_eq] at h
    rcases h with h | ⟨h1, h2⟩
    · exact seen_part (by omega) h
    · have h3 := List.all_eq_true.1 words_part k (List.mem_range.2 (by omega))
      rw [h1] at h3
      rw [← h2]
      simpa using h3
theorem word_part {s : List UInt8} (h : wordB s = true) : s.all partB8 = true := seen_part (by have := words_size; omega) h
theorem empty_bytes {s : ByteArray} (h : s.data.toList = []) : s = ⟨#[]⟩ := bytes_inj h
/-- What a node that fits is, but for its kind. -/
theorem node_open {h : Nat} {k : Int} {s : ByteArray} {n : Int} {l : List Tree} {ln : Int} {f : Nat} {lo hi : Int} (hf : formF k = some (f, lo, hi)) (hfit : fitsB (h + 1) (.node k s n l ln) = true) :
    lo ≤ l.length ∧ (l.length : Int) ≤ hi ∧ numB k n = true ∧ testB k s.data.toList = true ∧ ∀ (j : Nat) (u : Tree), l[j]? = some u → partB k l.length j u.op = true ∧ fitsB h u = true := by
  have h1 := fit_open (t := .node k s n l ln) hf hfit
  exact ⟨h1.1, h1.2.1, h1.2.2.1, fit_test hfit, h1.2.2.2⟩
theorem part_of {k : Int} {len i : Nat} {op : Int} (h : partB k len i op = true) (h1 : k ≠ 10) (h2 : k ≠ 41) (h3 : k ≠ 11) (h4 : k ≠ 32) (h5 : k ≠ 38) (h6 : k ≠ 33 ∧ k ≠ 34 ∧ k ≠ 35 ∨ i = 0) : exprK op = true := by
  unfold partB at h
  rw [if_neg (by omega), if_neg h3, if_neg h4] at h
  by_cases h7 : k = 17 ∧ i = 0
  · rw [if_pos h7] at h
    simp only [Bool.or_eq_true, beq_iff_eq] at h
    rcases h with (h | h) | h <;> rw [h] <;> decide
  · rw [if_neg h7, if_neg h5, if_neg (by omega)] at h
    exact h
theorem fun_parts {h : Nat} {k : Int} {ks : List Tree} {b : Tree} (hk : k = 10 ∨ k = 41) (hp : ∀ (j : Nat) (u : Tree), (ks ++ [b])[j]? = some u → partB k (ks ++ [b]).length j u.op = true ∧ fitsB h u = true) : (∀ u, u ∈ ks → EF h u) ∧ BF h b := by
  have hll : (ks ++ [b]).length = ks.length + 1 := by simp
  constructor
  · intro u hu
    obtain ⟨j, hj⟩ := List.getElem?_of_mem hu
    have hjl : j < ks.length := (List.getElem?_eq_some_iff.1 hj).1
    have := hp j u (by rw [List.getElem?_append_left hjl]; exact hj)
    refine ⟨this.2, ?_⟩
    have h9 := this.1
    rw [hll] at h9
    unfold partB at h9
    rw [if_pos hk, if_neg (by omega)] at h9
    rw [beq_iff_eq] at h9
    rw [h9]
    decide
  · have := hp ks.length b (by simp)
    refine ⟨this.2, ?_⟩
    have h9 := this.1
    rw [hll] at h9
    unfold partB at h9
    rw [if_pos hk, if_pos rfl, beq_iff_eq] at h9
    exact h9

theorem ek_of {h : Nat} {t : Tree} (hfit : fitsB (h + 1) t = true) (hek : exprK t.op = true) : EK h t := by
  obtain ⟨op, s, n, l, ln⟩ := t
  have hek : exprK op = true := hek
  simp only [exprK, Bool.and_eq_true, decide_eq_true_eq, Bool.not_eq_true', beq_eq_false_iff_ne] at hek
  have hop' : op = 1 ∨ op = 2 ∨ op = 3 ∨ op = 4 ∨ op = 5 ∨ op = 6 ∨ op = 7 ∨ op = 8 ∨ op = 9 ∨ op = 10 ∨ op = 11 ∨ op = 13 ∨ op = 14 ∨ op = 15 ∨ op = 16 ∨ op = 17 ∨ op = 18 ∨ op = 19 ∨ op = 20 ∨ op = 21 ∨ op = 22 ∨ op = 23 := by omega
  rcases hop' with hop | hop | hop | hop | hop | hop | hop | hop | hop | hop | hop | hop | hop | hop | hop | hop | hop | hop | hop | hop | hop | hop
  · obtain rfl : op = 1 := hop
    obtain ⟨h1, h2, h3, h4, hp⟩ := node_open (f := _) (lo := _) (hi := _) rfl hfit
    have hn : n = 0 := by simpa [numB] using h3
    subst hn
    obtain rfl := lenT0 h2
    exact .name s ln (by simpa [testB] using h4)
  · obtain rfl : op = 2 := hop
    obtain ⟨h1, h2, h3, h4, hp⟩ := node_open (f := _) (lo := _) (hi := _) rfl hfit
    have hn : 0 ≤ n := by
      simp [numB] at h3
      omega
    obtain rfl : s = ⟨#[]⟩ := empty_bytes (by simpa [testB] using h4)
    obtain rfl := lenT0 h2
    exact .num n ln hn
  · obtain rfl : op = 3 := hop
    obtain ⟨h1, h2, h3, h4, hp⟩ := node_open (f := _) (lo := _) (hi := _) rfl hfit
    have hn : n = 0 := by simpa [numB] using h3
    subst hn
    obtain rfl := lenT0 h2
    exact .str s ln
  · obtain rfl : op = 4 := hop
    obtain ⟨h1, h2, h3, h4, hp⟩ := node_open (f := _) (lo := _) (hi := _) rfl hfit
    have hn : n = 0 := by simpa [numB] using h3
    subst hn
    obtain rfl : s = ⟨#[]⟩ := empty_bytes (by simpa [testB] using h4)
    obtain rfl := lenT0 h2
    exact .con 4 ln (by decide) (by decide)
  · obtain rfl : op = 5 := hop
    obtain ⟨h1, h2, h3, h4, hp⟩ := node_open (f := _) (lo := _) (hi := _) rfl hfit
    have hn : n = 0 := by simpa [numB] using h3
    subst hn
    obtain rfl : s = ⟨#[]⟩ := empty_bytes (by simpa [testB] using h4)
    obtain rfl := lenT0 h2
    exact .con 5 ln (by decide) (by decide)
  · obtain rfl : op = 6 := hop
    obtain ⟨h1, h2, h3, h4, hp⟩ := node_open (f := _) (lo := _) (hi := _) rfl hfit
    have hn : n = 0 := by simpa [numB] using h3
    subst hn
    obtain rfl : s = ⟨#[]⟩ := empty_bytes (by simpa [testB] using h4)
    obtain rfl := lenT0 h2
    exact .con 6 ln (by decide) (by decide)
  · obtain rfl : op = 7 := hop
    obtain ⟨h1, h2, h3, h4, hp⟩ := node_open (f := _) (lo := _) (hi := _) rfl hfit
    have hn : n = 0 := by simpa [numB] using h3
    subst hn
    obtain rfl : s = ⟨#[]⟩ := empty_bytes (by simpa [testB] using h4)
    obtain rfl := lenT0 h2
    exact .con 7 ln (by decide) (by decide)
  · obtain rfl : op = 8 := hop
    obtain ⟨h1, h2, h3, h4, hp⟩ := node_open (f := _) (lo := _) (hi := _) rfl hfit
    have hn : n = 0 := by simpa [numB] using h3
    subst hn
    obtain rfl : s = ⟨#[]⟩ := empty_bytes (by simpa [testB] using h4)
    obtain rfl := lenT0 h2
    exact .con 8 ln (by decide) (by decide)
  · obtain rfl : op = 9 := hop
    obtain ⟨h1, h2, h3, h4, hp⟩ := node_open (f := _) (lo := _) (hi := _) rfl hfit
    have hn : n = 0 := by simpa [numB] using h3
    subst hn
    obtain rfl : s = ⟨#[]⟩ := empty_bytes (by simpa [testB] using h4)
    obtain rfl := lenT0 h2
    exact .con 9 ln (by decide) (by decide)
  · obtain rfl : op = 10 := hop
    obtain ⟨h1, h2, h3, h4, hp⟩ := node_open (f := _) (lo := _) (hi := _) rfl hfit
    have hn : n = 0 := by simpa [numB] using h3
    subst hn
    obtain ⟨ks, b, rfl⟩ := lenTL h1
    obtain ⟨g1, g2⟩ := fun_parts (.inl rfl) hp
    exact .fn s ks b ln (by simpa [testB] using h4) g1 g2
  · obtain rfl : op = 11 := hop
    obtain ⟨h1, h2, h3, h4, hp⟩ := node_open (f := _) (lo := _) (hi := _) rfl hfit
    have hn : n = 0 := by simpa [numB] using h3
    subst hn
    obtain rfl : s = ⟨#[]⟩ := empty_bytes (by simpa [testB] using h4)
    refine .obj l ln fun u hu => ?_
    obtain ⟨j, hj⟩ := List.getElem?_of_mem hu
    exact ⟨by simpa [partB] using (hp j u hj).1, (hp j u hj).2⟩
  · obtain rfl : op = 13 := hop
    obtain ⟨h1, h2, h3, h4, hp⟩ := node_open (f := _) (lo := _) (hi := _) rfl hfit
    have hn : n = 0 := by simpa [numB] using h3
    subst hn
    obtain ⟨a, rfl⟩ := lenT1 h1 h2
    refine .mem s a ln ?_ ⟨(hp 0 a rfl).2, part_of (hp 0 a rfl).1 (by decide) (by decide) (by decide) (by decide) (by decide) (by decide)⟩
    have h5 : nameB s.data.toList = true ∨ wordB s.data.toList = true := by simpa [testB] using h4
    rcases h5 with h5 | h5
    · exact (name_part h5).1
    · exact word_part h5
  · obtain rfl : op = 14 := hop
    obtain ⟨h1, h2, h3, h4, hp⟩ := node_open (f := _) (lo := _) (hi := _) rfl hfit
    have hn : n = 0 := by simpa [numB] using h3
    subst hn
    obtain rfl : s = ⟨#[]⟩ := empty_bytes (by simpa [testB] using h4)
    obtain ⟨a, b, rfl⟩ := lenT2 h1 h2
    exact .idx a b ln ⟨(hp 0 a rfl).2, part_of (hp 0 a rfl).1 (by decide) (by decide) (by decide) (by decide) (by decide) (by decide)⟩ ⟨(hp 1 b rfl).2, part_of (hp 1 b rfl).1 (by decide) (by decide) (by decide) (by decide) (by decide) (by decide)⟩
  · obtain rfl : op = 15 := hop
    obtain ⟨h1, h2, h3, h4, hp⟩ := node_open (f := _) (lo := _) (hi := _) rfl hfit
    have hn : n = 0 := by simpa [numB] using h3
    subst hn
    obtain rfl : s = ⟨#[]⟩ := empty_bytes (by simpa [testB] using h4)
    obtain ⟨a, r, rfl⟩ : ∃ a r, l = a :: r := by
      cases l with
      | nil => simp at h1
      | cons a r => exact ⟨a, r, rfl⟩
    have hr : ∀ u, u ∈ r → EF h u := by
      intro u hu
      obtain ⟨j, hj⟩ := List.getElem?_of_mem hu
      have := hp (j + 1) u (by simpa using hj)
      exact ⟨this.2, part_of this.1 (by decide) (by decide) (by decide) (by decide) (by decide) (.inl (by decide))⟩
    exact .call a r ln ⟨(hp 0 a rfl).2, part_of (hp 0 a rfl).1 (by decide) (by decide) (by decide) (by decide) (by decide) (by decide)⟩ hr
  · obtain rfl : op = 16 := hop
    obtain ⟨h1, h2, h3, h4, hp⟩ := node_open (f := _) (lo := _) (hi := _) rfl hfit
    have hn : n = 0 := by simpa [numB] using h3
    subst hn
    obtain rfl : s = ⟨#[]⟩ := empty_bytes (by simpa [testB] using h4)
    obtain ⟨a, r, rfl⟩ : ∃ a r, l = a :: r := by
      cases l with
      | nil => simp at h1
      | cons a r => exact ⟨a, r, rfl⟩
    have hr : ∀ u, u ∈ r → EF h u := by
      intro u hu
      obtain ⟨j, hj⟩ := List.getElem?_of_mem hu
      have := hp (j + 1) u (by simpa using hj)
      exact ⟨this.2, part_of this.1 (by decide) (by decide) (by decide) (by decide) (by decide) (.inl (by decide))⟩
    exact .new a r ln ⟨(hp 0 a rfl).2, part_of (hp 0 a rfl).1 (by decide) (by decide) (by decide) (by decide) (by decide) (by decide)⟩ hr
  · obtain rfl : op = 17 := hop
    obtain ⟨h1, h2, h3, h4, hp⟩ := node_open (f := _) (lo := _) (hi := _) rfl hfit
    have hn : n = 0 := by simpa [numB] using h3
    subst hn
    obtain rfl : s = ⟨#[]⟩ := empty_bytes (by simpa [testB] using h4)
    obtain ⟨a, b, rfl⟩ := lenT2 h1 h2
    exact .bin 17 _ a b ln (.inl ⟨rfl, rfl⟩) ⟨(hp 0 a rfl).2, part_of (hp 0 a rfl).1 (by decide) (by decide) (by decide) (by decide) (by decide) (by decide)⟩ ⟨(hp 1 b rfl).2, part_of (hp 1 b rfl).1 (by decide) (by decide) (by decide) (by decide) (by decide) (by decide)⟩
  · obtain rfl : op = 18 := hop
    obtain ⟨h1, h2, h3, h4, hp⟩ := node_open (f := _) (lo := _) (hi := _) rfl hfit
    have hn : n = 0 := by simpa [numB] using h3
    subst hn
    obtain ⟨a, b, rfl⟩ := lenT2 h1 h2
    exact .bin 18 _ a b ln (.inr (.inl ⟨rfl, by simpa [testB] using h4⟩)) ⟨(hp 0 a rfl).2, part_of (hp 0 a rfl).1 (by decide) (by decide) (by decide) (by decide) (by decide) (by decide)⟩ ⟨(hp 1 b rfl).2, part_of (hp 1 b rfl).1 (by decide) (by decide) (by decide) (by decide) (by decide) (by decide)⟩
  · obtain rfl : op = 19 := hop
    obtain ⟨h1, h2, h3, h4, hp⟩ := node_open (f := _) (lo := _) (hi := _) rfl hfit
    have hn : n = 0 := by simpa [numB] using h3
    subst hn
    obtain rfl : s = ⟨#[]⟩ := empty_bytes (by simpa [testB] using h4)
    obtain ⟨a, rfl⟩ := lenT1 h1 h2
    exact .not a ln ⟨(hp 0 a rfl).2, part_of (hp 0 a rfl).1 (by decide) (by decide) (by decide) (by decide) (by decide) (by decide)⟩
  · obtain rfl : op = 20 := hop
    obtain ⟨h1, h2, h3, h4, hp⟩ := node_open (f := _) (lo := _) (hi := _) rfl hfit
    have hn : n = 0 := by simpa [numB] using h3
    subst hn
    obtain rfl : s = ⟨#[]⟩ := empty_bytes (by simpa [testB] using h4)
    obtain ⟨a, rfl⟩ := lenT1 h1 h2
    exact .neg a ln ⟨(hp 0 a rfl).2, part_of (hp 0 a rfl).1 (by decide) (by decide) (by decide) (by decide) (by decide) (by decide)⟩
  · obtain rfl : op = 21 := hop
    obtain ⟨h1, h2, h3, h4, hp⟩ := node_open (f := _) (lo := _) (hi := _) rfl hfit
    have hn : n = 0 := by simpa [numB] using h3
    subst hn
    obtain rfl : s = ⟨#[]⟩ := empty_bytes (by simpa [testB] using h4)
    obtain ⟨a, b, rfl⟩ := lenT2 h1 h2
    exact .bin 21 _ a b ln (.inr (.inr (.inl ⟨rfl, rfl⟩))) ⟨(hp 0 a rfl).2, part_of (hp 0 a rfl).1 (by decide) (by decide) (by decide) (by decide) (by decide) (by decide)⟩ ⟨(hp 1 b rfl).2, part_of (hp 1 b rfl).1 (by decide) (by decide) (by decide) (by decide) (by decide) (by decide)⟩
  · obtain rfl : op = 22 := hop
    obtain ⟨h1, h2, h3, h4, hp⟩ := node_open (f := _) (lo := _) (hi := _) rfl hfit
    have hn : n = 0 := by simpa [numB] using h3
    subst hn
    obtain rfl : s = ⟨#[]⟩ := empty_bytes (by simpa [testB] using h4)
    obtain ⟨a, b, rfl⟩ := lenT2 h1 h2
    exact .bin 22 _ a b ln (.inr (.inr (.inr ⟨rfl, rfl⟩))) ⟨(hp 0 a rfl).2, part_of (hp 0 a rfl).1 (by decide) (by decide) (by decide) (by decide) (by decide) (by decide)⟩ ⟨(hp 1 b rfl).2, part_of (hp 1 b rfl).1 (by decide) (by decide) (by decide) (by decide) (by decide) (by decide)⟩
  · obtain rfl : op = 23 := hop
    obtain ⟨h1, h2, h3, h4, hp⟩ := node_open (f := _) (lo := _) (hi := _) rfl hfit
    have hn : n = 0 := by simpa [numB] using h3
    subst hn
    obtain rfl : s = ⟨#[]⟩ := empty_bytes (by simpa [testB] using h4)
    obtain ⟨a, b, c, rfl⟩ := lenT3 h1 h2
    exact .cond a b c ln ⟨(hp 0 a rfl).2, part_of (hp 0 a rfl).1 (by decide) (by decide) (by decide) (by decide) (by decide) (by decide)⟩ ⟨(hp 1 b rfl).2, part_of (hp 1 b rfl).1 (by decide) (by decide) (by decide) (by decide) (by decide) (by decide)⟩ ⟨(hp 2 c rfl).2, part_of (hp 2 c rfl).1 (by decide) (by decide) (by decide) (by decide) (by decide) (by decide)⟩

theorem sk_of {h : Nat} {t : Tree} (hfit : fitsB (h + 1) t = true) (hek : stmtK t.op = true) : SK h t := by
  obtain ⟨op, s, n, l, ln⟩ := t
  have hek : stmtK op = true := hek
  simp only [stmtK, Bool.and_eq_true, decide_eq_true_eq] at hek
  have hop' : op = 30 ∨ op = 31 ∨ op = 32 ∨ op = 33 ∨ op = 34 ∨ op = 35 ∨ op = 36 ∨ op = 37 ∨ op = 38 ∨ op = 39 ∨ op = 40 ∨ op = 41 := by omega
  rcases hop' with hop | hop | hop | hop | hop | hop | hop | hop | hop | hop | hop | hop
  · obtain rfl : op = 30 := hop
    obtain ⟨h1, h2, h3, h4, hp⟩ := node_open (f := _) (lo := _) (hi := _) rfl hfit
    have hn : n = 0 := by simpa [numB] using h3
    subst hn
    have hnm : nameB s.data.toList = true := by simpa [testB] using h4
    by_cases h0 : l = []
    · subst h0
      exact .v0 s ln hnm
    · obtain ⟨a, rfl⟩ := lenT1 (l := l) (by have := List.length_pos_iff.2 h0; omega) h2
      exact .v1 s a ln hnm ⟨(hp 0 a rfl).2, part_of (hp 0 a rfl).1 (by decide) (by decide) (by decide) (by decide) (by decide) (by decide)⟩
  · obtain rfl : op = 31 := hop
    obtain ⟨h1, h2, h3, h4, hp⟩ := node_open (f := _) (lo := _) (hi := _) rfl hfit
    have hn : n = 0 := by simpa [numB] using h3
    subst hn
    obtain rfl : s = ⟨#[]⟩ := empty_bytes (by simpa [testB] using h4)
    obtain ⟨a, rfl⟩ := lenT1 h1 h2
    exact .ex a ln ⟨(hp 0 a rfl).2, part_of (hp 0 a rfl).1 (by decide) (by decide) (by decide) (by decide) (by decide) (by decide)⟩
  · obtain rfl : op = 32 := hop
    obtain ⟨h1, h2, h3, h4, hp⟩ := node_open (f := _) (lo := _) (hi := _) rfl hfit
    have hn : n = 0 := by simpa [numB] using h3
    subst hn
    obtain rfl : s = ⟨#[]⟩ := empty_bytes (by simpa [testB] using h4)
    refine .blk l ln fun u hu => ?_
    obtain ⟨j, hj⟩ := List.getElem?_of_mem hu
    exact ⟨(hp j u hj).2, by simpa [partB] using (hp j u hj).1⟩
  · obtain rfl : op = 33 := hop
    obtain ⟨h1, h2, h3, h4, hp⟩ := node_open (f := _) (lo := _) (hi := _) rfl hfit
    have hn : n = 0 := by simpa [numB] using h3
    subst hn
    obtain rfl : s = ⟨#[]⟩ := empty_bytes (by simpa [testB] using h4)
    by_cases h9 : l.length = 2
    · obtain ⟨a, b, rfl⟩ := lenT2 (l := l) (by omega) (by omega)
      exact .i2 a b ln ⟨(hp 0 a rfl).2, part_of (hp 0 a rfl).1 (by decide) (by decide) (by decide) (by decide) (by decide) (by decide)⟩ ⟨(hp 1 b rfl).2, by simpa [partB] using (hp 1 b rfl).1⟩
    · obtain ⟨a, b, c, rfl⟩ := lenT3 (l := l) (by omega) (by omega)
      exact .i3 a b c ln ⟨(hp 0 a rfl).2, part_of (hp 0 a rfl).1 (by decide) (by decide) (by decide) (by decide) (by decide) (by decide)⟩ ⟨(hp 1 b rfl).2, by simpa [partB] using (hp 1 b rfl).1⟩ ⟨(hp 2 c rfl).2, by simpa [partB] using (hp 2 c rfl).1⟩
  · obtain rfl : op = 34 := hop
    obtain ⟨h1, h2, h3, h4, hp⟩ := node_open (f := _) (lo := _) (hi := _) rfl hfit
    have hn : n = 0 := by simpa [numB] using h3
    subst hn
    obtain rfl : s = ⟨#[]⟩ := empty_bytes (by simpa [testB] using h4)
    obtain ⟨a, b, rfl⟩ := lenT2 h1 h2
    exact .wh a b ln ⟨(hp 0 a rfl).2, part_of (hp 0 a rfl).1 (by decide) (by decide) (by decide) (by decide) (by decide) (by decide)⟩ ⟨(hp 1 b rfl).2, by simpa [partB] using (hp 1 b rfl).1⟩
  · obtain rfl : op = 35 := hop
    obtain ⟨h1, h2, h3, h4, hp⟩ := node_open (f := _) (lo := _) (hi := _) rfl hfit
    have hn : n = 0 := by simpa [numB] using h3
    subst hn
    have hnm : nameB s.data.toList = true := by simpa [testB] using h4
    obtain ⟨a, b, rfl⟩ := lenT2 h1 h2
    exact .fo s a b ln hnm ⟨(hp 0 a rfl).2, part_of (hp 0 a rfl).1 (by decide) (by decide) (by decide) (by decide) (by decide) (by decide)⟩ ⟨(hp 1 b rfl).2, by simpa [partB] using (hp 1 b rfl).1⟩
  · obtain rfl : op = 36 := hop
    obtain ⟨h1, h2, h3, h4, hp⟩ := node_open (f := _) (lo := _) (hi := _) rfl hfit
    have hn : n = 0 := by simpa [numB] using h3
    subst hn
    obtain rfl : s = ⟨#[]⟩ := empty_bytes (by simpa [testB] using h4)
    by_cases h0 : l = []
    · subst h0
      exact .r0 ln
    · obtain ⟨a, rfl⟩ := lenT1 (l := l) (by have := List.length_pos_iff.2 h0; omega) h2
      exact .r1 a ln ⟨(hp 0 a rfl).2, part_of (hp 0 a rfl).1 (by decide) (by decide) (by decide) (by decide) (by decide) (by decide)⟩
  · obtain rfl : op = 37 := hop
    obtain ⟨h1, h2, h3, h4, hp⟩ := node_open (f := _) (lo := _) (hi := _) rfl hfit
    have hn : n = 0 := by simpa [numB] using h3
    subst hn
    obtain rfl : s = ⟨#[]⟩ := empty_bytes (by simpa [testB] using h4)
    obtain ⟨a, rfl⟩ := lenT1 h1 h2
    exact .th a ln ⟨(hp 0 a rfl).2, part_of (hp 0 a rfl).1 (by decide) (by decide) (by decide) (by decide) (by decide) (by decide)⟩
  · obtain rfl : op = 38 := hop
    obtain ⟨h1, h2, h3, h4, hp⟩ := node_open (f := _) (lo := _) (hi := _) rfl hfit
    have hn : n = 0 := by simpa [numB] using h3
    subst hn
    have hnm : nameB s.data.toList = true := by simpa [testB] using h4
    obtain ⟨a, b, rfl⟩ := lenT2 h1 h2
    exact .tr s a b ln hnm ⟨(hp 0 a rfl).2, by simpa [partB] using (hp 0 a rfl).1⟩ ⟨(hp 1 b rfl).2, by simpa [partB] using (hp 1 b rfl).1⟩
  · obtain rfl : op = 39 := hop
    obtain ⟨h1, h2, h3, h4, hp⟩ := node_open (f := _) (lo := _) (hi := _) rfl hfit
    have hn : n = 0 := by simpa [numB] using h3
    subst hn
    obtain rfl : s = ⟨#[]⟩ := empty_bytes (by simpa [testB] using h4)
    obtain rfl := lenT0 h2
    exact .br ln
  · obtain rfl : op = 40 := hop
    obtain ⟨h1, h2, h3, h4, hp⟩ := node_open (f := _) (lo := _) (hi := _) rfl hfit
    have hn : n = 0 := by simpa [numB] using h3
    subst hn
    obtain rfl : s = ⟨#[]⟩ := empty_bytes (by simpa [testB] using h4)
    obtain rfl := lenT0 h2
    exact .co ln
  · obtain rfl : op = 41 := hop
    obtain ⟨h1, h2, h3, h4, hp⟩ := node_open (f := _) (lo := _) (hi := _) rfl hfit
    have hn : n = 0 := by simpa [numB] using h3
    subst hn
    have hnm : nameB s.data.toList = true := by simpa [testB] using h4
    obtain ⟨ks, b, rfl⟩ := lenTL h1
    obtain ⟨g1, g2⟩ := fun_parts (.inr rfl) hp
    exact .fn s ks b ln hnm g1 g2

/-! ### how texts begin -/
theorem wV_word : wV.all partB8 = true ∧ wordB wV = true := ⟨by decide, by decide +kernel⟩
theorem wI_word : wI.all partB8 = true ∧ wordB wI = true := ⟨by decide, by decide +kernel⟩
theorem wW_word : wW.all partB8 = true ∧ wordB wW = true := ⟨by decide, by decide +kernel⟩
theorem wO_word : wO.all partB8 = true ∧ wordB wO = true := ⟨by decide, by decide +kernel⟩
theorem wR_word : wR.all partB8 = true ∧ wordB wR = true := ⟨by decide, by decide +kernel⟩
theorem wT_word : wT.all partB8 = true ∧ wordB wT = true := ⟨by decide, by decide +kernel⟩
theorem wY_word : wY.all partB8 = true ∧ wordB wY = true := ⟨by decide, by decide +kernel⟩
theorem wB_word : wB.all partB8 = true ∧ wordB wB = true := ⟨by decide, by decide +kernel⟩
theorem wC_word : wC.all partB8 = true ∧ wordB wC = true := ⟨by decide, by decide +kernel⟩
theorem runF_word : runF.all partB8 = true ∧ wordB runF = true := ⟨by decide, by decide +kernel⟩
theorem runN_word : runN.all partB8 = true ∧ wordB runN = true := ⟨by decide, by decide +kernel⟩
theorem con_word {k : Int} (h4 : 4 ≤ k) (h9 : k ≤ 9) : (wordOf k).all partB8 = true ∧ wordB (wordOf k) = true ∧ ∃ c r, wordOf k = c :: r ∧ letterB c = true := by
  have h : k = 4 ∨ k = 5 ∨ k = 6 ∨ k = 7 ∨ k = 8 ∨ k = 9 := by omega
  rcases h with rfl | rfl | rfl | rfl | rfl | rfl <;> exact ⟨by decide, by decide +kernel, _, _, rfl, by decide⟩
theorem con_inj {k m : Int} (h4 : 4 ≤ k) (h9 : k ≤ 9) (g4 : 4 ≤ m) (g9 : m ≤ 9) (e : wordOf k = wordOf m) : k = m := by
  have h : k = 4 ∨ k = 5 ∨ k = 6 ∨ k = 7 ∨ k = 8 ∨ k = 9 := by omega
  have g : m = 4 ∨ m = 5 ∨ m = 6 ∨ m = 7 ∨ m = 8 ∨ m = 9 := by omega
  rcases h with rfl | rfl | rfl | rfl | rfl | rfl <;> rcases g with rfl | rfl | rfl | rfl | rfl | rfl <;> first | rfl | (exfalso; revert e; decide)
def okHead : List UInt8 → Prop
  | [] => False
  | c :: _ => letterB c = true ∨ digitI c.toNat = true ∨ c = 34 ∨ c = 40
def okRun (w : List UInt8) : Prop := w = [] ∨ (∃ c r, w = c :: r ∧ digitI c.toNat = true) ∨ nameB w = true ∨ ∃ k : Int, 4 ≤ k ∧ k ≤ 9 ∧ w = wordOf k
theorem okHead.not {c : UInt8} {x : List UInt8} (h : okHead (c :: x)) (h1 : letterB c = false) (h2 : digitI c.toNat = false) (h3 : c ≠ 34) (h4 : c ≠ 40) : False := by
  rcases h with h | h | h | h
  · rw [h1] at h; cases h
  · rw [h2] at h; cases h
  · exact h3 h
  · exact h4 h
theorem okHead.ne {z : List UInt8} (h : okHead z) {c : UInt8} (h1 : letterB c = false) (h2 : digitI c.toNat = false) (h3 : c ≠ 34) (h4 : c ≠ 40) : z.head? ≠ some c := by
  cases z with
  | nil => simp
  | cons d x =>
    intro e
    have : d = c := by simpa using e
    subst this
    exact h.not h1 h2 h3 h4
theorem okRun.not {w : List UInt8} (h : okRun w) {c : UInt8} {r : List UInt8} (h0 : w = c :: r) (h1 : digitI c.toNat = false) (h2 : wordB w = true) (h3 : ∀ k : Int, 4 ≤ k → k ≤ 9 → w ≠ wordOf k) : False := by
  rcases h with h | ⟨d, q, h, hd⟩ | h | ⟨k, h4, h9, h⟩
  · rw [h] at h0; cases h0
  · rw [h] at h0
    injection h0 with h0 _
    rw [h0, h1] at hd
    cases hd
  · have := (name_part h).2.1
    rw [h2] at this
    cases this
  · exact h3 k h4 h9 h
theorem con_not {w : List UInt8} (h : w ≠ wordOf 4 ∧ w ≠ wordOf 5 ∧ w ≠ wordOf 6 ∧ w ≠ wordOf 7 ∧ w ≠ wordOf 8 ∧ w ≠ wordOf 9) (k : Int) (h4 : 4 ≤ k) (h9 : k ≤ 9) : w ≠ wordOf k := by
  have g : k = 4 ∨ k = 5 ∨ k = 6 ∨ k = 7 ∨ k = 8 ∨ k = 9 := by omega
  rcases g with rfl | rfl | rfl | rfl | rfl | rfl
  · exact h.1
  · exact h.2.1
  · exact h.2.2.1
  · exact h.2.2.2.1
  · exact h.2.2.2.2.1
  · exact h.2.2.2.2.2
theorem okRun.wVn {w : List UInt8} (h : okRun w) : w ≠ wV := fun e => h.not (c := 118) (r := [97, 114]) e (by decide) (by rw [e]; exact wV_word.2) (by rw [e]; exact con_not (by decide))
theorem okRun.wIn {w : List UInt8} (h : okRun w) : w ≠ wI := fun e => h.not (c := 105) (r := [102]) e (by decide) (by rw [e]; exact wI_word.2) (by rw [e]; exact con_not (by decide))
theorem okRun.wWn {w : List UInt8} (h : okRun w) : w ≠ wW := fun e => h.not (c := 119) (r := [104, 105, 108, 101]) e (by decide) (by rw [e]; exact wW_word.2) (by rw [e]; exact con_not (by decide))
theorem okRun.wOn {w : List UInt8} (h : okRun w) : w ≠ wO := fun e => h.not (c := 102) (r := [111, 114]) e (by decide) (by rw [e]; exact wO_word.2) (by rw [e]; exact con_not (by decide))
theorem okRun.wRn {w : List UInt8} (h : okRun w) : w ≠ wR := fun e => h.not (c := 114) (r := [101, 116, 117, 114, 110]) e (by decide) (by rw [e]; exact wR_word.2) (by rw [e]; exact con_not (by decide))
theorem okRun.wTn {w : List UInt8} (h : okRun w) : w ≠ wT := fun e => h.not (c := 116) (r := [104, 114, 111, 119]) e (by decide) (by rw [e]; exact wT_word.2) (by rw [e]; exact con_not (by decide))
theorem okRun.wYn {w : List UInt8} (h : okRun w) : w ≠ wY := fun e => h.not (c := 116) (r := [114, 121]) e (by decide) (by rw [e]; exact wY_word.2) (by rw [e]; exact con_not (by decide))
theorem okRun.wBn {w : List UInt8} (h : okRun w) : w ≠ wB := fun e => h.not (c := 98) (r := [114, 101, 97, 107]) e (by decide) (by rw [e]; exact wB_word.2) (by rw [e]; exact con_not (by decide))
theorem okRun.wCn {w : List UInt8} (h : okRun w) : w ≠ wC := fun e => h.not (c := 99) (r := [111, 110, 116, 105, 110, 117, 101]) e (by decide) (by rw [e]; exact wC_word.2) (by rw [e]; exact con_not (by decide))
theorem okRun.runFn {w : List UInt8} (h : okRun w) : w ≠ runF := fun e => h.not (c := 102) (r := [117, 110, 99, 116, 105, 111, 110]) e (by decide) (by rw [e]; exact runF_word.2) (by rw [e]; exact con_not (by decide))
theorem okRun.runNn {w : List UInt8} (h : okRun w) : w ≠ runN := fun e => h.not (c := 110) (r := [101, 119]) e (by decide) (by rw [e]; exact runN_word.2) (by rw [e]; exact con_not (by decide))

theorem head_paren (x : List UInt8) : okHead (40 :: x) ∧ okRun ((40 :: x).takeWhile partB8) := ⟨.inr (.inr (.inr rfl)), .inl (run_np (by decide))⟩
theorem head_expr : ∀ (h : Nat) {e : Tree} {i x : List UInt8}, EF h e → h ≤ 100 → np x → okHead (tx e i ++ x) ∧ okRun ((tx e i ++ x).takeWhile partB8)
  | 0, e, i, x, he, _, _ => by
    have := he.1
    simp [fitsB] at this
  | h + 1, e, i, x, he, hh, hx => by
    have hf := he.1
    cases ek_of he.1 he.2 with
    | name s ln hn =>
      rw [tx_t1 hf hh]
      obtain ⟨h1, _, c, r, h3, h4⟩ := name_part hn
      rw [run_of h1 hx]
      refine ⟨?_, .inr (.inr (.inl hn))⟩
      rw [h3]
      exact .inl h4
    | num n ln hn =>
      rw [tx_t2 hf hh]
      obtain ⟨h1, c, r, h3, h4⟩ := itoa_part hn
      rw [run_of h1 hx]
      refine ⟨?_, .inr (.inl ⟨c, r, h3, h4⟩)⟩
      rw [h3]
      exact .inr (.inl h4)
    | str s ln =>
      rw [tx_t3 hf hh]
      exact ⟨.inr (.inr (.inl rfl)), .inl (run_np (by decide))⟩
    | con k ln h4 h9 =>
      rw [tx_c hf hh h4 h9]
      obtain ⟨h1, _, c, r, h3, h5⟩ := con_word h4 h9
      rw [run_of h1 hx]
      refine ⟨?_, .inr (.inr (.inr ⟨k, h4, h9, rfl⟩))⟩
      rw [h3]
      exact .inl h5
    | fn s ks b ln h1 h2 h3 => rw [tx_t10 hf hh]; exact head_paren _
    | obj l ln h1 => rw [tx_t11 hf hh]; exact head_paren _
    | mem s a ln h1 h2 =>
      by_cases ha : a.op = 2
      · rw [tx_t13n hf hh ha]; exact head_paren _
      · rw [tx_t13 hf hh ha]; exact head_expr h h2 (by omega) (by show partB8 46 = false; decide)
    | idx a b ln h1 h2 => rw [tx_t14 hf hh]; exact head_expr h h1 (by omega) (by show partB8 91 = false; decide)
    | call a r ln h1 h2 => rw [tx_t15 hf hh]; exact head_expr h h1 (by omega) (by show partB8 40 = false; decide)
    | new a r ln h1 h2 =>
      by_cases ha : a.op = 1
      · rw [tx_t16i hf hh ha]; exact head_paren _
      · rw [tx_t16 hf hh ha]; exact head_paren _
    | bin k s a b ln h1 h2 h3 => rw [tx_b hf hh h1]; exact head_paren _
    | not a ln h1 => rw [tx_t19 hf hh]; exact head_paren _
    | neg a ln h1 => rw [tx_t20 hf hh]; exact head_paren _
    | cond a b c ln h1 h2 h3 => rw [tx_t23 hf hh]; exact head_paren _

end Go.Proofs.YtcidccifnaecaaaDoor
