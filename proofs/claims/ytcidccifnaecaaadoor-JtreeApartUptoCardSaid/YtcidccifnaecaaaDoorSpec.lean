/- Which trees may be, and their text: plain words, no program in sight. -/
import Derived.Test.YtcidccifnaecaaaDoorSames
import Derived.Test.YtcidccifnaecaaaDoorForms
import Derived.Lib.ItoaNum
import Derived.Lib.Join
namespace Go.Proofs.YtcidccifnaecaaaDoor
open Go.RowKit

/-! ### bytes -/
def letterI (c : Int) : Bool := (decide (97 ≤ c) && decide (c ≤ 122)) || (decide (65 ≤ c) && decide (c ≤ 90)) || c == 95 || c == 36
def digitI (c : Int) : Bool := decide (48 ≤ c) && decide (c ≤ 57)
def letterB (c : UInt8) : Bool := letterI c.toNat
def partB8 (c : UInt8) : Bool := letterI c.toNat || digitI c.toNat

/-! ### the words that are no names -/
def wordsText : ByteArray := "break case catch continue debugger default delete do else finally for function if in instanceof new return switch this throw try typeof var void while with null true false undefined input".toUTF8
def endAt (k : Nat) : Bool := decide (wordsText.size ≤ k) || decide (wordsText.data.toList[k]? = some 32)
def fromAt : Nat → Nat
  | 0 => 0
  | k + 1 => if endAt k then k + 1 else fromAt k
def wordTo (k : Nat) : List UInt8 := (wordsText.data.toList.take k).drop (fromAt k)
def seenW (s : List UInt8) : Nat → Bool
  | 0 => false
  | k + 1 => seenW s k || (endAt k && decide (wordTo k = s))
def wordB (s : List UInt8) : Bool := seenW s (wordsText.size + 1)
/-- how many of the first bytes are letters and digits -/
def namesB (s : List UInt8) : Nat := (s.takeWhile partB8).length
def nameB (s : List UInt8) : Bool :=
  match s with
  | [] => false
  | c :: _ => letterB c && s.all partB8 && !wordB s
def signsL : List (List UInt8) := [[43], [45], [42], [60], [60, 61], [61, 61, 61], [33, 61, 61]]
def signB (s : List UInt8) : Bool := decide (s ∈ signsL)

/-! ### which trees -/
def testB (k : Int) (s : List UInt8) : Bool :=
  if k = 1 ∨ k = 30 ∨ k = 35 ∨ k = 38 ∨ k = 41 then nameB s
  else if k = 3 ∨ k = 12 then true
  else if k = 10 then s.isEmpty || nameB s
  else if k = 13 then nameB s || wordB s
  else if k = 18 then signB s
  else s.isEmpty
def exprK (op : Int) : Bool := decide (1 ≤ op) && decide (op ≤ 23) && !(op == 12)
def stmtK (op : Int) : Bool := decide (30 ≤ op) && decide (op ≤ 41)
/-- what the i-th of so many parts of a node of kind k must be -/
def partB (k : Int) (len i : Nat) (op : Int) : Bool :=
  if k = 10 ∨ k = 41 then (if i + 1 = len then op == 32 else op == 1)
  else if k = 11 then op == 12
  else if k = 32 then stmtK op
  else if k = 17 ∧ i = 0 then op == 1 || op == 13 || op == 14
  else if k = 38 then op == 32
  else if (k = 33 ∨ k = 34 ∨ k = 35) ∧ 0 < i then op == 32
  else exprK op
def numB (op n : Int) : Bool := n == 0 || (op == 2 && decide (0 ≤ n) && decide (n ≤ 999999999999999))
def kidsB (R : Tree → Bool) (k : Int) (len : Nat) : Nat → List Tree → Bool
  | _, [] => true
  | i, u :: us => partB k len i u.op && R u && kidsB R k len (i + 1) us
def fitStep (R : Tree → Bool) (t : Tree) : Bool :=
  match formF t.op with
  | none => false
  | some (_, lo, hi) => testB t.op t.s.data.toList && decide (lo ≤ t.l.length) && decide ((t.l.length : Int) ≤ hi) && numB t.op t.n && kidsB R t.op t.l.length 0 t.l
def fitsB : Nat → Tree → Bool
  | 0, _ => false
  | h + 1, t => fitStep (fitsB h) t

/-! ### texts -/
def hexC (n : Nat) : UInt8 := if n < 10 then UInt8.ofNat (48 + n) else UInt8.ofNat (87 + n)
def quoteC (c : UInt8) : List UInt8 :=
  if c = 10 then [92, 110] else if c = 9 then [92, 116] else if c = 34 ∨ c = 92 then [92, c]
  else if 32 ≤ c.toNat ∧ c.toNat ≤ 126 then [c] else [92, 120, hexC (c.toNat / 16), hexC (c.toNat % 16)]
def quoteL (s : List UInt8) : List UInt8 := [34] ++ s.flatMap quoteC ++ [34]
def wordOf (k : Int) : List UInt8 :=
  if k = 4 then [116, 114, 117, 101] else if k = 5 then [102, 97, 108, 115, 101] else if k = 6 then [110, 117, 108, 108]
  else if k = 7 then [117, 110, 100, 101, 102, 105, 110, 101, 100] else if k = 8 then [116, 104, 105, 115] else [105, 110, 112, 117, 116]
/-- a function's text from its names on, out of its parts' -/
def funL (ts : List (List UInt8)) : List UInt8 := [40] ++ Lib.join ts.dropLast [44, 32] ++ [41, 32] ++ ts.getLastD []
def linesL (R : Tree → List UInt8 → List UInt8) (l : List Tree) (i : List UInt8) : List UInt8 := l.flatMap fun u => i ++ R u i ++ [10]
def signOf (k : Int) (s : List UInt8) : List UInt8 := if k = 17 then [61] else if k = 21 then [38, 38] else if k = 22 then [124, 124] else s
def stepT (R : Tree → List UInt8 → List UInt8) (t : Tree) (i : List UInt8) : List UInt8 :=
  let ts := t.l.map fun u => R u i
  let c := fun k : Nat => ts.getD k []
  let s := t.s.data.toList
  let k := t.op
  if k = 1 then s
  else if k = 2 then Lib.itoa t.n
  else if k = 3 then quoteL s
  else if 4 ≤ k ∧ k ≤ 9 then wordOf k
  else if k = 10 then [40, 102, 117, 110, 99, 116, 105, 111, 110] ++ (if s = [] then [] else 32 :: s) ++ funL ts ++ [41]
  else if k = 11 then [40, 123] ++ Lib.join ts [44, 32] ++ [125, 41]
  else if k = 12 then quoteL s ++ [58, 32] ++ c 0
  else if k = 13 then (if (t.l.map Tree.op).getD 0 0 = 2 then [40] ++ c 0 ++ [41, 46] else c 0 ++ [46]) ++ s
  else if k = 14 then c 0 ++ [91] ++ c 1 ++ [93]
  else if k = 15 then c 0 ++ [40] ++ Lib.join ts.tail [44, 32] ++ [41]
  else if k = 16 then [40, 110, 101, 119, 32] ++ (if (t.l.map Tree.op).getD 0 0 = 1 then c 0 else [40] ++ c 0 ++ [41]) ++ [40] ++ Lib.join ts.tail [44, 32] ++ [41, 41]
  else if k = 19 then [40, 33] ++ c 0 ++ [41]
  else if k = 20 then [40, 45] ++ c 0 ++ [41]
  else if k = 23 then [40] ++ c 0 ++ [32, 63, 32] ++ c 1 ++ [32, 58, 32] ++ c 2 ++ [41]
  else if k ≤ 23 then [40] ++ c 0 ++ [32] ++ signOf k s ++ [32] ++ c 1 ++ [41]
  else if k = 30 then [118, 97, 114, 32] ++ s ++ (if ts = [] then [] else [32, 61, 32] ++ c 0) ++ [59]
  else if k = 31 then c 0 ++ [59]
  else if k = 32 then [123, 10] ++ linesL R t.l (i ++ [32, 32]) ++ i ++ [125]
  else if k = 33 then [105, 102, 32, 40] ++ c 0 ++ [41, 32] ++ c 1 ++ (if ts.length = 3 then [32, 101, 108, 115, 101, 32] ++ c 2 else [])
  else if k = 34 then [119, 104, 105, 108, 101, 32, 40] ++ c 0 ++ [41, 32] ++ c 1
  else if k = 35 then [102, 111, 114, 32, 40, 118, 97, 114, 32] ++ s ++ [32, 105, 110, 32] ++ c 0 ++ [41, 32] ++ c 1
  else if k = 36 then (if ts = [] then [114, 101, 116, 117, 114, 110] else [114, 101, 116, 117, 114, 110, 32] ++ c 0) ++ [59]
  else if k = 37 then [116, 104, 114, 111, 119, 32] ++ c 0 ++ [59]
  else if k = 38 then [116, 114, 121, 32] ++ c 0 ++ [32, 99, 97, 116, 99, 104, 32, 40] ++ s ++ [41, 32] ++ c 1
  else if k = 39 then [98, 114, 101, 97, 107, 59]
  else if k = 40 then [99, 111, 110, 116, 105, 110, 117, 101, 59]
  else [102, 117, 110, 99, 116, 105, 111, 110, 32] ++ s ++ funL ts
def T : Nat → Tree → List UInt8 → List UInt8
  | 0, _, _ => []
  | h + 1, t, i => stepT (T h) t i

end Go.Proofs.YtcidccifnaecaaaDoor
