/- Which tokens a text has: plain words, no program in sight. -/
import Derived.Test.YtcidccifnaecaaaDoorSpec
import Derived.Lib.Index
import Derived.Lib.IndexMore
import Derived.Lib.IndexAny
import Derived.Lib.Strings
namespace Go.Proofs.YtcidccifnaecaaaDoor
open Go.RowKit

def digitB8 (c : UInt8) : Bool := digitI c.toNat
def hexB (c : UInt8) : Bool := (decide (48 ≤ c.toNat) && decide (c.toNat ≤ 57)) || (decide (97 ≤ c.toNat) && decide (c.toNat ≤ 102))
def hexV (c : UInt8) : Nat := if c.toNat ≤ 57 then c.toNat - 48 else c.toNat - 87

/-- Where a text is gone through: what is left, the line, has a line ended. -/
structure Sc where
  s : List UInt8
  line : Nat
  nl : Bool
def passF (x : Sc) (n : Nat) : Sc := ⟨x.s.drop n, x.line + (x.s.take n).count 10, x.nl || decide (0 < (x.s.take n).count 10)⟩

def spacesL : List UInt8 := [32, 9, 13, 10]
/-- How many bytes a blank or a comment has that stands first; none: it has no end. -/
def blankN : List UInt8 → Option Nat
  | [] => some 0
  | c :: r =>
    if spacesL.contains c then some 1
    else if [47, 47].isPrefixOf (c :: r) then some (if Lib.indexByte (c :: r) 10 < 0 then (c :: r).length else (Lib.indexByte (c :: r) 10).toNat)
    else if [47, 42].isPrefixOf (c :: r) then (if Lib.index (r.drop 1) [42, 47] < 0 then none else some ((Lib.index (r.drop 1) [42, 47]).toNat + 4))
    else some 0
def blanksF : Nat → Sc → Bool × Sc
  | 0, x => (true, x)
  | f + 1, x =>
    match blankN x.s with
    | none => (false, x)
    | some 0 => (true, x)
    | some (n + 1) => blanksF f (passF x (n + 1))

/-- The byte of an escape behind its first one, and how many bytes it has. -/
def escapedF : List UInt8 → Option (UInt8 × Nat)
  | [] => none
  | c :: r =>
    if c = 110 then some (10, 1)
    else if c = 116 then some (9, 1)
    else if c = 92 ∨ c = 34 ∨ c = 39 then some (c, 1)
    else if c = 120 then
      match r with
      | a :: b :: _ => if hexB a && hexB b then some (UInt8.ofNat (16 * hexV a + hexV b), 3) else none
      | _ => none
    else none
/-- What a text in quotes says behind its first one, and how many bytes it has from there. -/
def quotedF (q : UInt8) : Nat → List UInt8 → Option (List UInt8 × Nat)
  | 0, _ => none
  | _ + 1, [] => none
  | f + 1, c :: r =>
    if c = q then some ([], 1)
    else if c = 92 then
      match escapedF r with
      | none => none
      | some (x, k) => (quotedF q f (r.drop k)).map fun p => (x :: p.1, p.2 + 1 + k)
    else if c.toNat < 32 ∨ 126 < c.toNat then none
    else (quotedF q f r).map fun p => (c :: p.1, p.2 + 1)

/-- A token but for where it stands. -/
structure Tk where
  kind : Int
  s : List UInt8
  n : Int
def Tk.zero : Tk := ⟨0, [], 0⟩
def numV (l : List UInt8) : Nat := l.foldl (fun a c => a * 10 + (c.toNat - 48)) 0
def numberF (s : List UInt8) : Tk × Nat × Int :=
  let n := (s.takeWhile digitB8).length
  if [46].isPrefixOf (s.drop n) then (.zero, 0, 25)
  else if namesB s ≠ n ∨ 15 < n ∨ (1 < n ∧ s.head? = some 48) then (.zero, 0, 24)
  else (⟨3, [], numV (s.take n)⟩, n, 0)
def signs5 : List (List UInt8) := [[61, 61, 61], [33, 61, 61], [60, 61], [38, 38], [124, 124]]
def beginsF (s : List UInt8) : List (List UInt8) → Nat
  | [] => 0
  | x :: l => if x.isPrefixOf s then x.length else beginsF s l
def signs1 : List UInt8 := [123, 125, 40, 41, 91, 93, 46, 59, 44, 58, 63, 60, 61, 33, 43, 45, 42, 47]
def tokenF (s : List UInt8) : Tk × Nat × Int :=
  match s with
  | [] => (.zero, 0, 21)
  | c :: r =>
    if letterB c then (⟨if wordB (s.take (namesB s)) then 2 else 1, s.take (namesB s), 0⟩, namesB s, 0)
    else if digitB8 c then numberF s
    else if c = 34 ∨ c = 39 then
      match quotedF c r.length r with
      | none => (.zero, 0, 22)
      | some p => (⟨4, p.1, 0⟩, p.2 + 1, 0)
    else if beginsF s signs5 = 0 then (if signs1.contains c then (⟨5, s.take 1, 0⟩, 1, 0) else (.zero, 0, 21))
    else (⟨5, s.take (beginsF s signs5), 0⟩, beginsF s signs5, 0)

/-- A token. -/
structure Tl where
  t : Tk
  line : Nat
  nl : Bool
/-- The tokens from here on, m of them having been told; or a line and an error. -/
def lexGo : Nat → Sc → Nat → List Tl × Option (Nat × Int)
  | 0, _, _ => ([], none)
  | f + 1, x, m =>
    let b := blanksF x.s.length x
    if b.1 = false then ([], some (b.2.line, 23))
    else if b.2.s = [] then ([], none)
    else
      let t := tokenF b.2.s
      if t.2.2 ≠ 0 then ([], some (b.2.line, t.2.2))
      else if m = 20000 then ([], some (b.2.line, 20))
      else
        let r := lexGo f { passF b.2 t.2.1 with nl := false } (m + 1)
        (⟨t.1, b.2.line, b.2.nl⟩ :: r.1, r.2)
/-- What Lex hands back: tokens, a line, an error. -/
def lexF (s : List UInt8) : List Tl × Nat × Int :=
  if 65536 < s.length then ([], 0, 20)
  else
    match lexGo (s.length + 1) ⟨s, 1, false⟩ 0 with
    | (l, none) => (l, 0, 0)
    | (_, some p) => ([], p.1, p.2)

theorem indexByte_lt : ∀ (l : List UInt8) (c : UInt8), Lib.indexByte l c < l.length
  | [], c => by simp [Lib.indexByte]
  | b :: l, c => by
    have h := indexByte_lt l c
    have h0 := Lib.indexByte_ge l c
    unfold Lib.indexByte
    simp only [List.length_cons]
    split
    · omega
    · split <;> omega
theorem blankN_le (s : List UInt8) {n : Nat} (h : blankN s = some n) : n ≤ s.length := by
  cases s with
  | nil => simp [blankN] at h; omega
  | cons c r =>
    rw [blankN] at h
    split at h
    · injection h with h; simp; omega
    · split at h
      · injection h with h
        subst h
        have h0 := Lib.indexByte_ge (c :: r) 10
        have h1 := indexByte_lt (c :: r) 10
        split <;> omega
      · split at h
        · rename_i h3
          split at h
          · cases h
          · injection h with h
            subst h
            have h1 := Lib.index_room (r.drop 1) [42, 47] (by omega)
            cases r with
            | nil => simp at h3
            | cons d r =>
              rename_i h4
              simp only [List.drop_succ_cons, List.drop_zero, List.length_cons, List.length_nil] at h1 h4 ⊢
              omega
        · injection h with h; omega

end Go.Proofs.YtcidccifnaecaaaDoor
