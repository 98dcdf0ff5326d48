/-
  No cell of these rows narrows 'for every input' (looked for: loops, veiled, ifaces, maps, wideKeys, modest, calm, conditions, laid).
  DERIVED. THE GIVEN ROWS OF THIS SEAT. 8 by the template 'for every input the law returns true; each argument reads behind the call as it read before'; 0 by the template 'total and deterministic' (their statements: YtbdkbjfaialeoaaTotals.lean).
  GIVEN WITH THE SEED: the statements are not yours to turn. If you find one false, say at which input.
  Laid BY PROGRAM, IN A SANDBOX (cutbox-rows.mjs): the forced cells as the released guide's own fill.sh prints them over the translation 1bb7cab8310d7167… (all of the seat's roots in one cut). By AI agents, Wed Nov 11 2026. No macro, syntax, notation, axiom, sorry.
-/
import Derived.Test.YtbdkbjfaialeoaaChecked
import GoSem.Claim
import GoSem.ClaimJoined
import GoSem.ClaimMapViews
import Derived.JoinedTies
import Derived.KernelRfl
namespace Go.Proofs.Ytbdkbjfaialeoaa
/- THE CELL 'sum', in the pinned program and in every row, IS THE sha256 OF THE DUMP (.gsa) THAT YtbdkbjfaialeoaaProg.lean LOADS. Nothing in Lean hashes anything: it is a label: what it is worth is what the hold of that sum in a sandbox is worth. -/
noncomputable def Try.pinned : Pinned := { name := "ytbdkbjfaialeoaa", sum := "1bb7cab8310d7167b5aa8357d7aaa08b350a30e1ccb00fd2dc23a3f0fcec401a", checked := Try.checked }
namespace Rows
def none {H : Type} : Left H := { results := [], args := [] }

/-- 'gumshoelaw07.HeapFull': WHATEVER THE INPUT: true; the input reads as it did. -/
def heapFullSpec : ChangeSpec := { name := "heapFull", fn := fun _ => fun
  | [d] => { results := [.lit (.bool true)], args := [d] }
  | _ => none }
def heapFullRow : OpenClaim := { program := "ytbdkbjfaialeoaa", sum := "1bb7cab8310d7167b5aa8357d7aaa08b350a30e1ccb00fd2dc23a3f0fcec401a", func := "gumshoe/gumshoelaw07.HeapFull", spec := "heapFull", unfollowed := true, recurses := true, apart := false }
def HeapFullSaid : Prop := heapFullRow.holds Try.pinned (OpenSpec.ofChange heapFullSpec)

/-- ITS FALSE NEIGHBOUR: 'it returns false'. Refute it at one input. -/
def heapFullWrong : ChangeSpec := { name := "heapFull", fn := fun _ => fun
  | [d] => { results := [.lit (.bool false)], args := [d] }
  | _ => none }
def HeapFullWrongFalsely : Prop := heapFullRow.holds Try.pinned (OpenSpec.ofChange heapFullWrong)

/-- 'gumshoelaw07.HeapKeeps': WHATEVER THE INPUT: true; the input reads as it did. -/
def heapKeepsSpec : ChangeSpec := { name := "heapKeeps", fn := fun _ => fun
  | [d1, d2, d3] => { results := [.lit (.bool true)], args := [d1, d2, d3] }
  | _ => none }
def heapKeepsRow : OpenClaim := { program := "ytbdkbjfaialeoaa", sum := "1bb7cab8310d7167b5aa8357d7aaa08b350a30e1ccb00fd2dc23a3f0fcec401a", func := "gumshoe/gumshoelaw07.HeapKeeps", spec := "heapKeeps", unfollowed := true, recurses := true, apart := false }
def HeapKeepsSaid : Prop := heapKeepsRow.holds Try.pinned (OpenSpec.ofChange heapKeepsSpec)

/-- ITS FALSE NEIGHBOUR: 'it returns false'. Refute it at one input. -/
def heapKeepsWrong : ChangeSpec := { name := "heapKeeps", fn := fun _ => fun
  | [d1, d2, d3] => { results := [.lit (.bool false)], args := [d1, d2, d3] }
  | _ => none }
def HeapKeepsWrongFalsely : Prop := heapKeepsRow.holds Try.pinned (OpenSpec.ofChange heapKeepsWrong)

/-- 'gumshoelaw07.HeapHides': WHATEVER THE INPUT: true; the input reads as it did. -/
def heapHidesSpec : ChangeSpec := { name := "heapHides", fn := fun _ => fun
  | [d1, d2, d3, d4] => { results := [.lit (.bool true)], args := [d1, d2, d3, d4] }
  | _ => none }
def heapHidesRow : OpenClaim := { program := "ytbdkbjfaialeoaa", sum := "1bb7cab8310d7167b5aa8357d7aaa08b350a30e1ccb00fd2dc23a3f0fcec401a", func := "gumshoe/gumshoelaw07.HeapHides", spec := "heapHides", unfollowed := true, recurses := true, apart := false }
def HeapHidesSaid : Prop := heapHidesRow.holds Try.pinned (OpenSpec.ofChange heapHidesSpec)

/-- ITS FALSE NEIGHBOUR: 'it returns false'. Refute it at one input. -/
def heapHidesWrong : ChangeSpec := { name := "heapHides", fn := fun _ => fun
  | [d1, d2, d3, d4] => { results := [.lit (.bool false)], args := [d1, d2, d3, d4] }
  | _ => none }
def HeapHidesWrongFalsely : Prop := heapHidesRow.holds Try.pinned (OpenSpec.ofChange heapHidesWrong)

/-- 'gumshoelaw07.HeapTwo': WHATEVER THE INPUT: true; the input reads as it did. -/
def heapTwoSpec : ChangeSpec := { name := "heapTwo", fn := fun _ => fun
  | [d] => { results := [.lit (.bool true)], args := [d] }
  | _ => none }
def heapTwoRow : OpenClaim := { program := "ytbdkbjfaialeoaa", sum := "1bb7cab8310d7167b5aa8357d7aaa08b350a30e1ccb00fd2dc23a3f0fcec401a", func := "gumshoe/gumshoelaw07.HeapTwo", spec := "heapTwo", unfollowed := true, recurses := true, apart := false }
def HeapTwoSaid : Prop := heapTwoRow.holds Try.pinned (OpenSpec.ofChange heapTwoSpec)

/-- ITS FALSE NEIGHBOUR: 'it returns false'. Refute it at one input. -/
def heapTwoWrong : ChangeSpec := { name := "heapTwo", fn := fun _ => fun
  | [d] => { results := [.lit (.bool false)], args := [d] }
  | _ => none }
def HeapTwoWrongFalsely : Prop := heapTwoRow.holds Try.pinned (OpenSpec.ofChange heapTwoWrong)

/-- 'gumshoelaw07.HeapChains': WHATEVER THE INPUT: true; the input reads as it did. -/
def heapChainsSpec : ChangeSpec := { name := "heapChains", fn := fun _ => fun
  | [d] => { results := [.lit (.bool true)], args := [d] }
  | _ => none }
def heapChainsRow : OpenClaim := { program := "ytbdkbjfaialeoaa", sum := "1bb7cab8310d7167b5aa8357d7aaa08b350a30e1ccb00fd2dc23a3f0fcec401a", func := "gumshoe/gumshoelaw07.HeapChains", spec := "heapChains", unfollowed := true, recurses := true, apart := false }
def HeapChainsSaid : Prop := heapChainsRow.holds Try.pinned (OpenSpec.ofChange heapChainsSpec)

/-- ITS FALSE NEIGHBOUR: 'it returns false'. Refute it at one input. -/
def heapChainsWrong : ChangeSpec := { name := "heapChains", fn := fun _ => fun
  | [d] => { results := [.lit (.bool false)], args := [d] }
  | _ => none }
def HeapChainsWrongFalsely : Prop := heapChainsRow.holds Try.pinned (OpenSpec.ofChange heapChainsWrong)

/-- 'gumshoelaw07.HeapOrder': WHATEVER THE INPUT: true; the input reads as it did. -/
def heapOrderSpec : ChangeSpec := { name := "heapOrder", fn := fun _ => fun
  | [d] => { results := [.lit (.bool true)], args := [d] }
  | _ => none }
def heapOrderRow : OpenClaim := { program := "ytbdkbjfaialeoaa", sum := "1bb7cab8310d7167b5aa8357d7aaa08b350a30e1ccb00fd2dc23a3f0fcec401a", func := "gumshoe/gumshoelaw07.HeapOrder", spec := "heapOrder", unfollowed := true, recurses := true, apart := false }
def HeapOrderSaid : Prop := heapOrderRow.holds Try.pinned (OpenSpec.ofChange heapOrderSpec)

/-- ITS FALSE NEIGHBOUR: 'it returns false'. Refute it at one input. -/
def heapOrderWrong : ChangeSpec := { name := "heapOrder", fn := fun _ => fun
  | [d] => { results := [.lit (.bool false)], args := [d] }
  | _ => none }
def HeapOrderWrongFalsely : Prop := heapOrderRow.holds Try.pinned (OpenSpec.ofChange heapOrderWrong)

/-- 'gumshoelaw07.HeapDoes': WHATEVER THE INPUT: true; the input reads as it did. -/
def heapDoesSpec : ChangeSpec := { name := "heapDoes", fn := fun _ => fun
  | [d] => { results := [.lit (.bool true)], args := [d] }
  | _ => none }
def heapDoesRow : OpenClaim := { program := "ytbdkbjfaialeoaa", sum := "1bb7cab8310d7167b5aa8357d7aaa08b350a30e1ccb00fd2dc23a3f0fcec401a", func := "gumshoe/gumshoelaw07.HeapDoes", spec := "heapDoes", unfollowed := true, recurses := true, apart := false }
def HeapDoesSaid : Prop := heapDoesRow.holds Try.pinned (OpenSpec.ofChange heapDoesSpec)

/-- ITS FALSE NEIGHBOUR: 'it returns false'. Refute it at one input. -/
def heapDoesWrong : ChangeSpec := { name := "heapDoes", fn := fun _ => fun
  | [d] => { results := [.lit (.bool false)], args := [d] }
  | _ => none }
def HeapDoesWrongFalsely : Prop := heapDoesRow.holds Try.pinned (OpenSpec.ofChange heapDoesWrong)

/-- 'gumshoelaw07.HeapNone': WHATEVER THE INPUT: true; the input reads as it did. -/
def heapNoneSpec : ChangeSpec := { name := "heapNone", fn := fun _ => fun
  | [d1, d2, d3] => { results := [.lit (.bool true)], args := [d1, d2, d3] }
  | _ => none }
def heapNoneRow : OpenClaim := { program := "ytbdkbjfaialeoaa", sum := "1bb7cab8310d7167b5aa8357d7aaa08b350a30e1ccb00fd2dc23a3f0fcec401a", func := "gumshoe/gumshoelaw07.HeapNone", spec := "heapNone", unfollowed := true, recurses := true, apart := false }
def HeapNoneSaid : Prop := heapNoneRow.holds Try.pinned (OpenSpec.ofChange heapNoneSpec)

/-- ITS FALSE NEIGHBOUR: 'it returns false'. Refute it at one input. -/
def heapNoneWrong : ChangeSpec := { name := "heapNone", fn := fun _ => fun
  | [d1, d2, d3] => { results := [.lit (.bool false)], args := [d1, d2, d3] }
  | _ => none }
def HeapNoneWrongFalsely : Prop := heapNoneRow.holds Try.pinned (OpenSpec.ofChange heapNoneWrong)

/- THE SECOND FORM. 'bulk': how many values and letters a reading holds, each counted each time it is reached (what is shared counts as often as it is met; a slice's spare places count too). A statement '..UptoSaid' is the law's where the arguments, and the package variables that the reading takes, are together of bulk at most 1048576: NARROWER than '..Said'. Prove '..Said' where nothing that the law and all that it calls make is longer than what came in: it says more and counts as full. Else prove '..UptoSaid'. A law counts once. -/
mutual
def uptoBulk {H : Type} : DataW H → Nat
  | .lit (.string bytes) => bytes.length + 1
  | .lit _ => 1
  | .nil => 1
  | .ptr d => uptoBulk d + 1
  | .slice elems spare => uptoBulkAll elems + uptoBulkAll spare + 1
  | .agg parts => uptoBulkAll parts + 1
  | .iface _ d => uptoBulk d + 1
  | .map entries => uptoBulkEntries entries + 1
  | .held _ => 1
def uptoBulkAll {H : Type} : List (DataW H) → Nat
  | [] => 0
  | d :: r => uptoBulk d + uptoBulkAll r
def uptoBulkEntries {H : Type} : List (Lit × DataW H) → Nat
  | [] => 0
  | x :: r => uptoBulkEntry x + uptoBulkEntries r
def uptoBulkEntry {H : Type} : Lit × DataW H → Nat
  | (.string bytes, d) => bytes.length + uptoBulk d + 1
  | (_, d) => uptoBulk d + 1
 end
def uptoSmall : (H : Type) → List (DataW H) → Bool := fun _ ds => decide (uptoBulkAll ds ≤ 1048576)
def OpenSpec.upto (s : _root_.Go.ChangeSpec) : _root_.Go.OpenSpec := { _root_.Go.OpenSpec.ofChange s with cond := some uptoSmall }

/-- 'gumshoelaw07.HeapFull', WHERE WHAT IT READS IS OF BULK AT MOST 1048576: true; the input reads as it did. -/
def heapFullUptoRow : OpenClaim := { program := "ytbdkbjfaialeoaa", sum := "1bb7cab8310d7167b5aa8357d7aaa08b350a30e1ccb00fd2dc23a3f0fcec401a", func := "gumshoe/gumshoelaw07.HeapFull", spec := "heapFull", unfollowed := true, recurses := true, apart := false, narrowed := true }
def HeapFullUptoSaid : Prop := heapFullUptoRow.holds Try.pinned (OpenSpec.upto heapFullSpec)

/-- 'gumshoelaw07.HeapKeeps', WHERE WHAT IT READS IS OF BULK AT MOST 1048576: true; the input reads as it did. -/
def heapKeepsUptoRow : OpenClaim := { program := "ytbdkbjfaialeoaa", sum := "1bb7cab8310d7167b5aa8357d7aaa08b350a30e1ccb00fd2dc23a3f0fcec401a", func := "gumshoe/gumshoelaw07.HeapKeeps", spec := "heapKeeps", unfollowed := true, recurses := true, apart := false, narrowed := true }
def HeapKeepsUptoSaid : Prop := heapKeepsUptoRow.holds Try.pinned (OpenSpec.upto heapKeepsSpec)

/-- 'gumshoelaw07.HeapHides', WHERE WHAT IT READS IS OF BULK AT MOST 1048576: true; the input reads as it did. -/
def heapHidesUptoRow : OpenClaim := { program := "ytbdkbjfaialeoaa", sum := "1bb7cab8310d7167b5aa8357d7aaa08b350a30e1ccb00fd2dc23a3f0fcec401a", func := "gumshoe/gumshoelaw07.HeapHides", spec := "heapHides", unfollowed := true, recurses := true, apart := false, narrowed := true }
def HeapHidesUptoSaid : Prop := heapHidesUptoRow.holds Try.pinned (OpenSpec.upto heapHidesSpec)

/-- 'gumshoelaw07.HeapTwo', WHERE WHAT IT READS IS OF BULK AT MOST 1048576: true; the input reads as it did. -/
def heapTwoUptoRow : OpenClaim := { program := "ytbdkbjfaialeoaa", sum := "1bb7cab8310d7167b5aa8357d7aaa08b350a30e1ccb00fd2dc23a3f0fcec401a", func := "gumshoe/gumshoelaw07.HeapTwo", spec := "heapTwo", unfollowed := true, recurses := true, apart := false, narrowed := true }
def HeapTwoUptoSaid : Prop := heapTwoUptoRow.holds Try.pinned (OpenSpec.upto heapTwoSpec)

/-- 'gumshoelaw07.HeapChains', WHERE WHAT IT READS IS OF BULK AT MOST 1048576: true; the input reads as it did. -/
def heapChainsUptoRow : OpenClaim := { program := "ytbdkbjfaialeoaa", sum := "1bb7cab8310d7167b5aa8357d7aaa08b350a30e1ccb00fd2dc23a3f0fcec401a", func := "gumshoe/gumshoelaw07.HeapChains", spec := "heapChains", unfollowed := true, recurses := true, apart := false, narrowed := true }
def HeapChainsUptoSaid : Prop := heapChainsUptoRow.holds Try.pinned (OpenSpec.upto heapChainsSpec)

/-- 'gumshoelaw07.HeapOrder', WHERE WHAT IT READS IS OF BULK AT MOST 1048576: true; the input reads as it did. -/
def heapOrderUptoRow : OpenClaim := { program := "ytbdkbjfaialeoaa", sum := "1bb7cab8310d7167b5aa8357d7aaa08b350a30e1ccb00fd2dc23a3f0fcec401a", func := "gumshoe/gumshoelaw07.HeapOrder", spec := "heapOrder", unfollowed := true, recurses := true, apart := false, narrowed := true }
def HeapOrderUptoSaid : Prop := heapOrderUptoRow.holds Try.pinned (OpenSpec.upto heapOrderSpec)

/-- 'gumshoelaw07.HeapDoes', WHERE WHAT IT READS IS OF BULK AT MOST 1048576: true; the input reads as it did. -/
def heapDoesUptoRow : OpenClaim := { program := "ytbdkbjfaialeoaa", sum := "1bb7cab8310d7167b5aa8357d7aaa08b350a30e1ccb00fd2dc23a3f0fcec401a", func := "gumshoe/gumshoelaw07.HeapDoes", spec := "heapDoes", unfollowed := true, recurses := true, apart := false, narrowed := true }
def HeapDoesUptoSaid : Prop := heapDoesUptoRow.holds Try.pinned (OpenSpec.upto heapDoesSpec)

/-- 'gumshoelaw07.HeapNone', WHERE WHAT IT READS IS OF BULK AT MOST 1048576: true; the input reads as it did. -/
def heapNoneUptoRow : OpenClaim := { program := "ytbdkbjfaialeoaa", sum := "1bb7cab8310d7167b5aa8357d7aaa08b350a30e1ccb00fd2dc23a3f0fcec401a", func := "gumshoe/gumshoelaw07.HeapNone", spec := "heapNone", unfollowed := true, recurses := true, apart := false, narrowed := true }
def HeapNoneUptoSaid : Prop := heapNoneUptoRow.holds Try.pinned (OpenSpec.upto heapNoneSpec)

end Rows
end Go.Proofs.Ytbdkbjfaialeoaa
