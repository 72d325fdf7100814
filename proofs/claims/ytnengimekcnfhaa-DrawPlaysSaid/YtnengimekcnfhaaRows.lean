/-
  No cell of these rows narrows 'for every input' (looked for: loops, veiled, ifaces, maps, wideKeys, modest, calm, conditions, laid).
  DERIVED. THE GIVEN ROWS OF THIS SEAT. 3 by the template 'for every input the law returns true; each argument reads behind the call as it read before'; 0 by the template 'total and deterministic' (their statements: YtnengimekcnfhaaTotals.lean).
  GIVEN WITH THE SEED: the statements are not yours to turn. If you find one false, say at which input.
  Laid BY PROGRAM, IN A SANDBOX (cutbox-rows.mjs): the forced cells as the released guide's own fill.sh prints them over the translation fd49f3282a36d329… (all of the seat's roots in one cut). By AI agents, Wed Nov 11 2026. No macro, syntax, notation, axiom, sorry.
-/
import Derived.Test.YtnengimekcnfhaaChecked
import GoSem.Claim
import GoSem.ClaimJoined
import GoSem.ClaimMapViews
import Derived.JoinedTies
import Derived.KernelRfl
namespace Go.Proofs.Ytnengimekcnfhaa
/- THE CELL 'sum', in the pinned program and in every row, IS THE sha256 OF THE DUMP (.gsa) THAT YtnengimekcnfhaaProg.lean LOADS. Nothing in Lean hashes anything: it is a label: what it is worth is what the hold of that sum in a sandbox is worth. -/
noncomputable def Try.pinned : Pinned := { name := "ytnengimekcnfhaa", sum := "fd49f3282a36d3298493825dd5c9b8aa96be9c77db7c6d021eb76875a170cdcd", checked := Try.checked }
namespace Rows
def none {H : Type} : Left H := { results := [], args := [] }

/-- 'betonylaw13.DrawFull': WHATEVER THE INPUT: true; the input reads as it did. -/
def drawFullSpec : ChangeSpec := { name := "drawFull", fn := fun _ => fun
  | [d1, d2, d3, d4] => { results := [.lit (.bool true)], args := [d1, d2, d3, d4] }
  | _ => none }
def drawFullRow : OpenClaim := { program := "ytnengimekcnfhaa", sum := "fd49f3282a36d3298493825dd5c9b8aa96be9c77db7c6d021eb76875a170cdcd", func := "betony/betonylaw13.DrawFull", spec := "drawFull", inPlace := ["slices.overlaps[betony/api.Window]"], unfollowed := true, recurses := true, apart := false }
def DrawFullSaid : Prop := drawFullRow.holds Try.pinned (OpenSpec.ofChange drawFullSpec)

/-- ITS FALSE NEIGHBOUR: 'it returns false'. Refute it at one input. -/
def drawFullWrong : ChangeSpec := { name := "drawFull", fn := fun _ => fun
  | [d1, d2, d3, d4] => { results := [.lit (.bool false)], args := [d1, d2, d3, d4] }
  | _ => none }
def DrawFullWrongFalsely : Prop := drawFullRow.holds Try.pinned (OpenSpec.ofChange drawFullWrong)

/-- 'betonylaw13.DrawOwn': WHATEVER THE INPUT: true; the input reads as it did. -/
def drawOwnSpec : ChangeSpec := { name := "drawOwn", fn := fun _ => fun
  | [d1, d2] => { results := [.lit (.bool true)], args := [d1, d2] }
  | _ => none }
def drawOwnRow : OpenClaim := { program := "ytnengimekcnfhaa", sum := "fd49f3282a36d3298493825dd5c9b8aa96be9c77db7c6d021eb76875a170cdcd", func := "betony/betonylaw13.DrawOwn", spec := "drawOwn", inPlace := ["slices.overlaps[betony/api.Window]"], unfollowed := true, recurses := true, apart := false }
def DrawOwnSaid : Prop := drawOwnRow.holds Try.pinned (OpenSpec.ofChange drawOwnSpec)

/-- ITS FALSE NEIGHBOUR: 'it returns false'. Refute it at one input. -/
def drawOwnWrong : ChangeSpec := { name := "drawOwn", fn := fun _ => fun
  | [d1, d2] => { results := [.lit (.bool false)], args := [d1, d2] }
  | _ => none }
def DrawOwnWrongFalsely : Prop := drawOwnRow.holds Try.pinned (OpenSpec.ofChange drawOwnWrong)

/-- 'betonylaw13.DrawPlays': WHATEVER THE INPUT: true; the input reads as it did. -/
def drawPlaysSpec : ChangeSpec := { name := "drawPlays", fn := fun _ => fun
  | [d1, d2] => { results := [.lit (.bool true)], args := [d1, d2] }
  | _ => none }
def drawPlaysRow : OpenClaim := { program := "ytnengimekcnfhaa", sum := "fd49f3282a36d3298493825dd5c9b8aa96be9c77db7c6d021eb76875a170cdcd", func := "betony/betonylaw13.DrawPlays", spec := "drawPlays", inPlace := ["slices.overlaps[betony/api.Window]"], unfollowed := true, recurses := true, apart := false }
def DrawPlaysSaid : Prop := drawPlaysRow.holds Try.pinned (OpenSpec.ofChange drawPlaysSpec)

/-- ITS FALSE NEIGHBOUR: 'it returns false'. Refute it at one input. -/
def drawPlaysWrong : ChangeSpec := { name := "drawPlays", fn := fun _ => fun
  | [d1, d2] => { results := [.lit (.bool false)], args := [d1, d2] }
  | _ => none }
def DrawPlaysWrongFalsely : Prop := drawPlaysRow.holds Try.pinned (OpenSpec.ofChange drawPlaysWrong)

/- THE SECOND FORM. 'bulk': how many values and letters a reading holds, each counted each time it is reached (what is shared counts as often as it is met; a slice's spare places count too). A statement '..UptoSaid' is the law's where the arguments, and the package variables that the reading takes, are together of bulk at most 1048576: NARROWER than '..Said'. Prove '..Said' where nothing that the law and all that it calls make is longer than what came in: it says more and counts as full. Else prove '..UptoSaid'. A law counts once. -/
mutual
def uptoBulk {H : Type} : DataW H → Nat
  | .lit (.string bytes) => bytes.length + 1
  | .lit _ => 1
  | .nil => 1
  | .ptr d => uptoBulk d + 1
  | .slice elems spare => uptoBulkAll elems + uptoBulkAll spare + 1
  | .agg parts => uptoBulkAll parts + 1
  | .iface _ d => uptoBulk d + 1
  | .map entries => uptoBulkEntries entries + 1
  | .held _ => 1
def uptoBulkAll {H : Type} : List (DataW H) → Nat
  | [] => 0
  | d :: r => uptoBulk d + uptoBulkAll r
def uptoBulkEntries {H : Type} : List (Lit × DataW H) → Nat
  | [] => 0
  | x :: r => uptoBulkEntry x + uptoBulkEntries r
def uptoBulkEntry {H : Type} : Lit × DataW H → Nat
  | (.string bytes, d) => bytes.length + uptoBulk d + 1
  | (_, d) => uptoBulk d + 1
 end
def uptoSmall : (H : Type) → List (DataW H) → Bool := fun _ ds => decide (uptoBulkAll ds ≤ 1048576)
def OpenSpec.upto (s : _root_.Go.ChangeSpec) : _root_.Go.OpenSpec := { _root_.Go.OpenSpec.ofChange s with cond := some uptoSmall }

/-- 'betonylaw13.DrawFull', WHERE WHAT IT READS IS OF BULK AT MOST 1048576: true; the input reads as it did. -/
def drawFullUptoRow : OpenClaim := { program := "ytnengimekcnfhaa", sum := "fd49f3282a36d3298493825dd5c9b8aa96be9c77db7c6d021eb76875a170cdcd", func := "betony/betonylaw13.DrawFull", spec := "drawFull", inPlace := ["slices.overlaps[betony/api.Window]"], unfollowed := true, recurses := true, apart := false, narrowed := true }
def DrawFullUptoSaid : Prop := drawFullUptoRow.holds Try.pinned (OpenSpec.upto drawFullSpec)

/-- 'betonylaw13.DrawOwn', WHERE WHAT IT READS IS OF BULK AT MOST 1048576: true; the input reads as it did. -/
def drawOwnUptoRow : OpenClaim := { program := "ytnengimekcnfhaa", sum := "fd49f3282a36d3298493825dd5c9b8aa96be9c77db7c6d021eb76875a170cdcd", func := "betony/betonylaw13.DrawOwn", spec := "drawOwn", inPlace := ["slices.overlaps[betony/api.Window]"], unfollowed := true, recurses := true, apart := false, narrowed := true }
def DrawOwnUptoSaid : Prop := drawOwnUptoRow.holds Try.pinned (OpenSpec.upto drawOwnSpec)

/-- 'betonylaw13.DrawPlays', WHERE WHAT IT READS IS OF BULK AT MOST 1048576: true; the input reads as it did. -/
def drawPlaysUptoRow : OpenClaim := { program := "ytnengimekcnfhaa", sum := "fd49f3282a36d3298493825dd5c9b8aa96be9c77db7c6d021eb76875a170cdcd", func := "betony/betonylaw13.DrawPlays", spec := "drawPlays", inPlace := ["slices.overlaps[betony/api.Window]"], unfollowed := true, recurses := true, apart := false, narrowed := true }
def DrawPlaysUptoSaid : Prop := drawPlaysUptoRow.holds Try.pinned (OpenSpec.upto drawPlaysSpec)

end Rows
end Go.Proofs.Ytnengimekcnfhaa
