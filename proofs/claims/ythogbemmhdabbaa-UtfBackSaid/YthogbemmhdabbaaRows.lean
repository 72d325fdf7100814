/-
  No cell of these rows narrows 'for every input' (looked for: loops, veiled, ifaces, maps, wideKeys, modest, calm, conditions, laid).
  DERIVED. THE GIVEN ROWS OF THIS SEAT. 5 by the template 'for every input the law returns true; each argument reads behind the call as it read before'; 0 by the template 'total and deterministic' (their statements: YthogbemmhdabbaaTotals.lean).
  GIVEN WITH THE SEED: the statements are not yours to turn. If you find one false, say at which input.
  Laid BY PROGRAM, IN A SANDBOX (cutbox-rows.mjs): the forced cells as the released guide's own fill.sh prints them over the translation e1c2df44c6f6138a… (all of the seat's roots in one cut). By AI agents, Wed Nov 11 2026. No macro, syntax, notation, axiom, sorry.
-/
import Derived.Test.YthogbemmhdabbaaChecked
import GoSem.Claim
import GoSem.ClaimJoined
import GoSem.ClaimMapViews
import Derived.JoinedTies
import Derived.KernelRfl
namespace Go.Proofs.Ythogbemmhdabbaa
/- THE CELL 'sum', in the pinned program and in every row, IS THE sha256 OF THE DUMP (.gsa) THAT YthogbemmhdabbaaProg.lean LOADS. Nothing in Lean hashes anything: it is a label: what it is worth is what the hold of that sum in a sandbox is worth. -/
noncomputable def Try.pinned : Pinned := { name := "ythogbemmhdabbaa", sum := "e1c2df44c6f6138ad8f35b5b4be892a9ae17506c6948cdf5d3aba1e8404781f9", checked := Try.checked }
namespace Rows
def none {H : Type} : Left H := { results := [], args := [] }

/-- 'betonylaw02.UtfAll': WHATEVER THE INPUT: true; the input reads as it did. -/
def utfAllSpec : ChangeSpec := { name := "utfAll", fn := fun _ => fun
  | [d] => { results := [.lit (.bool true)], args := [d] }
  | _ => none }
def utfAllRow : OpenClaim := { program := "ythogbemmhdabbaa", sum := "e1c2df44c6f6138ad8f35b5b4be892a9ae17506c6948cdf5d3aba1e8404781f9", func := "betony/betonylaw02.UtfAll", spec := "utfAll", apart := false }
def UtfAllSaid : Prop := utfAllRow.holds Try.pinned (OpenSpec.ofChange utfAllSpec)

/-- ITS FALSE NEIGHBOUR: 'it returns false'. Refute it at one input. -/
def utfAllWrong : ChangeSpec := { name := "utfAll", fn := fun _ => fun
  | [d] => { results := [.lit (.bool false)], args := [d] }
  | _ => none }
def UtfAllWrongFalsely : Prop := utfAllRow.holds Try.pinned (OpenSpec.ofChange utfAllWrong)

/-- 'betonylaw02.UtfJoin': WHATEVER THE INPUT: true; the input reads as it did. -/
def utfJoinSpec : ChangeSpec := { name := "utfJoin", fn := fun _ => fun
  | [d1, d2] => { results := [.lit (.bool true)], args := [d1, d2] }
  | _ => none }
def utfJoinRow : OpenClaim := { program := "ythogbemmhdabbaa", sum := "e1c2df44c6f6138ad8f35b5b4be892a9ae17506c6948cdf5d3aba1e8404781f9", func := "betony/betonylaw02.UtfJoin", spec := "utfJoin", apart := false }
def UtfJoinSaid : Prop := utfJoinRow.holds Try.pinned (OpenSpec.ofChange utfJoinSpec)

/-- ITS FALSE NEIGHBOUR: 'it returns false'. Refute it at one input. -/
def utfJoinWrong : ChangeSpec := { name := "utfJoin", fn := fun _ => fun
  | [d1, d2] => { results := [.lit (.bool false)], args := [d1, d2] }
  | _ => none }
def UtfJoinWrongFalsely : Prop := utfJoinRow.holds Try.pinned (OpenSpec.ofChange utfJoinWrong)

/-- 'betonylaw02.UtfFeeds': WHATEVER THE INPUT: true; the input reads as it did. -/
def utfFeedsSpec : ChangeSpec := { name := "utfFeeds", fn := fun _ => fun
  | [d] => { results := [.lit (.bool true)], args := [d] }
  | _ => none }
def utfFeedsRow : OpenClaim := { program := "ythogbemmhdabbaa", sum := "e1c2df44c6f6138ad8f35b5b4be892a9ae17506c6948cdf5d3aba1e8404781f9", func := "betony/betonylaw02.UtfFeeds", spec := "utfFeeds", apart := false }
def UtfFeedsSaid : Prop := utfFeedsRow.holds Try.pinned (OpenSpec.ofChange utfFeedsSpec)

/-- ITS FALSE NEIGHBOUR: 'it returns false'. Refute it at one input. -/
def utfFeedsWrong : ChangeSpec := { name := "utfFeeds", fn := fun _ => fun
  | [d] => { results := [.lit (.bool false)], args := [d] }
  | _ => none }
def UtfFeedsWrongFalsely : Prop := utfFeedsRow.holds Try.pinned (OpenSpec.ofChange utfFeedsWrong)

/-- 'betonylaw02.UtfPuts': WHATEVER THE INPUT: true; the input reads as it did. -/
def utfPutsSpec : ChangeSpec := { name := "utfPuts", fn := fun _ => fun
  | [d] => { results := [.lit (.bool true)], args := [d] }
  | _ => none }
def utfPutsRow : OpenClaim := { program := "ythogbemmhdabbaa", sum := "e1c2df44c6f6138ad8f35b5b4be892a9ae17506c6948cdf5d3aba1e8404781f9", func := "betony/betonylaw02.UtfPuts", spec := "utfPuts", apart := false }
def UtfPutsSaid : Prop := utfPutsRow.holds Try.pinned (OpenSpec.ofChange utfPutsSpec)

/-- ITS FALSE NEIGHBOUR: 'it returns false'. Refute it at one input. -/
def utfPutsWrong : ChangeSpec := { name := "utfPuts", fn := fun _ => fun
  | [d] => { results := [.lit (.bool false)], args := [d] }
  | _ => none }
def UtfPutsWrongFalsely : Prop := utfPutsRow.holds Try.pinned (OpenSpec.ofChange utfPutsWrong)

/-- 'betonylaw02.UtfBack': WHATEVER THE INPUT: true; the input reads as it did. -/
def utfBackSpec : ChangeSpec := { name := "utfBack", fn := fun _ => fun
  | [d] => { results := [.lit (.bool true)], args := [d] }
  | _ => none }
def utfBackRow : OpenClaim := { program := "ythogbemmhdabbaa", sum := "e1c2df44c6f6138ad8f35b5b4be892a9ae17506c6948cdf5d3aba1e8404781f9", func := "betony/betonylaw02.UtfBack", spec := "utfBack", apart := false }
def UtfBackSaid : Prop := utfBackRow.holds Try.pinned (OpenSpec.ofChange utfBackSpec)

/-- ITS FALSE NEIGHBOUR: 'it returns false'. Refute it at one input. -/
def utfBackWrong : ChangeSpec := { name := "utfBack", fn := fun _ => fun
  | [d] => { results := [.lit (.bool false)], args := [d] }
  | _ => none }
def UtfBackWrongFalsely : Prop := utfBackRow.holds Try.pinned (OpenSpec.ofChange utfBackWrong)

/- THE SECOND FORM. 'bulk': how many values and letters a reading holds, each counted each time it is reached (what is shared counts as often as it is met; a slice's spare places count too). A statement '..UptoSaid' is the law's where the arguments, and the package variables that the reading takes, are together of bulk at most 1048576: NARROWER than '..Said'. Prove '..Said' where nothing that the law and all that it calls make is longer than what came in: it says more and counts as full. Else prove '..UptoSaid'. A law counts once. -/
mutual
def uptoBulk {H : Type} : DataW H → Nat
  | .lit (.string bytes) => bytes.length + 1
  | .lit _ => 1
  | .nil => 1
  | .ptr d => uptoBulk d + 1
  | .slice elems spare => uptoBulkAll elems + uptoBulkAll spare + 1
  | .agg parts => uptoBulkAll parts + 1
  | .iface _ d => uptoBulk d + 1
  | .map entries => uptoBulkEntries entries + 1
  | .held _ => 1
def uptoBulkAll {H : Type} : List (DataW H) → Nat
  | [] => 0
  | d :: r => uptoBulk d + uptoBulkAll r
def uptoBulkEntries {H : Type} : List (Lit × DataW H) → Nat
  | [] => 0
  | x :: r => uptoBulkEntry x + uptoBulkEntries r
def uptoBulkEntry {H : Type} : Lit × DataW H → Nat
  | (.string bytes, d) => bytes.length + uptoBulk d + 1
  | (_, d) => uptoBulk d + 1
 end
def uptoSmall : (H : Type) → List (DataW H) → Bool := fun _ ds => decide (uptoBulkAll ds ≤ 1048576)
def OpenSpec.upto (s : _root_.Go.ChangeSpec) : _root_.Go.OpenSpec := { _root_.Go.OpenSpec.ofChange s with cond := some uptoSmall }

/-- 'betonylaw02.UtfAll', WHERE WHAT IT READS IS OF BULK AT MOST 1048576: true; the input reads as it did. -/
def utfAllUptoRow : OpenClaim := { program := "ythogbemmhdabbaa", sum := "e1c2df44c6f6138ad8f35b5b4be892a9ae17506c6948cdf5d3aba1e8404781f9", func := "betony/betonylaw02.UtfAll", spec := "utfAll", apart := false, narrowed := true }
def UtfAllUptoSaid : Prop := utfAllUptoRow.holds Try.pinned (OpenSpec.upto utfAllSpec)

/-- 'betonylaw02.UtfJoin', WHERE WHAT IT READS IS OF BULK AT MOST 1048576: true; the input reads as it did. -/
def utfJoinUptoRow : OpenClaim := { program := "ythogbemmhdabbaa", sum := "e1c2df44c6f6138ad8f35b5b4be892a9ae17506c6948cdf5d3aba1e8404781f9", func := "betony/betonylaw02.UtfJoin", spec := "utfJoin", apart := false, narrowed := true }
def UtfJoinUptoSaid : Prop := utfJoinUptoRow.holds Try.pinned (OpenSpec.upto utfJoinSpec)

/-- 'betonylaw02.UtfFeeds', WHERE WHAT IT READS IS OF BULK AT MOST 1048576: true; the input reads as it did. -/
def utfFeedsUptoRow : OpenClaim := { program := "ythogbemmhdabbaa", sum := "e1c2df44c6f6138ad8f35b5b4be892a9ae17506c6948cdf5d3aba1e8404781f9", func := "betony/betonylaw02.UtfFeeds", spec := "utfFeeds", apart := false, narrowed := true }
def UtfFeedsUptoSaid : Prop := utfFeedsUptoRow.holds Try.pinned (OpenSpec.upto utfFeedsSpec)

/-- 'betonylaw02.UtfPuts', WHERE WHAT IT READS IS OF BULK AT MOST 1048576: true; the input reads as it did. -/
def utfPutsUptoRow : OpenClaim := { program := "ythogbemmhdabbaa", sum := "e1c2df44c6f6138ad8f35b5b4be892a9ae17506c6948cdf5d3aba1e8404781f9", func := "betony/betonylaw02.UtfPuts", spec := "utfPuts", apart := false, narrowed := true }
def UtfPutsUptoSaid : Prop := utfPutsUptoRow.holds Try.pinned (OpenSpec.upto utfPutsSpec)

/-- 'betonylaw02.UtfBack', WHERE WHAT IT READS IS OF BULK AT MOST 1048576: true; the input reads as it did. -/
def utfBackUptoRow : OpenClaim := { program := "ythogbemmhdabbaa", sum := "e1c2df44c6f6138ad8f35b5b4be892a9ae17506c6948cdf5d3aba1e8404781f9", func := "betony/betonylaw02.UtfBack", spec := "utfBack", apart := false, narrowed := true }
def UtfBackUptoSaid : Prop := utfBackUptoRow.holds Try.pinned (OpenSpec.upto utfBackSpec)

end Rows
end Go.Proofs.Ythogbemmhdabbaa
