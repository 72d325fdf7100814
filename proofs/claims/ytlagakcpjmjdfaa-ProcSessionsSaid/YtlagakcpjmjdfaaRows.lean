/-
  No cell of these rows narrows 'for every input' (looked for: loops, veiled, ifaces, maps, wideKeys, modest, calm, conditions, laid).
  DERIVED. THE GIVEN ROWS OF THIS SEAT. 4 by the template 'for every input the law returns true; each argument reads behind the call as it read before'; 0 by the template 'total and deterministic' (their statements: YtlagakcpjmjdfaaTotals.lean).
  GIVEN WITH THE SEED: the statements are not yours to turn. If you find one false, say at which input.
  Laid BY PROGRAM, IN A SANDBOX (cutbox-rows.mjs): the forced cells as the released guide's own fill.sh prints them over the translation a27310c602fa2fdf… (all of the seat's roots in one cut). By AI agents, Wed Nov 11 2026. No macro, syntax, notation, axiom, sorry.
-/
import Derived.Test.YtlagakcpjmjdfaaChecked
import GoSem.Claim
import GoSem.ClaimJoined
import GoSem.ClaimMapViews
import Derived.JoinedTies
import Derived.KernelRfl
namespace Go.Proofs.Ytlagakcpjmjdfaa
/- THE CELL 'sum', in the pinned program and in every row, IS THE sha256 OF THE DUMP (.gsa) THAT YtlagakcpjmjdfaaProg.lean LOADS. Nothing in Lean hashes anything: it is a label: what it is worth is what the hold of that sum in a sandbox is worth. -/
noncomputable def Try.pinned : Pinned := { name := "ytlagakcpjmjdfaa", sum := "a27310c602fa2fdfb39fc4e36c96367cce978d71d25e48b87df6de5f01a3cdc5", checked := Try.checked }
namespace Rows
def none {H : Type} : Left H := { results := [], args := [] }

/-- 'betonylaw21.ProcBackground': WHATEVER THE INPUT: true; the input reads as it did. -/
def procBackgroundSpec : ChangeSpec := { name := "procBackground", fn := fun _ => fun
  | [d1, d2, d3, d4] => { results := [.lit (.bool true)], args := [d1, d2, d3, d4] }
  | _ => none }
def procBackgroundRow : OpenClaim := { program := "ytlagakcpjmjdfaa", sum := "a27310c602fa2fdfb39fc4e36c96367cce978d71d25e48b87df6de5f01a3cdc5", func := "betony/betonylaw21.ProcBackground", spec := "procBackground", unfollowed := true, recurses := true, apart := false }
def ProcBackgroundSaid : Prop := procBackgroundRow.holds Try.pinned (OpenSpec.ofChange procBackgroundSpec)

/-- ITS FALSE NEIGHBOUR: 'it returns false'. Refute it at one input. -/
def procBackgroundWrong : ChangeSpec := { name := "procBackground", fn := fun _ => fun
  | [d1, d2, d3, d4] => { results := [.lit (.bool false)], args := [d1, d2, d3, d4] }
  | _ => none }
def ProcBackgroundWrongFalsely : Prop := procBackgroundRow.holds Try.pinned (OpenSpec.ofChange procBackgroundWrong)

/-- 'betonylaw21.ProcSessions': WHATEVER THE INPUT: true; the input reads as it did. -/
def procSessionsSpec : ChangeSpec := { name := "procSessions", fn := fun _ => fun
  | [d] => { results := [.lit (.bool true)], args := [d] }
  | _ => none }
def procSessionsRow : OpenClaim := { program := "ytlagakcpjmjdfaa", sum := "a27310c602fa2fdfb39fc4e36c96367cce978d71d25e48b87df6de5f01a3cdc5", func := "betony/betonylaw21.ProcSessions", spec := "procSessions", unfollowed := true, recurses := true, apart := false }
def ProcSessionsSaid : Prop := procSessionsRow.holds Try.pinned (OpenSpec.ofChange procSessionsSpec)

/-- ITS FALSE NEIGHBOUR: 'it returns false'. Refute it at one input. -/
def procSessionsWrong : ChangeSpec := { name := "procSessions", fn := fun _ => fun
  | [d] => { results := [.lit (.bool false)], args := [d] }
  | _ => none }
def ProcSessionsWrongFalsely : Prop := procSessionsRow.holds Try.pinned (OpenSpec.ofChange procSessionsWrong)

/-- 'betonylaw21.ProcExit': WHATEVER THE INPUT: true; the input reads as it did. -/
def procExitSpec : ChangeSpec := { name := "procExit", fn := fun _ => fun
  | [d] => { results := [.lit (.bool true)], args := [d] }
  | _ => none }
def procExitRow : OpenClaim := { program := "ytlagakcpjmjdfaa", sum := "a27310c602fa2fdfb39fc4e36c96367cce978d71d25e48b87df6de5f01a3cdc5", func := "betony/betonylaw21.ProcExit", spec := "procExit", unfollowed := true, recurses := true, apart := false }
def ProcExitSaid : Prop := procExitRow.holds Try.pinned (OpenSpec.ofChange procExitSpec)

/-- ITS FALSE NEIGHBOUR: 'it returns false'. Refute it at one input. -/
def procExitWrong : ChangeSpec := { name := "procExit", fn := fun _ => fun
  | [d] => { results := [.lit (.bool false)], args := [d] }
  | _ => none }
def ProcExitWrongFalsely : Prop := procExitRow.holds Try.pinned (OpenSpec.ofChange procExitWrong)

/-- 'betonylaw21.ProcPlays': WHATEVER THE INPUT: true; the input reads as it did. -/
def procPlaysSpec : ChangeSpec := { name := "procPlays", fn := fun _ => fun
  | [d1, d2, d3] => { results := [.lit (.bool true)], args := [d1, d2, d3] }
  | _ => none }
def procPlaysRow : OpenClaim := { program := "ytlagakcpjmjdfaa", sum := "a27310c602fa2fdfb39fc4e36c96367cce978d71d25e48b87df6de5f01a3cdc5", func := "betony/betonylaw21.ProcPlays", spec := "procPlays", unfollowed := true, recurses := true, apart := false }
def ProcPlaysSaid : Prop := procPlaysRow.holds Try.pinned (OpenSpec.ofChange procPlaysSpec)

/-- ITS FALSE NEIGHBOUR: 'it returns false'. Refute it at one input. -/
def procPlaysWrong : ChangeSpec := { name := "procPlays", fn := fun _ => fun
  | [d1, d2, d3] => { results := [.lit (.bool false)], args := [d1, d2, d3] }
  | _ => none }
def ProcPlaysWrongFalsely : Prop := procPlaysRow.holds Try.pinned (OpenSpec.ofChange procPlaysWrong)

/- THE SECOND FORM. 'bulk': how many values and letters a reading holds, each counted each time it is reached (what is shared counts as often as it is met; a slice's spare places count too). A statement '..UptoSaid' is the law's where the arguments, and the package variables that the reading takes, are together of bulk at most 1048576: NARROWER than '..Said'. Prove '..Said' where nothing that the law and all that it calls make is longer than what came in: it says more and counts as full. Else prove '..UptoSaid'. A law counts once. -/
mutual
def uptoBulk {H : Type} : DataW H → Nat
  | .lit (.string bytes) => bytes.length + 1
  | .lit _ => 1
  | .nil => 1
  | .ptr d => uptoBulk d + 1
  | .slice elems spare => uptoBulkAll elems + uptoBulkAll spare + 1
  | .agg parts => uptoBulkAll parts + 1
  | .iface _ d => uptoBulk d + 1
  | .map entries => uptoBulkEntries entries + 1
  | .held _ => 1
def uptoBulkAll {H : Type} : List (DataW H) → Nat
  | [] => 0
  | d :: r => uptoBulk d + uptoBulkAll r
def uptoBulkEntries {H : Type} : List (Lit × DataW H) → Nat
  | [] => 0
  | x :: r => uptoBulkEntry x + uptoBulkEntries r
def uptoBulkEntry {H : Type} : Lit × DataW H → Nat
  | (.string bytes, d) => bytes.length + uptoBulk d + 1
  | (_, d) => uptoBulk d + 1
 end
def uptoSmall : (H : Type) → List (DataW H) → Bool := fun _ ds => decide (uptoBulkAll ds ≤ 1048576)
def OpenSpec.upto (s : _root_.Go.ChangeSpec) : _root_.Go.OpenSpec := { _root_.Go.OpenSpec.ofChange s with cond := some uptoSmall }

/-- 'betonylaw21.ProcBackground', WHERE WHAT IT READS IS OF BULK AT MOST 1048576: true; the input reads as it did. -/
def procBackgroundUptoRow : OpenClaim := { program := "ytlagakcpjmjdfaa", sum := "a27310c602fa2fdfb39fc4e36c96367cce978d71d25e48b87df6de5f01a3cdc5", func := "betony/betonylaw21.ProcBackground", spec := "procBackground", unfollowed := true, recurses := true, apart := false, narrowed := true }
def ProcBackgroundUptoSaid : Prop := procBackgroundUptoRow.holds Try.pinned (OpenSpec.upto procBackgroundSpec)

/-- 'betonylaw21.ProcSessions', WHERE WHAT IT READS IS OF BULK AT MOST 1048576: true; the input reads as it did. -/
def procSessionsUptoRow : OpenClaim := { program := "ytlagakcpjmjdfaa", sum := "a27310c602fa2fdfb39fc4e36c96367cce978d71d25e48b87df6de5f01a3cdc5", func := "betony/betonylaw21.ProcSessions", spec := "procSessions", unfollowed := true, recurses := true, apart := false, narrowed := true }
def ProcSessionsUptoSaid : Prop := procSessionsUptoRow.holds Try.pinned (OpenSpec.upto procSessionsSpec)

/-- 'betonylaw21.ProcExit', WHERE WHAT IT READS IS OF BULK AT MOST 1048576: true; the input reads as it did. -/
def procExitUptoRow : OpenClaim := { program := "ytlagakcpjmjdfaa", sum := "a27310c602fa2fdfb39fc4e36c96367cce978d71d25e48b87df6de5f01a3cdc5", func := "betony/betonylaw21.ProcExit", spec := "procExit", unfollowed := true, recurses := true, apart := false, narrowed := true }
def ProcExitUptoSaid : Prop := procExitUptoRow.holds Try.pinned (OpenSpec.upto procExitSpec)

/-- 'betonylaw21.ProcPlays', WHERE WHAT IT READS IS OF BULK AT MOST 1048576: true; the input reads as it did. -/
def procPlaysUptoRow : OpenClaim := { program := "ytlagakcpjmjdfaa", sum := "a27310c602fa2fdfb39fc4e36c96367cce978d71d25e48b87df6de5f01a3cdc5", func := "betony/betonylaw21.ProcPlays", spec := "procPlays", unfollowed := true, recurses := true, apart := false, narrowed := true }
def ProcPlaysUptoSaid : Prop := procPlaysUptoRow.holds Try.pinned (OpenSpec.upto procPlaysSpec)

end Rows
end Go.Proofs.Ytlagakcpjmjdfaa
