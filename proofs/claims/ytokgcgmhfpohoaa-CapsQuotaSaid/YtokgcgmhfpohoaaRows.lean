/-
  No cell of these rows narrows 'for every input' (looked for: loops, veiled, ifaces, maps, wideKeys, modest, calm, conditions, laid).
  DERIVED. THE GIVEN ROWS OF THIS SEAT. 4 by the template 'for every input the law returns true; each argument reads behind the call as it read before'; 0 by the template 'total and deterministic' (their statements: YtokgcgmhfpohoaaTotals.lean).
  GIVEN WITH THE SEED: the statements are not yours to turn. If you find one false, say at which input.
  Laid BY PROGRAM, IN A SANDBOX (cutbox-rows.mjs): the forced cells as the released guide's own fill.sh prints them over the translation 4b32714e5313fab2… (all of the seat's roots in one cut). By AI agents, Wed Nov 11 2026. No macro, syntax, notation, axiom, sorry.
-/
import Derived.Test.YtokgcgmhfpohoaaChecked
import GoSem.Claim
import GoSem.ClaimJoined
import GoSem.ClaimMapViews
import Derived.JoinedTies
import Derived.KernelRfl
namespace Go.Proofs.Ytokgcgmhfpohoaa
/- THE CELL 'sum', in the pinned program and in every row, IS THE sha256 OF THE DUMP (.gsa) THAT YtokgcgmhfpohoaaProg.lean LOADS. Nothing in Lean hashes anything: it is a label: what it is worth is what the hold of that sum in a sandbox is worth. -/
noncomputable def Try.pinned : Pinned := { name := "ytokgcgmhfpohoaa", sum := "4b32714e5313fab2328c11d2b11d083c4e0c5b74bdc31d0dc2c481198ef3d138", checked := Try.checked }
namespace Rows
def none {H : Type} : Left H := { results := [], args := [] }

/-- 'betonylaw11.CapsRights': WHATEVER THE INPUT: true; the input reads as it did. -/
def capsRightsSpec : ChangeSpec := { name := "capsRights", fn := fun _ => fun
  | [d1, d2, d3] => { results := [.lit (.bool true)], args := [d1, d2, d3] }
  | _ => none }
def capsRightsRow : OpenClaim := { program := "ytokgcgmhfpohoaa", sum := "4b32714e5313fab2328c11d2b11d083c4e0c5b74bdc31d0dc2c481198ef3d138", func := "betony/betonylaw11.CapsRights", spec := "capsRights", unfollowed := true, recurses := true, apart := false }
def CapsRightsSaid : Prop := capsRightsRow.holds Try.pinned (OpenSpec.ofChange capsRightsSpec)

/-- ITS FALSE NEIGHBOUR: 'it returns false'. Refute it at one input. -/
def capsRightsWrong : ChangeSpec := { name := "capsRights", fn := fun _ => fun
  | [d1, d2, d3] => { results := [.lit (.bool false)], args := [d1, d2, d3] }
  | _ => none }
def CapsRightsWrongFalsely : Prop := capsRightsRow.holds Try.pinned (OpenSpec.ofChange capsRightsWrong)

/-- 'betonylaw11.CapsStale': WHATEVER THE INPUT: true; the input reads as it did. -/
def capsStaleSpec : ChangeSpec := { name := "capsStale", fn := fun _ => fun
  | [d1, d2] => { results := [.lit (.bool true)], args := [d1, d2] }
  | _ => none }
def capsStaleRow : OpenClaim := { program := "ytokgcgmhfpohoaa", sum := "4b32714e5313fab2328c11d2b11d083c4e0c5b74bdc31d0dc2c481198ef3d138", func := "betony/betonylaw11.CapsStale", spec := "capsStale", unfollowed := true, recurses := true, apart := false }
def CapsStaleSaid : Prop := capsStaleRow.holds Try.pinned (OpenSpec.ofChange capsStaleSpec)

/-- ITS FALSE NEIGHBOUR: 'it returns false'. Refute it at one input. -/
def capsStaleWrong : ChangeSpec := { name := "capsStale", fn := fun _ => fun
  | [d1, d2] => { results := [.lit (.bool false)], args := [d1, d2] }
  | _ => none }
def CapsStaleWrongFalsely : Prop := capsStaleRow.holds Try.pinned (OpenSpec.ofChange capsStaleWrong)

/-- 'betonylaw11.CapsQuota': WHATEVER THE INPUT: true; the input reads as it did. -/
def capsQuotaSpec : ChangeSpec := { name := "capsQuota", fn := fun _ => fun
  | [d1, d2] => { results := [.lit (.bool true)], args := [d1, d2] }
  | _ => none }
def capsQuotaRow : OpenClaim := { program := "ytokgcgmhfpohoaa", sum := "4b32714e5313fab2328c11d2b11d083c4e0c5b74bdc31d0dc2c481198ef3d138", func := "betony/betonylaw11.CapsQuota", spec := "capsQuota", unfollowed := true, recurses := true, apart := false }
def CapsQuotaSaid : Prop := capsQuotaRow.holds Try.pinned (OpenSpec.ofChange capsQuotaSpec)

/-- ITS FALSE NEIGHBOUR: 'it returns false'. Refute it at one input. -/
def capsQuotaWrong : ChangeSpec := { name := "capsQuota", fn := fun _ => fun
  | [d1, d2] => { results := [.lit (.bool false)], args := [d1, d2] }
  | _ => none }
def CapsQuotaWrongFalsely : Prop := capsQuotaRow.holds Try.pinned (OpenSpec.ofChange capsQuotaWrong)

/-- 'betonylaw11.CapsPlays': WHATEVER THE INPUT: true; the input reads as it did. -/
def capsPlaysSpec : ChangeSpec := { name := "capsPlays", fn := fun _ => fun
  | [d1, d2, d3] => { results := [.lit (.bool true)], args := [d1, d2, d3] }
  | _ => none }
def capsPlaysRow : OpenClaim := { program := "ytokgcgmhfpohoaa", sum := "4b32714e5313fab2328c11d2b11d083c4e0c5b74bdc31d0dc2c481198ef3d138", func := "betony/betonylaw11.CapsPlays", spec := "capsPlays", unfollowed := true, recurses := true, apart := false }
def CapsPlaysSaid : Prop := capsPlaysRow.holds Try.pinned (OpenSpec.ofChange capsPlaysSpec)

/-- ITS FALSE NEIGHBOUR: 'it returns false'. Refute it at one input. -/
def capsPlaysWrong : ChangeSpec := { name := "capsPlays", fn := fun _ => fun
  | [d1, d2, d3] => { results := [.lit (.bool false)], args := [d1, d2, d3] }
  | _ => none }
def CapsPlaysWrongFalsely : Prop := capsPlaysRow.holds Try.pinned (OpenSpec.ofChange capsPlaysWrong)

/- THE SECOND FORM. 'bulk': how many values and letters a reading holds, each counted each time it is reached (what is shared counts as often as it is met; a slice's spare places count too). A statement '..UptoSaid' is the law's where the arguments, and the package variables that the reading takes, are together of bulk at most 1048576: NARROWER than '..Said'. Prove '..Said' where nothing that the law and all that it calls make is longer than what came in: it says more and counts as full. Else prove '..UptoSaid'. A law counts once. -/
mutual
def uptoBulk {H : Type} : DataW H → Nat
  | .lit (.string bytes) => bytes.length + 1
  | .lit _ => 1
  | .nil => 1
  | .ptr d => uptoBulk d + 1
  | .slice elems spare => uptoBulkAll elems + uptoBulkAll spare + 1
  | .agg parts => uptoBulkAll parts + 1
  | .iface _ d => uptoBulk d + 1
  | .map entries => uptoBulkEntries entries + 1
  | .held _ => 1
def uptoBulkAll {H : Type} : List (DataW H) → Nat
  | [] => 0
  | d :: r => uptoBulk d + uptoBulkAll r
def uptoBulkEntries {H : Type} : List (Lit × DataW H) → Nat
  | [] => 0
  | x :: r => uptoBulkEntry x + uptoBulkEntries r
def uptoBulkEntry {H : Type} : Lit × DataW H → Nat
  | (.string bytes, d) => bytes.length + uptoBulk d + 1
  | (_, d) => uptoBulk d + 1
 end
def uptoSmall : (H : Type) → List (DataW H) → Bool := fun _ ds => decide (uptoBulkAll ds ≤ 1048576)
def OpenSpec.upto (s : _root_.Go.ChangeSpec) : _root_.Go.OpenSpec := { _root_.Go.OpenSpec.ofChange s with cond := some uptoSmall }

/-- 'betonylaw11.CapsRights', WHERE WHAT IT READS IS OF BULK AT MOST 1048576: true; the input reads as it did. -/
def capsRightsUptoRow : OpenClaim := { program := "ytokgcgmhfpohoaa", sum := "4b32714e5313fab2328c11d2b11d083c4e0c5b74bdc31d0dc2c481198ef3d138", func := "betony/betonylaw11.CapsRights", spec := "capsRights", unfollowed := true, recurses := true, apart := false, narrowed := true }
def CapsRightsUptoSaid : Prop := capsRightsUptoRow.holds Try.pinned (OpenSpec.upto capsRightsSpec)

/-- 'betonylaw11.CapsStale', WHERE WHAT IT READS IS OF BULK AT MOST 1048576: true; the input reads as it did. -/
def capsStaleUptoRow : OpenClaim := { program := "ytokgcgmhfpohoaa", sum := "4b32714e5313fab2328c11d2b11d083c4e0c5b74bdc31d0dc2c481198ef3d138", func := "betony/betonylaw11.CapsStale", spec := "capsStale", unfollowed := true, recurses := true, apart := false, narrowed := true }
def CapsStaleUptoSaid : Prop := capsStaleUptoRow.holds Try.pinned (OpenSpec.upto capsStaleSpec)

/-- 'betonylaw11.CapsQuota', WHERE WHAT IT READS IS OF BULK AT MOST 1048576: true; the input reads as it did. -/
def capsQuotaUptoRow : OpenClaim := { program := "ytokgcgmhfpohoaa", sum := "4b32714e5313fab2328c11d2b11d083c4e0c5b74bdc31d0dc2c481198ef3d138", func := "betony/betonylaw11.CapsQuota", spec := "capsQuota", unfollowed := true, recurses := true, apart := false, narrowed := true }
def CapsQuotaUptoSaid : Prop := capsQuotaUptoRow.holds Try.pinned (OpenSpec.upto capsQuotaSpec)

/-- 'betonylaw11.CapsPlays', WHERE WHAT IT READS IS OF BULK AT MOST 1048576: true; the input reads as it did. -/
def capsPlaysUptoRow : OpenClaim := { program := "ytokgcgmhfpohoaa", sum := "4b32714e5313fab2328c11d2b11d083c4e0c5b74bdc31d0dc2c481198ef3d138", func := "betony/betonylaw11.CapsPlays", spec := "capsPlays", unfollowed := true, recurses := true, apart := false, narrowed := true }
def CapsPlaysUptoSaid : Prop := capsPlaysUptoRow.holds Try.pinned (OpenSpec.upto capsPlaysSpec)

end Rows
end Go.Proofs.Ytokgcgmhfpohoaa
