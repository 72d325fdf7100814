/-
  DERIVED. GIVEN WITH THE SEED: THE CARDS: each row of YtnengimekcnfhaaDoorRows.lean that lists a variable, with what it lists TIED to the program's text (the seventh form; the later family's looks); each row that meets fmt, with fmt's text TOLD by the authors' own Lean function (tested against real Go, not proved from fmt's source: count such statements apart). THE CARD IS WHAT COUNTS. Prove the row's statement (the work); the ties are given (YtnengimekcnfhaaDoorTie.lean); close each card by the builder's one call (the guide's Derived/Test/ToyasCard.lean, 'card_holds'). Laid BY PROGRAM, IN A SANDBOX (cutbox-door.mjs). By AI agents, Wed Nov 11 2026. No macro, syntax, notation, axiom, sorry.
-/
import Derived.Test.YtnengimekcnfhaaDoorRows
import GoSem.ClaimSeven
namespace Go.Proofs.YtnengimekcnfhaaDoor
namespace Rows

/-- THE TIED CARD OF 'betonylaw13.DrawTexts'. -/
def drawTextsCard : Claim7 := { stood := { row := drawTextsRow, standIns := [], harness := (true, "946497b6c1dcf17753bf2e64ca1b8155eccc5ab7de436fb01e1a56a73b2dc7c4"), looks := false }, kinds := [], alts := [], laidByText := true, laidKinds := [.widerDeep, .widerDeep], laidTests := true, laidLooks := .later }
def DrawTextsCardSaid : Prop := Claim7.holds Tryd.pinned (.plain (OpenSpec.ofChange drawTextsSpec)) drawTextsCard

/-- THE SECOND FORM's CARD OF 'betonylaw13.DrawTexts'. -/
def drawTextsUptoCard : Claim7 := { stood := { row := drawTextsUptoRow, standIns := [], harness := (true, "946497b6c1dcf17753bf2e64ca1b8155eccc5ab7de436fb01e1a56a73b2dc7c4"), looks := false }, kinds := [], alts := [], laidByText := true, laidKinds := [.widerDeep, .widerDeep], laidTests := true, laidLooks := .later }
def DrawTextsUptoCardSaid : Prop := Claim7.holds Tryd.pinned (.plain (OpenSpec.upto drawTextsSpec)) drawTextsUptoCard
end Rows
end Go.Proofs.YtnengimekcnfhaaDoor
