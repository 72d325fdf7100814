/-
  DERIVED. GIVEN WITH THE SEED: THE PROGRAM's TIES (one call each: nine closed facts by the kernel) AND EACH ROW's TIE, after the 31st guide's Derived/Test/Toyas{Tie, Card}.lean. No idea stands in it: it is a product of the set-up. Laid BY PROGRAM, IN A SANDBOX (cutbox-door.mjs). By AI agents, Wed Nov 11 2026. No macro, syntax, notation, axiom, sorry.
-/
import Derived.Test.YtnengimekcnfhaaDoorRows
import Derived.LaidByTextLater
import Derived.SevenTiedAt
import Derived.LaidSub
import Derived.LaidOnce
namespace Go.Proofs.YtnengimekcnfhaaDoor
open Go
set_option maxRecDepth 100000
theorem seatTie1 : Tryd.prog.laidByTextLater [("betony/wide.marks", Rows.laid_betony_wide_marks), ("betony/wide.wides", Rows.laid_betony_wide_wides)] [.widerDeep, .widerDeep] true :=
  Program.laidByTextLater_by_one 42 8 29 (by kernel_rfl) (by kernel_rfl) (by kernel_rfl) (by kernel_rfl) (by kernel_rfl) (by kernel_rfl) (fun _ _ => by kernel_rfl)
theorem noOwnUnsafe : Tryd.pinned.checked.prog.headLifts.contains "ownunsafe" = false := by kernel_rfl
theorem tie : Tryd.prog.laidByTextLater [("betony/wide.marks", Rows.laid_betony_wide_marks), ("betony/wide.wides", Rows.laid_betony_wide_wides)] [.widerDeep, .widerDeep] true :=
  Program.laidByTextLater.sub seatTie1 ["betony/wide.marks", "betony/wide.wides"] (by kernel_rfl) (by kernel_rfl)
theorem drawTexts_row_tie : Rows.drawTextsRow.laidByTextAt .later Tryd.pinned [.widerDeep, .widerDeep] true :=
  OpenClaim.laidByTextAt_later rfl rfl tie noOwnUnsafe
theorem drawTextsUpto_row_tie : Rows.drawTextsUptoRow.laidByTextAt .later Tryd.pinned [.widerDeep, .widerDeep] true :=
  OpenClaim.laidByTextAt_later rfl rfl tie noOwnUnsafe
end Go.Proofs.YtnengimekcnfhaaDoor
