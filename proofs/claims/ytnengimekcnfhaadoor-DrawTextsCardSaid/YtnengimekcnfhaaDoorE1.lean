import Derived.Test.YtnengimekcnfhaaDoorR1
set_option linter.unusedSimpArgs false
set_option linter.unusedVariables false
set_option maxRecDepth 20000
namespace Go.Proofs.YtnengimekcnfhaaDoor
open Go.RowKit Go.Proofs.YtnengimekcnfhaaDoorW.PrintWords
/-- May a rectangle be a window's? -/
def FitsIn (W H : Int) (r : Rc) : Prop := r.Right ∧ 0 < r.w ∧ 0 < r.h ∧ 0 ≤ r.x ∧ 0 ≤ r.y ∧ r.x + r.w ≤ W ∧ r.y + r.h ≤ H
instance (W H : Int) (r : Rc) : Decidable (FitsIn W H r) := inferInstanceAs (Decidable (_ ∧ _))
end Go.Proofs.YtnengimekcnfhaaDoor
