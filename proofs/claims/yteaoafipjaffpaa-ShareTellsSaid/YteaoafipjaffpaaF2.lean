import Derived.Test.YteaoafipjaffpaaF1
import Derived.RowKit
set_option linter.unusedSimpArgs false
set_option linter.unusedVariables false
/-! The order of floats as one of whole numbers. -/
namespace Go.Proofs.Yteaoafipjaffpaa.FT
open Ieee Go.RowKit
def gtF (a b : Nat) : Bool := FloatKind.f64.format.order a b == some .gt
def ltF (a b : Nat) : Bool := FloatKind.f64.format.order a b == some .lt
def eqF (a b : Nat) : Bool := FloatKind.f64.format.order a b == some .eq
theorem f_order (a b : Nat) : FloatKind.f64.format.order a b = if isN a || isN b then none else some (compare (sval a) (sval b)) := order_eq a b
theorem cmp_lt (x y : Int) : (some (compare x y) == some Ordering.lt) = decide (x < y) := by
  by_cases h : x < y
  · rw [compare_lt h]; simp [h]
  · by_cases h2 : x = y
    · rw [compare_eq h2]; simp [h]
    · rw [compare_gt (by omega)]; simp [h]
theorem cmp_gt (x y : Int) : (some (compare x y) == some Ordering.gt) = decide (y < x) := by
  by_cases h : y < x
  · rw [compare_gt h]; simp [h]
  · by_cases h2 : x = y
    · rw [compare_eq h2]; simp [h]
    · rw [compare_lt (by omega)]; simp [h]
theorem cmp_eq (x y : Int) : (some (compare x y) == some Ordering.eq) = decide (x = y) := by
  by_cases h : x = y
  · rw [compare_eq h]; simp [h]
  · by_cases h2 : x < y
    · rw [compare_lt h2]; simp [h]
    · rw [compare_gt (by omega)]; simp [h]
theorem gtF_eq (a b : Nat) : gtF a b = (!isN a && !isN b && decide (sval b < sval a)) := by
  unfold gtF
  rw [f_order]
  cases isN a <;> cases isN b <;> simp
  rw [← cmp_gt]
  rfl
theorem ltF_eq (a b : Nat) : ltF a b = (!isN a && !isN b && decide (sval a < sval b)) := by
  unfold ltF
  rw [f_order]
  cases isN a <;> cases isN b <;> simp
  rw [← cmp_lt]
  rfl
theorem eqF_eq (a b : Nat) : eqF a b = (!isN a && !isN b && decide (sval a = sval b)) := by
  unfold eqF
  rw [f_order]
  cases isN a <;> cases isN b <;> simp
  rw [← cmp_eq]
  rfl
theorem nan_ne (b : Nat) : (FloatKind.f64.format.order b b != some .eq) = isN b := by
  have h := eqF_eq b b
  unfold eqF at h
  rw [bne, h]
  cases isN b <;> simp
theorem sign_lt (b : Nat) (hb : b < 18446744073709551616) : decide (wrap64 (b : Int) < 0) = fneg b := by
  unfold fneg
  by_cases h : b < 9223372036854775808
  · have e : wrap64 (b : Int) = b := by unfold wrap64; omega
    have e2 : b / 9223372036854775808 = 0 := by omega
    rw [e, e2]
    have : ¬ ((b : Int) < 0) := by omega
    simp [this]
  · have e : wrap64 (b : Int) < 0 := by unfold wrap64; omega
    have e2 : b / 9223372036854775808 = 1 := by omega
    rw [e2]
    simp [e]
/-- One number that tells the order: what is no number comes last, and a zero with a minus ahead of one without. -/
def key (b : Nat) : Int := if isN b then 2 * (val infR : Int) + 2 else 2 * sval b + (if fneg b then 0 else 1)
def ordI (a b : Nat) : Int := if key a < key b then -1 else if key b < key a then 1 else 0
theorem sval_le {b : Nat} (h : isN b = false) : -(val infR : Int) ≤ sval b ∧ sval b ≤ val infR := by
  have h2 : rung b ≤ infR := by
    unfold isN at h
    simpa using h
  have h3 := val_le h2
  unfold sval
  split <;> omega
theorem sval_neg {b : Nat} : (fneg b = true → sval b ≤ 0) ∧ (fneg b = false → 0 ≤ sval b) := by
  unfold sval
  cases fneg b <;> simp
def rankI (b : Nat) : Int := if isN b then 2 else if fneg b then 0 else 1
def cmpI (x y : Int) : Int := if x < y then -1 else if y < x then 1 else 0
def cmpF (a b : Nat) : Int := if isN a then (if isN b then 0 else -1) else if isN b then 1 else if ltF a b then -1 else if gtF a b then 1 else 0
def orderS (a b : Nat) : Int := if cmpI (rankI a) (rankI b) ≠ 0 then cmpI (rankI a) (rankI b) else if isN a then 0 else cmpF a b
theorem orderS_eq (a b : Nat) : orderS a b = ordI a b := by
  have na := @sval_neg a
  have nb := @sval_neg b
  have la := @sval_le a
  have lb := @sval_le b
  unfold orderS ordI cmpF
  rw [ltF_eq, gtF_eq]
  unfold rankI key cmpI
  cases ha : isN a <;> cases hb : isN b <;> cases fa : fneg a <;> cases fb : fneg b <;> simp only [ha, hb, fa, fb] at * <;> simp at * <;> (repeat' split) <;> omega
def orderR (a b : Nat) : Int :=
  if isN a || isN b then (if isN a && isN b then 0 else if isN a then 1 else -1)
  else if ltF a b || (eqF a b && fneg a && !fneg b) then -1
  else if gtF a b || (eqF a b && !fneg a && fneg b) then 1 else 0
theorem orderR_eq (a b : Nat) : orderR a b = ordI a b := by
  have na := @sval_neg a
  have nb := @sval_neg b
  have la := @sval_le a
  have lb := @sval_le b
  unfold orderR ordI
  rw [ltF_eq, gtF_eq, eqF_eq]
  unfold key
  cases ha : isN a <;> cases hb : isN b <;> cases fa : fneg a <;> cases fb : fneg b <;> simp only [ha, hb, fa, fb] at * <;> simp at * <;> (repeat' split) <;> omega
/-- What a weight counts. -/
def count (b : Nat) : Nat := if gtF b 0 then b else 0
/-- Is it the infinite one above all? -/
def isI (b : Nat) : Bool := gtF b 9218868437227405311
end Go.Proofs.Yteaoafipjaffpaa.FT
