import Derived.Test.YteaoafipjaffpaaF2
import Derived.Laws.FloatArith
import Derived.Laws.NewFold
set_option linter.unusedSimpArgs false
set_option linter.unusedVariables false
/-! Floats that are not below nought: comparisons, the greatest, sums, products, quotients. -/
namespace Go.Proofs.Yteaoafipjaffpaa.FT
open Ieee Go.RowKit
theorem isN_of {a : Nat} (h : a ≤ infR) : isN a = false := by
  unfold isN
  rw [rung_of h]
  simpa using h
theorem sval_of {a : Nat} (h : a ≤ infR) : sval a = val a := by
  unfold sval
  rw [neg_of h, rung_of h]
  rfl
theorem gtF_pos {a b : Nat} (ha : a ≤ infR) (hb : b ≤ infR) : gtF a b = decide (b < a) := by
  rw [gtF_eq, isN_of ha, isN_of hb, sval_of ha, sval_of hb]
  simp only [Bool.not_false, Bool.true_and, decide_eq_decide]
  have := @val_lt_iff b a
  omega
theorem ltF_pos {a b : Nat} (ha : a ≤ infR) (hb : b ≤ infR) : ltF a b = decide (a < b) := by
  rw [ltF_eq, isN_of ha, isN_of hb, sval_of ha, sval_of hb]
  simp only [Bool.not_false, Bool.true_and, decide_eq_decide]
  have := @val_lt_iff a b
  omega
theorem eqF_pos {a b : Nat} (ha : a ≤ infR) (hb : b ≤ infR) : eqF a b = decide (a = b) := by
  rw [eqF_eq, isN_of ha, isN_of hb, sval_of ha, sval_of hb]
  simp only [Bool.not_false, Bool.true_and, decide_eq_decide]
  exact ⟨fun h => val_inj (by omega), fun h => by rw [h]⟩
/-- A word that is above nought. -/
theorem gt0 {b : Nat} (hb : b < 18446744073709551616) : gtF b 0 = (decide (0 < b) && decide (b ≤ infR)) := by
  by_cases h : b ≤ infR
  · rw [gtF_pos h (by decide)]
    simp [h]
  · rw [gtF_eq]
    simp only [h, decide_false, Bool.and_false]
    by_cases h2 : isN b = true
    · simp [h2]
    · have h3 : fneg b = true := by
        unfold isN at h2
        have : ¬ infR < rung b := by simpa using h2
        unfold rung infR at this
        unfold infR at h
        unfold fneg
        have : b / 9223372036854775808 = 1 := by omega
        rw [this]; rfl
      have h4 := (@sval_neg b).1 h3
      have h5 : sval 0 = 0 := rfl
      rw [h5]
      have : ¬ (0 : Int) < sval b := by omega
      simp [this]
theorem count_eq {b : Nat} (hb : b < 18446744073709551616) : count b = if 0 < b ∧ b ≤ infR then b else 0 := by
  unfold count
  rw [gt0 hb]
  simp
theorem count_le {b : Nat} (hb : b < 18446744073709551616) : count b ≤ infR := by
  rw [count_eq hb]
  split
  · rename_i h; exact h.2
  · exact Nat.zero_le _
theorem isI_eq {b : Nat} (hb : b < 18446744073709551616) : isI b = decide (b = infR) := by
  unfold isI
  by_cases h : b ≤ infR
  · rw [gtF_pos h (by decide)]
    simp only [decide_eq_decide]
    unfold infR at *
    omega
  · have h1 : gtF b 9218868437227405311 = false := by
      have h2 := gt0 hb
      simp only [h, decide_false, Bool.and_false] at h2
      rw [gtF_eq] at h2 ⊢
      have h3 := (sval_of (a := 9218868437227405311) (by decide))
      have h4 : sval 0 = 0 := rfl
      have h5 : isN 0 = false := rfl
      have h6 : isN 9218868437227405311 = false := by decide
      rw [h4, h5] at h2
      rw [h3, h6]
      cases hn : isN b
      · rw [hn] at h2
        simp at h2 ⊢
        omega
      · rfl
    rw [h1]
    have : ¬ b = infR := by omega
    simp [this]
theorem count_noI {b : Nat} (hb : b < 18446744073709551616) (h : isI b = false) : count b < infR := by
  have h1 := count_le hb
  rw [isI_eq hb] at h
  have h2 : b ≠ infR := by simpa using h
  rw [count_eq hb] at h1 ⊢
  split
  · rename_i h3
    have := h3.2
    omega
  · decide
def fadd (a b : Nat) : Nat := (D.add a b).getD 0
def fsub (a b : Nat) : Nat := (D.sub a b).getD 0
def fmul (a b : Nat) : Nat := (D.mul a b).getD 0
def fdiv (a b : Nat) : Nat := (D.div a b).getD 0
def ONE : Nat := 4607182418800017408
theorem one_lt : ONE < infR := by decide
theorem binade_up (x : Nat) (hx : 52 + x = tt) : 4503599627370496 * 2 ^ x = 2 ^ tt := by
  rw [show (4503599627370496 : Nat) = 2 ^ 52 by decide, ← Nat.pow_add, hx]
theorem val_one : val ONE = 2 ^ tt := by
  have h := val_binade 1022 4503599627370496 (by omega) (by omega)
  have e : ONE = 1022 * 4503599627370496 + 4503599627370496 := rfl
  exact (congrArg val e).trans (h.trans (binade_up 1022 rfl))
theorem add_is {a b c : Nat} (ha : a < infR) (hb : b < infR) (hc : c < infR) (h : val a + val b ≤ val c) : D.add a b = some (fadd a b) ∧ fadd a b ≤ c ∧ a ≤ fadd a b ∧ b ≤ fadd a b ∧ Near (val a + val b) 1 (fadd a b) := by
  obtain ⟨R, h1, h2⟩ := add_near ha hb
  have n1 := h2.mono (Near.self c 1 (by omega)) (by omega) (by omega) (by omega)
  have n2 := (Near.self a 1 (by omega)).mono h2 (by omega) (by omega) (by omega)
  have n3 := (Near.self b 1 (by omega)).mono h2 (by omega) (by omega) (by omega)
  rw [Nat.min_eq_left (by omega)] at h1
  have e : fadd a b = R := by unfold fadd; rw [h1]; rfl
  rw [e]
  exact ⟨h1, n1, n2, n3, h2⟩
theorem mul_is {a b c : Nat} (ha : a < infR) (hb : b < infR) (hc : c < infR) (h : val a * val b ≤ val c * 2 ^ tt) : D.mul a b = some (fmul a b) ∧ fmul a b ≤ c ∧ Near (val a * val b) (2 ^ tt) (fmul a b) := by
  obtain ⟨R, h1, h2⟩ := mul_near ha hb
  have n1 := h2.mono (Near.self c 1 (by omega)) (Nat.two_pow_pos _) (by omega) (by rw [Nat.mul_one, Nat.mul_one]; exact h)
  rw [Nat.min_eq_left (by omega)] at h1
  have e : fmul a b = R := by unfold fmul; rw [h1]; rfl
  rw [e]
  exact ⟨h1, n1, h2⟩
theorem div_is {a b c : Nat} (ha : a < infR) (hb : b < infR) (h0 : 0 < b) (hc : c < infR) (h : val a * 2 ^ tt ≤ val c * val b) : D.div a b = some (fdiv a b) ∧ fdiv a b ≤ c ∧ Near (val a * 2 ^ tt) (val b) (fdiv a b) := by
  have hv : 0 < val b := by have := val_lt h0; rw [val_zero] at this; exact this
  obtain ⟨R, h1, h2⟩ := div_near ha hb (by omega)
  have n1 := h2.mono (Near.self c 1 (by omega)) hv (by omega) (by rw [Nat.mul_one, Nat.mul_one]; exact h)
  rw [Nat.min_eq_left (by omega)] at h1
  have e : fdiv a b = R := by unfold fdiv; rw [h1]; rfl
  rw [e]
  exact ⟨h1, n1, h2⟩
theorem sub_is {a b : Nat} (ha : a < infR) (hb : b < infR) : D.sub a b = some (fsub a b) := by
  obtain ⟨r, h⟩ := sub_some ha hb
  unfold fsub
  rw [h]; rfl
theorem sub_self {a : Nat} (ha : a < infR) : D.sub a a = some 0 := by
  obtain ⟨m, k, ra, va⟩ := read_of ha
  unfold Format.sub
  rw [ra]
  have e : (-1074 + (k : Int) - min (-1074 + (k : Int)) (-1074 + (k : Int))).toNat = 0 := by omega
  simp only [Datum.opposite, Datum.sum, Option.map_some, e, signed_mul, Nat.pow_zero, Nat.mul_one, Bool.not_false, Bool.false_eq_true, if_false, if_true]
  have e2 : (m : Int) + -(m : Int) = 0 := by omega
  rw [e2]
  rfl
theorem inf_minus : D.sub infR infR = none := by
  unfold Format.sub
  rw [read_inf infR rfl]
  rfl
theorem max_run {P : Program} (ts : Array TypeId) (t : TypeId) (a b : Nat) (ha : a ≤ infR) (hb : b ≤ infR) (w : World) : (Builtin.max_ ts t #[.float .f64 a, .float .f64 b]).run P w = .ok (.float .f64 (max a b)) w := by
  have h := f_order a b
  rw [isN_of ha, isN_of hb, sval_of ha, sval_of hb] at h
  have e : Builtin.max2 (.float .f64 a) (.float .f64 b) = pure (.float .f64 (max a b)) := by
    show (match FloatKind.f64.format.order a b with | none => _ | some .lt => _ | some .gt => _ | some .eq => _) = _
    rw [h]
    simp only [Bool.or_self, Bool.false_eq_true, if_false]
    by_cases h1 : a < b
    · have := val_lt h1
      rw [compare_lt (by omega), Nat.max_eq_right (by omega)]
    · by_cases h2 : b < a
      · have := val_lt h2
        rw [compare_gt (by omega), Nat.max_eq_left (by omega)]
      · obtain rfl : a = b := by omega
        rw [compare_eq rfl, Nat.max_self]
        simp
  simp [Builtin.max_, e]
theorem nan_bits (t : Nat) : isN ((t % 2) * 2 ^ 63 + 0x7ff0000000000000 + 1 + (t / 2) % (2 ^ 52 - 1)) = true := by
  unfold isN rung infR
  simp only [decide_eq_true_eq]
  have h1 : t % 2 < 2 := Nat.mod_lt _ (by omega)
  have h2 : t / 2 % (2 ^ 52 - 1) < 4503599627370495 := Nat.mod_lt _ (by omega)
  generalize t % 2 = x at *
  generalize t / 2 % (2 ^ 52 - 1) = y at *
  have : x = 0 ∨ x = 1 := by omega
  rcases this with rfl | rfl <;> omega
/-- What is no number from an operation that has no answer. -/
theorem invalid_run {P : Program} (op : BinOp) (hop : op = .add ∨ op = .sub ∨ op = .mul ∨ op = .quo) (t : TypeId) (x y : Nat) (h : floatBits op .f64 x y = none) (w : World) : ∃ b, isN b = true ∧ (binOp op t (.float .f64 x) (.float .f64 y)).run P w = .ok (.float .f64 b) w.drew := by
  refine ⟨_, nan_bits (w.tape w.drawn (.nanBits .f64 x y)), ?_⟩
  unfold floatBits at h
  rcases hop with rfl | rfl | rfl | rfl <;> simp only at h <;> simp [binOp, Op.floatArith, h, Question.forced, Question.cut]
end Go.Proofs.Yteaoafipjaffpaa.FT
