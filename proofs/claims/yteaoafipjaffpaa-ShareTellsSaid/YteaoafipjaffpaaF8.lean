import Derived.Test.YteaoafipjaffpaaF7
set_option linter.unusedSimpArgs false
set_option linter.unusedVariables false
/-! How many have got one. -/
namespace Go.Proofs.Yteaoafipjaffpaa.FT
def cntT : List Bool → Nat
  | [] => 0
  | b :: l => (if b then 1 else 0) + cntT l
theorem cntT_le (l : List Bool) : cntT l ≤ l.length := by
  induction l with
  | nil => exact Nat.le_refl _
  | cons b l ih => simp only [cntT, List.length_cons]; split <;> omega
theorem cntT_rep (n : Nat) : cntT (List.replicate n false) = 0 := by
  induction n with
  | zero => rfl
  | succ n ih => simp [List.replicate_succ, cntT, ih]
theorem cntT_set (l : List Bool) (a : Nat) (h : a < l.length) (h0 : l.getD a false = false) : cntT (l.set a true) = cntT l + 1 := by
  induction l generalizing a with
  | nil => simp at h
  | cons b l ih =>
    cases a with
    | zero =>
      have hb : b = false := h0
      subst hb
      simp [cntT]; omega
    | succ a =>
      have := ih a (by simpa using h) (by simpa using h0)
      simp only [List.set_cons_succ, cntT]
      omega
theorem cntT_all (l : List Bool) : cntT l = l.length ↔ ∀ j, j < l.length → l.getD j false = true := by
  induction l with
  | nil => simp [cntT]
  | cons b l ih =>
    have hl := cntT_le l
    constructor
    · intro h j hj
      simp only [cntT, List.length_cons] at h
      cases j with
      | zero =>
        cases b
        · simp at h; omega
        · rfl
      | succ j =>
        have h2 : cntT l = l.length := by split at h <;> omega
        exact (ih.1 h2) j (by simpa using hj)
    · intro h
      have h0 := h 0 (by simp)
      have hb : b = true := h0
      subst hb
      have h2 : cntT l = l.length := ih.2 (fun j hj => h (j + 1) (by simpa using hj))
      simp only [cntT, List.length_cons, if_true]
      omega
theorem best_all (q : List Nat) (got : List Bool) (hl : got.length = q.length) : best q got = none ↔ cntT got = q.length := by
  rw [← hl, cntT_all, hl]
  exact bestTo_none q got q.length
end Go.Proofs.Yteaoafipjaffpaa.FT
