import Derived.Test.YtlpjehmanodhpaaK3
set_option linter.unusedSimpArgs false
set_option linter.unusedVariables false
namespace Go.Proofs.Ytlpjehmanodhpaa
open Go.RowKit Go.Proofs.YtlpjehmanodhpaaW.PrintWords
/-! Rows of structs of n cells each, laid flat. -/
section
variable {α : Type} {f : α → List Value} {n : Nat}
theorem flat_len (hn : ∀ x, (f x).length = n) (l : List α) : (l.flatMap f).length = l.length * n := by
  induction l with
  | nil => simp
  | cons x l ih => simp [hn, ih, Nat.add_mul]; omega
theorem flat_get (hn : ∀ x, (f x).length = n) (l : List α) (i j : Nat) (hi : i < l.length) (hj : j < n) : (l.flatMap f)[i * n + j]? = (f l[i])[j]? := by
  induction l generalizing i with
  | nil => simp at hi
  | cons x l ih =>
    rw [List.flatMap_cons]
    cases i with
    | zero => rw [List.getElem?_append_left (by rw [hn]; omega)]; simp
    | succ i =>
      have e : (i + 1) * n + j = n + (i * n + j) := by rw [Nat.add_mul]; omega
      rw [List.getElem?_append_right (by rw [hn, e]; omega), hn, show (i + 1) * n + j - n = i * n + j from by omega]
      exact ih i (by simpa using hi)
theorem flat_set (hn : ∀ x, (f x).length = n) (l : List α) (i j : Nat) (hi : i < l.length) (hj : j < n) (v : Value) (x : α) (hx : f x = (f l[i]).set j v) : (l.flatMap f).set (i * n + j) v = (l.set i x).flatMap f := by
  induction l generalizing i with
  | nil => simp at hi
  | cons y l ih =>
    rw [List.flatMap_cons]
    cases i with
    | zero =>
      rw [List.set_append_left _ _ (by rw [hn]; omega)]
      simp only [List.set_cons_zero, List.flatMap_cons, Nat.zero_mul, Nat.zero_add]
      rw [hx]
      rfl
    | succ i =>
      have e : (i + 1) * n + j = n + (i * n + j) := by rw [Nat.add_mul]; omega
      rw [List.set_append_right _ _ (by rw [hn, e]; omega), hn, show (i + 1) * n + j - n = i * n + j from by omega]
      rw [ih i (by simpa using hi) hx]
      simp
end
end Go.Proofs.Ytlpjehmanodhpaa
