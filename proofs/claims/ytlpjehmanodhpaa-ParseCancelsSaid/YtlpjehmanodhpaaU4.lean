import Derived.Test.YtlpjehmanodhpaaU3
import Derived.LoopTactic
set_option linter.unusedSimpArgs false
set_option linter.unusedVariables false
namespace Go.Proofs.Ytlpjehmanodhpaa
open Go.RowKit Go.Proofs.YtlpjehmanodhpaaW.PrintWords
/-- All bytes, from a state and what was told so far. -/
def prun : List Int × List Int → List Int → List Int × List Int
  | s, [] => s
  | s, c :: l => prun ((pstep s.1 c).1, s.2 ++ (pstep s.1 c).2) l
theorem prun_snoc (s : List Int × List Int) (l : List Int) (c : Int) : prun s (l ++ [c]) = ((pstep (prun s l).1 c).1, (prun s l).2 ++ (pstep (prun s l).1 c).2) := by
  induction l generalizing s with
  | nil => rfl
  | cons x l ih => exact ih _
def pall (l : List Int) : List Int := (prun ([], []) l).2 ++ pflush (prun ([], []) l).1
theorem beginR_len (c : Int) : (beginR c).length ≤ 1 := by unfold beginR; split <;> (try split) <;> simp
theorem pstep_len (p : List Int) (c : Int) : (pstep p c).2.length ≤ 2 := by
  have := beginR_len c
  cases p with
  | nil => show (beginR c).length ≤ 2; omega
  | cons a t =>
    simp only [pstep]
    split
    · split <;> simp
    · simp; omega
theorem prun_len (l : List Int) (k : Nat) : (prun ([], []) (l.take k)).2.length ≤ 2 * k := by
  induction k with
  | zero => simp [prun]
  | succ k ih =>
    rcases Nat.lt_or_ge k l.length with h | h
    · rw [List.take_succ_eq_append_getElem h, prun_snoc]
      have := pstep_len (prun ([], []) (l.take k)).1 l[k]
      simp only [List.length_append]; omega
    · rw [List.take_of_length_le (by omega)]; rw [List.take_of_length_le h] at ih; omega
theorem pflush_len (p : List Int) : (pflush p).length ≤ 1 := by unfold pflush; split <;> simp
end Go.Proofs.Ytlpjehmanodhpaa
