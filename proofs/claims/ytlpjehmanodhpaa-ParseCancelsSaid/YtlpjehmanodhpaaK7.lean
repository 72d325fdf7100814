import Derived.Test.YtlpjehmanodhpaaK6
import Derived.Lib.SliceRun
set_option linter.unusedSimpArgs false
set_option linter.unusedVariables false
namespace Go.Proofs.Ytlpjehmanodhpaa
open Go.RowKit
/-! A row of one-cell values that is written at a stretch (clear). -/
theorem Blk.setCells {b : Nat} {T : TypeId} : ∀ (vs : List Value) (o : Nat) (w : World) (l : List Value), Blk w b T l → o + vs.length = l.length → Blk (w.setCells b o vs) b T (l.take o ++ vs)
  | [], o, w, l, h, e => by
    rw [List.take_of_length_le (by simp at e; omega), List.append_nil]
    exact h
  | v :: r, o, w, l, h, e => by
    rw [List.length_cons] at e
    have ih := Blk.setCells r (o + 1) _ _ (h.set o v) (by rw [List.length_set]; omega)
    have e2 : (l.set o v).take (o + 1) ++ r = l.take o ++ v :: r := by
      rw [List.take_succ_eq_append_getElem (by rw [List.length_set]; omega), List.take_set_of_le (Nat.le_refl _), List.getElem_set_self, List.append_assoc]
      rfl
    rw [e2] at ih
    exact ih
theorem Fr.setCells {S : Nat → Prop} {w : World} {b : Nat} (hp : S b ∨ w.heap.size ≤ b) : ∀ (vs : List Value) (o : Nat) (w1 : World), Fr S w w1 → Fr S w (w1.setCells b o vs)
  | [], _, _, h => h
  | v :: r, o, w1, h => Fr.setCells hp r (o + 1) _ (h.setCell (p := ⟨b, o, none⟩) hp v)
end Go.Proofs.Ytlpjehmanodhpaa
