import Derived.Test.YtlpjehmanodhpaaK11
import Derived.ChangeArms
set_option linter.unusedSimpArgs false
set_option linter.unusedVariables false
namespace Go.Proofs.Ytlpjehmanodhpaa
open Go.RowKit Go.ChangeShapes Go.WideShapes
/-! What flat data that come in read as: structs of numbers and bools, structs of such structs. -/
inductive Leaf where
  | int (k : IntKind)
  | bool
def Leaf.ok : Leaf → Value → Prop
  | .int k, v => ∃ n, v = .int k n ∧ (Lit.int k n).wf = true
  | .bool, v => ∃ b, v = .bool b
def FlatT (P : Program) (t : TypeId) (ls : List Leaf) : Prop :=
  ∀ (H : Type) (enc : TypeId × Value → H) (w : World) (base : Nat) (spare : Nat → Bool) (held : Bool) (fuel : Nat) (cs : List Value) (y : DataW H × List MemPlace), DataW.trod enc P w base spare held fuel t cs = some y → cs.length = ls.length ∧ ∀ (i : Nat) (leaf : Leaf) (v : Value), ls[i]? = some leaf → cs[i]? = some v → leaf.ok v
section
variable {P : Program} {t : TypeId}
theorem FlatT.of_int {k : IntKind} (ht : P.underlying t = some (.int k)) : FlatT P t [.int k] := by
  intro H enc w base spare held fuel cs y h
  have h1 : ∃ n, cs = [.int k n] ∧ (Lit.int k n).wf = true := by
    cases fuel with
    | zero => simp [DataW.trod] at h
    | succ n =>
      unfold DataW.trod at h
      rw [ht] at h
      split at h <;> simp_all
  obtain ⟨n, rfl, hw⟩ := h1
  refine ⟨rfl, fun i leaf v hl hv => ?_⟩
  match i with
  | 0 =>
    obtain rfl := Option.some.inj hl
    obtain rfl := Option.some.inj hv
    exact ⟨n, rfl, hw⟩
  | i + 1 => simp at hl
theorem FlatT.of_bool (ht : P.underlying t = some .bool) : FlatT P t [.bool] := by
  intro H enc w base spare held fuel cs y h
  have h1 : ∃ b, cs = [.bool b] := by
    cases fuel with
    | zero => simp [DataW.trod] at h
    | succ n =>
      unfold DataW.trod at h
      rw [ht] at h
      split at h <;> simp_all
  obtain ⟨n, rfl⟩ := h1
  refine ⟨rfl, fun i leaf v hl hv => ?_⟩
  match i with
  | 0 =>
    obtain rfl := Option.some.inj hl
    obtain rfl := Option.some.inj hv
    exact ⟨n, rfl⟩
  | i + 1 => simp at hl
theorem flatten_at : ∀ (lss : List (List Leaf)) (j : Nat) (leaf : Leaf), lss.flatten[j]? = some leaf → ∃ i ls, lss[i]? = some ls ∧ (lss.take i).flatten.length ≤ j ∧ ls[j - (lss.take i).flatten.length]? = some leaf
  | [], j, leaf, h => by simp at h
  | l :: lss, j, leaf, h => by
    by_cases hj : j < l.length
    · refine ⟨0, l, rfl, by simp, ?_⟩
      rw [List.flatten_cons, List.getElem?_append_left hj] at h
      simpa using h
    · rw [List.flatten_cons, List.getElem?_append_right (by omega)] at h
      obtain ⟨i, ls, h1, h2, h3⟩ := flatten_at lss _ leaf h
      refine ⟨i + 1, ls, h1, ?_, ?_⟩
      · simp only [List.take_succ_cons, List.flatten_cons, List.length_append]
        omega
      · simp only [List.take_succ_cons, List.flatten_cons, List.length_append]
        rw [← h3]
        congr 1
        omega
/-- A struct of flat fields. -/
theorem FlatT.of_struct {fs : Array Field} (lss : List (List Leaf)) (ht : P.underlying t = some (.struct fs)) (hn : P.cellsOf t = lss.flatten.length)
    (hf : ∀ i ls, lss[i]? = some ls → ∃ f, fs[i]? = some f ∧ FlatT P f.type ls ∧ f.offset = (lss.take i).flatten.length ∧ P.cellsOf f.type = ls.length) : FlatT P t lss.flatten := by
  intro H enc w base spare held fuel cs y h
  obtain ⟨xs, n, _, _, hl, hlen, hx⟩ := DataW.trod_struct ht h
  refine ⟨hl.trans hn, fun j leaf v h1 h2 => ?_⟩
  obtain ⟨i, ls, h3, h4, h5⟩ := flatten_at lss j leaf h1
  obtain ⟨f, h6, h7, h8, h9⟩ := hf i ls h3
  have h10 := hx i f h6
  have hi : i < xs.length := by
    rw [hlen]
    exact (Array.getElem?_eq_some_iff.1 h6).1
  rw [List.getElem?_eq_getElem hi] at h10
  obtain ⟨_, h11⟩ := h7 H enc w base spare held n _ _ h10
  refine h11 (j - (lss.take i).flatten.length) leaf v h5 ?_
  have hjl := (List.getElem?_eq_some_iff.1 h5).1
  rw [List.getElem?_take_of_lt (by omega), List.getElem?_drop, h8, Nat.add_sub_cancel' h4]
  exact h2
end
end Go.Proofs.Ytlpjehmanodhpaa
