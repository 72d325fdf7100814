import Derived.Test.YtlpjehmanodhpaaK7
import Derived.ChangeSlices
import Derived.Laws.Cover2
set_option linter.unusedSimpArgs false
set_option linter.unusedVariables false
namespace Go.Proofs.Ytlpjehmanodhpaa
open Go.RowKit Go.ChangeShapes Go.WideShapes
/-! Slices that come in, of elements that are flat (no memory below them): what their cells read as. -/
section
variable {H : Type} {enc : TypeId × Value → H} {P : Program} {w : World} {base : Nat} {spare : Nat → Bool} {held : Bool}
theorem trod_float {t : TypeId} {k : FloatKind} {fuel : Nat} {cs : List Value} {y : DataW H × List MemPlace} (ht : P.underlying t = some (.float k)) (h : DataW.trod enc P w base spare held fuel t cs = some y) : ∃ b, cs = [.float k b] ∧ (Lit.float k b).wf = true := by
  cases fuel with
  | zero => simp [DataW.trod] at h
  | succ n =>
    unfold DataW.trod at h
    rw [ht] at h
    split at h <;> simp_all
/-- The reading of a flat slice: nil, or a row of elements that lie one behind the other. -/
theorem open_rows {α : Type} {cl : α → List Value} {sz : Nat} {ok : α → Prop} {t e : TypeId} (hcl : ∀ x, (cl x).length = sz) (he : ∀ (fuel : Nat) cs y, DataW.trod enc P w base spare held fuel e cs = some y → ∃ x, cs = cl x ∧ ok x)
    (ht : P.underlying t = some (.slice e)) (hc : P.cellsOf e = sz) {fuel : Nat} {cs : List Value} {x : DataW H × List MemPlace} (h : DataW.trod enc P w base spare held fuel t cs = some x) :
    cs = [.slice none 0 0] ∨ ∃ (a : Addr) (len cap : Nat) (zs : List α), cs = [.slice (some a) len cap] ∧ zs.length = len ∧ len ≤ cap ∧ (∀ i (hi : i < zs.length) (j : Nat) v, (cl zs[i])[j]? = some v → w.cell? (a.add (i * sz + j)) = some v) ∧ ∀ x ∈ zs, ok x := by
  rcases DataW.trod_slice ht h with ⟨h0, _⟩ | ⟨a, len, cap, elems, rest, n, _, rfl, _, hb, hl, hm, hlen, hel, _, _⟩
  · exact .inl h0
  right
  have each : ∀ i, i < len → ∃ x, w.cells? base (a.add (i * sz)) sz = some (cl x) ∧ ok x := by
    intro i hi
    have h1 := hel i hi
    rw [List.getElem?_eq_getElem (by omega), hc, Option.bind_eq_some_iff] at h1
    obtain ⟨cs', h2, h3⟩ := h1
    obtain ⟨x, rfl, hx⟩ := he n cs' _ h3
    exact ⟨x, h2, hx⟩
  have build : ∀ m, m ≤ len → ∃ zs : List α, zs.length = m ∧ ∀ i (hi : i < zs.length), w.cells? base (a.add (i * sz)) sz = some (cl zs[i]) ∧ ok zs[i] := by
    intro m
    induction m with
    | zero => intro _; exact ⟨[], rfl, fun i hi => by simp at hi⟩
    | succ m ih =>
      intro hm
      obtain ⟨zs, h1, h2⟩ := ih (by omega)
      obtain ⟨x, h3, h4⟩ := each m (by omega)
      refine ⟨zs ++ [x], by simp [h1], fun i hi => ?_⟩
      by_cases him : i < zs.length
      · rw [List.getElem_append_left him]
        exact h2 i him
      · have e : i = zs.length := by simp at hi; omega
        subst e
        rw [List.getElem_append_right (Nat.le_refl _)]
        simp only [Nat.sub_self, List.getElem_cons_zero]
        rw [h1]
        exact ⟨h3, h4⟩
  obtain ⟨zs, h1, h2⟩ := build len (Nat.le_refl _)
  refine ⟨a, len, cap, zs, rfl, h1, hl, fun i hi j v hv => ?_, fun x hx => ?_⟩
  · obtain ⟨h3, _⟩ := h2 i hi
    obtain ⟨_, _, h4⟩ := World.cells?_some h3
    have hj : j < sz := by
      have := (List.getElem?_eq_some_iff.1 hv).1
      rw [hcl] at this
      exact this
    have h5 := h4 j hj
    rw [Addr.add_add] at h5
    rw [h5]
    exact hv
  · obtain ⟨i, hi, rfl⟩ := List.getElem_of_mem hx
    exact (h2 i hi).2
end
theorem cell_lt {w : World} {a : Addr} {v : Value} (h : w.cell? a = some v) : a.block < w.heap.size := by
  by_cases hc : a.block < w.heap.size
  · exact hc
  · exfalso
    have : w.heap[a.block]? = none := Array.getElem?_eq_none (by omega)
    simp [World.cell?, this] at h
end Go.Proofs.Ytlpjehmanodhpaa
