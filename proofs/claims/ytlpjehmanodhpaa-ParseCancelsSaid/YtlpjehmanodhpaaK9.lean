import Derived.Test.YtlpjehmanodhpaaK8
set_option linter.unusedSimpArgs false
set_option linter.unusedVariables false
namespace Go.Proofs.Ytlpjehmanodhpaa
open Go.RowKit
/-! A row with spare room: the block is known whole: elements told flat, then cells that nobody reads. -/
theorem Blk.setCells_mid {b : Nat} {T : TypeId} : ∀ (vs : List Value) (o : Nat) (w : World) (l : List Value), Blk w b T l → o + vs.length ≤ l.length → Blk (w.setCells b o vs) b T (l.take o ++ vs ++ l.drop (o + vs.length))
  | [], o, w, l, h, e => by
    rw [List.append_nil, List.length_nil, Nat.add_zero, List.take_append_drop]
    exact h
  | v :: r, o, w, l, h, e => by
    rw [List.length_cons] at e
    have ih := Blk.setCells_mid r (o + 1) _ _ (h.set o v) (by rw [List.length_set]; omega)
    have e2 : (l.set o v).take (o + 1) ++ r ++ (l.set o v).drop (o + 1 + r.length) = l.take o ++ v :: r ++ l.drop (o + (v :: r).length) := by
      rw [List.take_succ_eq_append_getElem (by rw [List.length_set]; omega), List.take_set_of_le (Nat.le_refl _), List.getElem_set_self, List.drop_set_of_lt (by omega), List.length_cons, show o + 1 + r.length = o + (r.length + 1) by omega]
      simp
    rw [e2] at ih
    exact ih
/-- n elements xs of sz cells each at block g, then room for more: c elements in all. -/
structure Vec {α : Type} (f : α → List Value) (sz : Nat) (w : World) (g : Nat) (T : TypeId) (xs : List α) (rest : List Value) (c : Nat) : Prop where
  blk : Blk w g T (xs.flatMap f ++ rest)
  len : xs.length * sz + rest.length = c * sz
section
variable {α : Type} {f : α → List Value} {sz : Nat} {w w1 : World} {g : Nat} {T : TypeId} {xs : List α} {rest : List Value} {c : Nat}
theorem Vec.cell (h : Vec f sz w g T xs rest c) (hn : ∀ x, (f x).length = sz) (k : Nat) (hk : k < xs.length) (j : Nat) (hj : j < sz) {u : Value} (hu : (f xs[k])[j]? = some u) : w.cell? ⟨g, k * sz + j, none⟩ = some u := by
  have hlt : k * sz + j < xs.length * sz := by
    have : (k + 1) * sz ≤ xs.length * sz := Nat.mul_le_mul_right _ hk
    rw [Nat.add_mul] at this
    omega
  refine h.blk.cell _ ?_
  rw [List.getElem?_append_left (by rw [flat_len hn]; exact hlt), flat_get hn xs k j hk hj]
  exact hu
theorem Vec.fr {S : Nat → Prop} (h : Vec f sz w g T xs rest c) (hf : Fr S w w1) (hs : ¬ S g) : Vec f sz w1 g T xs rest c := ⟨h.blk.fr hf hs, h.len⟩
/-- A row of one's own (behind an append) is such a row. -/
theorem Vec.of_row {e : TypeId} {base : Nat} {v : Value} (h : Row f sz e w base v xs) (h0 : 0 < xs.length) : ∃ g c rest, v = .slice (some ⟨g, 0, none⟩) xs.length c ∧ Vec f sz w g e xs rest c ∧ base ≤ g ∧ xs.length ≤ c ∧ c ≤ maxLen := by
  obtain ⟨hl, h2⟩ := h
  rcases h2 with ⟨_, h3⟩ | ⟨g, c, cur, hv, hb, hh, hn, hm, hs, ht⟩
  · omega
  · refine ⟨g, c, cur.toList.drop (xs.length * sz), hv, ⟨?_, ?_⟩, hb, hn, hm⟩
    · unfold Blk
      rw [← ht, List.take_append_drop]
      simpa using hh
    · have h5 : xs.length * sz ≤ c * sz := Nat.mul_le_mul_right _ hn
      have h6 : cur.toList.length = c * sz := by rw [← hs, Array.length_toList]
      rw [List.length_drop, h6]
      omega
/-- And back: for the next append. -/
theorem Vec.row {base : Nat} (h : Vec f sz w g T xs rest c) (hn : ∀ x, (f x).length = sz) (hb : base ≤ g) (hc : xs.length ≤ c) (hm : c ≤ maxLen) : Row f sz T w base (.slice (some ⟨g, 0, none⟩) xs.length c) xs := by
  refine ⟨flat_len hn xs, .inr ⟨g, c, (xs.flatMap f ++ rest).toArray, rfl, hb, h.blk, hc, hm, ?_, ?_⟩⟩
  · have := h.len
    simp only [List.size_toArray, List.length_append, flat_len hn]
    exact this
  · show (xs.flatMap f ++ rest).take (xs.length * sz) = xs.flatMap f
    rw [← flat_len hn xs, List.take_left]
end
end Go.Proofs.Ytlpjehmanodhpaa
