import Derived.Test.YtlpjehmanodhpaaK5
set_option linter.unusedSimpArgs false
set_option linter.unusedVariables false
namespace Go.Proofs.Ytlpjehmanodhpaa
open Go.RowKit Go.Proofs.YtlpjehmanodhpaaW.PrintWords
/-! Rows of one's own, told flat: element x is the cells f x, sz of them. -/
def Row {α : Type} (f : α → List Value) (sz : Nat) (e : TypeId) (w : World) (base : Nat) (v : Value) (xs : List α) : Prop := w.ownsRow base e sz v xs.length (xs.flatMap f)
def OwnB (v : Value) : Nat → Prop := fun k => v.ownBlock = some k
section
variable {α : Type} {f : α → List Value} {sz : Nat} {e : TypeId} {w w1 : World} {base : Nat} {v : Value} {xs : List α}
theorem Row.nil (f : α → List Value) (sz : Nat) (e : TypeId) (w : World) (base : Nat) : Row f sz e w base (.slice none 0 0) [] := World.ownsRow_nil w base e sz
theorem Row.shape (h : Row f sz e w base v xs) : ∃ A c, v = .slice A xs.length c ∧ xs.length ≤ c := by
  rcases h.2 with ⟨h1, h2⟩ | ⟨g, c, cur, h1, h2, h3, h4, h5⟩
  · exact ⟨none, 0, by rw [h1, h2], by omega⟩
  · exact ⟨_, c, h1, h4⟩
theorem Row.ptr (h : Row f sz e w base v xs) (hn : 0 < xs.length) : ∃ g c, v = .slice (some ⟨g, 0, none⟩) xs.length c ∧ base ≤ g ∧ xs.length ≤ c := by
  rcases h.2 with ⟨h1, h2⟩ | ⟨g, c, cur, h1, h2, h3, h4, h5⟩
  · omega
  · exact ⟨g, c, h1, h2, h4⟩
theorem Row.cell {g c : Nat} (h : Row f sz e w base (.slice (some ⟨g, 0, none⟩) xs.length c) xs) (hn : ∀ x, (f x).length = sz) (k : Nat) (hk : k < xs.length) (j : Nat) (hj : j < sz) {u : Value} (hu : (f xs[k])[j]? = some u) : w.cell? ⟨g, k * sz + j, none⟩ = some u := by
  have hlt : k * sz + j < xs.length * sz := by
    have : (k + 1) * sz ≤ xs.length * sz := Nat.mul_le_mul_right _ hk
    rw [Nat.add_mul] at this
    omega
  rw [World.ownsRow.cellAt h (k * sz + j) hlt, flat_get hn xs k j hk hj]
  exact hu
theorem Row.frozen {g c : Nat} (h : Row f sz e w base (.slice (some ⟨g, 0, none⟩) xs.length c) xs) (j : Nat) : w.frozen? ⟨g, j, none⟩ = false := World.ownsRow.frozenAt h j
theorem Row.lt (h : Row f sz e w base v xs) (k : Nat) (hk : OwnB v k) : base ≤ k ∧ k < w.heap.size := World.ownsRow.lt h k hk
theorem Row.fr {S : Nat → Prop} (h : Row f sz e w base v xs) (hf : Fr S w w1) (hS : ∀ k, OwnB v k → ¬ S k) : Row f sz e w1 base v xs := own_move h (fun k hk => hf.block k (h.lt k hk).2 (hS k hk))
theorem Row.fr_lt {S : Nat → Prop} (h : Row f sz e w base v xs) (hf : Fr S w w1) (hS : ∀ k, S k → k < base) : Row f sz e w1 base v xs := h.fr hf (fun k hk hs => by have := hS k hs; have := (h.lt k hk).1; omega)
theorem Row.apart {β : Type} {f' : β → List Value} {sz' : Nat} {e' : TypeId} {base' : Nat} {v' : Value} {ys : List β} (h : Row f sz e w base v xs) (h' : Row f' sz' e' w base' v' ys) (he : e ≠ e') : ∀ k, OwnB v k → ¬ OwnB v' k := by
  intro k hk hk'
  obtain ⟨c1, h1⟩ := own_typed h k hk
  obtain ⟨c2, h2⟩ := own_typed h' k hk'
  rw [h1] at h2
  injection h2 with h2
  injection h2 with h3 h4 h5
  exact he h4
theorem Row.not_blk {T : TypeId} {b : Nat} {l : List Value} (h : Row f sz e w base v xs) (hb : Blk w b T l) (he : e ≠ T) : ¬ OwnB v b := by
  intro hk
  obtain ⟨c1, h1⟩ := own_typed h b hk
  rw [hb] at h1
  injection h1 with h2
  injection h2 with h3 h4 h5
  exact he h4.symm
theorem Row.blk (h : Row f sz e w base v xs) {b : Nat} (hb : b < base) : ¬ OwnB v b := fun hk => by have := (h.lt b hk).1; omega
theorem Fr.of_own {v : Value} (hg : w.grownBy w1 v.ownBlock) : Fr (OwnB v) w w1 := (Fr.of_grown hg).mono (fun k hk => hk)
theorem Fr.own_lt {S : Nat → Prop} {w2 : World} (h : Fr S w w1) (k : Fr (OwnB v) w1 w2) (hr : Row f sz e w1 base v xs) (hb : w.heap.size ≤ base) : Fr S w w2 := h.then_ k (fun j hj => .inr (by have := (hr.lt j hj).1; omega))
/-- append(v, x) -/
theorem row_app {P : Program} {ops : Array Oper} {rest : List Oper} {o : Oper} {a : Act} {Q : Exit → Act → World → Prop} {W : World} (hn : ∀ x, (f x).length = sz) (h1 : ∀ x, ∀ u ∈ f x, u.oneCell' = true) (base : Nat) (hgd : o.guard = none) (s x : Operand) (t e : TypeId) (z : Value) (bytes : Nat)
    (ho : o.op = .call { callee := .builtin .append, args := #[s, x], argTypes := #[t, t] })
    (ht : P.underlying t = some (.slice e)) (hinfo : (P.info? e).map (fun i => (i.zero, i.size, i.bytes)) = some (some z, sz, bytes)) (hz : z.cells.size = sz) (hs0 : 0 < sz) (hb0 : 0 < bytes)
    (v : Value) (xs : List α) (p : α) (hs : a.eval s = v) (hx : a.eval x = .slice (some ⟨W.heap.size, 0, none⟩) 1 1)
    (HO : Row f sz e W base v xs) (hbase : base ≤ W.heap.size) (hl : (xs.length + 1) * bytes ≤ 140737488355328)
    (h : ∀ v1 w1, Row f sz e w1 base v1 (xs ++ [p]) → Fr (OwnB v) W w1 → (v1.ownBlock = v.ownBlock ∨ ∃ b, v1.ownBlock = some b ∧ W.heap.size ≤ b) → wpList P ops Q rest (a.put o.dst v1) w1) :
    wpList P ops Q (o :: rest) a (W.alloc (.cells (f p).toArray e)) :=
  print_append_cells base hgd s x t e z sz bytes ho ht hinfo hz hs0 hb0 v xs.length (xs.flatMap f) (f p) hs hx (hn p) (h1 p) HO (Below.refl _ _) hbase hl
    (fun v1 w1 hr _ hg hat => h v1 w1 (by unfold Row; rw [List.length_append, List.flatMap_append]; simpa using hr) (Fr.of_own hg) hat)
end
end Go.Proofs.Ytlpjehmanodhpaa
