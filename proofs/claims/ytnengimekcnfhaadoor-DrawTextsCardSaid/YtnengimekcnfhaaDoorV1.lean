import Derived.Test.YtnengimekcnfhaaDoorRows
import Derived.Test.YtnengimekcnfhaaDoorK7
import Derived.LaidLaws
import Derived.LaidMore
import Derived.OpenShut
set_option linter.unusedSimpArgs false
set_option linter.unusedVariables false
namespace Go.Proofs.YtnengimekcnfhaaDoor
open Go.RowKit Go.ChangeShapes Go.WideShapes
/-! What plain data read as: numbers, bools, texts, arrays and structs of such: the cells are told by the datum. -/
mutual
def flatD {H : Type} : DataW H → List Value
  | .lit (.int k n) => [.int k n]
  | .lit (.bool b) => [.bool b]
  | .lit (.string s) => [.string ⟨s.toArray⟩]
  | .agg ds => flatDs ds
  | _ => []
def flatDs {H : Type} : List (DataW H) → List Value
  | [] => []
  | d :: ds => flatD d ++ flatDs ds
end
theorem flatDs_eq {H : Type} (ds : List (DataW H)) : flatDs ds = ds.flatMap flatD := by
  induction ds with
  | nil => simp [flatDs]
  | cons d ds ih => simp [flatDs, ih]
def PlainT (P : Program) (t : TypeId) : Prop :=
  ∀ (H : Type) (enc : TypeId × Value → H) (w : World) (base : Nat) (spare : Nat → Bool) (held : Bool) (fuel : Nat) (cs : List Value) (y : DataW H × List MemPlace), DataW.trod enc P w base spare held fuel t cs = some y → flatD y.1 = cs
section
variable {P : Program} {t : TypeId}
theorem PlainT.of_int {k : IntKind} (ht : P.underlying t = some (.int k)) : PlainT P t := by
  intro H enc w base spare held fuel cs y h
  obtain ⟨n, e1, e2, _⟩ := DataW.trod_int ht h
  rw [e1, e2]
  rfl
theorem PlainT.of_bool (ht : P.underlying t = some .bool) : PlainT P t := by
  intro H enc w base spare held fuel cs y h
  obtain ⟨n, e1, e2⟩ := DataW.trod_bool ht h
  rw [e1, e2]
  rfl
theorem chunks (cs : List Value) (c : Nat) : ∀ m, m * c ≤ cs.length → (List.range m).flatMap (fun i => (cs.drop (i * c)).take c) = cs.take (m * c) := by
  intro m
  induction m with
  | zero => intro _; simp
  | succ m ih =>
    intro h
    have h1 : m * c + c ≤ cs.length := by rw [Nat.add_mul] at h; omega
    rw [List.range_succ, List.flatMap_append, ih (by omega), Nat.add_mul, Nat.one_mul, List.take_add]
    simp
theorem flatMap_range {α β : Type} (xs : List α) (f : α → List β) (g : Nat → List β) (n : Nat) (hn : xs.length = n) (h : ∀ i (hi : i < xs.length), f xs[i] = g i) : xs.flatMap f = (List.range n).flatMap g := by
  subst hn
  induction xs generalizing g with
  | nil => simp
  | cons x xs ih =>
    rw [List.flatMap_cons, List.length_cons, List.range_succ_eq_map, List.flatMap_cons, List.flatMap_map]
    rw [ih (fun i => g (i + 1)) (fun i hi => h (i + 1) (by simpa using hi))]
    have h0 := h 0 (by simp)
    rw [List.getElem_cons_zero] at h0
    rw [h0]
theorem PlainT.of_array {n : Nat} {e : TypeId} (ht : P.underlying t = some (.array n e)) (hc : P.cellsOf t = n * P.cellsOf e) (he : PlainT P e) : PlainT P t := by
  intro H enc w base spare held fuel cs y h
  obtain ⟨xs, m, _, rfl, hl, hlen, hx⟩ := DataW.trod_array ht h
  show flatDs (xs.map (·.1)) = cs
  rw [flatDs_eq, List.flatMap_map]
  rw [flatMap_range xs _ (fun i => (cs.drop (i * P.cellsOf e)).take (P.cellsOf e)) n hlen (fun i hi => ?_)]
  · rw [chunks cs _ n (by omega)]
    exact List.take_of_length_le (by omega)
  · have h1 := hx i (by omega)
    rw [List.getElem?_eq_getElem hi] at h1
    exact he H enc w base spare held m _ _ h1
theorem chunks2 (cs : List Value) (off : Nat → Nat) (sz : Nat → Nat) (h0 : off 0 = 0) (hs : ∀ i, off (i + 1) = off i + sz i) : ∀ m, off m ≤ cs.length → (List.range m).flatMap (fun i => (cs.drop (off i)).take (sz i)) = cs.take (off m) := by
  intro m
  induction m with
  | zero => intro _; simp [h0]
  | succ m ih =>
    intro h
    have h1 := hs m
    rw [List.range_succ, List.flatMap_append, ih (by omega), h1, List.take_add]
    simp
theorem PlainT.of_struct {fs : Array Field} (off sz : Nat → Nat) (ht : P.underlying t = some (.struct fs)) (h0 : off 0 = 0) (hs : ∀ i, off (i + 1) = off i + sz i) (hn : P.cellsOf t = off fs.size)
    (hf : ∀ i f, fs[i]? = some f → PlainT P f.type ∧ f.offset = off i ∧ P.cellsOf f.type = sz i) : PlainT P t := by
  intro H enc w base spare held fuel cs y h
  obtain ⟨xs, m, _, rfl, hl, hlen, hx⟩ := DataW.trod_struct ht h
  show flatDs (xs.map (·.1)) = cs
  rw [flatDs_eq, List.flatMap_map]
  rw [flatMap_range xs _ (fun i => (cs.drop (off i)).take (sz i)) fs.size hlen (fun i hi => ?_)]
  · rw [chunks2 cs off sz h0 hs fs.size (by omega)]
    exact List.take_of_length_le (by omega)
  · have hi2 : i < fs.size := by omega
    have hg : fs[i]? = some fs[i] := Array.getElem?_eq_getElem hi2
    obtain ⟨h1, h2, h3⟩ := hf i _ hg
    have h4 := hx i _ hg
    rw [List.getElem?_eq_getElem hi, h2, h3] at h4
    exact h1 H enc w base spare held m _ _ h4
end
/-- Of variables that are laid: the first one's cells, and the others. -/
theorem laid_cell {P : Program} {w : World} {n : String} {d : DataW Unit} {r : List (String × DataW Unit)} {ps : List MemPlace} (h : DataW.LaidVars P w ((n, d) :: r) ps) (g : Nat) (hg : P.globalNamed n = some g) (t : TypeId) (ht : (P.globals[g]?).map (·.type) = some t) (hp : PlainT P t) :
    (∀ i u, (flatD d)[i]? = some u → w.cell? ⟨g, i, none⟩ = some u) ∧ ∃ q, DataW.LaidVars P w r q := by
  obtain ⟨g0, t0, cs0, f0, p0, q0, hg0, ht0, hv0, hd0, hr, _⟩ := h
  obtain rfl := Option.some.inj (hg.symm.trans hg0)
  obtain rfl := Option.some.inj (ht.symm.trans ht0)
  refine ⟨fun i u hi => ?_, q0, hr⟩
  have h1 := hp Unit _ w 0 _ _ f0 _ _ hd0
  rw [World.var?_cell hg hv0 i]
  have h2 : flatD d = cs0.toList := h1
  rw [h2] at hi
  simpa using hi
end Go.Proofs.YtnengimekcnfhaaDoor
