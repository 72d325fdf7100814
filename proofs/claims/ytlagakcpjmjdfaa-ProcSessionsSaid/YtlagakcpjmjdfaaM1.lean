import Derived.Test.YtlagakcpjmjdfaaProg
import Derived.Test.YtlagakcpjmjdfaaK2
import Derived.Maps.OwnOps
import Derived.Maps.OwnSet
set_option linter.unusedSimpArgs false
set_option linter.unusedVariables false
namespace Go.Proofs.Ytlagakcpjmjdfaa
open Go.RowKit Go.Maps Go.ChangeMaps Go.Proofs.YtlagakcpjmjdfaaW.PrintWords
/-! Maps from numbers to numbers (and to bools), read as functions. -/
def J64 (n : Int) : Prop := -9223372036854775808 ≤ n ∧ n ≤ 9223372036854775807
theorem j64_wf (n : Int) (h : J64 n) : (Lit.int .i64 n).wf = true := by
  obtain ⟨h1, h2⟩ := h
  exact WalkArith.wf_i64 (by omega)
def kI (k : Int) : Lit := .int .i64 k
theorem keyI (k : Int) (hk : J64 k) : keyOf Try.prog 3 (.int .i64 k) = some (kI k) := keyOf_int_mk Try.underlying3 (j64_wf k hk)
theorem lawI : Keyed Try.prog 3 := int_keyed Try.underlying3
theorem kI_ne' {j k : Int} (h : j ≠ k) : kI j ≠ kI k := fun e => h (by simpa [kI] using e)
theorem kI_lit (k : Int) : WideAt.IsKeyLit (kI k) := by simp [kI, WideAt.IsKeyLit]
theorem zeroII (w : World) : (zeroValue 3).run Try.prog w = .ok (.int .i64 0) w := by kernel_rfl
/-- Block b is a map of at most n entries that answers f. -/
def MapI (w : World) (b n : Nat) (f : Int → Int) : Prop :=
  ∃ D : DataW Unit, w.ownsMap Try.prog 3 (plainElem Try.prog 3) b n D ∧ ∀ k, J64 k → D.atKey (kI k) (.lit (.int .i64 0)) = .lit (.int .i64 (f k))
theorem MapI.made (w : World) : MapI (w.alloc (.map #[] 0)) w.heap.size 0 (fun _ => 0) := ⟨_, World.ownsMap_made _ _ _ _, fun k _ => rfl⟩
theorem MapI.fr {S : Nat → Prop} {w w1 : World} {b n : Nat} {f : Int → Int} (h : MapI w b n f) (hf : Fr S w w1) (hs : ¬ S b) : MapI w1 b n f := by
  obtain ⟨D, ⟨es, clock, hb, h2⟩, h3⟩ := h
  have hlt : b < w.heap.size := (Array.getElem?_eq_some_iff.1 hb).1
  exact ⟨D, ⟨es, clock, (hf.block b hlt hs).trans hb, h2⟩, h3⟩
theorem MapI.lt {w : World} {b n : Nat} {f : Int → Int} (h : MapI w b n f) : b < w.heap.size := by
  obtain ⟨D, ⟨es, clock, hb, h2⟩, h3⟩ := h
  exact (Array.getElem?_eq_some_iff.1 hb).1
theorem MapI.not_blk {w : World} {b n g : Nat} {f : Int → Int} {T : TypeId} {l : List Value} (h : MapI w b n f) (hb : Blk w g T l) : b ≠ g := by
  rintro rfl
  obtain ⟨D, ⟨es, clock, h1, _⟩, _⟩ := h
  unfold Blk at hb
  rw [hb] at h1
  cases h1
/-- What is looked up. -/
theorem MapI.look {w : World} {b n : Nat} {f : Int → Int} (h : MapI w b n f) (k : Int) (hk : J64 k) : (Instr.lookup 64 (.map (some b)) (.int .i64 k) false).run Try.prog w = .ok (.int .i64 (f k)) w := by
  obtain ⟨D, h1, h2⟩ := h
  obtain ⟨c, hrun, hat, _⟩ := h1.lookup_int lawI Try.underlying64 Try.underlying3 (zeroII w) (keyI k hk)
  rw [h2 k hk] at hat
  simp only [DataW.lit.injEq, Lit.int.injEq, true_and] at hat
  rw [hat]
  exact hrun
theorem MapI.put {ops : Array Oper} {rest : List Oper} {o : Oper} {a : Act} {Q : Exit → Act → World → Prop} {w : World} {b n : Nat} {f : Int → Int} (h : MapI w b n f) (hn : n < maxLen)
    (hg : o.guard = none) (m x v : Operand) (hop : o.op = Op.mapUpdate 64 m x v) (k u : Int) (hk : J64 k) (hu : J64 u) (hm : a.eval m = .map (some b)) (hx : a.eval x = .int .i64 k) (hv : a.eval v = .int .i64 u)
    (hK : ∀ w', MapI w' b (n + 1) (fun j => if j = k then u else f j) → Fr (At b) w w' → wpList Try.prog ops Q rest (a.put o.dst undef) w') : wpList Try.prog ops Q (o :: rest) a w := by
  obtain ⟨D, h1, h2⟩ := h
  refine wpList_mapUpdate_own w hg m x v 64 hop 3 3 lawI Try.underlying64 _ b n D hm h1 hn _ _ (kI k) hx hv (keyI k hk) _ [] (plainElem_int Try.underlying3 (j64_wf u hu)) ?_
  intro w' h3 h4
  have hD : IsMap D := h1.isMap
  refine hK w' ⟨_, h3, fun j hj => ?_⟩ ((Fr.of_grown h4).mono fun j e => (Option.some.inj e).symm)
  show _ = DataW.lit (.int .i64 (if j = k then u else f j))
  by_cases e : j = k
  · subst e
    rw [if_pos rfl]
    exact atKey_put_same hD (kI_lit j) _ _
  · rw [if_neg e, atKey_put_other (kI_ne' e)]
    exact h2 j hj
theorem Fr.of_turned {w w' : World} {b : Nat} (h : w.mapTurned w' b) : Fr (At b) w w' := (Fr.of_grown h.grown).mono fun j e => (Option.some.inj e).symm
theorem MapI.del {ops : Array Oper} {rest : List Oper} {o : Oper} {a : Act} {Q : Exit → Act → World → Prop} {w : World} {b n : Nat} {f : Int → Int} (h : MapI w b n f)
    (hg : o.guard = none) (m x : Operand) (hop : o.op = Op.call { callee := Callee.builtin Builtin.delete, args := #[m, x], argTypes := #[64, 3] }) (k : Int) (hk : J64 k) (hm : a.eval m = .map (some b)) (hx : a.eval x = .int .i64 k)
    (hK : ∀ w', MapI w' b n (fun j => if j = k then 0 else f j) → Fr (At b) w w' → wpList Try.prog ops Q rest (a.put o.dst (.tuple #[])) w') : wpList Try.prog ops Q (o :: rest) a w := by
  obtain ⟨D, h1, h2⟩ := h
  refine wpList_delete_own w hg m x 64 3 hop 3 lawI Try.underlying64 _ b n D hm h1 _ (kI k) hx (keyI k hk) ?_
  intro w' h3 h4
  refine hK w' ⟨_, h3, fun j hj => ?_⟩ (Fr.of_turned h4)
  show _ = DataW.lit (.int .i64 (if j = k then 0 else f j))
  by_cases e : j = k
  · subst e
    rw [if_pos rfl]
    exact atKey_del_same _
  · rw [if_neg e, atKey_del_other (kI_ne' e)]
    exact h2 j hj
theorem plainElem_bool_inv {H : Type} {P : Program} {e : TypeId} (he : P.underlying e = some .bool) {v : Value} {z : DataW H × List MemPlace} (h : plainElem P e v = some z) : ∃ a, v = .bool a ∧ z = (.lit (.bool a), []) := by
  unfold plainElem at h
  rw [he] at h
  cases v <;> simp at h
  exact ⟨_, rfl, h.symm⟩
theorem zeroIB (w : World) : (zeroValue 4).run Try.prog w = .ok (.bool false) w := by kernel_rfl
def MapB (w : World) (b n : Nat) (f : Int → Bool) : Prop :=
  ∃ D : DataW Unit, w.ownsMap Try.prog 3 (plainElem Try.prog 4) b n D ∧ ∀ k, J64 k → D.atKey (kI k) (.lit (.bool false)) = .lit (.bool (f k))
theorem MapB.made (w : World) : MapB (w.alloc (.map #[] 0)) w.heap.size 0 (fun _ => false) := ⟨_, World.ownsMap_made _ _ _ _, fun k _ => rfl⟩
theorem MapB.fr {S : Nat → Prop} {w w1 : World} {b n : Nat} {f : Int → Bool} (h : MapB w b n f) (hf : Fr S w w1) (hs : ¬ S b) : MapB w1 b n f := by
  obtain ⟨D, ⟨es, clock, hb, h2⟩, h3⟩ := h
  have hlt : b < w.heap.size := (Array.getElem?_eq_some_iff.1 hb).1
  exact ⟨D, ⟨es, clock, (hf.block b hlt hs).trans hb, h2⟩, h3⟩
theorem MapB.lt {w : World} {b n : Nat} {f : Int → Bool} (h : MapB w b n f) : b < w.heap.size := by
  obtain ⟨D, ⟨es, clock, hb, h2⟩, h3⟩ := h
  exact (Array.getElem?_eq_some_iff.1 hb).1
theorem MapB.look {w : World} {b n : Nat} {f : Int → Bool} (h : MapB w b n f) (k : Int) (hk : J64 k) : (Instr.lookup 71 (.map (some b)) (.int .i64 k) false).run Try.prog w = .ok (.bool (f k)) w := by
  obtain ⟨D, h1, h2⟩ := h
  obtain ⟨v, ps, hrun, hv⟩ := h1.lookup lawI Try.underlying71 (zeroIB w) (plainElem_bool Try.underlying4 false) (keyI k hk)
  rw [h2 k hk] at hv
  obtain ⟨a, rfl, ha⟩ := plainElem_bool_inv Try.underlying4 hv
  simp only [Prod.mk.injEq, DataW.lit.injEq, Lit.bool.injEq] at ha
  rw [ha.1]
  exact hrun
theorem MapB.put {ops : Array Oper} {rest : List Oper} {o : Oper} {a : Act} {Q : Exit → Act → World → Prop} {w : World} {b n : Nat} {f : Int → Bool} (h : MapB w b n f) (hn : n < maxLen)
    (hg : o.guard = none) (m x v : Operand) (hop : o.op = Op.mapUpdate 71 m x v) (k : Int) (u : Bool) (hk : J64 k) (hm : a.eval m = .map (some b)) (hx : a.eval x = .int .i64 k) (hv : a.eval v = .bool u)
    (hK : ∀ w', MapB w' b (n + 1) (fun j => if j = k then u else f j) → Fr (At b) w w' → wpList Try.prog ops Q rest (a.put o.dst undef) w') : wpList Try.prog ops Q (o :: rest) a w := by
  obtain ⟨D, h1, h2⟩ := h
  refine wpList_mapUpdate_own w hg m x v 71 hop 3 4 lawI Try.underlying71 _ b n D hm h1 hn _ _ (kI k) hx hv (keyI k hk) _ [] (plainElem_bool Try.underlying4 u) ?_
  intro w' h3 h4
  have hD : IsMap D := h1.isMap
  refine hK w' ⟨_, h3, fun j hj => ?_⟩ ((Fr.of_grown h4).mono fun j e => (Option.some.inj e).symm)
  show _ = DataW.lit (.bool (if j = k then u else f j))
  by_cases e : j = k
  · subst e
    rw [if_pos rfl]
    exact atKey_put_same hD (kI_lit j) _ _
  · rw [if_neg e, atKey_put_other (kI_ne' e)]
    exact h2 j hj
end Go.Proofs.Ytlagakcpjmjdfaa
