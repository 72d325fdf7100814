import Derived.Test.YtgjgmaeickhhfaaProg
import Derived.Test.YtgjgmaeickhhfaaK9
import Derived.LoopTactic
set_option linter.unusedSimpArgs false
set_option linter.unusedVariables false
namespace Go.Proofs.Ytgjgmaeickhhfaa
open Go.RowKit Go.Proofs.YtgjgmaeickhhfaaW.PrintWords
/-- A timer. -/
structure Tm where
  env : Int
  id : Int
  at_ : Int
def Tm.cells (t : Tm) : List Value := [.int .i64 t.env, .int .i64 t.id, .int .i64 t.at_]
theorem Tm.cells_len (t : Tm) : t.cells.length = 3 := rfl
def Tm.v (t : Tm) : Value := .agg #[.int .i64 t.env, .int .i64 t.id, .int .i64 t.at_]
/-- Set's and Cancel's question: is it the one of an environment and a number? p, q: where these lie. -/
theorem set1_any (w : World) (t : Tm) (p q : Nat) (e i : Int) (hp : w.cell? ⟨p, 0, none⟩ = some (.int .i64 e)) (hq : w.cell? ⟨q, 0, none⟩ = some (.int .i64 i)) (hpl : p < w.heap.size) (hql : q < w.heap.size) :
    Calls Try.prog 19 #[t.v, .pointer (some ⟨p, 0, none⟩), .pointer (some ⟨q, 0, none⟩)] w fun e' w' => e' = .returned (.bool (t.env == e && t.id == i)) ∧ Fr NoB w w' := by
  unfold Tm.v
  cases he : (t.env == e) <;> cases hi : (t.id == i)
  all_goals
    go_enter Try.func19, Try.ntmps19
    go_wp2
    go_ret
    exact ⟨rfl, (Fr.refl _ _).alloc _⟩
theorem can1_any (w : World) (t : Tm) (p q : Nat) (e i : Int) (hp : w.cell? ⟨p, 0, none⟩ = some (.int .i64 e)) (hq : w.cell? ⟨q, 0, none⟩ = some (.int .i64 i)) (hpl : p < w.heap.size) (hql : q < w.heap.size) :
    Calls Try.prog 28 #[t.v, .pointer (some ⟨p, 0, none⟩), .pointer (some ⟨q, 0, none⟩)] w fun e' w' => e' = .returned (.bool (t.env == e && t.id == i)) ∧ Fr NoB w w' := by
  unfold Tm.v
  cases he : (t.env == e) <;> cases hi : (t.id == i)
  all_goals
    go_enter Try.func28, Try.ntmps28
    go_wp2
    go_ret
    exact ⟨rfl, (Fr.refl _ _).alloc _⟩
theorem kill1_any (w : World) (t : Tm) (p : Nat) (e : Int) (hp : w.cell? ⟨p, 0, none⟩ = some (.int .i64 e)) (hpl : p < w.heap.size) :
    Calls Try.prog 27 #[t.v, .pointer (some ⟨p, 0, none⟩)] w fun e' w' => e' = .returned (.bool (t.env == e)) ∧ Fr NoB w w' := by
  unfold Tm.v
  cases he : (t.env == e)
  all_goals
    go_enter Try.func27, Try.ntmps27
    go_wp2
    go_ret
    exact ⟨rfl, (Fr.refl _ _).alloc _⟩
theorem nani_any (x : Int) (w : World) : Calls Try.prog 36 #[.int .i64 x] w fun e w' => e = .returned (.bool false) ∧ w = w' := by
  go_enter Try.func36, Try.ntmps36
  go_wp2
  go_ret
  exact ⟨by simp [go_sem], rfl⟩
def cmpI (x y : Int) : Int := if x < y then -1 else if y < x then 1 else 0
theorem cmpi_any (x y : Int) (w : World) : Calls Try.prog 33 #[.int .i64 x, .int .i64 y] w fun e w' => e = .returned (.int .i64 (cmpI x y)) ∧ w = w' := by
  have hr : cmpI x y = if x < y then -1 else if y < x then 1 else 0 := rfl
  by_cases h1 : x < y
  · rw [if_pos h1] at hr
    have HR := hid hr
    clear hr
    have h1' : decide (x < y) = true := by simp [h1]
    clear h1
    go_enter Try.func33, Try.ntmps33
    go_wp2_with (go_at_call 36; refine (nani_any _ w).mono ?_; rintro e w1 ⟨rfl, rfl⟩)
    go_ret
    exact ⟨by rw [HR.out]; rfl, rfl⟩
  · by_cases h2 : y < x
    · rw [if_neg h1, if_pos h2] at hr
      have HR := hid hr
      clear hr
      have h1' : decide (x < y) = false := by simp [h1]
      have h2' : decide (x > y) = true := by simp [h2]
      clear h1 h2
      go_enter Try.func33, Try.ntmps33
      go_wp2_with (go_at_call 36; refine (nani_any _ w).mono ?_; rintro e w1 ⟨rfl, rfl⟩)
      go_ret
      exact ⟨by rw [HR.out]; rfl, rfl⟩
    · rw [if_neg h1, if_neg h2] at hr
      have HR := hid hr
      clear hr
      have h1' : decide (x < y) = false := by simp [h1]
      have h2' : decide (x > y) = false := by simp [h2]
      clear h1 h2
      go_enter Try.func33, Try.ntmps33
      go_wp2_with (go_at_call 36; refine (nani_any _ w).mono ?_; rintro e w1 ⟨rfl, rfl⟩)
      go_ret
      exact ⟨by rw [HR.out]; rfl, rfl⟩
end Go.Proofs.Ytgjgmaeickhhfaa
