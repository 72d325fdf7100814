import Derived.Test.YtgjgmaeickhhfaaL7
set_option linter.unusedSimpArgs false
set_option linter.unusedVariables false
namespace Go.Proofs.Ytgjgmaeickhhfaa
open Go.RowKit Go.Proofs.YtgjgmaeickhhfaaW.PrintWords
/-- One timer is ahead of another one. -/
def Lt (a b : Tm) : Prop := a.at_ < b.at_ ∨ (a.at_ = b.at_ ∧ (a.env < b.env ∨ (a.env = b.env ∧ a.id < b.id)))
instance (a b : Tm) : Decidable (Lt a b) := by unfold Lt; exact inferInstance
theorem cmpI_neg (x y : Int) : cmpI x y < 0 ↔ x < y := by unfold cmpI; split <;> (try split) <;> omega
theorem cmpI_zero (x y : Int) : cmpI x y = 0 ↔ x = y := by unfold cmpI; split <;> (try split) <;> omega
theorem ordT_neg (a b : Tm) : ordT a b < 0 ↔ Lt a b := by
  have h1 := cmpI_neg a.at_ b.at_
  have h2 := cmpI_neg a.env b.env
  have h3 := cmpI_neg a.id b.id
  have z1 := cmpI_zero a.at_ b.at_
  have z2 := cmpI_zero a.env b.env
  unfold ordT orI Lt
  by_cases c1 : cmpI a.at_ b.at_ = 0
  · rw [if_neg (by simpa using c1)]
    by_cases c2 : cmpI a.env b.env = 0
    · rw [if_neg (by simpa using c2)]
      have := z1.1 c1
      have := z2.1 c2
      omega
    · rw [if_pos c2]
      have := z1.1 c1
      have : ¬ a.env = b.env := fun h => c2 (z2.2 h)
      omega
  · rw [if_pos c1]
    have : ¬ a.at_ = b.at_ := fun h => c1 (z1.2 h)
    omega
theorem Lt.trans {a b c : Tm} (h1 : Lt a b) (h2 : Lt b c) : Lt a c := by unfold Lt at *; omega
theorem Lt.irrefl (a : Tm) : ¬ Lt a a := by unfold Lt; omega
/-- Timers in their order. -/
def Sorted (xs : List Tm) : Prop := xs.Pairwise Lt
def putT (t : Tm) (xs : List Tm) : List Tm := xs.takeWhile (fun x => decide (Lt x t)) ++ t :: xs.dropWhile (fun x => decide (Lt x t))
theorem tw_len (t : Tm) (xs : List Tm) : (xs.takeWhile (fun x => decide (Lt x t))).length ≤ xs.length := (List.takeWhile_prefix _).length_le
theorem tw_take (p : Tm → Bool) (xs : List Tm) : xs.take (xs.takeWhile p).length = xs.takeWhile p := (List.prefix_iff_eq_take.1 (List.takeWhile_prefix p)).symm
theorem tw_drop (p : Tm → Bool) (xs : List Tm) : xs.drop (xs.takeWhile p).length = xs.dropWhile p := by
  induction xs with
  | nil => rfl
  | cons x xs ih => cases h : p x <;> simp [List.takeWhile_cons, List.dropWhile_cons, h, ih]
theorem putT_take (t : Tm) (xs : List Tm) : putT t xs = xs.take (xs.takeWhile (fun x => decide (Lt x t))).length ++ t :: xs.drop (xs.takeWhile (fun x => decide (Lt x t))).length := by
  rw [tw_take, tw_drop]
  rfl
theorem tw_lo (t : Tm) (xs : List Tm) (k : Nat) (hk : k < xs.length) (h : k < (xs.takeWhile (fun x => decide (Lt x t))).length) : ordT xs[k] t < 0 := by
  rw [ordT_neg]
  have h1 : (xs.takeWhile (fun x => decide (Lt x t)))[k] = xs[k] := (List.takeWhile_prefix _).getElem h
  have h2 := List.all_takeWhile (p := fun x => decide (Lt x t)) (l := xs)
  have h3 := List.all_eq_true.1 h2 _ (List.getElem_mem h)
  rw [h1] at h3
  simpa using h3
theorem tw_hi (t : Tm) : ∀ (xs : List Tm), Sorted xs → ∀ (k : Nat) (hk : k < xs.length), (xs.takeWhile (fun x => decide (Lt x t))).length ≤ k → ¬ ordT xs[k] t < 0
  | [], _, k, hk, _ => by simp at hk
  | x :: xs, hs, k, hk, h => by
    rw [ordT_neg]
    have hs' := List.pairwise_cons.1 hs
    by_cases hx : Lt x t
    · rw [List.takeWhile_cons, if_pos (by simpa using hx), List.length_cons] at h
      cases k with
      | zero => omega
      | succ k =>
        have := tw_hi t xs hs'.2 k (by simpa using hk) (by omega)
        rw [ordT_neg] at this
        simpa using this
    · intro h1
      cases k with
      | zero => exact hx h1
      | succ k =>
        have hk' : k < xs.length := by simpa using hk
        have h2 : Lt x xs[k] := hs'.1 _ (List.getElem_mem _)
        exact hx (h2.trans (by simpa using h1))
theorem putT_sorted {t : Tm} {xs : List Tm} (hs : Sorted xs) (hne : ∀ x ∈ xs, x.env ≠ t.env ∨ x.id ≠ t.id) : Sorted (putT t xs) := by
  induction xs with
  | nil => simp [putT, Sorted]
  | cons x xs ih =>
    have hs' := List.pairwise_cons.1 hs
    by_cases hx : Lt x t
    · have e : putT t (x :: xs) = x :: putT t xs := by simp [putT, hx]
      rw [e]
      refine List.pairwise_cons.2 ⟨fun y hy => ?_, ih hs'.2 (fun y hy => hne y (List.mem_cons_of_mem _ hy))⟩
      unfold putT at hy
      rcases List.mem_append.1 hy with h | h
      · exact hs'.1 y ((List.takeWhile_prefix _).subset h)
      · rcases List.mem_cons.1 h with rfl | h
        · exact hx
        · exact hs'.1 y ((List.dropWhile_suffix _).subset h)
    · have e : putT t (x :: xs) = t :: x :: xs := by simp [putT, hx]
      rw [e]
      have htx : Lt t x := by
        have := hne x List.mem_cons_self
        unfold Lt at *
        omega
      refine List.pairwise_cons.2 ⟨fun y hy => ?_, hs⟩
      rcases List.mem_cons.1 hy with rfl | h
      · exact htx
      · exact htx.trans (hs'.1 y h)
theorem putT_len (t : Tm) (xs : List Tm) : (putT t xs).length = xs.length + 1 := by
  rw [putT_take, put_len xs t _ (tw_len t xs)]
theorem mem_putT {t x : Tm} {xs : List Tm} : x ∈ putT t xs ↔ x = t ∨ x ∈ xs := by
  unfold putT
  conv => rhs; rw [← List.takeWhile_append_dropWhile (p := fun x => decide (Lt x t)) (l := xs)]
  simp only [List.mem_append, List.mem_cons]
  constructor
  · rintro (h | h | h)
    · exact .inr (.inl h)
    · exact .inl h
    · exact .inr (.inr h)
  · rintro (h | h | h)
    · exact .inr (.inl h)
    · exact .inl h
    · exact .inr (.inr h)
def outT (e i : Int) (xs : List Tm) : List Tm := xs.filter fun x => !(isIt e i x)
theorem outT_ne {e i : Int} {xs : List Tm} {x : Tm} (h : x ∈ outT e i xs) : x.env ≠ e ∨ x.id ≠ i := by
  have := (List.mem_filter.1 h).2
  simp [isIt] at this
  exact this
theorem filter_sorted {xs : List Tm} (p : Tm → Bool) (h : Sorted xs) : Sorted (xs.filter p) := List.Pairwise.filter p h
/-- What Set answers, and the timers then. -/
def setE (xs : List Tm) (e i ticks : Int) : Int := if e < 0 ∨ i < 0 then 1 else if ticks < 1 ∨ ticks > 1073741824 then 2 else if xs.length = 1024 ∧ xs.any (isIt e i) = false then 3 else 0
def setL (now : Int) (xs : List Tm) (e i ticks : Int) : List Tm := if setE xs e i ticks = 0 then putT ⟨e, i, now + ticks⟩ (outT e i xs) else xs
end Go.Proofs.Ytgjgmaeickhhfaa
