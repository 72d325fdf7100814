import Derived.Test.YteaoafipjaffpaaF4
set_option linter.unusedSimpArgs false
set_option linter.unusedVariables false
/-! How cells are shared: whole parts first, then one by one. -/
namespace Go.Proofs.Yteaoafipjaffpaa.FT
open Ieee Go.RowKit
def quotasL (n : Nat) (t : List Nat) : List Nat := t.map fun x => quota n (sumL t) x
/-- What is above the whole part. -/
def frac (q : Nat) : Nat := fsub q (ofN (floorN q))
def better (q : List Nat) (got : List Bool) (k : Nat) (at_ : Option Nat) : Bool :=
  !got.getD k false && (match at_ with | none => true | some a => gtF (frac (q.getD k 0)) (frac (q.getD a 0)))
def bestTo (q : List Nat) (got : List Bool) : Nat → Option Nat
  | 0 => none
  | k + 1 => if better q got k (bestTo q got k) then some k else bestTo q got k
def best (q : List Nat) (got : List Bool) : Option Nat := bestTo q got q.length
theorem bestTo_lt (q : List Nat) (got : List Bool) (k : Nat) : ∀ a, bestTo q got k = some a → a < k ∧ got.getD a false = false := by
  induction k with
  | zero => intro a h; simp [bestTo] at h
  | succ k ih =>
    intro a h
    rw [bestTo] at h
    split at h
    · rename_i hb
      injection h with h
      subst h
      refine ⟨by omega, ?_⟩
      unfold better at hb
      simp only [Bool.and_eq_true, Bool.not_eq_true'] at hb
      exact hb.1
    · obtain ⟨h1, h2⟩ := ih a h
      exact ⟨by omega, h2⟩
theorem bestTo_none (q : List Nat) (got : List Bool) (k : Nat) : bestTo q got k = none ↔ ∀ j, j < k → got.getD j false = true := by
  induction k with
  | zero => simp [bestTo]
  | succ k ih =>
    rw [bestTo]
    constructor
    · intro h
      split at h
      · cases h
      · rename_i hb
        intro j hj
        by_cases hjk : j = k
        · subst hjk
          unfold better at hb
          rw [h] at hb
          simpa using hb
        · exact ih.1 h j (by omega)
    · intro h
      have h1 := ih.2 (fun j hj => h j (by omega))
      have h2 := h k (by omega)
      unfold better
      rw [h1, h2]
      rfl
theorem val_pos_le {a : Nat} : floorN a * 2 ^ tt ≤ val a := Nat.div_mul_le_self _ _
/-- The whole part's word is finite. -/
theorem floor_fin {a : Nat} (ha : a < infR) : ofN (floorN a) < infR := by
  obtain ⟨R, h1, h2⟩ := ofN_near (floorN a)
  have := h2.mono (Near.self a 1 (by omega)) (by omega) (by omega) (by rw [Nat.mul_one, Nat.mul_one, Nat.mul_one]; exact val_pos_le)
  rw [h1, Nat.min_eq_left (by omega)]
  omega
def atI : Option Nat → Int
  | none => -1
  | some a => a
/-- Who has got one, ahead of the next one: all anew when all have. -/
def gotN (q : List Nat) (got : List Bool) : List Bool := if best q got = none then List.replicate got.length false else got
def nextN (q : List Nat) (got : List Bool) : Nat := (best q (gotN q got)).getD 0
/-- One more. -/
def give (q : List Nat) : Nat → List Bool × List Nat → List Bool × List Nat
  | 0, s => s
  | m + 1, s => ((gotN q (give q m s).1).set (nextN q (give q m s).1) true, (give q m s).2.set (nextN q (give q m s).1) ((give q m s).2.getD (nextN q (give q m s).1) 0 + 1))
def leftTo (n : Nat) (q : List Nat) : Nat → Nat
  | 0 => n
  | k + 1 => leftTo n q k - floorN (q.getD k 0)
def outTo (n : Nat) (q : List Nat) (k : Nat) : List Nat := (List.range k).map fun j => min (floorN (q.getD j 0)) (leftTo n q j)
def sharesQ (n : Nat) (q : List Nat) : List Nat := (give q (leftTo n q q.length) (List.replicate q.length false, outTo n q q.length)).2
/-- The shares of n cells. -/
def sharesL (n : Nat) (w : List Nat) : List Nat := sharesQ n (quotasL n (tgL w))
theorem gotN_len (q : List Nat) (got : List Bool) : (gotN q got).length = got.length := by
  unfold gotN; split <;> simp
theorem give_len (q : List Nat) (m : Nat) (s : List Bool × List Nat) : (give q m s).1.length = s.1.length ∧ (give q m s).2.length = s.2.length := by
  induction m with
  | zero => exact ⟨rfl, rfl⟩
  | succ m ih => simp [give, gotN_len, ih]
theorem best_gotN (q : List Nat) (got : List Bool) (hl : got.length = q.length) (h0 : 0 < q.length) : ∃ a, best q (gotN q got) = some a ∧ a < q.length ∧ (gotN q got).getD a false = false := by
  cases hb : best q (gotN q got) with
  | some a => exact ⟨a, rfl, bestTo_lt _ _ _ a hb⟩
  | none =>
    exfalso
    unfold gotN at hb
    split at hb
    · rename_i h
      have := (bestTo_none q _ q.length).1 hb 0 h0
      rw [List.getD_eq_getElem?_getD, List.getElem?_replicate, if_pos (by omega)] at this
      cases this
    · rename_i h
      exact h hb
theorem next_lt (q : List Nat) (got : List Bool) (hl : got.length = q.length) (h0 : 0 < q.length) : nextN q got < q.length := by
  obtain ⟨a, h1, h2, _⟩ := best_gotN q got hl h0
  unfold nextN
  rw [h1]
  exact h2
theorem leftTo_le (n : Nat) (q : List Nat) (k : Nat) : leftTo n q k ≤ n := by
  induction k with
  | zero => exact Nat.le_refl _
  | succ k ih => simp only [leftTo]; omega
theorem outTo_len (n : Nat) (q : List Nat) (k : Nat) : (outTo n q k).length = k := by simp [outTo]
theorem outTo_succ (n : Nat) (q : List Nat) (k : Nat) : outTo n q (k + 1) = outTo n q k ++ [min (floorN (q.getD k 0)) (leftTo n q k)] := by
  simp [outTo, List.range_succ]
theorem quotasL_len (n : Nat) (t : List Nat) : (quotasL n t).length = t.length := by simp [quotasL]
/-- What holds of the quotas of a row that counts. -/
structure Qok (n : Nat) (q : List Nat) : Prop where
  fin : ∀ x ∈ q, x < infR
  floor : ∀ x ∈ q, floorN x ≤ n
theorem quotas_ok {n : Nat} {t : List Nat} (hn : n ≤ 512) (h : Tok t) (hl : t.length ≤ 4096) : Qok n (quotasL n t) ∧ ONE ≤ sumL t ∧ sumL t < infR := by
  obtain ⟨h1, h2, h3⟩ := sum_ok h.le hl
  have h4 := h3 _ h.one
  refine ⟨⟨fun x hx => ?_, fun x hx => ?_⟩, h4, h1⟩
  · obtain ⟨y, hy, rfl⟩ := List.mem_map.1 hx
    obtain ⟨_, _, a, b⟩ := quota_ok hn (h.le y hy) h4 h1
    omega
  · obtain ⟨y, hy, rfl⟩ := List.mem_map.1 hx
    exact floor_quota hn (h.le y hy) h4 h1
theorem give_some {q : List Nat} {m : Nat} {s : List Bool × List Nat} {a : Nat} (h : best q (give q m s).1 = some a) : give q (m + 1) s = ((give q m s).1.set a true, (give q m s).2.set a ((give q m s).2.getD a 0 + 1)) := by
  have hg : gotN q (give q m s).1 = (give q m s).1 := by unfold gotN; rw [h]; rfl
  have hn : nextN q (give q m s).1 = a := by unfold nextN; rw [hg, h]; rfl
  simp only [give, hg, hn]
theorem give_none {q : List Nat} {m : Nat} {s : List Bool × List Nat} {a : Nat} (h : best q (give q m s).1 = none) (h2 : best q (List.replicate (give q m s).1.length false) = some a) : give q (m + 1) s = ((List.replicate (give q m s).1.length false).set a true, (give q m s).2.set a ((give q m s).2.getD a 0 + 1)) := by
  have hg : gotN q (give q m s).1 = List.replicate (give q m s).1.length false := by unfold gotN; rw [if_pos h]
  have hn : nextN q (give q m s).1 = a := by unfold nextN; rw [hg, h2]; rfl
  simp only [give, hg, hn]
theorem best_lt {q : List Nat} {got : List Bool} {a : Nat} (h : best q got = some a) : a < q.length := (bestTo_lt q got q.length a h).1
theorem best_fresh (q : List Nat) (n : Nat) (hn : n = q.length) (h0 : 0 < q.length) : ∃ a, best q (List.replicate n false) = some a := by
  cases hb : best q (List.replicate n false) with
  | some a => exact ⟨a, rfl⟩
  | none =>
    have := (bestTo_none q _ q.length).1 hb 0 h0
    rw [List.getD_eq_getElem?_getD, List.getElem?_replicate, if_pos (by omega)] at this
    cases this
theorem sumL_outTo (n : Nat) (q : List Nat) (k : Nat) : (outTo n q k).sum + leftTo n q k = n := by
  induction k with
  | zero => simp [outTo, leftTo]
  | succ k ih =>
    rw [outTo_succ, List.sum_append]
    simp only [leftTo, List.sum_cons, List.sum_nil]
    omega
theorem sum_set (l : List Nat) (a : Nat) (h : a < l.length) : (l.set a (l.getD a 0 + 1)).sum = l.sum + 1 := by
  induction l generalizing a with
  | nil => simp at h
  | cons x l ih =>
    cases a with
    | zero => simp; omega
    | succ a =>
      have := ih a (by simpa using h)
      simp only [List.set_cons_succ, List.sum_cons, List.getD_cons_succ]
      omega
theorem mem_sum {l : List Nat} {x : Nat} (h : x ∈ l) : x ≤ l.sum := by
  induction l with
  | nil => simp at h
  | cons y l ih =>
    rw [List.sum_cons]
    rcases List.mem_cons.1 h with h | h
    · omega
    · have := ih h; omega
theorem give_sum (q : List Nat) (h0 : 0 < q.length) (m : Nat) (s : List Bool × List Nat) (h1 : s.1.length = q.length) (h2 : s.2.length = q.length) : (give q m s).2.sum = s.2.sum + m := by
  induction m with
  | zero => rfl
  | succ m ih =>
    obtain ⟨l1, l2⟩ := give_len q m s
    have := next_lt q (give q m s).1 (by omega) h0
    simp only [give]
    rw [sum_set _ _ (by omega), ih]
    omega
/-- ALL CELLS TOGETHER. -/
theorem shares_sum (n : Nat) (w : List Nat) (h : w ≠ []) : (sharesL n w).sum = n ∧ (sharesL n w).length = w.length := by
  have hl : (quotasL n (tgL w)).length = w.length := by rw [quotasL_len, tgL_len]
  have h0 : 0 < w.length := List.length_pos_iff.2 h
  unfold sharesL sharesQ
  constructor
  · rw [give_sum _ (by omega) _ _ (by simp) (by simp [outTo_len])]
    exact sumL_outTo n _ _
  · rw [(give_len _ _ _).2, outTo_len, hl]
end Go.Proofs.Yteaoafipjaffpaa.FT
