import Derived.Test.YteaoafipjaffpaaF3
set_option linter.unusedSimpArgs false
set_option linter.unusedVariables false
/-! What weights count together, and quotas, as lists. -/
namespace Go.Proofs.Yteaoafipjaffpaa.FT
open Ieee Go.RowKit
theorem snoc_ind {α : Type} {motive : List α → Prop} (nil : motive []) (snoc : ∀ (l : List α) (a : α), motive l → motive (l ++ [a])) (l : List α) : motive l := by
  have h : ∀ r : List α, motive r.reverse := by
    intro r
    induction r with
    | nil => exact nil
    | cons a r ih => rw [List.reverse_cons]; exact snoc _ _ ih
  have := h l.reverse
  rwa [List.reverse_reverse] at this
/-- Words of 64 bits. -/
def Ws (w : List Nat) : Prop := ∀ b ∈ w, b < 18446744073709551616
def mostL (w : List Nat) : Nat := w.foldl (fun m b => max m (count b)) 0
def onesL (p : Nat → Bool) (w : List Nat) : List Nat := w.map fun b => if p b then ONE else 0
def tgL (w : List Nat) : List Nat :=
  if w.any isI then onesL isI w else if mostL w = 0 then onesL (fun _ => true) w else w.map fun b => fdiv (count b) (mostL w)
def sumL (t : List Nat) : Nat := t.foldl fadd 0
theorem mostL_snoc (w : List Nat) (b : Nat) : mostL (w ++ [b]) = max (mostL w) (count b) := by simp [mostL, List.foldl_append]
theorem sumL_snoc (t : List Nat) (x : Nat) : sumL (t ++ [x]) = fadd (sumL t) x := by simp [sumL, List.foldl_append]
theorem mostL_take (w : List Nat) (k : Nat) (h : k < w.length) : mostL (w.take (k + 1)) = max (mostL (w.take k)) (count w[k]) := by
  rw [List.take_succ_eq_append_getElem h, mostL_snoc]
theorem sumL_take (w : List Nat) (k : Nat) (h : k < w.length) : sumL (w.take (k + 1)) = fadd (sumL (w.take k)) w[k] := by
  rw [List.take_succ_eq_append_getElem h, sumL_snoc]
theorem Ws.take {w : List Nat} (h : Ws w) (k : Nat) : Ws (w.take k) := fun b hb => h b (List.mem_of_mem_take hb)
theorem mostL_le {w : List Nat} (h : Ws w) : mostL w ≤ infR := by
  induction w using snoc_ind with
  | nil => exact Nat.zero_le _
  | snoc w b ih =>
    rw [mostL_snoc]
    have h1 := ih (fun x hx => h x (by simp [hx]))
    have h2 := count_le (h b (by simp))
    omega
theorem mostL_lt {w : List Nat} (h : Ws w) (hi : w.any isI = false) : mostL w < infR := by
  induction w using snoc_ind with
  | nil => decide
  | snoc w b ih =>
    rw [mostL_snoc]
    rw [List.any_append, Bool.or_eq_false_iff] at hi
    have h1 := ih (fun x hx => h x (by simp [hx])) hi.1
    have h2 := count_noI (h b (by simp)) (by simpa using hi.2)
    omega
theorem count_most {w : List Nat} {b : Nat} (hb : b ∈ w) : count b ≤ mostL w := by
  induction w using snoc_ind with
  | nil => simp at hb
  | snoc w c ih =>
    rw [mostL_snoc]
    rcases List.mem_append.1 hb with h | h
    · have := ih h; omega
    · rw [List.mem_singleton.1 h]; omega
theorem most_mem {w : List Nat} (h : 0 < mostL w) : ∃ b ∈ w, count b = mostL w := by
  induction w using snoc_ind with
  | nil => simp [mostL] at h
  | snoc w c ih =>
    rw [mostL_snoc] at h ⊢
    by_cases h2 : mostL w ≤ count c
    · exact ⟨c, by simp, by omega⟩
    · obtain ⟨b, hb, he⟩ := ih (by omega)
      exact ⟨b, by simp [hb], by omega⟩
/-- What counts of a row together: none above 1, and one of them is 1. -/
structure Tok (t : List Nat) : Prop where
  le : ∀ x ∈ t, x ≤ ONE
  one : ONE ∈ t
theorem div_count {w : List Nat} (h : Ws w) (hi : w.any isI = false) (h0 : mostL w ≠ 0) {b : Nat} (hb : b ∈ w) : D.div (count b) (mostL w) = some (fdiv (count b) (mostL w)) ∧ fdiv (count b) (mostL w) ≤ ONE := by
  have h1 := mostL_lt h hi
  have h2 := count_most hb
  obtain ⟨a, b, _⟩ := div_is (a := count b) (b := mostL w) (c := ONE) (by omega) h1 (by omega) one_lt (by
    rw [val_one, Nat.mul_comm]
    exact Nat.mul_le_mul_left _ (val_le h2))
  exact ⟨a, b⟩
theorem tgL_len (w : List Nat) : (tgL w).length = w.length := by
  unfold tgL onesL
  split
  · simp
  · split <;> simp
theorem tgL_ok {w : List Nat} (h : Ws w) (hn : w ≠ []) : Tok (tgL w) := by
  unfold tgL onesL
  by_cases hi : w.any isI = true
  · rw [if_pos hi]
    refine ⟨fun x hx => ?_, ?_⟩
    · obtain ⟨b, hb, rfl⟩ := List.mem_map.1 hx
      split
      · exact Nat.le_refl _
      · exact Nat.zero_le _
    · obtain ⟨b, hb, h1⟩ := List.any_eq_true.1 hi
      exact List.mem_map.2 ⟨b, hb, by rw [if_pos h1]⟩
  · rw [if_neg hi]
    have hi' : w.any isI = false := by simpa using hi
    by_cases h0 : mostL w = 0
    · rw [if_pos h0]
      refine ⟨fun x hx => ?_, ?_⟩
      · obtain ⟨b, hb, rfl⟩ := List.mem_map.1 hx
        exact Nat.le_refl _
      · obtain ⟨b, hb⟩ := List.exists_mem_of_ne_nil w hn
        exact List.mem_map.2 ⟨b, hb, rfl⟩
    · rw [if_neg h0]
      refine ⟨fun x hx => ?_, ?_⟩
      · obtain ⟨b, hb, rfl⟩ := List.mem_map.1 hx
        exact (div_count h hi' h0 hb).2
      · obtain ⟨b, hb, he⟩ := most_mem (w := w) (by omega)
        refine List.mem_map.2 ⟨b, hb, ?_⟩
        rw [he]
        have h1 := mostL_lt h hi'
        obtain ⟨_, a1, a2⟩ := div_is (a := mostL w) (b := mostL w) (c := ONE) h1 h1 (by omega) one_lt (by rw [val_one, Nat.mul_comm]; exact Nat.le_refl _)
        have hv : 0 < val (mostL w) := by have := val_lt (show 0 < mostL w by omega); rw [val_zero] at this; exact this
        have := (Near.self ONE 1 (by omega)).mono a2 (by omega) hv (by rw [val_one, Nat.mul_one, Nat.mul_one, Nat.mul_comm]; exact Nat.le_refl _)
        omega
/-- The sums along a row: none is infinite, none below what was added. -/
theorem sum_ok {t : List Nat} (h : ∀ x ∈ t, x ≤ ONE) (hl : t.length ≤ 4096) : sumL t < infR ∧ val (sumL t) ≤ t.length * 2 ^ tt ∧ ∀ x ∈ t, x ≤ sumL t := by
  induction t using snoc_ind with
  | nil => exact ⟨by decide, by simp [sumL, val_zero], fun x hx => by simp at hx⟩
  | snoc t x ih =>
    rw [List.length_append, List.length_singleton] at hl ⊢
    obtain ⟨h1, h2, h3⟩ := ih (fun y hy => h y (by simp [hy])) (by omega)
    have hx := h x (by simp)
    obtain ⟨c, hc, hv⟩ := one_has (t.length + 1) (by omega)
    have hvx : val x ≤ 2 ^ tt := by rw [← val_one]; exact val_le hx
    have ho := one_lt
    obtain ⟨_, a1, a2, a3, _⟩ := add_is (a := sumL t) (b := x) (c := c) h1 (by omega) hc (by rw [hv, Nat.add_mul, Nat.one_mul]; omega)
    rw [sumL_snoc]
    refine ⟨by omega, by rw [← hv]; exact val_le a1, fun y hy => ?_⟩
    rcases List.mem_append.1 hy with hy | hy
    · have := h3 y hy; omega
    · rw [List.mem_singleton.1 hy]; exact a3
theorem sum_add {t : List Nat} (h : ∀ x ∈ t, x ≤ ONE) (hl : t.length ≤ 4096) (k : Nat) (hk : k < t.length) : D.add (sumL (t.take k)) t[k] = some (sumL (t.take (k + 1))) := by
  have hm : ∀ j, ∀ x ∈ t.take j, x ≤ ONE := fun j x hx => h x (List.mem_of_mem_take hx)
  obtain ⟨h1, h2, h3⟩ := sum_ok (hm k) (by rw [List.length_take]; omega)
  rw [List.length_take, Nat.min_eq_left (by omega)] at h2
  have hx := h t[k] (List.getElem_mem hk)
  obtain ⟨c, hc, hv⟩ := one_has (k + 1) (by omega)
  have hvx : val t[k] ≤ 2 ^ tt := by rw [← val_one]; exact val_le hx
  have ho := one_lt
  rw [sumL_take t k hk]
  exact (add_is (a := sumL (t.take k)) (b := t[k]) (c := c) h1 (by omega) hc (by rw [hv, Nat.add_mul, Nat.one_mul]; omega)).1
/-- The quota of one that counts x, of n cells. -/
def quota (n s x : Nat) : Nat := fdiv (fmul (ofN n) x) s
theorem quota_ok {n s x : Nat} (hn : n ≤ 512) (hx : x ≤ ONE) (hs : ONE ≤ s) (hs2 : s < infR) : D.mul (ofN n) x = some (fmul (ofN n) x) ∧ D.div (fmul (ofN n) x) s = some (quota n s x) ∧ quota n s x ≤ ofN n ∧ ofN n < infR := by
  obtain ⟨a1, a2⟩ := ofN_exact n (by omega)
  have ho := one_lt
  obtain ⟨m1, m2, _⟩ := mul_is (a := ofN n) (b := x) (c := ofN n) a1 (by omega) a1 (Nat.mul_le_mul_left _ (by rw [← val_one]; exact val_le hx))
  obtain ⟨d1, d2, _⟩ := div_is (a := fmul (ofN n) x) (b := s) (c := ofN n) (by omega) hs2 (Nat.lt_of_lt_of_le (by decide) hs) a1 (Nat.mul_le_mul (val_le m2) (by rw [← val_one]; exact val_le hs))
  exact ⟨m1, d1, d2, a1⟩
theorem floor_quota {n s x : Nat} (hn : n ≤ 512) (hx : x ≤ ONE) (hs : ONE ≤ s) (hs2 : s < infR) : floorN (quota n s x) ≤ n := by
  obtain ⟨_, _, h, _⟩ := quota_ok hn hx hs hs2
  have h2 := val_le h
  rw [(ofN_exact n (by omega)).2] at h2
  unfold floorN
  have h3 := Nat.div_le_div_right (c := 2 ^ tt) h2
  rwa [Nat.mul_div_cancel n (Nat.two_pow_pos tt)] at h3
end Go.Proofs.Yteaoafipjaffpaa.FT
