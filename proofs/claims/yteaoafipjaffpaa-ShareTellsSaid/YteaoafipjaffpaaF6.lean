import Derived.Test.YteaoafipjaffpaaF5
set_option linter.unusedSimpArgs false
set_option linter.unusedVariables false
/-! The whole parts are together no more than the cells: the errors of all roundings are far less than one cell. -/
namespace Go.Proofs.Yteaoafipjaffpaa.FT
open Ieee Go.RowKit
/-- No gap between two rungs up to 512 is greater. -/
def eps : Nat := 2 ^ (tt - 44)
theorem one_eps : 2 ^ tt = 17592186044416 * eps := by
  unfold eps
  have e : 44 + (tt - 44) = tt := by rw [tt_eq]
  rw [show (17592186044416 : Nat) = 2 ^ 44 by decide, ← Nat.pow_add, e]
theorem gap_le {r : Nat} (h : r < 4647714815446351872) : val (r + 1) ≤ val r + eps := by
  rw [val_step]
  unfold eps
  have : 2 ^ (r / 4503599627370496 - 1) ≤ 2 ^ (tt - 44) := Nat.pow_le_pow_right (by omega) (by rw [tt_eq]; omega)
  omega
theorem up_val (x k : Nat) (hx : 52 + x = k + tt) : 4503599627370496 * 2 ^ x = 2 ^ k * 2 ^ tt := by
  rw [show (4503599627370496 : Nat) = 2 ^ 52 by decide, ← Nat.pow_add, ← Nat.pow_add, hx]
theorem val_512 : val 4647714815446351872 = 512 * 2 ^ tt := by
  have h := val_binade 1031 4503599627370496 (by omega) (by omega)
  have e : (4647714815446351872 : Nat) = 1031 * 4503599627370496 + 4503599627370496 := rfl
  have e9 : (512 : Nat) = 2 ^ 9 := by decide
  rw [e9]
  exact (congrArg val e).trans (h.trans (up_val 1031 9 (by rw [tt_eq])))
theorem le_512 {a : Nat} (h : val a ≤ 512 * 2 ^ tt) : a ≤ 4647714815446351872 := by
  rw [← val_512] at h
  exact val_le_iff.1 h
/-- A nearest rung is not more than a gap above, nor below. -/
theorem near_up {N E R : Nat} (h : Near N E R) (hR : R ≤ 4647714815446351872) : val R * E ≤ N + eps * E := by
  cases R with
  | zero => rw [val_zero, Nat.zero_mul]; exact Nat.zero_le _
  | succ r =>
    have h1 := h.lo r rfl
    have h2 := Nat.mul_le_mul_right E (gap_le (r := r) (by omega))
    rw [Nat.add_mul] at h1 h2
    omega
theorem near_down {N E R : Nat} (h : Near N E R) (hR : R < 4647714815446351872) : N ≤ val R * E + eps * E := by
  have h1 := h.hi
  have h2 := Nat.mul_le_mul_right E (gap_le hR)
  rw [Nat.add_mul] at h1 h2
  omega
def vsum (t : List Nat) : Nat := (t.map val).sum
theorem vsum_snoc (t : List Nat) (x : Nat) : vsum (t ++ [x]) = vsum t + val x := by simp [vsum]
theorem sum_err {t : List Nat} (h : ∀ x ∈ t, x ≤ ONE) (hl : t.length ≤ 64) : vsum t ≤ val (sumL t) + t.length * eps := by
  induction t using snoc_ind with
  | nil => simp [vsum]
  | snoc t x ih =>
    rw [List.length_append, List.length_singleton] at hl ⊢
    have hm : ∀ y ∈ t, y ≤ ONE := fun y hy => h y (by simp [hy])
    have ih1 := ih hm (by omega)
    obtain ⟨h1, h2, h3⟩ := sum_ok hm (by omega)
    have hx := h x (by simp)
    obtain ⟨c, hc, hv⟩ := one_has (t.length + 1) (by omega)
    have hvx : val x ≤ 2 ^ tt := by rw [← val_one]; exact val_le hx
    have ho := one_lt
    obtain ⟨_, a1, _, _, a4⟩ := add_is (a := sumL t) (b := x) (c := c) h1 (by omega) hc (by rw [hv, Nat.add_mul, Nat.one_mul]; omega)
    have hlt : val (fadd (sumL t) x) < val 4647714815446351872 := by
      have a2 := val_le a1
      rw [hv] at a2
      rw [val_512]
      have := Nat.mul_le_mul_right (2 ^ tt) (show t.length + 1 ≤ 511 by omega)
      have := Nat.two_pow_pos tt
      omega
    have hd := near_down a4 (val_lt_iff.1 hlt)
    rw [Nat.mul_one, Nat.mul_one] at hd
    rw [sumL_snoc, vsum_snoc, Nat.add_mul, Nat.one_mul]
    omega
theorem quota_near {n s x : Nat} (hn : n ≤ 512) (hx : x ≤ ONE) (hs : ONE ≤ s) (hs2 : s < infR) : val (quota n s x) * val s ≤ n * val x * 2 ^ tt + eps * 2 ^ tt + eps * val s := by
  obtain ⟨a1, a2⟩ := ofN_exact n (by omega)
  have ho := one_lt
  have hvx : val x ≤ 2 ^ tt := by rw [← val_one]; exact val_le hx
  have hvs : 2 ^ tt ≤ val s := by rw [← val_one]; exact val_le hs
  have hn5 : n * 2 ^ tt ≤ 512 * 2 ^ tt := Nat.mul_le_mul_right _ hn
  obtain ⟨_, m2, m3⟩ := mul_is (a := ofN n) (b := x) (c := ofN n) a1 (by omega) a1 (Nat.mul_le_mul_left _ hvx)
  obtain ⟨_, d2, d3⟩ := div_is (a := fmul (ofN n) x) (b := s) (c := ofN n) (by omega) hs2 (Nat.lt_of_lt_of_le (by decide) hs) a1 (Nat.mul_le_mul (val_le m2) hvs)
  have hA : fmul (ofN n) x ≤ 4647714815446351872 := le_512 (by have := val_le m2; omega)
  have hQ : fdiv (fmul (ofN n) x) s ≤ 4647714815446351872 := le_512 (by have := val_le d2; omega)
  have u1 := near_up m3 hA
  have u2 := near_up d3 hQ
  rw [a2] at u1
  have e1 : n * 2 ^ tt * val x = n * val x * 2 ^ tt := by rw [Nat.mul_assoc, Nat.mul_comm (2 ^ tt), ← Nat.mul_assoc]
  rw [e1] at u1
  unfold quota
  omega
theorem quotas_err (n : Nat) (t : List Nat) (s : Nat) (hn : n ≤ 512) (hs : ONE ≤ s) (hs2 : s < infR) (h : ∀ x ∈ t, x ≤ ONE) : vsum (t.map fun x => quota n s x) * val s ≤ n * vsum t * 2 ^ tt + t.length * (eps * 2 ^ tt + eps * val s) := by
  induction t using snoc_ind with
  | nil => simp [vsum]
  | snoc t x ih =>
    have ih1 := ih (fun y hy => h y (by simp [hy]))
    have h1 := quota_near hn (h x (by simp)) hs hs2
    rw [List.map_append, List.map_singleton, vsum_snoc, vsum_snoc, List.length_append, List.length_singleton, Nat.add_mul, Nat.mul_add n, Nat.add_mul (n * vsum t), Nat.add_mul t.length, Nat.one_mul]
    omega
/-- The whole parts together are no more than the cells. -/
theorem floors_le {n : Nat} {t : List Nat} (hn : n ≤ 512) (hT : Tok t) (hl : t.length ≤ 64) : ((quotasL n t).map floorN).sum ≤ n := by
  obtain ⟨_, hs1, hs2⟩ := quotas_ok hn hT (by omega)
  have e1 := sum_err hT.le hl
  have e2 := quotas_err n t (sumL t) hn hs1 hs2 hT.le
  have hU : 2 ^ tt ≤ val (sumL t) := by rw [← val_one]; exact val_le hs1
  have hfl : ∀ q : List Nat, (q.map floorN).sum * 2 ^ tt ≤ vsum q := by
    intro q
    induction q with
    | nil => simp [vsum]
    | cons x q ih =>
      have := val_pos_le (a := x)
      simp only [vsum, List.map_cons, List.sum_cons, Nat.add_mul] at *
      omega
  have e3 := hfl (quotasL n t)
  unfold quotasL at e3 ⊢
  generalize vsum (t.map fun x => quota n (sumL t) x) = Q at *
  generalize val (sumL t) = S at *
  generalize vsum t = T at *
  have hone := one_eps
  have hpos := Nat.two_pow_pos tt
  generalize 2 ^ tt = U at *
  generalize ((t.map fun x => quota n (sumL t) x).map floorN).sum = F at *
  have l1 : t.length * eps ≤ 64 * eps := Nat.mul_le_mul_right _ hl
  have l2 : t.length * (eps * U + eps * S) ≤ 64 * (eps * U + eps * S) := Nat.mul_le_mul_right _ hl
  have l3 : n * T * U ≤ n * (S + 64 * eps) * U := Nat.mul_le_mul_right _ (Nat.mul_le_mul_left _ (by omega))
  have l4 : n * (S + 64 * eps) * U = n * (S * U) + 64 * (n * (eps * U)) := by
    rw [Nat.mul_add, Nat.add_mul, Nat.mul_assoc, Nat.mul_left_comm n 64, Nat.mul_assoc 64, Nat.mul_assoc n]
  have l5 : n * (eps * U) ≤ 512 * (eps * U) := Nat.mul_le_mul_right _ hn
  have l6 : eps * U ≤ eps * S := Nat.mul_le_mul_left _ hU
  have l7 : S * U = 17592186044416 * (eps * S) := by rw [hone, Nat.mul_comm, Nat.mul_assoc]
  have hb : 0 < eps * S := Nat.mul_pos (by unfold eps; exact Nat.two_pow_pos _) (by omega)
  have l8 : Q * S < (n + 1) * U * S := by
    rw [Nat.mul_assoc, Nat.add_mul, Nat.one_mul, Nat.mul_comm U S]
    omega
  have l9 : Q < (n + 1) * U := Nat.lt_of_mul_lt_mul_right l8
  have l10 : F * U < (n + 1) * U := by omega
  have l11 := Nat.lt_of_mul_lt_mul_right l10
  omega
end Go.Proofs.Yteaoafipjaffpaa.FT
