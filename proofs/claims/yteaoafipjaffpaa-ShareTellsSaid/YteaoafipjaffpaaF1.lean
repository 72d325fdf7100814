import Derived.Laws.FloatArith
import Derived.Laws.Cover2
set_option linter.unusedSimpArgs false
set_option linter.unusedVariables false
/-! Floats of 64 bits: their magnitudes in units of the least place; what is nearest; sums, products, quotients. -/
namespace Go.Proofs.Yteaoafipjaffpaa.FT
open Ieee
abbrev D := Ieee.double
/-- Units of the least place in one. -/
def tt : Nat := 1074
theorem tt_eq : tt = 1074 := rfl
def fneg (b : Nat) : Bool := b / 9223372036854775808 % 2 == 1
def rung (b : Nat) : Nat := b % 9223372036854775808
/-- The magnitude of a rung, in units of the least place. -/
def val (r : Nat) : Nat := if r < 4503599627370496 then r else (4503599627370496 + r % 4503599627370496) * 2 ^ (r / 4503599627370496 - 1)
def infR : Nat := 9218868437227405312
def isN (b : Nat) : Bool := decide (infR < rung b)
def sval (b : Nat) : Int := if fneg b then -(val (rung b) : Int) else (val (rung b) : Int)
theorem d_binade : D.binade = 4503599627370496 := rfl
theorem d_inf : D.infRung = 9218868437227405312 := rfl
theorem d_sign : D.signWeight = 9223372036854775808 := rfl
theorem d_least : D.leastPlace = -1074 := rfl
theorem val_step (r : Nat) : val (r + 1) = val r + 2 ^ (r / 4503599627370496 - 1) := by
  unfold val
  by_cases h : r + 1 < 4503599627370496
  · have : r < 4503599627370496 := by omega
    have e : r / 4503599627370496 - 1 = 0 := by omega
    simp [h, this, e]
  · by_cases h2 : r < 4503599627370496
    · have e0 : r = 4503599627370495 := by omega
      subst e0
      simp
    · simp only [h, h2, if_false]
      by_cases h3 : (r + 1) % 4503599627370496 = 0
      · obtain ⟨q, hq⟩ : ∃ q, r + 1 = (q + 1 + 1) * 4503599627370496 := ⟨(r + 1) / 4503599627370496 - 2, by omega⟩
        have e1 : r % 4503599627370496 = 4503599627370495 := by omega
        have e2 : r / 4503599627370496 - 1 = q := by omega
        have e3 : (r + 1) / 4503599627370496 - 1 = q + 1 := by omega
        rw [h3, e1, e2, e3, Nat.pow_succ]
        omega
      · have e1 : (r + 1) / 4503599627370496 = r / 4503599627370496 := by omega
        have e2 : (r + 1) % 4503599627370496 = r % 4503599627370496 + 1 := by omega
        rw [e1, e2]
        generalize 2 ^ (r / 4503599627370496 - 1) = p
        rw [show 4503599627370496 + (r % 4503599627370496 + 1) = (4503599627370496 + r % 4503599627370496) + 1 by omega, Nat.add_mul, Nat.one_mul]
theorem val_lt_succ (r : Nat) : val r < val (r + 1) := by
  rw [val_step]
  have := Nat.two_pow_pos (r / 4503599627370496 - 1)
  omega
theorem val_lt {a b : Nat} (h : a < b) : val a < val b := by
  induction b with
  | zero => omega
  | succ b ih =>
    have := val_lt_succ b
    by_cases h2 : a = b
    · subst h2; exact this
    · have := ih (by omega); omega
theorem val_le {a b : Nat} (h : a ≤ b) : val a ≤ val b := by
  by_cases h2 : a = b
  · subst h2; exact Nat.le_refl _
  · exact Nat.le_of_lt (val_lt (by omega))
theorem val_lt_iff {a b : Nat} : val a < val b ↔ a < b := ⟨fun h => by
  by_cases h2 : a < b
  · exact h2
  · have := val_le (a := b) (b := a) (by omega); omega, val_lt⟩
theorem val_le_iff {a b : Nat} : val a ≤ val b ↔ a ≤ b := ⟨fun h => by
  by_cases h2 : a ≤ b
  · exact h2
  · have := val_lt (a := b) (b := a) (by omega); omega, val_le⟩
theorem val_inj {a b : Nat} (h : val a = val b) : a = b := by
  have h1 := (val_le_iff (a := a) (b := b)).1 (by omega)
  have h2 := (val_le_iff (a := b) (b := a)).1 (by omega)
  omega
theorem val_zero : val 0 = 0 := rfl
theorem val_small {r : Nat} (h : r < 9007199254740992) : val r = r := by
  unfold val
  split
  · rfl
  · have e : r / 4503599627370496 - 1 = 0 := by omega
    rw [e]; omega
/-- What a word that is no infinity and no NaN reads as. -/
theorem read_fin (b : Nat) (h : rung b < infR) : ∃ (m k : Nat), D.read b = .number (fneg b) m (-1074 + (k : Int)) ∧ m * 2 ^ k = val (rung b) := by
  unfold Format.read
  rw [d_binade, d_inf, d_sign, d_least]
  simp only []
  unfold val
  unfold rung infR at *
  unfold fneg
  by_cases h1 : b % 9223372036854775808 < 4503599627370496
  · rw [if_pos h1, if_pos h1]
    exact ⟨_, 0, rfl, by simp⟩
  · rw [if_neg h1, if_pos h, if_neg h1]
    exact ⟨_, _, rfl, rfl⟩
theorem read_inf (b : Nat) (h : rung b = infR) : D.read b = .infinity (fneg b) := by
  unfold Format.read
  rw [d_binade, d_inf, d_sign, d_least]
  simp only []
  unfold rung infR at *
  rw [h]
  rfl
theorem read_nan (b : Nat) (h : infR < rung b) : ∃ t, D.read b = .nan (fneg b) t := by
  unfold Format.read
  rw [d_binade, d_inf, d_sign, d_least]
  simp only []
  unfold rung infR at *
  rw [if_neg (by omega), if_neg (by omega), if_neg (by omega)]
  exact ⟨_, rfl⟩
theorem compare_scale (x y : Int) (p : Nat) (hp : 0 < p) : compare (x * p) (y * p) = compare x y := by
  simp only [compare, compareOfLessAndEq]
  have hp' : (0 : Int) < p := by omega
  by_cases h : x < y
  · have : x * p < y * p := Int.mul_lt_mul_of_pos_right h hp'
    simp [h, this]
  · by_cases h2 : x = y
    · subst h2; simp
    · have : y * p < x * p := Int.mul_lt_mul_of_pos_right (by omega) hp'
      have h3 : ¬ x * (p : Int) < y * p := by omega
      have h4 : ¬ x * (p : Int) = y * p := by omega
      simp [h, h2, h3, h4]
theorem signed_mul (s : Bool) (m k : Nat) : signed s m k = (if s then -(m * 2 ^ k : Nat) else (m * 2 ^ k : Nat) : Int) := by
  unfold signed
  rw [Nat.shiftLeft_eq]
theorem signed_split (s : Bool) (m k j : Nat) (h : j ≤ k) : (signed s m (k - j)) * ((2 ^ j : Nat) : Int) = signed s m k := by
  rw [signed_mul, signed_mul]
  have e : m * 2 ^ k = m * 2 ^ (k - j) * 2 ^ j := by rw [Nat.mul_assoc, ← Nat.pow_add]; congr 2; omega
  rw [e]
  cases s <;> simp [Int.neg_mul]
theorem order_fin (a b : Nat) (ha : rung a < infR) (hb : rung b < infR) : D.order a b = some (compare (sval a) (sval b)) := by
  obtain ⟨m, k, ra, va⟩ := read_fin a ha
  obtain ⟨n, j, rb, vb⟩ := read_fin b hb
  unfold Format.order
  rw [ra, rb]
  simp only [Datum.order]
  congr 1
  have ea : ((-1074 + (k : Int)) - min (-1074 + (k : Int)) (-1074 + (j : Int))).toNat = k - min k j := by omega
  have eb : ((-1074 + (j : Int)) - min (-1074 + (k : Int)) (-1074 + (j : Int))).toNat = j - min k j := by omega
  rw [ea, eb, ← compare_scale _ _ (2 ^ (min k j)) (Nat.two_pow_pos _), signed_split _ _ _ _ (Nat.min_le_left _ _), signed_split _ _ _ _ (Nat.min_le_right _ _), signed_mul, signed_mul, va, vb]
  rfl
theorem val_inf_pos : 0 < val infR := by
  have := val_lt (a := 0) (b := infR) (by decide)
  rw [val_zero] at this
  exact this
theorem compare_lt {x y : Int} (h : x < y) : compare x y = .lt := by simp [compare, compareOfLessAndEq, h]
theorem compare_gt {x y : Int} (h : y < x) : compare x y = .gt := by
  have h1 : ¬ x < y := by omega
  have h2 : ¬ x = y := by omega
  simp [compare, compareOfLessAndEq, h1, h2]
theorem compare_eq {x y : Int} (h : x = y) : compare x y = .eq := by subst h; simp [compare, compareOfLessAndEq]
/-- How two words stand to each other: by their magnitudes' signs, but of a NaN nothing is said. -/
theorem order_eq (a b : Nat) : D.order a b = if isN a || isN b then none else some (compare (sval a) (sval b)) := by
  have hp := val_inf_pos
  by_cases ha : infR < rung a
  · obtain ⟨t, ht⟩ := read_nan a ha
    unfold Format.order
    rw [ht]
    simp [isN, ha, Datum.order]
  by_cases hb : infR < rung b
  · obtain ⟨t, ht⟩ := read_nan b hb
    unfold Format.order
    rw [ht]
    cases h : D.read a <;> simp [isN, hb, Datum.order]
  have na : isN a = false := by simp [isN, ha]
  have nb : isN b = false := by simp [isN, hb]
  simp only [na, nb, Bool.or_self, Bool.false_eq_true, if_false]
  by_cases ia : rung a = infR
  · have r1 := read_inf a ia
    by_cases ib : rung b = infR
    · have r2 := read_inf b ib
      unfold Format.order
      rw [r1, r2]
      simp only [Datum.order, sval, ia, ib]
      congr 1
      cases fneg a <;> cases fneg b <;> simp
      · rw [compare_gt (by omega)]; rfl
      · rw [compare_lt (by omega)]; rfl
    · obtain ⟨m, k, rb, vb⟩ := read_fin b (by omega)
      have hl := val_lt (a := rung b) (b := infR) (by omega)
      unfold Format.order
      rw [r1, rb]
      simp only [Datum.order, sval, ia]
      congr 1
      cases fneg a <;> cases fneg b <;> simp
      · rw [compare_gt (by omega)]
      · rw [compare_gt (by omega)]
      · rw [compare_lt (by omega)]
      · rw [compare_lt (by omega)]
  · obtain ⟨m, k, ra, va⟩ := read_fin a (by omega)
    by_cases ib : rung b = infR
    · have r2 := read_inf b ib
      have hl := val_lt (a := rung a) (b := infR) (by omega)
      unfold Format.order
      rw [ra, r2]
      simp only [Datum.order, sval, ib]
      congr 1
      cases fneg a <;> cases fneg b <;> simp
      · rw [compare_lt (by omega)]
      · rw [compare_gt (by omega)]
      · rw [compare_lt (by omega)]
      · rw [compare_gt (by omega)]
    · exact order_fin a b (by omega) (by omega)
/-- R is a nearest rung to N / E (in units of the least place); between two, the even one. -/
structure Near (N E R : Nat) : Prop where
  lo : ∀ r, R = r + 1 → (val r + val R) * E ≤ 2 * N
  hi : 2 * N ≤ (val R + val (R + 1)) * E
  loE : ∀ r, R = r + 1 → (val r + val R) * E = 2 * N → R % 2 = 0
  hiE : 2 * N = (val R + val (R + 1)) * E → R % 2 = 0
theorem Near.mono {N1 E1 R1 N2 E2 R2 : Nat} (h1 : Near N1 E1 R1) (h2 : Near N2 E2 R2) (p1 : 0 < E1) (p2 : 0 < E2) (h : N1 * E2 ≤ N2 * E1) : R1 ≤ R2 := by
  by_cases hc : R1 ≤ R2
  · exact hc
  exfalso
  obtain ⟨r, rfl⟩ : ∃ r, R1 = r + 1 := ⟨R1 - 1, by omega⟩
  have a1 := Nat.mul_le_mul_right E2 (h1.lo r rfl)
  have a2 := Nat.mul_le_mul_right E1 h2.hi
  have a3 : 2 * N1 * E2 ≤ 2 * N2 * E1 := by rw [Nat.mul_assoc, Nat.mul_assoc]; exact Nat.mul_le_mul_left 2 h
  have b1 : val R2 ≤ val r := val_le (by omega)
  have b2 : val (R2 + 1) ≤ val (r + 1) := val_le (by omega)
  have hp : 0 < E1 * E2 := Nat.mul_pos p1 p2
  have c0 : (val r + val (r + 1)) * (E1 * E2) ≤ (val R2 + val (R2 + 1)) * (E1 * E2) := by
    have e1 : (val r + val (r + 1)) * (E1 * E2) = (val r + val (r + 1)) * E1 * E2 := by rw [Nat.mul_assoc]
    have e2 : (val R2 + val (R2 + 1)) * (E1 * E2) = (val R2 + val (R2 + 1)) * E2 * E1 := by rw [Nat.mul_assoc, Nat.mul_comm E1 E2]
    omega
  have c1 := Nat.le_of_mul_le_mul_right c0 hp
  have d1 : val r = val R2 := by omega
  have d2 := val_inj d1
  subst d2
  have e1 : (val r + val (r + 1)) * E1 * E2 = (val r + val (r + 1)) * E2 * E1 := by rw [Nat.mul_assoc, Nat.mul_assoc, Nat.mul_comm E1 E2]
  have f1 : (val r + val (r + 1)) * E1 * E2 = 2 * N1 * E2 := by omega
  have f2 : 2 * N2 * E1 = (val r + val (r + 1)) * E2 * E1 := by omega
  have g1 := h1.loE r rfl (Nat.eq_of_mul_eq_mul_right p2 f1)
  have g2 := h2.hiE (Nat.eq_of_mul_eq_mul_right p1 f2)
  omega
/-- A number that a rung has is its own nearest. -/
theorem Near.self (r E : Nat) (hE : 0 < E) : Near (val r * E) E r := by
  have h2 := Nat.mul_lt_mul_of_pos_right (val_lt_succ r) hE
  refine ⟨fun q hq => ?_, ?_, fun q hq he => ?_, fun he => ?_⟩
  · subst hq
    have := Nat.mul_lt_mul_of_pos_right (val_lt_succ q) hE
    rw [Nat.add_mul]; omega
  · rw [Nat.add_mul]; omega
  · subst hq
    have := Nat.mul_lt_mul_of_pos_right (val_lt_succ q) hE
    rw [Nat.add_mul] at he; omega
  · rw [Nat.add_mul] at he; omega
/-- k is n / g as a whole number, to nearest and even. -/
structure Half (n g k : Nat) : Prop where
  hi : 2 * n ≤ (2 * k + 1) * g
  hiE : 2 * n = (2 * k + 1) * g → k % 2 = 0
  lo : ∀ j, k = j + 1 → (2 * j + 1) * g ≤ 2 * n
  loE : ∀ j, k = j + 1 → (2 * j + 1) * g = 2 * n → k % 2 = 0
theorem half_of (n g : Nat) (hg : 0 < g) : Half n g (n / g + (decide (g < 2 * (n % g)) || (g == 2 * (n % g) && n / g % 2 == 1)).toNat) := by
  have hd := Nat.div_add_mod n g
  have hm := Nat.mod_lt n hg
  generalize n / g = q at *
  generalize n % g = r at *
  have e : (2 * q + 1) * g = 2 * (g * q) + g := by rw [Nat.add_mul, Nat.one_mul, Nat.mul_assoc, Nat.mul_comm q g]
  have e3 : (2 * (q + 1) + 1) * g = 2 * (g * q) + 3 * g := by rw [show 2 * (q + 1) + 1 = 2 * q + 3 by omega, Nat.add_mul, Nat.mul_assoc, Nat.mul_comm q g]
  have ej : ∀ j, q = j + 1 → (2 * j + 1) * g = 2 * (g * q) - g := by
    intro j hj
    subst hj
    rw [Nat.add_mul, Nat.one_mul, Nat.mul_assoc, Nat.mul_add g j 1, Nat.mul_comm j g]
    omega
  have ep : ∀ j, q = j + 1 → g ≤ g * q := by
    intro j hj
    subst hj
    rw [Nat.mul_add]
    omega
  by_cases h1 : g < 2 * r
  · rw [show (decide (g < 2 * r) || (g == 2 * r && q % 2 == 1)) = true by simp [h1]]
    simp only [Bool.toNat_true]
    refine ⟨by rw [e3]; omega, fun h => by rw [e3] at h; omega, fun j hj => ?_, fun j hj h => ?_⟩
    · obtain rfl : q = j := by omega
      rw [e]; omega
    · obtain rfl : q = j := by omega
      rw [e] at h; omega
  · by_cases h2 : g = 2 * r ∧ q % 2 = 1
    · rw [show (decide (g < 2 * r) || (g == 2 * r && q % 2 == 1)) = true by simp [h2.1.symm, h2.2]]
      simp only [Bool.toNat_true]
      refine ⟨by rw [e3]; omega, fun h => by omega, fun j hj => ?_, fun j hj h => by omega⟩
      obtain rfl : q = j := by omega
      rw [e]; omega
    · rw [show (decide (g < 2 * r) || (g == 2 * r && q % 2 == 1)) = false by
        simp only [Bool.or_eq_false_iff, decide_eq_false_iff_not, Bool.and_eq_false_iff, beq_eq_false_iff_ne]
        refine ⟨h1, ?_⟩
        by_cases h3 : g = 2 * r
        · right; exact fun h4 => h2 ⟨h3, h4⟩
        · left; exact h3]
      simp only [Bool.toNat_false, Nat.add_zero]
      refine ⟨by rw [e]; omega, fun h => by rw [e] at h; omega, fun j hj => ?_, fun j hj h => ?_⟩
      · rw [ej j hj]; omega
      · rw [ej j hj] at h
        have := ep j hj
        omega
theorem cut_half (n drop : Nat) : Half n (2 ^ drop) (Toward.even.cut false n drop) := by
  unfold Toward.cut
  simp only [Nat.shiftLeft_eq, Nat.one_mul]
  by_cases h : drop ≤ n.log2 + 2
  · rw [Nat.min_eq_left h]
    exact half_of n _ (Nat.two_pow_pos _)
  · rw [Nat.min_eq_right (by omega)]
    have h1 : n < 2 ^ (n.log2 + 1) := Nat.lt_log2_self
    have h2 : 2 ^ (n.log2 + 2) = 2 * 2 ^ (n.log2 + 1) := by rw [Nat.pow_succ 2 (n.log2 + 1)]; omega
    have h3 : 2 ^ (n.log2 + 2) ≤ 2 ^ drop := Nat.pow_le_pow_right (by omega) (by omega)
    have h4 : n / 2 ^ (n.log2 + 2) = 0 := Nat.div_eq_of_lt (by omega)
    have h5 : n % 2 ^ (n.log2 + 2) = n := Nat.mod_eq_of_lt (by omega)
    rw [h4, h5]
    have h6 : ¬ 2 ^ (n.log2 + 2) < 2 * n := by omega
    have h7 : (2 ^ (n.log2 + 2) == 2 * n) = false := by simp; omega
    simp only [h6, h7, decide_false, Bool.false_or, Bool.false_and, Bool.toNat_false, Nat.add_zero]
    refine ⟨by omega, fun _ => rfl, fun j hj => by omega, fun j hj => by omega⟩
/-- The rungs of binade e (of e = 0 those below, too). -/
theorem val_binade (e k : Nat) (h : e = 0 ∨ 4503599627370496 ≤ k) (hk : k ≤ 9007199254740992) : val (e * 4503599627370496 + k) = k * 2 ^ e := by
  by_cases h0 : e = 0
  · subst h0
    simp only [Nat.zero_mul, Nat.zero_add, Nat.pow_zero, Nat.mul_one]
    by_cases h1 : k < 9007199254740992
    · exact val_small h1
    · obtain rfl : k = 9007199254740992 := by omega
      have h := val_step 9007199254740991
      rw [val_small (r := 9007199254740991) (by omega), show 9007199254740991 / 4503599627370496 - 1 = 0 from by omega, Nat.pow_zero] at h
      exact h
  · have hk2 : 4503599627370496 ≤ k := by omega
    unfold val
    rw [if_neg (by omega)]
    by_cases h1 : k < 9007199254740992
    · have e1 : (e * 4503599627370496 + k) / 4503599627370496 = e + 1 := by omega
      have e2 : (e * 4503599627370496 + k) % 4503599627370496 = k - 4503599627370496 := by omega
      rw [e1, e2, Nat.add_sub_cancel, show 4503599627370496 + (k - 4503599627370496) = k by omega]
    · have hk3 : k = 9007199254740992 := by omega
      have e1 : (e * 4503599627370496 + k) / 4503599627370496 = e + 2 := by omega
      have e2 : (e * 4503599627370496 + k) % 4503599627370496 = 0 := by omega
      rw [e1, e2, show e + 2 - 1 = e + 1 by omega, Nat.pow_succ, hk3]
      omega
theorem val_binade_succ (e k : Nat) (h : e = 0 ∨ 4503599627370496 ≤ k) (hk : k ≤ 9007199254740992) : (k + 1) * 2 ^ e ≤ val (e * 4503599627370496 + k + 1) ∧ (k ≠ 9007199254740992 → (k + 1) * 2 ^ e = val (e * 4503599627370496 + k + 1)) := by
  by_cases h1 : k = 9007199254740992
  · subst h1
    refine ⟨?_, fun h => (h rfl).elim⟩
    rw [val_step, val_binade e _ h (by omega)]
    have e1 : (e * 4503599627370496 + 9007199254740992) / 4503599627370496 - 1 = e + 1 := by omega
    rw [e1, Nat.add_mul, Nat.pow_succ]
    have := Nat.two_pow_pos e
    omega
  · have := val_binade e (k + 1) (by omega) (by omega)
    rw [show e * 4503599627370496 + k + 1 = e * 4503599627370496 + (k + 1) by omega, this]
    exact ⟨Nat.le_refl _, fun _ => rfl⟩
/-- A rounding within a binade is a nearest rung. n / g: the number over 2 ^ e. -/
theorem near_of_half {N E e n g k : Nat} (hg : 0 < g) (hE : 0 < E) (hh : Half n g k) (hv : n * 2 ^ e * E = N * g) (h1 : n < 9007199254740992 * g) (h2 : e = 0 ∨ 4503599627370496 * g ≤ n) : Near N E (e * 4503599627370496 + k) := by
  have hp := Nat.two_pow_pos e
  have hk : k ≤ 9007199254740992 := by
    by_cases hc : k ≤ 9007199254740992
    · exact hc
    · obtain ⟨j, rfl⟩ : ∃ j, k = j + 1 := ⟨k - 1, by omega⟩
      have a := hh.lo j rfl
      have b : (2 * 9007199254740992 + 1) * g ≤ (2 * j + 1) * g := Nat.mul_le_mul_right g (by omega)
      rw [Nat.add_mul] at b
      omega
  have hk2 : e = 0 ∨ 4503599627370496 ≤ k := by
    rcases h2 with h2 | h2
    · exact .inl h2
    · right
      by_cases hc : 4503599627370496 ≤ k
      · exact hc
      · exfalso
        have a := hh.hi
        have b : (2 * k + 1) * g ≤ 9007199254740991 * g := Nat.mul_le_mul_right g (by omega)
        omega
  have hV := val_binade e k hk2 hk
  obtain ⟨hS, hS2⟩ := val_binade_succ e k hk2 hk
  -- both sides times g
  have key : ∀ x y : Nat, x * g ≤ 2 * n → x * 2 ^ e * E ≤ 2 * N := by
    intro x y hx
    have a := Nat.mul_le_mul_right (2 ^ e * E) hx
    have b : x * 2 ^ e * E * g = x * g * (2 ^ e * E) := by rw [Nat.mul_assoc x g, ← Nat.mul_assoc g, Nat.mul_comm g (2 ^ e), Nat.mul_assoc (2 ^ e) g E, Nat.mul_comm g E, Nat.mul_assoc x, Nat.mul_assoc x, Nat.mul_assoc (2 ^ e)]
    have c : 2 * n * (2 ^ e * E) = 2 * N * g := by rw [← Nat.mul_assoc, Nat.mul_assoc 2 n, Nat.mul_assoc 2, hv, Nat.mul_assoc]
    exact Nat.le_of_mul_le_mul_right (by rw [b, ← c]; exact a) hg
  have key2 : ∀ x : Nat, 2 * n ≤ x * g → 2 * N ≤ x * 2 ^ e * E := by
    intro x hx
    have a := Nat.mul_le_mul_right (2 ^ e * E) hx
    have b : x * 2 ^ e * E * g = x * g * (2 ^ e * E) := by rw [Nat.mul_assoc x g, ← Nat.mul_assoc g, Nat.mul_comm g (2 ^ e), Nat.mul_assoc (2 ^ e) g E, Nat.mul_comm g E, Nat.mul_assoc x, Nat.mul_assoc x, Nat.mul_assoc (2 ^ e)]
    have c : 2 * n * (2 ^ e * E) = 2 * N * g := by rw [← Nat.mul_assoc, Nat.mul_assoc 2 n, Nat.mul_assoc 2, hv, Nat.mul_assoc]
    exact Nat.le_of_mul_le_mul_right (by rw [b, ← c]; exact a) hg
  have keyE : ∀ x : Nat, x * 2 ^ e * E = 2 * N → x * g = 2 * n := by
    intro x hx
    have b : x * 2 ^ e * E * g = x * g * (2 ^ e * E) := by rw [Nat.mul_assoc x g, ← Nat.mul_assoc g, Nat.mul_comm g (2 ^ e), Nat.mul_assoc (2 ^ e) g E, Nat.mul_comm g E, Nat.mul_assoc x, Nat.mul_assoc x, Nat.mul_assoc (2 ^ e)]
    have c : 2 * n * (2 ^ e * E) = 2 * N * g := by rw [← Nat.mul_assoc, Nat.mul_assoc 2 n, Nat.mul_assoc 2, hv, Nat.mul_assoc]
    exact Nat.eq_of_mul_eq_mul_right (Nat.mul_pos hp hE) (by rw [← b, c, hx])
  have hi2 : (2 * k + 1) * 2 ^ e ≤ val (e * 4503599627370496 + k) + val (e * 4503599627370496 + k + 1) := by
    rw [hV]
    have : (2 * k + 1) * 2 ^ e = k * 2 ^ e + (k + 1) * 2 ^ e := by rw [← Nat.add_mul]; congr 1; omega
    omega
  have par : k % 2 = 0 → (e * 4503599627370496 + k) % 2 = 0 := by intro h; omega
  refine ⟨fun r hr => ?_, ?_, fun r hr he => ?_, fun he => ?_⟩
  · by_cases hc : e = 0 ∨ 4503599627370496 < k
    · have hr2 : r = e * 4503599627370496 + (k - 1) := by omega
      have hVr := val_binade e (k - 1) (by omega) (by omega)
      rw [hr2, hV, hVr]
      have := key (2 * (k - 1) + 1) 0 (hh.lo (k - 1) (by omega))
      have e1 : (k - 1) * 2 ^ e + k * 2 ^ e = (2 * (k - 1) + 1) * 2 ^ e := by rw [← Nat.add_mul]; congr 1; omega
      rw [e1]; exact this
    · obtain rfl : k = 4503599627370496 := by omega
      have h3 : 4503599627370496 * g ≤ n := by omega
      have := key (2 * 4503599627370496) 0 (by rw [Nat.mul_assoc]; omega)
      have hl : val r ≤ val (e * 4503599627370496 + 4503599627370496) := val_le (by omega)
      refine Nat.le_trans (Nat.mul_le_mul_right E ?_) this
      rw [hV] at hl ⊢
      rw [Nat.mul_assoc]
      omega
  · exact Nat.le_trans (key2 _ hh.hi) (Nat.mul_le_mul_right E hi2)
  · by_cases hc : e = 0 ∨ 4503599627370496 < k
    · have hr2 : r = e * 4503599627370496 + (k - 1) := by omega
      have hVr := val_binade e (k - 1) (by omega) (by omega)
      rw [hr2, hV, hVr] at he
      have e1 : (k - 1) * 2 ^ e + k * 2 ^ e = (2 * (k - 1) + 1) * 2 ^ e := by rw [← Nat.add_mul]; congr 1; omega
      rw [e1] at he
      exact par (hh.loE (k - 1) (by omega) (keyE _ he))
    · obtain rfl : k = 4503599627370496 := by omega
      omega
  · have h3 := key2 _ hh.hi
    have h4 := Nat.mul_le_mul_right E hi2
    exact par (hh.hiE (keyE (2 * k + 1) (by omega)).symm)
/-- The rung of the nearest word, ahead of the cut at infinity. -/
theorem nearest_near (mag : Nat) (place : Int) (hm : mag ≠ 0) : ∃ R, D.nearest false mag place = min R infR ∧ Near (mag * 2 ^ (place + 1074).toNat) (2 ^ (-(place + 1074)).toNat) R := by
  unfold Format.nearest
  rw [if_neg hm, d_binade, d_inf, d_least]
  have hf : (D.fractionBits : Int) = 52 := rfl
  rw [hf]
  simp only [Nat.shiftLeft_eq]
  have l1 : 2 ^ mag.log2 ≤ mag := Nat.log2_self_le hm
  have l2 : mag < 2 ^ (mag.log2 + 1) := Nat.lt_log2_self
  generalize mag.log2 = L at *
  obtain ⟨last, hlast⟩ : ∃ last : Int, last = max (place + L - 52) (-1074) := ⟨_, rfl⟩
  rw [← hlast]
  have hw : ∀ A : Nat, D.word false (min A 9218868437227405312) = min A infR := by
    intro A
    unfold Format.word infR
    simp only [Bool.false_eq_true, if_false]
  rw [hw]
  refine ⟨_, rfl, ?_⟩
  have hl0 : -1074 ≤ last := by omega
  have he : (last - -1074).toNat = (last + 1074).toNat := by omega
  rw [he]
  refine near_of_half (Nat.two_pow_pos (last - place).toNat) (Nat.two_pow_pos _) (cut_half _ _) ?_ ?_ ?_
  · -- the scales fit
    rw [Nat.mul_assoc, Nat.mul_assoc, Nat.mul_assoc, ← Nat.pow_add, ← Nat.pow_add, ← Nat.pow_add]
    congr 2
    omega
  · -- below 2 ^ 53
    have a : mag * 2 ^ (place - last).toNat < 2 ^ (L + 1) * 2 ^ (place - last).toNat := Nat.mul_lt_mul_of_pos_right l2 (Nat.two_pow_pos _)
    refine Nat.lt_of_lt_of_le a ?_
    rw [show (9007199254740992 : Nat) = 2 ^ 53 by decide, ← Nat.pow_add, ← Nat.pow_add]
    exact Nat.pow_le_pow_right (by omega) (by omega)
  · by_cases h0 : (last + 1074).toNat = 0
    · exact .inl h0
    · right
      refine Nat.le_trans ?_ (Nat.mul_le_mul_right _ l1)
      rw [show (4503599627370496 : Nat) = 2 ^ 52 by decide, ← Nat.pow_add, ← Nat.pow_add]
      exact Nat.pow_le_pow_right (by omega) (by omega)
theorem Near.scale {N E R k : Nat} (hk : 0 < k) (h : Near (N * k) (E * k) R) : Near N E R := by
  have m1 : ∀ X : Nat, X * (E * k) = X * E * k := fun X => (Nat.mul_assoc X E k).symm
  have m2 : 2 * (N * k) = 2 * N * k := (Nat.mul_assoc 2 N k).symm
  refine ⟨fun r hr => ?_, ?_, fun r hr he => ?_, fun he => ?_⟩
  · have := h.lo r hr
    rw [m1, m2] at this
    exact Nat.le_of_mul_le_mul_right this hk
  · have := h.hi
    rw [m1, m2] at this
    exact Nat.le_of_mul_le_mul_right this hk
  · refine h.loE r hr ?_
    rw [m1, m2, he]
  · refine h.hiE ?_
    rw [m1, m2, he]
theorem Near.unscale {N E R k : Nat} (h : Near N E R) : Near (N * k) (E * k) R ∨ k = 0 := by
  by_cases hk : k = 0
  · exact .inr hk
  left
  have hk' : 0 < k := by omega
  have m1 : ∀ X : Nat, X * (E * k) = X * E * k := fun X => (Nat.mul_assoc X E k).symm
  have m2 : 2 * (N * k) = 2 * N * k := (Nat.mul_assoc 2 N k).symm
  refine ⟨fun r hr => ?_, ?_, fun r hr he => ?_, fun he => ?_⟩
  · rw [m1, m2]; exact Nat.mul_le_mul_right k (h.lo r hr)
  · rw [m1, m2]; exact Nat.mul_le_mul_right k h.hi
  · rw [m1, m2] at he; exact h.loE r hr (Nat.eq_of_mul_eq_mul_right hk' he)
  · rw [m1, m2] at he; exact h.hiE (Nat.eq_of_mul_eq_mul_right hk' he)
/-- Two spellings of one number have the same nearest rungs. -/
theorem Near.same {N E N' E' R : Nat} (h : Near N E R) (hE : 0 < E) (hE' : 0 < E') (he : N * E' = N' * E) : Near N' E' R := by
  have h1 : Near (N * E') (E * E') R := (h.unscale (k := E')).resolve_right (by omega)
  rw [he, Nat.mul_comm E E'] at h1
  exact h1.scale hE
theorem Near.zero (E : Nat) (hE : 0 < E) : Near 0 E 0 := by
  have := Near.self 0 E hE
  rwa [val_zero, Nat.zero_mul] at this
theorem val_bits (r : Nat) : ∃ x, val r = x * 2 ^ (r / 4503599627370496 - 1) := by
  unfold val
  split
  · rename_i h
    have : r / 4503599627370496 - 1 = 0 := by omega
    rw [this]
    exact ⟨r, by omega⟩
  · exact ⟨_, rfl⟩
/-- A mid-point between two rungs, in units that are fine enough, is whole. -/
theorem mid_whole (r A G : Nat) (h : G = 0 → (A + 1 + 1) * 4503599627370496 ≤ r) (hA : A = 0 ∨ G = 0) : ∃ T, (val r + val (r + 1)) * 2 ^ G = 2 * T * 2 ^ A := by
  rw [val_step]
  obtain ⟨x, hx⟩ := val_bits r
  rw [hx, show x * 2 ^ (r / 4503599627370496 - 1) + (x * 2 ^ (r / 4503599627370496 - 1) + 2 ^ (r / 4503599627370496 - 1)) = (2 * x + 1) * 2 ^ (r / 4503599627370496 - 1) by rw [Nat.add_mul, Nat.mul_assoc]; omega]
  by_cases hG : G = 0
  · subst hG
    have h2 := h rfl
    have h3 : A + 1 ≤ r / 4503599627370496 - 1 := by omega
    obtain ⟨j, hj⟩ : ∃ j, r / 4503599627370496 - 1 = A + 1 + j := ⟨_, (Nat.add_sub_cancel' h3).symm⟩
    rw [hj]
    refine ⟨(2 * x + 1) * 2 ^ j, ?_⟩
    rw [Nat.pow_add, Nat.pow_add, Nat.pow_one, Nat.pow_zero, Nat.mul_one]
    simp only [Nat.mul_assoc, Nat.mul_comm, Nat.mul_left_comm]
  · have hA0 : A = 0 := by omega
    subst hA0
    obtain ⟨g, rfl⟩ : ∃ g, G = g + 1 := ⟨G - 1, by omega⟩
    refine ⟨(2 * x + 1) * 2 ^ (r / 4503599627370496 - 1) * 2 ^ g, ?_⟩
    rw [Nat.pow_succ 2 g, Nat.pow_zero, Nat.mul_one]
    simp only [Nat.mul_assoc, Nat.mul_comm, Nat.mul_left_comm]
/-- A quotient with a digit that tells whether anything is left has the nearest rung of the quotient itself. -/
theorem sticky_near {d n q s A G R : Nat} (hn : 0 < n) (hq : q = d / n) (hs : s = (d % n != 0).toNat) (hbig : 9007199254740992 ≤ q) (hA : A = 0 ∨ G = 0) (h : Near ((2 * q + s) * 2 ^ A) (2 * 2 ^ G) R) : Near (d * 2 ^ A) (n * 2 ^ G) R := by
  have hd := Nat.div_add_mod d n
  have hm := Nat.mod_lt d hn
  rw [← hq] at hd
  have hpA := Nat.two_pow_pos A
  have hpG := Nat.two_pow_pos G
  have hs' : (d % n = 0 ∧ s = 0) ∨ (d % n ≠ 0 ∧ s = 1) := by
    by_cases h0 : d % n = 0
    · left; exact ⟨h0, by rw [hs, h0]; rfl⟩
    · right
      refine ⟨h0, ?_⟩
      rw [hs, show (d % n != 0) = true by simpa using h0]
      rfl
  generalize d % n = rem at *
  have hqn : q * n ≤ d := by rw [Nat.mul_comm]; omega
  have hqn' : d < (q + 1) * n := by rw [Nat.add_mul, Nat.mul_comm q n]; omega
  -- a threshold that is whole
  have up : ∀ T, 2 * q + s ≤ 2 * T → d ≤ T * n := by
    intro T hT
    rcases hs' with ⟨h0, h1⟩ | ⟨h0, h1⟩
    · have : q ≤ T := by omega
      have := Nat.mul_le_mul_right n this
      rw [Nat.mul_comm q n] at this; omega
    · have : q + 1 ≤ T := by omega
      have := Nat.mul_le_mul_right n this
      omega
  have down : ∀ T, 2 * T ≤ 2 * q + s → T * n ≤ d := by
    intro T hT
    have : T ≤ q := by omega
    have := Nat.mul_le_mul_right n this
    omega
  have eqn : ∀ T, d = T * n → 2 * q + s = 2 * T := by
    intro T hT
    have h1 : T ≤ q := by
      by_cases hc : T ≤ q
      · exact hc
      · have := Nat.mul_le_mul_right n (show q + 1 ≤ T by omega)
        omega
    have h2 : q ≤ T := by
      by_cases hc : q ≤ T
      · exact hc
      · have := Nat.mul_le_mul_right n (show T + 1 ≤ q by omega)
        rw [Nat.add_mul] at this; omega
    obtain rfl : T = q := by omega
    rw [Nat.mul_comm] at hT
    omega
  have hR : G = 0 → (A + 1 + 1) * 4503599627370496 ≤ R := by
    intro hG
    subst hG
    have hv := val_binade (A + 1) 4503599627370496 (by omega) (by omega)
    have hs0 := Near.self ((A + 1) * 4503599627370496 + 4503599627370496) 2 (by omega)
    have := hs0.mono h (by omega) (by omega) (by
      rw [hv, Nat.pow_zero, Nat.mul_one, Nat.pow_succ]
      refine Nat.mul_le_mul_right 2 ?_
      have := Nat.mul_le_mul_right (2 ^ A) (show 18014398509481984 ≤ 2 * q + s by omega)
      omega)
    clear hv hs0
    generalize (A + 1) = A1 at *
    have e : (A1 + 1) * 4503599627370496 = A1 * 4503599627370496 + 4503599627370496 := by rw [Nat.add_mul, Nat.one_mul]
    exact Nat.le_trans (Nat.le_of_eq e) this
  have e1 : ∀ X : Nat, X * (n * 2 ^ G) = X * 2 ^ G * n := by intro X; rw [Nat.mul_assoc X, Nat.mul_comm n]
  have e2 : 2 * (d * 2 ^ A) = d * (2 * 2 ^ A) := by rw [Nat.mul_left_comm]
  have e3 : ∀ T : Nat, 2 * T * 2 ^ A * n = T * n * (2 * 2 ^ A) := by intro T; simp only [Nat.mul_assoc, Nat.mul_comm, Nat.mul_left_comm]
  have e4 : ∀ X : Nat, X * (2 * 2 ^ G) = 2 * (X * 2 ^ G) := by intro X; rw [Nat.mul_left_comm]
  have hp2 : 0 < 2 * 2 ^ A := by omega
  -- the same test, of the digit's number and of the quotient
  have pos : ∀ X T : Nat, X * 2 ^ G = 2 * T * 2 ^ A → (2 * ((2 * q + s) * 2 ^ A) ≤ X * (2 * 2 ^ G) → 2 * (d * 2 ^ A) ≤ X * (n * 2 ^ G)) ∧ (X * (2 * 2 ^ G) ≤ 2 * ((2 * q + s) * 2 ^ A) → X * (n * 2 ^ G) ≤ 2 * (d * 2 ^ A)) ∧ (2 * (d * 2 ^ A) = X * (n * 2 ^ G) → 2 * ((2 * q + s) * 2 ^ A) = X * (2 * 2 ^ G)) := by
    intro X T hX
    rw [e1, e2, hX, e3, e4, hX]
    refine ⟨fun hh => Nat.mul_le_mul_right _ (up T ?_), fun hh => Nat.mul_le_mul_right _ (down T ?_), fun hh => ?_⟩
    · exact Nat.le_of_mul_le_mul_right (by omega) hpA
    · exact Nat.le_of_mul_le_mul_right (by omega) hpA
    · have := eqn T (Nat.eq_of_mul_eq_mul_right hp2 hh)
      rw [this]
  obtain ⟨T, hT⟩ := mid_whole R A G hR hA
  obtain ⟨p1, p2, p3⟩ := pos _ T hT
  have low : ∀ r, R = r + 1 → (∃ T', (val r + val R) * 2 ^ G = 2 * T' * 2 ^ A) ∨ (val r + val R) * (n * 2 ^ G) < 2 * (d * 2 ^ A) := by
    intro r hr
    by_cases hc : G = 0 → (A + 1 + 1) * 4503599627370496 ≤ r
    · left; rw [hr]; exact mid_whole r A G hc hA
    · right
      have hG : G = 0 := by
        by_cases hG : G = 0
        · exact hG
        · exact (hc (fun h => (hG h).elim)).elim
      subst hG
      have hR2 := hR rfl
      have hr2 : ¬ (A + 1 + 1) * 4503599627370496 ≤ r := fun h => hc (fun _ => h)
      have hR3 : R = (A + 1) * 4503599627370496 + 4503599627370496 := by omega
      have hv := val_binade (A + 1) 4503599627370496 (by omega) (by omega)
      rw [← hR3] at hv
      have hl : val r < val R := val_lt (by omega)
      rw [Nat.pow_zero, Nat.mul_one]
      have a1 : val R * n ≤ d * 2 ^ A := by
        rw [hv, Nat.pow_succ]
        have b1 := Nat.mul_le_mul_right (2 ^ A) (Nat.mul_le_mul_right n hbig)
        have b2 := Nat.mul_le_mul_right (2 ^ A) hqn
        have b3 : 4503599627370496 * (2 ^ A * 2) * n = 9007199254740992 * n * 2 ^ A := by
          rw [Nat.mul_assoc 9007199254740992, Nat.mul_comm n, ← Nat.mul_assoc 9007199254740992, ← Nat.mul_assoc]
          congr 1
          omega
        omega
      have a2 : val r * n < val R * n := Nat.mul_lt_mul_of_pos_right hl hn
      rw [Nat.add_mul]; omega
  refine ⟨fun r hr => ?_, p1 h.hi, fun r hr he => ?_, fun he => h.hiE (p3 he)⟩
  · rcases low r hr with ⟨T', hT'⟩ | hlt
    · exact (pos _ T' hT').2.1 (h.lo r hr)
    · exact Nat.le_of_lt hlt
  · rcases low r hr with ⟨T', hT'⟩ | hlt
    · exact h.loE r hr ((pos _ T' hT').2.2 he.symm).symm
    · omega
theorem rung_of {a : Nat} (h : a ≤ infR) : rung a = a := Nat.mod_eq_of_lt (by unfold infR at h; omega)
theorem neg_of {a : Nat} (h : a ≤ infR) : fneg a = false := by
  unfold fneg
  rw [Nat.div_eq_of_lt (by unfold infR at h; omega)]
  rfl
theorem read_of {a : Nat} (h : a < infR) : ∃ (m k : Nat), D.read a = .number false m (-1074 + (k : Int)) ∧ m * 2 ^ k = val a := by
  obtain ⟨m, k, h1, h2⟩ := read_fin a (by rw [rung_of (by omega)]; exact h)
  rw [neg_of (by omega)] at h1
  rw [rung_of (by omega)] at h2
  exact ⟨m, k, h1, h2⟩
theorem nearest_any (mag : Nat) (place : Int) : ∃ R, D.nearest false mag place = min R infR ∧ Near (mag * 2 ^ (place + 1074).toNat) (2 ^ (-(place + 1074)).toNat) R := by
  by_cases hm : mag = 0
  · subst hm
    refine ⟨0, ?_, ?_⟩
    · unfold Format.nearest
      rw [if_pos rfl]
      rfl
    · rw [Nat.zero_mul]; exact Near.zero _ (Nat.two_pow_pos _)
  · exact nearest_near mag place hm
theorem add_near {a b : Nat} (ha : a < infR) (hb : b < infR) : ∃ R, D.add a b = some (min R infR) ∧ Near (val a + val b) 1 R := by
  obtain ⟨m, k, ra, va⟩ := read_of ha
  obtain ⟨n, j, rb, vb⟩ := read_of hb
  obtain ⟨R, h1, h2⟩ := nearest_any (m * 2 ^ (k - min k j) + n * 2 ^ (j - min k j)) (-1074 + ((min k j : Nat) : Int))
  refine ⟨R, ?_, ?_⟩
  · unfold Format.add
    rw [ra, rb]
    have e0 : min (-1074 + (k : Int)) (-1074 + (j : Int)) = -1074 + ((min k j : Nat) : Int) := by omega
    have ek : (-1074 + (k : Int) - (-1074 + ((min k j : Nat) : Int))).toNat = k - min k j := by omega
    have ej : (-1074 + (j : Int) - (-1074 + ((min k j : Nat) : Int))).toNat = j - min k j := by omega
    simp only [Datum.sum, Option.map_some, e0, ek, ej, signed_mul, Bool.and_self, Bool.false_eq_true, if_false]
    generalize m * 2 ^ (k - min k j) = x at *
    generalize n * 2 ^ (j - min k j) = y at *
    have e1 : ((x : Int) + (y : Int)).natAbs = x + y := by omega
    have e2 : (if (x : Int) + (y : Int) = 0 then false else decide ((x : Int) + (y : Int) < 0)) = false := by
      split
      · rfl
      · simp; omega
    rw [e1, e2]
    exact congrArg some h1
  · have e3 : (-1074 + ((min k j : Nat) : Int) + 1074).toNat = min k j := by omega
    have e4 : (-(-1074 + ((min k j : Nat) : Int) + 1074)).toNat = 0 := by omega
    rw [e3, e4, Nat.pow_zero, Nat.add_mul, Nat.mul_assoc, Nat.mul_assoc, ← Nat.pow_add, ← Nat.pow_add, Nat.sub_add_cancel (Nat.min_le_left _ _), Nat.sub_add_cancel (Nat.min_le_right _ _), va, vb] at h2
    exact h2
theorem sub_some {a b : Nat} (ha : a < infR) (hb : b < infR) : ∃ r, D.sub a b = some r := by
  obtain ⟨m, k, ra, va⟩ := read_of ha
  obtain ⟨n, j, rb, vb⟩ := read_of hb
  unfold Format.sub
  rw [ra, rb]
  exact ⟨_, rfl⟩
theorem mul_near {a b : Nat} (ha : a < infR) (hb : b < infR) : ∃ R, D.mul a b = some (min R infR) ∧ Near (val a * val b) (2 ^ tt) R := by
  obtain ⟨m, k, ra, va⟩ := read_of ha
  obtain ⟨n, j, rb, vb⟩ := read_of hb
  obtain ⟨R, h1, h2⟩ := nearest_any (m * n) (-1074 + (k : Int) + (-1074 + (j : Int)))
  refine ⟨R, ?_, ?_⟩
  · unfold Format.mul
    rw [ra, rb]
    exact congrArg some h1
  · refine h2.same (Nat.two_pow_pos _) (Nat.two_pow_pos _) ?_
    have htt := tt_eq
    rw [← va, ← vb]
    have e : m * 2 ^ k * (n * 2 ^ j) = m * n * 2 ^ (k + j) := by rw [Nat.pow_add]; simp only [Nat.mul_assoc, Nat.mul_comm, Nat.mul_left_comm]
    rw [e, Nat.mul_assoc (m * n), Nat.mul_assoc (m * n), ← Nat.pow_add, ← Nat.pow_add]
    congr 2
    omega
theorem div_near {a b : Nat} (ha : a < infR) (hb : b < infR) (h0 : val b ≠ 0) : ∃ R, D.div a b = some (min R infR) ∧ Near (val a * 2 ^ tt) (val b) R := by
  have htt := tt_eq
  obtain ⟨m, k, ra, va⟩ := read_of ha
  obtain ⟨n, j, rb, vb⟩ := read_of hb
  have hn : n ≠ 0 := by intro h; subst h; rw [Nat.zero_mul] at vb; omega
  have hvb : 0 < val b := by omega
  have hf : D.fractionBits + 2 = 54 := rfl
  unfold Format.div
  rw [ra, rb, hf]
  simp only [Datum.quotient, hn, if_false, Option.map_some, Bool.xor_false]
  obtain ⟨more, hmore⟩ : ∃ more, more = 54 + n.log2 - m.log2 := ⟨_, rfl⟩
  rw [← hmore, Nat.shiftLeft_eq]
  obtain ⟨R, h1, h2⟩ := nearest_any (2 * (m * 2 ^ more / n) + (m * 2 ^ more % n != 0).toNat) (-1074 + (k : Int) - (-1074 + (j : Int)) - (more : Int) - 1)
  refine ⟨R, congrArg some h1, ?_⟩
  by_cases hm : m = 0
  · subst hm
    have e0 : 2 * (0 * 2 ^ more / n) + (0 * 2 ^ more % n != 0).toNat = 0 := by rw [Nat.zero_mul, Nat.zero_div, Nat.zero_mod]; rfl
    rw [e0, Nat.zero_mul] at h2
    rw [Nat.zero_mul] at va
    rw [← va, Nat.zero_mul]
    exact h2.same (Nat.two_pow_pos _) hvb (by rw [Nat.zero_mul, Nat.zero_mul])
  have l1 : 2 ^ m.log2 ≤ m := Nat.log2_self_le hm
  have l2 : n < 2 ^ (n.log2 + 1) := Nat.lt_log2_self
  have hbig : 9007199254740992 ≤ m * 2 ^ more / n := by
    rw [Nat.le_div_iff_mul_le (by omega)]
    have a1 : 2 ^ m.log2 * 2 ^ more ≤ m * 2 ^ more := Nat.mul_le_mul_right _ l1
    rw [← Nat.pow_add] at a1
    have a2 : (2 : Nat) ^ (54 + n.log2) ≤ 2 ^ (m.log2 + more) := Nat.pow_le_pow_right (by omega) (by omega)
    have a3 : 9007199254740992 * n ≤ 9007199254740992 * 2 ^ (n.log2 + 1) := Nat.mul_le_mul_left _ (by omega)
    have a4 : 9007199254740992 * 2 ^ (n.log2 + 1) = 2 ^ (54 + n.log2) := by
      rw [show (9007199254740992 : Nat) = 2 ^ 53 by decide, ← Nat.pow_add]
      congr 1; omega
    omega
  obtain ⟨c, hc⟩ : ∃ c : Int, c = (k : Int) - (j : Int) - (more : Int) + 1074 := ⟨_, rfl⟩
  have e1 : (-1074 + (k : Int) - (-1074 + (j : Int)) - (more : Int) - 1 + 1074).toNat = (c - 1).toNat := by omega
  have e2 : (-(-1074 + (k : Int) - (-1074 + (j : Int)) - (more : Int) - 1 + 1074)).toNat = (1 - c).toNat := by omega
  rw [e1, e2] at h2
  generalize hQ : 2 * (m * 2 ^ more / n) + (m * 2 ^ more % n != 0).toNat = Q at *
  have h3 : Near (Q * 2 ^ c.toNat) (2 * 2 ^ (-c).toNat) R := by
    refine h2.same (Nat.two_pow_pos _) (Nat.mul_pos (by omega) (Nat.two_pow_pos _)) ?_
    have e : ∀ g : Nat, 2 * 2 ^ g = 2 ^ (g + 1) := by intro g; rw [Nat.pow_succ, Nat.mul_comm]
    rw [e, Nat.mul_assoc, Nat.mul_assoc, ← Nat.pow_add, ← Nat.pow_add]
    congr 2
    omega
  rw [← hQ] at h3
  have h4 := sticky_near (d := m * 2 ^ more) (n := n) (A := c.toNat) (G := (-c).toNat) (by omega) rfl rfl hbig (by omega) h3
  refine h4.same (Nat.mul_pos (by omega) (Nat.two_pow_pos _)) hvb ?_
  rw [← va, ← vb]
  have f1 : m * 2 ^ more * 2 ^ c.toNat * (n * 2 ^ j) = m * n * 2 ^ (more + c.toNat + j) := by rw [Nat.pow_add, Nat.pow_add]; simp only [Nat.mul_assoc, Nat.mul_comm, Nat.mul_left_comm]
  have f2 : m * 2 ^ k * 2 ^ tt * (n * 2 ^ (-c).toNat) = m * n * 2 ^ (k + tt + (-c).toNat) := by rw [Nat.pow_add, Nat.pow_add]; simp only [Nat.mul_assoc, Nat.mul_comm, Nat.mul_left_comm]
  rw [f1, f2]
  congr 2
  omega
/-- The word of a whole number. -/
def ofN (n : Nat) : Nat := D.write (.number false n 0)
theorem ofN_near (n : Nat) : ∃ R, ofN n = min R infR ∧ Near (n * 2 ^ tt) 1 R := by
  obtain ⟨R, h1, h2⟩ := nearest_any n 0
  refine ⟨R, h1, h2.same (Nat.two_pow_pos _) (by omega) ?_⟩
  have e1 : ((0 : Int) + 1074).toNat = tt := rfl
  have e2 : (-((0 : Int) + 1074)).toNat = 0 := rfl
  rw [e1, e2]
theorem one_has (n : Nat) (hn : n < 9007199254740992) : ∃ r, r < infR ∧ val r = n * 2 ^ tt := by
  have htt := tt_eq
  by_cases h0 : n = 0
  · subst h0
    exact ⟨0, by decide, by rw [Nat.zero_mul, val_zero]⟩
  have l1 : 2 ^ n.log2 ≤ n := Nat.log2_self_le h0
  have l2 : n < 2 ^ (n.log2 + 1) := Nat.lt_log2_self
  have l3 : n.log2 < 53 := (Nat.log2_lt h0).2 hn
  have k1 : 4503599627370496 ≤ n * 2 ^ (52 - n.log2) := by
    refine Nat.le_trans ?_ (Nat.mul_le_mul_right _ l1)
    rw [show (4503599627370496 : Nat) = 2 ^ 52 by decide, ← Nat.pow_add]
    exact Nat.pow_le_pow_right (by omega) (by omega)
  have k2 : n * 2 ^ (52 - n.log2) < 9007199254740992 := by
    refine Nat.lt_of_lt_of_le (Nat.mul_lt_mul_of_pos_right l2 (Nat.two_pow_pos _)) ?_
    rw [show (9007199254740992 : Nat) = 2 ^ 53 by decide, ← Nat.pow_add]
    exact Nat.pow_le_pow_right (by omega) (by omega)
  have hv := val_binade (1022 + n.log2) (n * 2 ^ (52 - n.log2)) (by omega) (by omega)
  refine ⟨_, ?_, hv.trans ?_⟩
  · unfold infR; omega
  · rw [Nat.mul_assoc, ← Nat.pow_add]
    congr 2
    omega
theorem ofN_exact (n : Nat) (hn : n < 9007199254740992) : ofN n < infR ∧ val (ofN n) = n * 2 ^ tt := by
  obtain ⟨R, h1, h2⟩ := ofN_near n
  obtain ⟨r, hr, hv⟩ := one_has n hn
  have hs := Near.self r 1 (by omega)
  rw [Nat.mul_one, hv] at hs
  have a := h2.mono hs (by omega) (by omega) (Nat.le_refl _)
  have b := hs.mono h2 (by omega) (by omega) (Nat.le_refl _)
  obtain rfl : R = r := by omega
  rw [h1, Nat.min_eq_left (by omega)]
  exact ⟨hr, hv⟩
/-- The whole part. -/
def floorN (a : Nat) : Nat := val a / 2 ^ tt
theorem cut_low (way : Toward) (hw : way = .down ∨ way = .zero) (n drop : Nat) : way.cut false n drop = n / 2 ^ drop := by
  have hmore : way.cut false n drop = n / 2 ^ min drop (n.log2 + 2) := by
    rcases hw with rfl | rfl <;> simp [Toward.cut, Nat.shiftLeft_eq]
  rw [hmore]
  by_cases h : drop ≤ n.log2 + 2
  · rw [Nat.min_eq_left h]
  · rw [Nat.min_eq_right (by omega)]
    have h1 : n < 2 ^ (n.log2 + 1) := Nat.lt_log2_self
    have h2 : 2 ^ (n.log2 + 2) = 2 * 2 ^ (n.log2 + 1) := by rw [Nat.pow_succ 2 (n.log2 + 1)]; omega
    have h3 : 2 ^ (n.log2 + 2) ≤ 2 ^ drop := Nat.pow_le_pow_right (by omega) (by omega)
    rw [Nat.div_eq_of_lt (by omega), Nat.div_eq_of_lt (by omega)]
theorem integral_of {a : Nat} (ha : a < infR) (way : Toward) (hw : way = .down ∨ way = .zero) : (D.read a).integral way = .number false (floorN a) 0 := by
  obtain ⟨m, k, ra, va⟩ := read_of ha
  have htt := tt_eq
  rw [ra]
  simp only [Datum.integral]
  rw [cut_low way hw, Nat.shiftLeft_eq]
  congr 1
  unfold floorN
  rw [← va]
  by_cases h : 1074 ≤ k
  · have e1 : (-1074 + (k : Int)).toNat = k - tt := by omega
    have e2 : (-(-1074 + (k : Int))).toNat = 0 := by omega
    rw [e1, e2, Nat.pow_zero, Nat.div_one]
    have e3 : m * 2 ^ k = m * 2 ^ (k - tt) * 2 ^ tt := by rw [Nat.mul_assoc, ← Nat.pow_add, Nat.sub_add_cancel (by omega)]
    rw [e3, Nat.mul_div_cancel _ (Nat.two_pow_pos _)]
  · have e1 : (-1074 + (k : Int)).toNat = 0 := by omega
    have e2 : (-(-1074 + (k : Int))).toNat = tt - k := by omega
    rw [e1, e2, Nat.pow_zero, Nat.mul_one]
    have e3 : 2 ^ tt = 2 ^ (tt - k) * 2 ^ k := by rw [← Nat.pow_add, Nat.sub_add_cancel (by omega)]
    rw [e3, Nat.mul_div_mul_right _ _ (Nat.two_pow_pos _)]
theorem toInt_of {a : Nat} (ha : a < infR) : (D.read a).toInt .zero = some (floorN a : Int) := by
  unfold Datum.toInt
  rw [integral_of ha .zero (.inr rfl)]
  simp only [signed_mul, Nat.pow_zero, Nat.mul_one, Bool.false_eq_true, if_false]
theorem floor_of {a : Nat} (ha : a < infR) : D.write ((D.read a).integral .down) = ofN (floorN a) := by
  rw [integral_of ha .down (.inl rfl)]
  rfl
theorem floorN_ofN (n : Nat) (hn : n < 9007199254740992) : floorN (ofN n) = n := by
  unfold floorN
  rw [(ofN_exact n hn).2, Nat.mul_div_cancel _ (Nat.two_pow_pos _)]
end Go.Proofs.Yteaoafipjaffpaa.FT
