import Derived.Test.YteaoafipjaffpaaS1
import Derived.Test.YteaoafipjaffpaaF3
set_option linter.unusedSimpArgs false
set_option linter.unusedVariables false
namespace Go.Proofs.Yteaoafipjaffpaa
open Go.RowKit Go.Proofs.YteaoafipjaffpaaW.PrintWords
theorem rnan_any (b : Nat) (w : World) : Calls Try.prog 27 #[.float .f64 b] w fun e w' => e = .returned (.bool (FT.isN b)) ∧ w = w' := by
  have h := FT.nan_ne b
  go_enter Try.func27, Try.ntmps27
  go_wp2
  go_ret
  exact ⟨by simp [go_sem, h], rfl⟩
theorem rminus_any (b : Nat) (hb : b < 18446744073709551616) (w : World) : Calls Try.prog 28 #[.float .f64 b] w fun e w' => e = .returned (.bool (FT.fneg b)) ∧ w = w' := by
  have h1 := call_bits b
  have h2 : ((b : Int) / 9223372036854775808 == 1) = FT.fneg b := by
    unfold FT.fneg
    have h : b / 9223372036854775808 = 0 ∨ b / 9223372036854775808 = 1 := by omega
    have e : ((b : Int) / 9223372036854775808) = ((b / 9223372036854775808 : Nat) : Int) := by omega
    rw [e]
    rcases h with h | h <;> rw [h] <;> rfl
  have H2 := hid h2
  clear h2
  go_enter Try.func28, Try.ntmps28
  go_wp2
  go_ret
  exact ⟨congrArg (fun x => Ending.returned (Value.bool x)) H2.out, rfl⟩
theorem rinf_any (b : Nat) (hb : b < 18446744073709551616) (w : World) : Calls Try.prog 26 #[.float .f64 b] w fun e w' => e = .returned (.bool (FT.isI b)) ∧ Fr NoB w w' := by
  have hi := FT.isI_eq hb
  have hg := FT.gt0 hb
  by_cases h0 : 0 < b ∧ b ≤ FT.infR
  · have h1 : (FloatKind.f64.format.order b 0 == some .gt) = true := by
      have : FT.gtF b 0 = true := by rw [hg]; simp [h0.1, h0.2]
      exact this
    by_cases h2 : b = FT.infR
    · have hI : FT.isI b = true := by rw [hi]; simpa using h2
      rw [hI]
      obtain ⟨nb, hn, hrun⟩ := FT.invalid_run (P := Try.prog) .sub (.inr (.inl rfl)) 26 b b (by rw [h2]; exact FT.inf_minus) w
      have h3 : (FloatKind.f64.format.order nb 0 != some .eq) = true := by
        rw [FT.f_order, hn]; rfl
      clear hI hi hg h2 h0
      go_enter Try.func26, Try.ntmps26
      go_wp2
      go_ret
      exact ⟨rfl, (Fr.refl _ _).drew⟩
    · have hI : FT.isI b = false := by rw [hi]; simpa using h2
      rw [hI]
      have hrun := fun w => run_float_arith (P := Try.prog) w .sub 26 .f64 b b 0 (FT.sub_self (by omega))
      have h3 : (FloatKind.f64.format.order 0 0 != some .eq) = false := by decide
      clear hI hi hg h2 h0
      go_enter Try.func26, Try.ntmps26
      go_wp2
      go_ret
      exact ⟨rfl, Fr.refl _ _⟩
  · have h1 : (FloatKind.f64.format.order b 0 == some .gt) = false := by
      have : FT.gtF b 0 = false := by
        rw [hg]
        simp only [Bool.and_eq_false_iff, decide_eq_false_iff_not]
        omega
      exact this
    have hI : FT.isI b = false := by
      rw [hi]
      simp only [decide_eq_false_iff_not]
      intro h; subst h; exact h0 ⟨by decide, Nat.le_refl _⟩
    rw [hI]
    clear hI hi hg h0
    go_enter Try.func26, Try.ntmps26
    go_wp2
    go_ret
    exact ⟨rfl, Fr.refl _ _⟩
theorem rCount_any (b : Nat) (hb : b < 18446744073709551616) (w : World) : Calls Try.prog 19 #[.float .f64 b] w fun e w' => e = .returned (.float .f64 (FT.count b)) ∧ w = w' := by
  have hl : (FloatKind.f64.format.order b 0 == some .lt || FloatKind.f64.format.order b 0 == some .eq) = (!FT.isN b && !FT.gtF b 0) := by
    have h1 := FT.ltF_eq b 0
    have h2 := FT.eqF_eq b 0
    unfold FT.ltF at h1
    unfold FT.eqF at h2
    rw [h1, h2, FT.gtF_eq]
    have h3 : FT.isN 0 = false := rfl
    rw [h3]
    cases FT.isN b <;> simp
    rw [Bool.eq_iff_iff]
    simp
    omega
  have hc : FT.count b = if FT.gtF b 0 then b else 0 := rfl
  have hn2 : FT.isN b = true → FT.gtF b 0 = false := by intro h; rw [FT.gtF_eq, h]; rfl
  cases hn : FT.isN b <;> cases hg : FT.gtF b 0 <;> simp only [hn, hg] at hl hc hn2
  all_goals try (simp at hn2; done)
  all_goals
    have HC := hid hc
    clear hc hn2
    simp only [Bool.not_false, Bool.not_true, Bool.and_true, Bool.and_false, Bool.false_and, Bool.true_and] at hl
    go_enter Try.func19, Try.ntmps19
    go_wp2_with (go_at_call 27; refine (rnan_any _ w).mono ?_; rintro e w1 ⟨rfl, rfl⟩)
    go_ret
    exact ⟨by rw [HC.out]; rfl, rfl⟩
theorem rOrder_any (a b : Nat) (ha : a < 18446744073709551616) (hb : b < 18446744073709551616) (w : World) : Calls Try.prog 11 #[.float .f64 a, .float .f64 b] w fun e w' => e = .returned (.int .i64 (FT.orderR a b)) ∧ w = w' := by
  have hr : FT.orderR a b = if FT.isN a || FT.isN b then (if FT.isN a && FT.isN b then 0 else if FT.isN a then 1 else -1) else if FT.ltF a b || (FT.eqF a b && FT.fneg a && !FT.fneg b) then -1 else if FT.gtF a b || (FT.eqF a b && !FT.fneg a && FT.fneg b) then 1 else 0 := rfl
  cases hna : FT.isN a <;> cases hnb : FT.isN b
  · cases h1 : FT.ltF a b <;> cases h2 : FT.gtF a b <;> cases h3 : FT.eqF a b <;> cases h4 : FT.fneg a <;> cases h5 : FT.fneg b
    all_goals
      have HR := hid hr
      clear hr
      have h1' : (FloatKind.f64.format.order a b == some .lt) = _ := h1
      have h2' : (FloatKind.f64.format.order a b == some .gt) = _ := h2
      have h3' : (FloatKind.f64.format.order a b == some .eq) = _ := h3
      go_enter Try.func11, Try.ntmps11
      go_wp2_with first | (go_at_call 27; refine (rnan_any _ w).mono ?_; rintro e w1 ⟨rfl, rfl⟩) | (go_at_call 28; refine (rminus_any _ (by assumption) w).mono ?_; rintro e w1 ⟨rfl, rfl⟩)
      go_ret
      exact ⟨by rw [HR.out, hna, hnb, h1, h2, h3, h4, h5]; rfl, rfl⟩
  all_goals
    have HR := hid hr
    clear hr
    go_enter Try.func11, Try.ntmps11
    go_wp2_with (go_at_call 27; refine (rnan_any _ w).mono ?_; rintro e w1 ⟨rfl, rfl⟩)
    go_ret
    exact ⟨by rw [HR.out, hna, hnb]; rfl, rfl⟩
end Go.Proofs.Yteaoafipjaffpaa
