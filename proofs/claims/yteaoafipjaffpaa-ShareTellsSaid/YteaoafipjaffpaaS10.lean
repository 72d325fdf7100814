import Derived.Test.YteaoafipjaffpaaS9
set_option linter.unusedSimpArgs false
set_option linter.unusedVariables false
namespace Go.Proofs.Yteaoafipjaffpaa
open Go.RowKit Go.Proofs.YteaoafipjaffpaaW.PrintWords
attribute [local go_sem] st_float
theorem wf_lt {b : Nat} (h : (Lit.float .f64 b).wf = true) : b < 18446744073709551616 := by simpa [Lit.wf] using h
theorem Order_is (a b : Nat) (k : Int) (ha : a < 18446744073709551616) (hb : b < 18446744073709551616) (hk : FT.ordI a b = k) (w : World) : Calls Try.prog 16 #[.float .f64 a, .float .f64 b] w fun e w' => e = .returned (.int .i64 k) ∧ w = w' := by
  subst hk
  rw [← FT.orderS_eq]
  exact Order_any a b ha hb w
theorem rOrder_is (a b : Nat) (k : Int) (ha : a < 18446744073709551616) (hb : b < 18446744073709551616) (hk : FT.ordI a b = k) (w : World) : Calls Try.prog 11 #[.float .f64 a, .float .f64 b] w fun e w' => e = .returned (.int .i64 k) ∧ w = w' := by
  subst hk
  rw [← FT.orderR_eq]
  exact rOrder_any a b ha hb w
theorem Same_is (a b : Nat) (k : Int) (ha : a < 18446744073709551616) (hb : b < 18446744073709551616) (hk : FT.ordI a b = k) (w : World) : Calls Try.prog 17 #[.float .f64 a, .float .f64 b] w fun e w' => e = .returned (.bool (k == 0)) ∧ w = w' := by
  subst hk
  rw [← FT.orderS_eq]
  exact Same_any a b ha hb w
theorem ordI_self (a : Nat) : FT.ordI a a = 0 := by unfold FT.ordI; simp
theorem ordI_tri (a b : Nat) : (FT.ordI a b = -1 ∧ FT.ordI b a = 1 ∧ FT.key a < FT.key b) ∨ (FT.ordI a b = 0 ∧ FT.ordI b a = 0 ∧ FT.key a = FT.key b) ∨ (FT.ordI a b = 1 ∧ FT.ordI b a = -1 ∧ FT.key b < FT.key a) := by
  unfold FT.ordI
  by_cases h1 : FT.key a < FT.key b
  · left
    rw [if_pos h1, if_neg (by omega), if_pos h1]
    exact ⟨rfl, rfl, h1⟩
  · by_cases h2 : FT.key b < FT.key a
    · right; right
      rw [if_neg h1, if_pos h2, if_pos h2]
      exact ⟨rfl, rfl, h2⟩
    · right; left
      rw [if_neg h1, if_neg h2, if_neg h2, if_neg h1]
      exact ⟨rfl, rfl, by omega⟩
set_option maxHeartbeats 4000000 in
theorem order_walk (a b : Nat) (w : World) (ha : a < 18446744073709551616) (hb : b < 18446744073709551616) :
    Calls Try.prog 6 #[.float .f64 a, .float .f64 b] w fun e w' => e = .returned (.bool true) ∧ Below w.heap.size w w' := by
  have hc : FT.count a < 18446744073709551616 := by have := FT.count_le ha; unfold FT.infR at this; omega
  have hcc := ordI_self (FT.count a)
  rcases ordI_tri a b with ⟨h, _, _⟩ | ⟨h, _, _⟩ | ⟨h, _, _⟩
  all_goals
    go_enter Try.func6, Try.ntmps6
    go_wp2_with first
      | (go_at_call 16; with_reducible refine (Order_is a b _ ha hb h w).mono ?_; rintro e w1 ⟨rfl, rfl⟩)
      | (go_at_call 11; with_reducible refine (rOrder_is a b _ ha hb h w).mono ?_; rintro e w1 ⟨rfl, rfl⟩)
      | (go_at_call 17; with_reducible refine (Same_is a b _ ha hb h w).mono ?_; rintro e w1 ⟨rfl, rfl⟩)
      | (go_at_call 18; with_reducible refine (Count_any a w).mono ?_; rintro e w1 ⟨rfl, rfl⟩)
      | (go_at_call 19; with_reducible refine (rCount_any a ha w).mono ?_; rintro e w1 ⟨rfl, rfl⟩)
      | (go_at_call 16; with_reducible refine (Order_is _ _ _ hc hc hcc w).mono ?_; rintro e w1 ⟨rfl, rfl⟩)
      | (go_at_call 8; refine (awake_any w).mono ?_; rintro e w1 ⟨rfl, hf⟩)
    go_ret
    exact ⟨rfl, hf.below0⟩
set_option maxHeartbeats 16000000 in
theorem three_walk (a b c : Nat) (w : World) (ha : a < 18446744073709551616) (hb : b < 18446744073709551616) (hc : c < 18446744073709551616) :
    Calls Try.prog 7 #[.float .f64 a, .float .f64 b, .float .f64 c] w fun e w' => e = .returned (.bool true) ∧ Below w.heap.size w w' := by
  have haa := ordI_self a
  rcases ordI_tri a b with ⟨hab, hba, k1⟩ | ⟨hab, hba, k1⟩ | ⟨hab, hba, k1⟩ <;> rcases ordI_tri b c with ⟨hbc, _, k2⟩ | ⟨hbc, _, k2⟩ | ⟨hbc, _, k2⟩ <;> rcases ordI_tri a c with ⟨hac, _, k3⟩ | ⟨hac, _, k3⟩ | ⟨hac, _, k3⟩
  all_goals try (exfalso; omega)
  all_goals
    clear k1 k2 k3
    go_enter Try.func7, Try.ntmps7
    go_wp2_with first
      | (go_at_call 16; first | (with_reducible refine (Order_is a b _ ha hb hab w).mono ?_; rintro e w1 ⟨rfl, rfl⟩) | (with_reducible refine (Order_is b a _ hb ha hba w).mono ?_; rintro e w1 ⟨rfl, rfl⟩) | (with_reducible refine (Order_is b c _ hb hc hbc w).mono ?_; rintro e w1 ⟨rfl, rfl⟩) | (with_reducible refine (Order_is a c _ ha hc hac w).mono ?_; rintro e w1 ⟨rfl, rfl⟩) | (with_reducible refine (Order_is a a _ ha ha haa w).mono ?_; rintro e w1 ⟨rfl, rfl⟩))
      | (go_at_call 17; with_reducible refine (Same_is a b _ ha hb hab w).mono ?_; rintro e w1 ⟨rfl, rfl⟩)
      | (go_at_call 8; refine (awake_any w).mono ?_; rintro e w1 ⟨rfl, hf⟩)
    go_ret
    exact ⟨rfl, hf.below0⟩
end Go.Proofs.Yteaoafipjaffpaa
