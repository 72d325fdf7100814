import Derived.Test.YteaoafipjaffpaaProg
import Derived.Test.YteaoafipjaffpaaK4
import Derived.Test.YteaoafipjaffpaaF2
import Derived.LoopTactic
import Derived.Laws.Externs
set_option linter.unusedSimpArgs false
set_option linter.unusedVariables false
namespace Go.Proofs.Yteaoafipjaffpaa
open Go.RowKit Go.Proofs.YteaoafipjaffpaaW.PrintWords
/-! The model's own entries of package math that the program calls. -/
theorem call_bits (b : Nat) (w : World) : (callFunc 39 #[.float .f64 b]).run Try.prog w = .ok (.value (.int .u64 b)) w :=
  (run_callFunc_extern (e := Extern.MathFloatBits.float64bits) Try.func39 (by kernel_rfl) (by kernel_rfl) (by kernel_rfl) (by kernel_rfl) _ w).trans rfl
theorem call_from (n : Int) (w : World) : (callFunc 36 #[.int .u64 n]).run Try.prog w = .ok (.value (.float .f64 n.toNat)) w :=
  (run_callFunc_extern (e := Extern.MathFloatBits.float64frombits) Try.func36 (by kernel_rfl) (by kernel_rfl) (by kernel_rfl) (by kernel_rfl) _ w).trans rfl
theorem call_floor (b : Nat) (hb : b < FT.infR) (w : World) : (callFunc 40 #[.float .f64 b]).run Try.prog w = .ok (.value (.float .f64 (FT.ofN (FT.floorN b)))) w := by
  refine (run_callFunc_extern (e := Extern.MathFloor.toIntegral "math.archFloor" .down) Try.func40 (by kernel_rfl) (by kernel_rfl) (by kernel_rfl) (by kernel_rfl) _ w).trans ?_
  have h := FT.floor_of hb
  obtain ⟨m, k, hr, hv⟩ := FT.read_of hb
  have hd : FloatKind.f64.decode b = .number false m (-1074 + (k : Int)) := hr
  have he : Extern.MathFloor.toIntegral "math.archFloor" .down #[.float .f64 b] = pure (.float .f64 (FT.ofN (FT.floorN b))) := by
    delta Extern.MathFloor.toIntegral
    show (match FloatKind.f64.decode b with | .nan s t => _ | d => _) = _
    rw [hd]
    rw [hr] at h
    rw [← h]
    rfl
  rw [he]
  rfl
theorem IsNaN_any (b : Nat) (w : World) : Calls Try.prog 34 #[.float .f64 b] w fun e w' => e = .returned (.bool (FT.isN b)) ∧ w = w' := by
  have h := FT.nan_ne b
  go_enter Try.func34, Try.ntmps34
  go_wp2
  go_ret
  exact ⟨by simp [go_sem, h], rfl⟩
theorem Signbit_any (b : Nat) (hb : b < 18446744073709551616) (w : World) : Calls Try.prog 43 #[.float .f64 b] w fun e w' => e = .returned (.bool (FT.fneg b)) ∧ w = w' := by
  have h := FT.sign_lt b hb
  have h1 := call_bits b
  go_enter Try.func43, Try.ntmps43
  go_wp2
  go_ret
  exact ⟨by simp [go_sem, h], rfl⟩
theorem nanf_any (b : Nat) (w : World) : Calls Try.prog 44 #[.float .f64 b] w fun e w' => e = .returned (.bool (FT.isN b)) ∧ w = w' := by
  have h := FT.nan_ne b
  go_enter Try.func44, Try.ntmps44
  go_wp2
  go_ret
  exact ⟨by simp [go_sem, h], rfl⟩
theorem nani_any (x : Int) (w : World) : Calls Try.prog 42 #[.int .i64 x] w fun e w' => e = .returned (.bool false) ∧ w = w' := by
  go_enter Try.func42, Try.ntmps42
  go_wp2
  go_ret
  exact ⟨by simp [go_sem], rfl⟩
theorem rank_any (b : Nat) (hb : b < 18446744073709551616) (w : World) : Calls Try.prog 33 #[.float .f64 b] w fun e w' => e = .returned (.int .i64 (FT.rankI b)) ∧ w = w' := by
  have hr : FT.rankI b = if FT.isN b then 2 else if FT.fneg b then 0 else 1 := rfl
  have HR := hid hr
  clear hr
  cases hn : FT.isN b <;> cases hs : FT.fneg b
  all_goals
    go_enter Try.func33, Try.ntmps33
    go_wp2_with first | (go_at_call 34; refine (IsNaN_any b w).mono ?_; rintro e w1 ⟨rfl, rfl⟩) | (go_at_call 43; refine (Signbit_any b hb w).mono ?_; rintro e w1 ⟨rfl, rfl⟩)
    go_ret
    exact ⟨by rw [HR.out, hn, hs]; rfl, rfl⟩
theorem cmpi_any (x y : Int) (w : World) : Calls Try.prog 32 #[.int .i64 x, .int .i64 y] w fun e w' => e = .returned (.int .i64 (FT.cmpI x y)) ∧ w = w' := by
  have hr : FT.cmpI x y = if x < y then -1 else if y < x then 1 else 0 := rfl
  by_cases h1 : x < y
  · rw [if_pos h1] at hr
    have HR := hid hr
    clear hr
    have h1' : decide (x < y) = true := by simp [h1]
    clear h1
    go_enter Try.func32, Try.ntmps32
    go_wp2_with (go_at_call 42; refine (nani_any _ w).mono ?_; rintro e w1 ⟨rfl, rfl⟩)
    go_ret
    exact ⟨by rw [HR.out]; rfl, rfl⟩
  · by_cases h2 : y < x
    · rw [if_neg h1, if_pos h2] at hr
      have HR := hid hr
      clear hr
      have h1' : decide (x < y) = false := by simp [h1]
      have h2' : decide (x > y) = true := by simp [h2]
      clear h1 h2
      go_enter Try.func32, Try.ntmps32
      go_wp2_with (go_at_call 42; refine (nani_any _ w).mono ?_; rintro e w1 ⟨rfl, rfl⟩)
      go_ret
      exact ⟨by rw [HR.out]; rfl, rfl⟩
    · rw [if_neg h1, if_neg h2] at hr
      have HR := hid hr
      clear hr
      have h1' : decide (x < y) = false := by simp [h1]
      have h2' : decide (x > y) = false := by simp [h2]
      clear h1 h2
      go_enter Try.func32, Try.ntmps32
      go_wp2_with (go_at_call 42; refine (nani_any _ w).mono ?_; rintro e w1 ⟨rfl, rfl⟩)
      go_ret
      exact ⟨by rw [HR.out]; rfl, rfl⟩
theorem cmpf_any (a b : Nat) (w : World) : Calls Try.prog 35 #[.float .f64 a, .float .f64 b] w fun e w' => e = .returned (.int .i64 (FT.cmpF a b)) ∧ w = w' := by
  have hr : FT.cmpF a b = if FT.isN a then (if FT.isN b then 0 else -1) else if FT.isN b then 1 else if FT.ltF a b then -1 else if FT.gtF a b then 1 else 0 := rfl
  have HR := hid hr
  clear hr
  cases ha : FT.isN a <;> cases hb : FT.isN b
  · cases h1 : FT.ltF a b <;> cases h2 : FT.gtF a b
    all_goals
      have h1' : (FloatKind.f64.format.order a b == some .lt) = _ := h1
      have h2' : (FloatKind.f64.format.order a b == some .gt) = _ := h2
      go_enter Try.func35, Try.ntmps35
      go_wp2_with (go_at_call 44; refine (nanf_any _ w).mono ?_; rintro e w1 ⟨rfl, rfl⟩)
      go_ret
      exact ⟨by rw [HR.out, ha, hb, h1, h2]; rfl, rfl⟩
  all_goals
    go_enter Try.func35, Try.ntmps35
    go_wp2_with (go_at_call 44; refine (nanf_any _ w).mono ?_; rintro e w1 ⟨rfl, rfl⟩)
    go_ret
    exact ⟨by rw [HR.out, ha, hb]; rfl, rfl⟩
theorem Order_any (a b : Nat) (ha : a < 18446744073709551616) (hb : b < 18446744073709551616) (w : World) : Calls Try.prog 16 #[.float .f64 a, .float .f64 b] w fun e w' => e = .returned (.int .i64 (FT.orderS a b)) ∧ w = w' := by
  have hr : FT.orderS a b = if FT.cmpI (FT.rankI a) (FT.rankI b) ≠ 0 then FT.cmpI (FT.rankI a) (FT.rankI b) else if FT.isN a then 0 else FT.cmpF a b := rfl
  have HR := hid hr
  clear hr
  have hc1 := fun w => cmpi_any (FT.rankI a) (FT.rankI b) w
  generalize FT.cmpI (FT.rankI a) (FT.rankI b) = c at *
  by_cases hc : c = 0
  · subst hc
    cases hn : FT.isN a
    all_goals
      go_enter Try.func16, Try.ntmps16
      go_wp2_with first | (go_at_call 33; refine (rank_any _ (by assumption) w).mono ?_; rintro e w1 ⟨rfl, rfl⟩) | (go_at_call 32; refine (hc1 w).mono ?_; rintro e w1 ⟨rfl, rfl⟩) | (go_at_call 34; refine (IsNaN_any _ w).mono ?_; rintro e w1 ⟨rfl, rfl⟩) | (go_at_call 35; refine (cmpf_any _ _ w).mono ?_; rintro e w1 ⟨rfl, rfl⟩)
      go_ret
      exact ⟨by rw [HR.out, hn]; rfl, rfl⟩
  · have hc' : (c != 0) = true := by simpa using hc
    have H := hid hc
    clear hc
    go_enter Try.func16, Try.ntmps16
    go_wp2_with first | (go_at_call 33; refine (rank_any _ (by assumption) w).mono ?_; rintro e w1 ⟨rfl, rfl⟩) | (go_at_call 32; refine (hc1 w).mono ?_; rintro e w1 ⟨rfl, rfl⟩)
    go_ret
    exact ⟨by rw [HR.out, if_pos H.out]; rfl, rfl⟩
theorem Same_any (a b : Nat) (ha : a < 18446744073709551616) (hb : b < 18446744073709551616) (w : World) : Calls Try.prog 17 #[.float .f64 a, .float .f64 b] w fun e w' => e = .returned (.bool (FT.orderS a b == 0)) ∧ w = w' := by
  go_enter Try.func17, Try.ntmps17
  go_wp2_with (go_at_call 16; refine (Order_any a b ha hb w).mono ?_; rintro e w1 ⟨rfl, rfl⟩)
  go_ret
  exact ⟨rfl, rfl⟩
theorem Count_any (b : Nat) (w : World) : Calls Try.prog 18 #[.float .f64 b] w fun e w' => e = .returned (.float .f64 (FT.count b)) ∧ w = w' := by
  have hr : FT.count b = if FT.gtF b 0 then b else 0 := rfl
  have HR := hid hr
  clear hr
  go_enter Try.func18, Try.ntmps18
  cases h : FT.gtF b 0
  · have h' : (FloatKind.f64.format.order b 0 == some .gt) = false := h
    go_wp2
    go_ret
    exact ⟨by rw [HR.out, h]; rfl, rfl⟩
  · have h' : (FloatKind.f64.format.order b 0 == some .gt) = true := h
    go_wp2
    go_ret
    exact ⟨by rw [HR.out, h]; rfl, rfl⟩
theorem IsInf_any (b : Nat) (w : World) : Calls Try.prog 38 #[.float .f64 b, .int .i64 1] w fun e w' => e = .returned (.bool (FT.isI b)) ∧ w = w' := by
  go_enter Try.func38, Try.ntmps38
  go_wp2
  go_ret
  exact ⟨rfl, rfl⟩
theorem isInf_any (b : Nat) (w : World) : Calls Try.prog 23 #[.float .f64 b] w fun e w' => e = .returned (.bool (FT.isI b)) ∧ w = w' := by
  go_enter Try.func23, Try.ntmps23
  go_wp2_with (go_at_call 38; refine (IsInf_any b w).mono ?_; rintro e w1 ⟨rfl, rfl⟩)
  go_ret
  exact ⟨rfl, rfl⟩
theorem lit1_any (b : Nat) (w : World) : Calls Try.prog 25 #[.float .f64 b] w fun e w' => e = .returned (.bool true) ∧ w = w' := by
  go_enter Try.func25, Try.ntmps25
  go_wp2
  go_ret
  exact ⟨rfl, rfl⟩
theorem NaN_any (w : World) : Calls Try.prog 20 #[] w fun e w' => e = .returned (.float .f64 9221120237041090561) ∧ w = w' := by
  have h1 := call_from
  go_enter Try.func20, Try.ntmps20
  go_wp2
  go_ret
  exact ⟨rfl, rfl⟩
theorem Inf_pos (w : World) : Calls Try.prog 21 #[.int .i64 1] w fun e w' => e = .returned (.float .f64 9218868437227405312) ∧ w = w' := by
  have h1 := call_from
  go_enter Try.func21, Try.ntmps21
  go_wp2
  go_ret
  exact ⟨rfl, rfl⟩
theorem Inf_neg (w : World) : Calls Try.prog 21 #[.int .i64 (-1)] w fun e w' => e = .returned (.float .f64 18442240474082181120) ∧ w = w' := by
  have h1 := call_from
  go_enter Try.func21, Try.ntmps21
  go_wp2
  go_ret
  exact ⟨rfl, rfl⟩
theorem Floor_any (b : Nat) (hb : b < FT.infR) (w : World) : Calls Try.prog 30 #[.float .f64 b] w fun e w' => e = .returned (.float .f64 (FT.ofN (FT.floorN b))) ∧ w = w' := by
  have h1 := call_floor b hb
  go_enter Try.func30, Try.ntmps30
  go_wp2
  go_ret
  exact ⟨rfl, rfl⟩
end Go.Proofs.Yteaoafipjaffpaa
