import Derived.Test.YtgjgmaeickhhfaaL11
import Derived.OpenShut
set_option linter.unusedSimpArgs false
set_option linter.unusedVariables false
namespace Go.Proofs.Ytgjgmaeickhhfaa
open Go.RowKit Go.Proofs.YtgjgmaeickhhfaaW.PrintWords
theorem u8_bounds {a : Int} (h : (Lit.int .u8 a).wf = true) : 0 ≤ a ∧ a ≤ 255 := bounds_u8 h
theorem Clk.below {w0 w : World} {b : Nat} {now : Int} {xs : List Tm} (h : Clk w0 w b now xs) : Below w0.heap.size w0 w := by
  obtain ⟨v, _, _, hf⟩ := h
  exact hf.below0
theorem Clk.frNo {w0 w w1 : World} {b : Nat} {now : Int} {xs : List Tm} (h : Clk w0 w b now xs) (hf : Fr NoB w w1) : Clk w0 w1 b now xs := by
  obtain ⟨v, h1, h2, h3⟩ := h
  exact ⟨v, h1.fr hf (fun h => h) (fun _ _ h => h), h2, h3.trans hf⟩
theorem set_one (xs : List Tm) (t : Int) (h1 : 1 ≤ t) (h2 : t ≤ 1073741824) (h3 : xs.length ≤ 1) : setE xs 1 1 t = 0 := by
  unfold setE
  rw [if_neg (by omega), if_neg (by omega), if_neg (by omega)]
theorem one_a (t : Int) (h1 : 1 ≤ t) (h2 : t ≤ 1073741824) : setL 0 [] 1 1 t = [⟨1, 1, t⟩] := by
  unfold setL
  rw [set_one [] t h1 h2 (by simp), if_pos rfl]
  simp [outT, putT]
theorem one_b (s t : Int) (h1 : 1 ≤ t) (h2 : t ≤ 1073741824) : setL 0 [⟨1, 1, s⟩] 1 1 t = [⟨1, 1, t⟩] := by
  unfold setL
  rw [set_one [⟨1, 1, s⟩] t h1 h2 (by simp), if_pos rfl]
  simp [outT, putT, isIt]
/-- What is left of the one timer behind k ticks. -/
def left1 (t : Int) (k : Nat) : List Tm := if t ≤ k then [] else [⟨1, 1, t⟩]
theorem left1_len (t : Int) (k : Nat) : (left1 t k).length ≤ 1 := by unfold left1; split <;> simp
theorem left1_due (t : Int) (k : Nat) : (left1 t k).takeWhile (dueP ((k : Int) + 1)) = if t = (k : Int) + 1 then [⟨1, 1, t⟩] else [] := by
  unfold left1 dueP
  by_cases h : t ≤ k
  · rw [if_pos h, if_neg (by omega)]; rfl
  · rw [if_neg h]
    by_cases h2 : t = (k : Int) + 1
    · rw [if_pos h2]; simp [h2]
    · rw [if_neg h2]
      have h3 : ¬ t ≤ (k : Int) + 1 := by omega
      simp [h3]
theorem left1_next (t : Int) (k : Nat) : (left1 t k).dropWhile (dueP ((k : Int) + 1)) = left1 t (k + 1) := by
  unfold left1 dueP
  by_cases h : t ≤ k
  · rw [if_pos h, if_pos (by omega)]; rfl
  · rw [if_neg h]
    by_cases h2 : t = (k : Int) + 1
    · rw [if_pos (by omega)]; simp [h2]
    · rw [if_neg (by omega)]
      have h3 : ¬ t ≤ (k : Int) + 1 := by omega
      simp [h3]
set_option maxHeartbeats 4000000 in
theorem again_yes (a b : Int) (w : World) (ha : (Lit.int .u8 a).wf = true) (hb : (Lit.int .u8 b).wf = true) :
    Calls Try.prog 5 #[.int .u8 a, .int .u8 b, .bool true] w fun e w' => e = .returned (.bool true) ∧ Below w.heap.size w w' := by
  obtain ⟨ha1, ha2⟩ := u8_bounds ha
  obtain ⟨hb1, hb2⟩ := u8_bounds hb
  clear ha hb
  have e1 := set_one [] (1 + a % 50) (by omega) (by omega) (by simp)
  have e2 := one_a (1 + a % 50) (by omega) (by omega)
  have e3 := set_one [⟨1, 1, 1 + a % 50⟩] (1 + b % 50) (by omega) (by omega) (by simp)
  have e4 := one_b (1 + a % 50) (1 + b % 50) (by omega) (by omega)
  have c1 : ∀ w1, Clk w w1 w.heap.size 0 [] → _ := fun w1 h => cSet w w1 w.heap.size 0 [] 1 1 (1 + a % 50) h (by simp) List.Pairwise.nil (by omega) (by omega)
  have c2 : ∀ w1, Clk w w1 w.heap.size 0 [⟨1, 1, 1 + a % 50⟩] → _ := fun w1 h => cSet w w1 w.heap.size 0 [⟨1, 1, 1 + a % 50⟩] 1 1 (1 + b % 50) h (by simp) (List.pairwise_singleton _ _) (by omega) (by omega)
  have c3 : ∀ w1, Clk w w1 w.heap.size 0 [⟨1, 1, 1 + b % 50⟩] → _ := fun w1 h => cAll w w1 w.heap.size 0 [⟨1, 1, 1 + b % 50⟩] h (by simp)
  have c4 : ∀ w1, Clk w w1 w.heap.size 0 [⟨1, 1, 1 + b % 50⟩] → _ := fun w1 h => cCancel w w1 w.heap.size 0 [⟨1, 1, 1 + b % 50⟩] 1 1 h (by simp)
  have c5 : ∀ w1, Clk w w1 w.heap.size 0 [] → _ := fun w1 h => cCancel w w1 w.heap.size 0 [] 1 1 h (by simp)
  rw [e1, e2] at c1
  rw [e3, e4] at c2
  rw [show decide (0 < missI (isIt 1 1) [⟨1, 1, 1 + b % 50⟩]) = true by simp [missI, isIt], show outT 1 1 [⟨1, 1, 1 + b % 50⟩] = [] by simp [outT, isIt]] at c4
  rw [show decide (0 < missI (isIt 1 1) []) = false by simp [missI], show outT 1 1 [] = [] from rfl] at c5
  have C1 := hid c1
  have C2 := hid c2
  have C3 := hid c3
  have C4 := hid c4
  have C5 := hid c5
  have C6 : Hid (∀ (w1 : World) (k : Nat), Clk w w1 w.heap.size k [] → k ≤ 60 → Calls Try.prog 10 #[.pointer (some ⟨w.heap.size, 0, none⟩)] w1 (ClkRow w w1 w.heap.size [] (k + 1 : Nat) [])) := fun w1 k h hk => cTick w w1 w.heap.size k [] h (by simp) (by omega) (by omega)
  clear c1 c2 c3 c4 c5 e1 e2 e3 e4
  go_enter Try.func5, Try.ntmps5
  go_wp2_with fail
  refine (cNew w).mono ?_
  rintro e' w1 ⟨rfl, k1⟩
  go_wp2_with fail
  refine (C1.out w1 k1).mono ?_
  rintro e' w2 ⟨rfl, k2⟩
  go_wp2_with fail
  refine (C2.out w2 k2).mono ?_
  rintro e' w3 ⟨rfl, k3⟩
  go_wp2_with fail
  refine (C3.out w3 k3).mono ?_
  rintro e' w4 ⟨A4, c4, rfl, r4, k4⟩
  clear k1 k2 k3 r4
  go_wp2_with fail
  refine (C4.out w4 k4).mono ?_
  rintro e' w5 ⟨rfl, k5⟩
  go_wp2_with fail
  refine (C5.out w5 k5).mono ?_
  rintro e' w6 ⟨rfl, k6⟩
  clear k4 k5 C1 C2 C3 C4 C5
  go_wp2_with fail
  go_loopw [8, 9] (fun v8 _ wr => ∃ k : Nat, k ≤ 60 ∧ v8 = .int .i64 (k + 1 : Nat) ∧ Hid (Clk w wr w.heap.size k [])) (fun v8 _ _ => 61 - (intOf v8).toNat)
  case atStart => exact ⟨0, by omega, by go_num, k6⟩
  case round =>
    obtain ⟨k, hk, rfl, HK⟩ := hrel
    by_cases hk6 : k < 60
    · go_wp2_with fail
      refine (C6.out wr k HK.out (by omega)).mono ?_
      rintro e' w7 ⟨A7, c7, rfl, r7, k7⟩
      have K7 := hid k7
      clear r7 k7
      go_wp2
      go_roundw
      case rel => exact ⟨k + 1, by omega, by go_num, K7.out⟩
      case measure => simp [intOf]; omega
    · obtain rfl : k = 60 := by omega
      go_wp2_with fail
      refine (cNow w wr _ _ _ HK.out).mono ?_
      rintro e' w7 ⟨rfl, rfl⟩
      go_wp2_with fail
      refine (awake_any wr).mono ?_
      rintro e' w8 ⟨rfl, hf⟩
      go_wp2
      go_ret
      exact ⟨rfl, (HK.out.frNo hf).below⟩
set_option maxHeartbeats 4000000 in
theorem again_no (a b : Int) (w : World) (ha : (Lit.int .u8 a).wf = true) (hb : (Lit.int .u8 b).wf = true) :
    Calls Try.prog 5 #[.int .u8 a, .int .u8 b, .bool false] w fun e w' => e = .returned (.bool true) ∧ Below w.heap.size w w' := by
  obtain ⟨ha1, ha2⟩ := u8_bounds ha
  obtain ⟨hb1, hb2⟩ := u8_bounds hb
  clear ha hb
  have e1 := set_one [] (1 + a % 50) (by omega) (by omega) (by simp)
  have e2 := one_a (1 + a % 50) (by omega) (by omega)
  have e3 := set_one [⟨1, 1, 1 + a % 50⟩] (1 + b % 50) (by omega) (by omega) (by simp)
  have e4 := one_b (1 + a % 50) (1 + b % 50) (by omega) (by omega)
  have c1 : ∀ w1, Clk w w1 w.heap.size 0 [] → _ := fun w1 h => cSet w w1 w.heap.size 0 [] 1 1 (1 + a % 50) h (by simp) List.Pairwise.nil (by omega) (by omega)
  have c2 : ∀ w1, Clk w w1 w.heap.size 0 [⟨1, 1, 1 + a % 50⟩] → _ := fun w1 h => cSet w w1 w.heap.size 0 [⟨1, 1, 1 + a % 50⟩] 1 1 (1 + b % 50) h (by simp) (List.pairwise_singleton _ _) (by omega) (by omega)
  have c3 : ∀ w1, Clk w w1 w.heap.size 0 [⟨1, 1, 1 + b % 50⟩] → _ := fun w1 h => cAll w w1 w.heap.size 0 [⟨1, 1, 1 + b % 50⟩] h (by simp)
  rw [e1, e2] at c1
  rw [e3, e4] at c2
  have C1 := hid c1
  have C2 := hid c2
  have C3 := hid c3
  have C6 : Hid (∀ (w1 : World) (k : Nat), Clk w w1 w.heap.size k (left1 (1 + b % 50) k) → k ≤ 60 → Calls Try.prog 10 #[.pointer (some ⟨w.heap.size, 0, none⟩)] w1 (ClkRow w w1 w.heap.size (if 1 + b % 50 = (k : Int) + 1 then [⟨1, 1, 1 + b % 50⟩] else []) (k + 1 : Nat) (left1 (1 + b % 50) (k + 1)))) := fun w1 k h hk => by
    have h2 := cTick w w1 w.heap.size k _ h (Nat.le_trans (left1_len _ _) (by omega)) (by omega) (by omega)
    rw [left1_due, left1_next] at h2
    exact h2
  clear c1 c2 c3 e1 e2 e3 e4
  go_enter Try.func5, Try.ntmps5
  go_wp2_with fail
  refine (cNew w).mono ?_
  rintro e' w1 ⟨rfl, k1⟩
  go_wp2_with fail
  refine (C1.out w1 k1).mono ?_
  rintro e' w2 ⟨rfl, k2⟩
  go_wp2_with fail
  refine (C2.out w2 k2).mono ?_
  rintro e' w3 ⟨rfl, k3⟩
  go_wp2_with fail
  refine (C3.out w3 k3).mono ?_
  rintro e' w4 ⟨A4, c4, rfl, r4, k4⟩
  have K4 : Hid (Clk w w4 w.heap.size (0 : Nat) (left1 (1 + b % 50) 0)) := by
    unfold left1
    rw [if_neg (by omega)]
    exact k4
  clear k1 k2 k3 r4 k4 C1 C2 C3
  go_wp2_with fail
  go_loopw [8, 9] (fun v8 _ wr => ∃ k : Nat, k ≤ 60 ∧ v8 = .int .i64 (k + 1 : Nat) ∧ Hid (Clk w wr w.heap.size k (left1 (1 + b % 50) k))) (fun v8 _ _ => 61 - (intOf v8).toNat)
  case atStart => exact ⟨0, by omega, by go_num, K4⟩
  case round =>
    obtain ⟨k, hk, rfl, HK⟩ := hrel
    by_cases hk6 : k < 60
    · have hc := C6.out wr k HK.out (by omega)
      by_cases ht : 1 + b % 50 = (k : Int) + 1
      · rw [if_pos ht] at hc
        have HC := hid hc
        have hq : (((k : Int) + 1) == 1 + b % 50) = true := by rw [beq_iff_eq]; omega
        clear hc ht
        go_wp2_with fail
        refine (HC.out).mono ?_
        rintro e' w7 ⟨A7, c7, rfl, r7, k7⟩
        have K7 := hid k7
        clear r7 k7
        go_wp2
        go_roundw
        case rel => exact ⟨k + 1, by omega, by go_num, K7.out⟩
        case measure => simp [intOf]; omega
      · rw [if_neg ht] at hc
        have HC := hid hc
        have hq : (((k : Int) + 1) == 1 + b % 50) = false := by rw [beq_eq_false_iff_ne]; omega
        clear hc ht
        go_wp2_with fail
        refine (HC.out).mono ?_
        rintro e' w7 ⟨A7, c7, rfl, r7, k7⟩
        have K7 := hid k7
        clear r7 k7
        go_wp2
        go_roundw
        case rel => exact ⟨k + 1, by omega, by go_num, K7.out⟩
        case measure => simp [intOf]; omega
    · obtain rfl : k = 60 := by omega
      go_wp2_with fail
      refine (cNow w wr _ _ _ HK.out).mono ?_
      rintro e' w7 ⟨rfl, rfl⟩
      go_wp2_with fail
      refine (awake_any wr).mono ?_
      rintro e' w8 ⟨rfl, hf⟩
      go_wp2
      go_ret
      exact ⟨rfl, (HK.out.frNo hf).below⟩
theorem again_walk (a b : Int) (c : Bool) (w : World) (ha : (Lit.int .u8 a).wf = true) (hb : (Lit.int .u8 b).wf = true) :
    Calls Try.prog 5 #[.int .u8 a, .int .u8 b, .bool c] w fun e w' => e = .returned (.bool true) ∧ Below w.heap.size w w' := by
  cases c
  · exact again_no a b w ha hb
  · exact again_yes a b w ha hb
end Go.Proofs.Ytgjgmaeickhhfaa
