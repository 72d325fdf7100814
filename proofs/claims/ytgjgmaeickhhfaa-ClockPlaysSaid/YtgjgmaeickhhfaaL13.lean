import Derived.Test.YtgjgmaeickhhfaaL12
set_option linter.unusedSimpArgs false
set_option linter.unusedVariables false
namespace Go.Proofs.Ytgjgmaeickhhfaa
open Go.RowKit Go.Proofs.YtgjgmaeickhhfaaW.PrintWords
theorem filter_putT (p : Tm → Bool) (t : Tm) (xs : List Tm) : ((putT t xs).filter p).length = (xs.filter p).length + (if p t then 1 else 0) := by
  unfold putT
  conv => rhs; rw [← List.takeWhile_append_dropWhile (p := fun x => decide (Lt x t)) (l := xs)]
  rw [List.filter_append, List.filter_append, List.filter_cons]
  by_cases h : p t <;> simp [h] <;> omega
/-- The timers of ClockFull's loop behind n rounds. -/
structure FullT (n : Nat) (xs : List Tm) : Prop where
  sorted : Sorted xs
  len : xs.length = n
  mem : ∀ x ∈ xs, 0 ≤ x.id ∧ x.id < n ∧ x.env = x.id % 4 ∧ 5 ≤ x.at_
  out : ∀ k : Int, 0 ≤ k → (outT (k % 4) k xs).length + (if k < (n : Int) then 1 else 0) = n
theorem FullT.zero : FullT 0 [] := ⟨List.Pairwise.nil, rfl, fun x hx => by simp at hx, fun k hk => by rw [if_neg (by omega)]; rfl⟩
theorem FullT.err {n : Nat} {xs : List Tm} (h : FullT n xs) (hn : n < 1024) : setE xs ((n : Int) % 4) n (5 + (n : Int) % 3) = 0 := by
  have := h.len
  unfold setE
  rw [if_neg (by omega), if_neg (by omega), if_neg (by omega)]
theorem FullT.outSelf {n : Nat} {xs : List Tm} (h : FullT n xs) : outT ((n : Int) % 4) n xs = xs := by
  unfold outT
  rw [List.filter_eq_self]
  intro x hx
  have := h.mem x hx
  simp [isIt]
  omega
theorem FullT.next {n : Nat} {xs : List Tm} (h : FullT n xs) (hn : n < 1024) : FullT (n + 1) (setL 0 xs ((n : Int) % 4) n (5 + (n : Int) % 3)) := by
  have e : setL 0 xs ((n : Int) % 4) n (5 + (n : Int) % 3) = putT ⟨(n : Int) % 4, n, 0 + (5 + (n : Int) % 3)⟩ xs := by
    unfold setL
    rw [h.err hn, if_pos rfl, h.outSelf]
  refine ⟨setL_sorted h.sorted, ?_, ?_, ?_⟩
  · rw [e, putT_len, h.len]
  · intro x hx
    rw [e, mem_putT] at hx
    rcases hx with rfl | hx
    · refine ⟨?_, ?_, rfl, ?_⟩ <;> simp <;> omega
    · have := h.mem x hx
      omega
  · intro k hk
    have h1 := h.out k hk
    rw [e]
    unfold outT at h1 ⊢
    rw [filter_putT]
    by_cases hkn : k = (n : Int)
    · subst hkn
      rw [if_neg (by omega)] at h1
      rw [if_neg (by simp [isIt]), if_pos (by omega)]
      omega
    · rw [if_pos (by simp [isIt]; omega)]
      by_cases hlt : k < (n : Int)
      · rw [if_pos hlt] at h1
        rw [if_pos (by omega)]
        omega
      · rw [if_neg hlt] at h1
        rw [if_neg (by omega)]
        omega
section
variable {xs : List Tm} {k : Int}
theorem full_refuses (h : FullT 1024 xs) (hk : 0 ≤ k) : setE xs 9 k 1 = 3 := by
  have h2 : xs.any (isIt 9 k) = false := by
    rw [List.any_eq_false]
    intro x hx
    have := h.mem x hx
    simp [isIt]
    omega
  unfold setE
  rw [if_neg (by omega), if_neg (by omega), if_pos ⟨h.len, h2⟩]
theorem full_anew (h : FullT 1024 xs) (hk : 0 ≤ k) (hk2 : k ≤ 255) : setE xs (k % 4) k 1 = 0 ∧ (setL 0 xs (k % 4) k 1).length = 1024 ∧ Sorted (setL 0 xs (k % 4) k 1) ∧
    (setL 0 xs (k % 4) k 1).takeWhile (dueP (0 + 1)) = [⟨k % 4, k, 0 + 1⟩] ∧ (setL 0 xs (k % 4) k 1).dropWhile (dueP (0 + 1)) = outT (k % 4) k xs ∧ (outT (k % 4) k xs).length = 1023 ∧ Sorted (outT (k % 4) k xs) := by
  have h1 := h.out k hk
  rw [if_pos (by omega)] at h1
  have he : setE xs (k % 4) k 1 = 0 := by
    unfold setE
    rw [if_neg (by omega), if_neg (by omega), if_neg]
    rintro ⟨h2, h3⟩
    have : outT (k % 4) k xs = xs := any_filter h3
    rw [this] at h1
    omega
  have hm : ∀ x ∈ outT (k % 4) k xs, 5 ≤ x.at_ := fun x hx => (h.mem x (List.mem_filter.1 hx).1).2.2.2
  have e : setL 0 xs (k % 4) k 1 = ⟨k % 4, k, 0 + 1⟩ :: outT (k % 4) k xs := by
    unfold setL
    rw [he, if_pos rfl]
    unfold putT
    cases ho : outT (k % 4) k xs with
    | nil => rfl
    | cons y ys =>
      have h5 := hm y (by rw [ho]; exact List.mem_cons_self)
      have h6 : decide (Lt y ⟨k % 4, k, 0 + 1⟩) = false := by unfold Lt; simp; omega
      rw [List.takeWhile_cons, List.dropWhile_cons, h6]
      rfl
  have hd : (outT (k % 4) k xs).takeWhile (dueP (0 + 1)) = [] ∧ (outT (k % 4) k xs).dropWhile (dueP (0 + 1)) = outT (k % 4) k xs := by
    cases ho : outT (k % 4) k xs with
    | nil => exact ⟨rfl, rfl⟩
    | cons y ys =>
      have h5 := hm y (by rw [ho]; exact List.mem_cons_self)
      have h6 : dueP (0 + 1) y = false := by unfold dueP; simp; omega
      rw [List.takeWhile_cons, List.dropWhile_cons, h6]
      exact ⟨rfl, rfl⟩
  have hp : dueP (0 + 1) ⟨k % 4, k, 0 + 1⟩ = true := by simp [dueP]
  refine ⟨he, ?_, setL_sorted h.sorted, ?_, ?_, by omega, filter_sorted _ h.sorted⟩
  · rw [e, List.length_cons]
    omega
  · rw [e, List.takeWhile_cons, if_pos hp, hd.1]
  · rw [e, List.dropWhile_cons, if_pos hp, hd.2]
theorem full_last (h : (outT (k % 4) k xs).length = 1023) (hk : 0 ≤ k) : setE (outT (k % 4) k xs) 9 k 1 = 0 := by
  unfold setE
  rw [if_neg (by omega), if_neg (by omega), if_neg (by omega)]
end
set_option maxRecDepth 100000 in
set_option maxHeartbeats 4000000 in
theorem full_walk (a : Int) (w : World) (ha : (Lit.int .u8 a).wf = true) :
    Calls Try.prog 3 #[.int .u8 a] w fun e w' => e = .returned (.bool true) ∧ Below w.heap.size w w' := by
  obtain ⟨ha1, ha2⟩ := u8_bounds ha
  clear ha
  have CS : Hid (∀ (w1 : World) (n : Nat) (xs : List Tm), Clk w w1 w.heap.size 0 xs → FullT n xs → n < 1024 → Calls Try.prog 8 #[.pointer (some ⟨w.heap.size, 0, none⟩), .int .i64 ((n : Int) % 4), .int .i64 n, .int .i64 (5 + (n : Int) % 3)] w1 (ClkTo w w.heap.size (.int .i64 0) 0 (setL 0 xs ((n : Int) % 4) n (5 + (n : Int) % 3)))) := fun w1 n xs h hf hn => by
    have h2 := cSet w w1 w.heap.size 0 xs ((n : Int) % 4) n (5 + (n : Int) % 3) h (by rw [hf.len]; omega) hf.sorted (by omega) (by omega)
    rw [hf.err hn] at h2
    exact h2
  go_enter Try.func3, Try.ntmps3
  go_wp2_with fail
  refine (cNew w).mono ?_
  rintro e' w1 ⟨rfl, k1⟩
  go_wp2_with fail
  go_loopw [4] (fun v4 wr => ∃ (n : Nat) (xs : List Tm), n ≤ 1024 ∧ v4 = .int .i64 n ∧ Hid (FullT n xs) ∧ Hid (Clk w wr w.heap.size 0 xs)) (fun v4 _ => 1024 - (intOf v4).toNat)
  case atStart => exact ⟨0, [], by omega, rfl, FullT.zero, k1⟩
  case round =>
    obtain ⟨n, xs, hn, rfl, HT, HK⟩ := hrel
    by_cases hn4 : n < 1024
    · go_wp2_with fail
      refine (CS.out wr n xs HK.out HT.out hn4).mono ?_
      rintro e' w2 ⟨rfl, k2⟩
      have HN := hid (HT.out.next hn4)
      have K2 := hid k2
      clear k2
      go_wp2
      go_roundw
      case rel => exact ⟨n + 1, _, by omega, by go_num, HN, K2⟩
      case measure => simp [intOf]; omega
    · obtain rfl : n = 1024 := by omega
      have e1 := full_refuses HT.out ha1
      obtain ⟨e2, e3, e4, e5, e6, e7, e8⟩ := full_anew HT.out ha1 ha2
      have e9 := full_last e7 ha1
      have l1 := HT.out.len
      have c1 := cSet w wr w.heap.size 0 xs 9 a 1 HK.out (by omega) HT.out.sorted (by omega) (by omega)
      have h1 : setL 0 xs 9 a 1 = xs := by unfold setL; rw [e1]; rfl
      rw [e1, h1] at c1
      have c2 : ∀ w1, Clk w w1 w.heap.size 0 xs → _ := fun w1 h => cSet w w1 w.heap.size 0 xs (a % 4) a 1 h (by omega) HT.out.sorted (by omega) (by omega)
      rw [e2] at c2
      have c3 : ∀ w1, Clk w w1 w.heap.size 0 (setL 0 xs (a % 4) a 1) → _ := fun w1 h => cAll w w1 w.heap.size 0 (setL 0 xs (a % 4) a 1) h (by omega)
      have c4 : ∀ w1, Clk w w1 w.heap.size 0 (setL 0 xs (a % 4) a 1) → _ := fun w1 h => cTick w w1 w.heap.size 0 (setL 0 xs (a % 4) a 1) h (by omega) (by omega) (by omega)
      rw [e5, e6] at c4
      have c5 : ∀ w1, Clk w w1 w.heap.size (0 + 1) (outT (a % 4) a xs) → _ := fun w1 h => cSet w w1 w.heap.size (0 + 1) (outT (a % 4) a xs) 9 a 1 h (by omega) e8 (by omega) (by omega)
      rw [e9] at c5
      have C1 := hid c1
      have C2 := hid c2
      have C3 := hid c3
      have C4 := hid c4
      have C5 := hid c5
      have E3 : ((((setL 0 xs (a % 4) a 1).length : Nat) : Int) == 1024) = true := by rw [beq_iff_eq]; omega
      have E4 : (setL 0 xs (a % 4) a 1).length ≤ 1024 := by omega
      clear e1 e2 e3 e4 e5 e6 e7 e8 e9 l1 c1 c2 c3 c4 c5 h1 CS HT
      generalize setL 0 xs (a % 4) a 1 = ys at *
      go_wp2_with fail
      refine (C1.out).mono ?_
      rintro e' w2 ⟨rfl, k2⟩
      go_wp2_with fail
      refine (C2.out w2 k2).mono ?_
      rintro e' w3 ⟨rfl, k3⟩
      go_wp2_with fail
      refine (C3.out w3 k3).mono ?_
      rintro e' w4 ⟨A4, c4, rfl, r4, k4⟩
      clear r4
      go_wp2_with fail
      refine (C4.out w4 k4).mono ?_
      rintro e' w5 ⟨A5, c5, rfl, r5, k5⟩
      clear r5
      go_wp2_with fail
      refine (C5.out w5 k5).mono ?_
      rintro e' w6 ⟨rfl, k6⟩
      have K6 := hid k6
      clear k2 k3 k4 k5 k6
      go_wp2_with fail
      refine (awake_any w6).mono ?_
      rintro e' w8 ⟨rfl, hf⟩
      go_wp2
      go_ret
      exact ⟨rfl, (K6.out.frNo hf).below⟩
end Go.Proofs.Ytgjgmaeickhhfaa
