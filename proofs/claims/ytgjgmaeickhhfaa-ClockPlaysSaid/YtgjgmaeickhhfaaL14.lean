import Derived.Test.YtgjgmaeickhhfaaL13
set_option linter.unusedSimpArgs false
set_option linter.unusedVariables false
namespace Go.Proofs.Ytgjgmaeickhhfaa
open Go.RowKit Go.Proofs.YtgjgmaeickhhfaaW.PrintWords
/-- The timer of byte i. -/
def onceT (l : List Int) (i : Nat) : Tm := ⟨(i : Int) % 3, i, 1 + l.getD i 0 % 20⟩
structure OnceT (l : List Int) (n : Nat) (xs : List Tm) : Prop where
  sorted : Sorted xs
  len : xs.length = n
  mem : ∀ x ∈ xs, ∃ i : Nat, i < n ∧ x = onceT l i
theorem OnceT.zero (l : List Int) : OnceT l 0 [] := ⟨List.Pairwise.nil, rfl, fun x hx => by simp at hx⟩
theorem OnceT.err {l : List Int} {n : Nat} {xs : List Tm} (h : OnceT l n xs) (hn : n < 1024) (hr : 0 ≤ l.getD n 0) : setE xs ((n : Int) % 3) n (1 + l.getD n 0 % 20) = 0 := by
  have := h.len
  unfold setE
  rw [if_neg (by omega), if_neg (by omega), if_neg (by omega)]
theorem OnceT.next {l : List Int} {n : Nat} {xs : List Tm} (h : OnceT l n xs) (hn : n < 1024) (hr : 0 ≤ l.getD n 0) : OnceT l (n + 1) (setL 0 xs ((n : Int) % 3) n (1 + l.getD n 0 % 20)) := by
  have ho : outT ((n : Int) % 3) n xs = xs := by
    unfold outT
    rw [List.filter_eq_self]
    intro x hx
    obtain ⟨i, hi, rfl⟩ := h.mem x hx
    simp [isIt, onceT]
    omega
  have e : setL 0 xs ((n : Int) % 3) n (1 + l.getD n 0 % 20) = putT (onceT l n) xs := by
    unfold setL
    rw [h.err hn hr, if_pos rfl, ho]
    unfold onceT
    congr 2
    omega
  refine ⟨setL_sorted h.sorted, by rw [e, putT_len, h.len], fun x hx => ?_⟩
  rw [e, mem_putT] at hx
  rcases hx with rfl | hx
  · exact ⟨n, by omega, rfl⟩
  · obtain ⟨i, hi, hx⟩ := h.mem x hx
    exact ⟨i, by omega, hx⟩
/-- The timers that are left behind k ticks. -/
structure LeftT (l : List Int) (env : Int) (k : Nat) (xs : List Tm) : Prop where
  sorted : Sorted xs
  mem : ∀ x ∈ xs, (∃ i : Nat, i < l.length ∧ x = onceT l i) ∧ x.env ≠ env ∧ (k : Int) < x.at_
theorem LeftT.start {l : List Int} {env : Int} {xs : List Tm} (h : OnceT l l.length xs) (hr : ∀ n ∈ l, 0 ≤ n) : LeftT l env 0 (xs.filter fun x => !(x.env == env)) := by
  refine ⟨filter_sorted _ h.sorted, fun x hx => ?_⟩
  obtain ⟨h1, h2⟩ := List.mem_filter.1 hx
  obtain ⟨i, hi, rfl⟩ := h.mem x h1
  refine ⟨⟨i, hi, rfl⟩, by simpa using h2, ?_⟩
  have h3 : 0 ≤ l.getD i 0 := by
    rw [List.getD_eq_getElem?_getD, List.getElem?_eq_getElem hi]
    exact hr _ (List.getElem_mem hi)
  simp only [onceT]
  omega
theorem drop_after (now : Int) : ∀ (xs : List Tm), Sorted xs → ∀ x ∈ xs.dropWhile (dueP now), now < x.at_
  | [], _, x, hx => by simp at hx
  | y :: ys, hs, x, hx => by
    have hs' := List.pairwise_cons.1 hs
    cases hy : dueP now y
    · rw [List.dropWhile_cons, hy] at hx
      have hy' : now < y.at_ := by simpa [dueP] using hy
      rcases List.mem_cons.1 hx with rfl | h
      · exact hy'
      · have := hs'.1 x h
        unfold Lt at this
        omega
    · rw [List.dropWhile_cons, hy] at hx
      exact drop_after now ys hs'.2 x hx
theorem LeftT.next {l : List Int} {env : Int} {k : Nat} {xs : List Tm} (h : LeftT l env k xs) : LeftT l env (k + 1) (xs.dropWhile (dueP ((k : Int) + 1))) := by
  have hsub := (List.dropWhile_suffix (dueP ((k : Int) + 1)) (l := xs))
  refine ⟨h.sorted.sublist hsub.sublist, fun x hx => ?_⟩
  obtain ⟨h1, h2, h3⟩ := h.mem x (hsub.subset hx)
  have := drop_after ((k : Int) + 1) xs h.sorted x hx
  exact ⟨h1, h2, by omega⟩
theorem LeftT.due {l : List Int} {env : Int} {k : Nat} {xs : List Tm} (h : LeftT l env k xs) (x : Tm) (hx : x ∈ xs.takeWhile (dueP ((k : Int) + 1))) : ∃ i : Nat, i < l.length ∧ x = onceT l i ∧ x.env ≠ env ∧ 1 + l.getD i 0 % 20 = (k : Int) + 1 := by
  obtain ⟨⟨i, hi, rfl⟩, h2, h3⟩ := h.mem x ((List.takeWhile_prefix _).subset hx)
  have h4 := List.all_eq_true.1 (List.all_takeWhile (p := dueP ((k : Int) + 1)) (l := xs)) _ hx
  have h5 : (onceT l i).at_ ≤ (k : Int) + 1 := by simpa [dueP] using h4
  refine ⟨i, hi, rfl, h2, ?_⟩
  simp only [onceT] at h3 h5
  omega
theorem LeftT.end_ {l : List Int} {env : Int} {xs : List Tm} (h : LeftT l env 20 xs) : xs = [] := by
  cases xs with
  | nil => rfl
  | cons x xs =>
    obtain ⟨⟨i, hi, rfl⟩, _, h3⟩ := h.mem x List.mem_cons_self
    simp only [onceT] at h3
    omega
theorem due_len {p : Tm → Bool} (xs : List Tm) : (xs.takeWhile p).length + (xs.dropWhile p).length = xs.length := by
  rw [← List.length_append, List.takeWhile_append_dropWhile]
set_option maxRecDepth 100000 in
set_option maxHeartbeats 8000000 in
theorem once_walk (A : Option Addr) (c : Nat) (l : List Int) (a : Int) (w : World) (hC : (Kd.int .u8).C w A l.length l) (hc : l.length ≤ c) (hy : l.length * 1 ≤ 140737488351232) (hw : ∀ n ∈ l, (Lit.int .u8 n).wf = true) (ha : (Lit.int .u8 a).wf = true) :
    Calls Try.prog 4 #[.slice A l.length c, .int .u8 a] w fun e w' => e = .returned (.bool true) ∧ Below w.heap.size w w' := by
  obtain ⟨ha1, ha2⟩ := u8_bounds ha
  have hr : ∀ n ∈ l, 0 ≤ n ∧ n ≤ 255 := fun n hn => u8_bounds (hw n hn)
  have HR := hid hr
  have HC := hid hC
  clear hw ha hr hC
  by_cases hbig : l.length > 40
  · go_enter Try.func4, Try.ntmps4
    go_wp2_with fail
    refine (awake_any w).mono ?_
    rintro e' w8 ⟨rfl, hf⟩
    go_wp2
    go_ret
    exact ⟨rfl, hf.below0⟩
  have hl40 : l.length ≤ 40 := by omega
  have CS : Hid (∀ (w1 : World) (n : Nat) (xs : List Tm), Clk w w1 w.heap.size 0 xs → OnceT l n xs → n < l.length → Calls Try.prog 8 #[.pointer (some ⟨w.heap.size, 0, none⟩), .int .i64 ((n : Int) % 3), .int .i64 n, .int .i64 (1 + l.getD n 0 % 20)] w1 (ClkTo w w.heap.size (.int .i64 0) 0 (setL 0 xs ((n : Int) % 3) n (1 + l.getD n 0 % 20)))) := fun w1 n xs h hf hn => by
    have h2 := cSet w w1 w.heap.size 0 xs ((n : Int) % 3) n (1 + l.getD n 0 % 20) h (by rw [hf.len]; omega) hf.sorted (by omega) (by omega)
    have h3 : 0 ≤ l.getD n 0 := by
      rw [List.getD_eq_getElem?_getD, List.getElem?_eq_getElem hn]
      exact (HR.out _ (List.getElem_mem hn)).1
    rw [hf.err (by omega) h3] at h2
    exact h2
  go_enter Try.func4, Try.ntmps4
  go_wp2_with fail
  refine (cNew w).mono ?_
  rintro e' w1 ⟨rfl, k1⟩
  go_wp2_with fail
  go_loopw [6] (fun v6 wr => ∃ (n : Nat) (xs : List Tm), n ≤ l.length ∧ v6 = .int .i64 n ∧ Hid (OnceT l n xs) ∧ Hid (Clk w wr w.heap.size 0 xs)) (fun v6 _ => l.length - (intOf v6).toNat)
  case atStart => exact ⟨0, [], by omega, rfl, OnceT.zero l, k1⟩
  case round =>
    obtain ⟨n, xs, hn, rfl, HT, HK⟩ := hrel
    by_cases hn4 : n < l.length
    · obtain ⟨ad, hA, hcell⟩ := C_at (Kd.C_below HC.out HK.out.below) n hn4
      have hg : l.getD n 0 = l[n] := by rw [List.getD_eq_getElem?_getD, List.getElem?_eq_getElem hn4]; rfl
      obtain ⟨hr1, hr2⟩ := HR.out _ (List.getElem_mem hn4)
      have hc2 := CS.out wr n xs HK.out HT.out hn4
      have HN := hid (HT.out.next (by omega) (by rw [hg]; exact hr1))
      rw [hg] at hc2 HN
      have HC2 := hid hc2
      clear hc2 hg HT
      generalize l[n] = x at *
      subst hA
      go_wp2_with fail
      refine (HC2.out).mono ?_
      rintro e' w2 ⟨rfl, k2⟩
      have K2 := hid k2
      clear k2
      go_wp2
      go_roundw
      case rel => exact ⟨n + 1, _, by omega, by go_num, HN, K2⟩
      case measure => simp [intOf]; omega
    · obtain rfl : n = l.length := by omega
      go_wp2_with fail
      have hkill := cKill w wr w.heap.size 0 xs (a % 4) HK.out (by rw [HT.out.len]; omega)
      have hleft := LeftT.start (env := a % 4) HT.out (fun n hn => (HR.out n hn).1)
      have hlm : (xs.filter fun x => !(x.env == a % 4)).length ≤ l.length := by rw [← HT.out.len]; exact List.length_filter_le _ _
      have hmiss : missI (fun t => t.env == a % 4) xs = (l.length : Int) - ((xs.filter fun x => !(x.env == a % 4)).length : Int) := by rw [← HT.out.len]; rfl
      rw [hmiss] at hkill
      generalize (xs.filter fun x => !(x.env == a % 4)) = ys at *
      have HKL := hid hkill
      have HLF := hid hleft
      clear hkill hleft hmiss HT HK CS k1
      refine (HKL.out).mono ?_
      rintro e' w2 ⟨rfl, k2⟩
      have K2 := hid k2
      clear k2 HKL
      have hm0 : ∀ m : Nat, (Value.int .i64 0) = .int .i64 ((m : Int) - (m : Int)) := fun m => by rw [Int.sub_self]
      have HM0 := hid hm0
      clear hm0
      go_wp2_with fail
      go_loopw [9, 10, 11, 12, 13] (fun v9 v10 _ _ _ wr => ∃ (k : Nat) (zs : List Tm), k ≤ 20 ∧ zs.length ≤ ys.length ∧ v9 = .int .i64 ((ys.length : Int) - (zs.length : Int)) ∧ v10 = .int .i64 (k + 1 : Nat) ∧ Hid (LeftT l (a % 4) k zs) ∧ Hid (Clk w wr w.heap.size k zs)) (fun _ v10 _ _ _ _ => 21 - (intOf v10).toNat)
      case atStart => exact ⟨0, ys, by omega, by omega, HM0.out _, by go_num, HLF, K2⟩
      case round =>
        obtain ⟨k, zs, hk, hzs, rfl, rfl, HT, HK⟩ := hrel
        by_cases hk4 : k < 20
        · have htick := cTick w _ w.heap.size k zs HK.out (by omega) (by omega) (by omega)
          have hdl := due_len (p := dueP ((k : Int) + 1)) zs
          have HD := hid (HT.out.due)
          have HN := hid (HT.out.next)
          generalize zs.takeWhile (dueP ((k : Int) + 1)) = ds at *
          generalize zs.dropWhile (dueP ((k : Int) + 1)) = zs2 at *
          have HTk := hid htick
          have hzl : zs.length = ds.length + zs2.length := hdl.symm
          have HZL := hid hzl
          have hds : ds.length + zs2.length ≤ ys.length := by omega
          clear htick hdl hzl HT HK
          go_wp2_with fail
          refine (HTk.out).mono ?_
          rintro e' w3 ⟨A3, c3, rfl, r3, k3⟩
          have R3 := hid r3
          have K3 : Hid (Clk w w3 w.heap.size (k + 1 : Nat) zs2) := k3
          clear r3 k3 HTk
          rw [HZL.out]
          go_wp2_with fail
          go_loop [9, 12, 13] (fun v9 v12 _ => ∃ j : Nat, j ≤ ds.length ∧ v9 = .int .i64 ((ys.length : Int) - ((ds.length : Int) + (zs2.length : Int)) + (j : Int)) ∧ v12 = .int .i64 j) (fun _ v12 _ => ds.length - (intOf v12).toNat)
          case atStart => exact ⟨0, by omega, by rw [Int.natCast_zero, Int.add_zero], rfl⟩
          case round =>
            obtain ⟨j, hj, rfl, rfl⟩ := hrel
            by_cases hj4 : j < ds.length
            · obtain ⟨g, c9, hgv, _, _⟩ := Row.ptr R3.out (by omega)
              injection hgv with q1 q2 q3
              subst q1
              clear q2 q3
              have d0 := Row.cell R3.out Tm.cells_len j hj4 0 (by omega) rfl
              have d1 := Row.cell R3.out Tm.cells_len j hj4 1 (by omega) rfl
              have d2 := Row.cell R3.out Tm.cells_len j hj4 2 (by omega) rfl
              obtain ⟨i, hi, hx, henv, hat⟩ := HD.out ds[j] (List.getElem_mem hj4)
              rw [hx] at d0 d1 d2 henv
              simp only [onceT] at d0 d1 d2 henv
              rw [Nat.add_zero] at d0
              obtain ⟨ad, hA, hcell⟩ := C_at (Kd.C_below HC.out K3.out.below) i hi
              have hg : l.getD i 0 = l[i] := by rw [List.getD_eq_getElem?_getD, List.getElem?_eq_getElem hi]; rfl
              obtain ⟨hr1, hr2⟩ := HR.out _ (List.getElem_mem hi)
              rw [hg] at d2 hat
              have t1 : (((i : Int) % 3) == a % 4) = false := by rw [beq_eq_false_iff_ne]; exact henv
              have t2 : (1 + l[i] % 20 != (k : Int) + 1) = false := by rw [bne_eq_false_iff_eq]; exact hat
              have t3 : decide ((i : Int) ≥ (l.length : Int)) = false := by simp; omega
              have t4 : decide ((i : Int) < 0) = false := by simp
              clear hx henv hat hg
              generalize l[i] = x at *
              subst hA
              go_wp2_with fail
              exact ⟨⟨j + 1, by omega, congrArg (Value.int .i64) (by omega), by go_num⟩, by simp [intOf]; omega⟩
            · obtain rfl : j = ds.length := by omega
              go_wp2_with fail
              exact ⟨⟨k + 1, zs2, by omega, by omega, congrArg (Value.int .i64) (by omega), by go_num, HN, K3⟩, by simp [intOf]; omega⟩
        · obtain rfl : k = 20 := by omega
          obtain rfl := HT.out.end_
          go_wp2_with fail
          refine (cAll w wr _ _ _ HK.out (by simp)).mono ?_
          rintro e' w4 ⟨A4, c4, rfl, r4, k4⟩
          have K4 := hid k4
          clear r4 k4
          go_wp2_with fail
          refine (awake_any w4).mono ?_
          rintro e' w8 ⟨rfl, hf⟩
          go_wp2
          go_ret
          exact ⟨rfl, (K4.out.frNo hf).below⟩
end Go.Proofs.Ytgjgmaeickhhfaa
