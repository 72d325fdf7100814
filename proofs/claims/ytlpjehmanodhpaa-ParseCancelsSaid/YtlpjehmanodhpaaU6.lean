import Derived.Test.YtlpjehmanodhpaaU5
set_option linter.unusedSimpArgs false
set_option linter.unusedVariables false
namespace Go.Proofs.Ytlpjehmanodhpaa
open Go.RowKit Go.Proofs.YtlpjehmanodhpaaW.PrintWords
set_option maxHeartbeats 1000000 in
theorem whole_any (w : World) (c : Int) (hc0 : 0 ≤ c) (hc1 : c ≤ 255) : Calls Try.prog 38 #[.int .u8 c] w fun e w' => e = .returned (.int .i64 (need c)) ∧ w' = w := by
  rcases (show c < 224 ∨ (224 ≤ c ∧ c < 240) ∨ 240 ≤ c from by omega) with h | ⟨h, h'⟩ | h
  all_goals
    go_enter Try.func38, Try.ntmps38
    go_wp2
    go_ret
    refine ⟨?_, rfl⟩
    unfold need
    first | (rw [if_pos (by omega)]; rfl) | (rw [if_neg (by omega), if_pos (by omega)]; rfl) | (rw [if_neg (by omega), if_neg (by omega)]; rfl)
theorem fitsAll_snoc (a : Int) (t : List Int) (c : Int) : fitsAll a (t ++ [c]) = (fitsAll a t && fits a t c) := by
  cases t with
  | nil => simp [fitsAll, fits]
  | cons x r => simp [fitsAll, fits, List.all_append, Bool.and_assoc]
theorem fitsAll_pre (a : Int) (t r : List Int) (h : fitsAll a t = false) : fitsAll a (t ++ r) = false := by
  cases t with
  | nil => simp [fitsAll] at h
  | cons x q =>
    simp only [fitsAll, List.cons_append, List.all_append] at *
    rcases Bool.and_eq_false_iff.1 h with h | h
    · rw [h, Bool.false_and]
    · rw [h, Bool.false_and, Bool.and_false]
set_option maxHeartbeats 2000000 in
theorem begins_any (w : World) (A : Option Addr) (cap : Nat) (a : Int) (t : List Int) (n : Nat) (hn : n = t.length + 1) (hC : Kd.C (Kd.int .u8) w A n (a :: t)) (hr : ∀ x ∈ a :: t, 0 ≤ x ∧ x ≤ 255) (hl : t.length ≤ 1000000000000) :
    Calls Try.prog 37 #[.slice A n cap] w fun e w' => e = .returned (.bool (beginsL (a :: t))) ∧ w' = w := by
  obtain ⟨ad, e, hc0⟩ := C_at hC 0 (by simp)
  subst e
  have ha := hr a (by simp)
  have hca : w.cell? ad = some (.int .u8 a) := by simpa [Addr.add] using hc0
  simp only [List.getElem_cons_zero] at hc0
  by_cases h1 : firstOk a = true
  · have h1' := of_decide_eq_true h1
    by_cases h2 : ((t.length : Int) + 1 ≤ need a)
    · rcases (show (a < 224 ∧ need a = 2) ∨ (224 ≤ a ∧ a < 240 ∧ need a = 3) ∨ (240 ≤ a ∧ need a = 4) from by unfold need; split <;> (try split) <;> omega) with ⟨h, hna⟩ | ⟨h, h', hna⟩ | ⟨h, hna⟩
      all_goals
        rw [hna] at h2
        have HN := hid hna
        clear hna
        have hn2 : (n : Int) ≤ 4 := by omega
        have HNN := hid hn
        have hn1 : (t.length : Int) + 1 = n := by omega
        clear hn
        go_enter Try.func37, Try.ntmps37
        go_wp2
        go_loop [5] (fun v5 => ∃ k : Nat, 1 ≤ k ∧ k ≤ n ∧ v5 = .int .i64 k ∧ Aside0 (fitsAll a (t.take (k - 1)) = true)) (fun v5 => n - (intOf v5).toNat)
        case atStart => exact ⟨1, by omega, by omega, rfl, ⟨by simp [fitsAll]⟩⟩
        case round =>
          obtain ⟨k, hk0, hk, rfl, hfa⟩ := hrel
          by_cases hlt : k < n
          · obtain ⟨ad', e, hcell⟩ := C_at hC k (by simp; omega)
            obtain rfl : ad = ad' := by injection e
            have hkt : k - 1 < t.length := by omega
            have hx : (a :: t)[k]'(by simp; omega) = t[k - 1] := by
              obtain ⟨j, rfl⟩ : ∃ j, k = j + 1 := ⟨k - 1, by omega⟩
              rfl
            rw [hx] at hcell
            have HT := hid (List.take_succ_eq_append_getElem hkt)
            have hrx := hr t[k - 1] (List.mem_cons_of_mem _ (List.getElem_mem hkt))
            generalize hxx : t[k - 1] = x at *
            clear hx hxx e
            have hfs := fitsAll_snoc a (t.take (k - 1)) x
            rw [hfa.out, ← HT.out, show k - 1 + 1 = k from by omega] at hfs
            have hfs : Hid (fitsAll a (t.take k) = (true && fits a (t.take (k - 1)) x)) := hfs
            have HTD := hid (List.take_append_drop k t)
            by_cases hk1 : k = 1
            · have hk2 : ((k : Int) == 1) = true := by simp; omega
              have HY : Hid (t.take (k - 1) = []) := by rw [hk1]; rfl
              clear hk1
              go_wp2
              all_goals
                simp only [beq_iff_eq, beq_eq_false_iff_ne, ne_eq] at *
                first
                | (go_round
                   case rel => exact ⟨k + 1, by omega, by omega, by go_num, ⟨by
                    show fitsAll a (t.take k) = true
                    rw [hfs.out, HY.out]; simp only [fits, lo, hi, Bool.true_and]; apply decide_eq_true; (repeat' split) <;> omega⟩⟩
                   case measure => simp [intOf]; omega)
                | (go_ret
                   refine ⟨?_, rfl⟩
                   have h9 : fitsAll a (t.take k) = false := by
                    rw [hfs.out, HY.out]; simp only [fits, lo, hi, Bool.true_and]; apply decide_eq_false; (repeat' split) <;> omega
                   have h10 := fitsAll_pre a _ (t.drop k) h9
                   rw [HTD.out] at h10
                   have hB : beginsL (a :: t) = false := by simp only [beginsL, h10, Bool.and_false]
                   rw [hB]
                   rfl)
            · have hk2 : ((k : Int) == 1) = false := by simp; omega
              have hne : t.take (k - 1) ≠ [] := by
                intro e
                have := congrArg List.length e
                rw [List.length_take, List.length_nil] at this
                omega
              obtain ⟨y, q, hyq⟩ := List.exists_cons_of_ne_nil hne
              have HY := hid hyq
              clear hyq hne
              go_wp2
              all_goals
                simp only [beq_iff_eq, beq_eq_false_iff_ne, ne_eq] at *
                first
                | (go_round
                   case rel => exact ⟨k + 1, by omega, by omega, by go_num, ⟨by
                    show fitsAll a (t.take k) = true
                    rw [hfs.out, HY.out]; simp only [fits, Bool.true_and]; apply decide_eq_true; omega⟩⟩
                   case measure => simp [intOf]; omega)
                | (go_ret
                   refine ⟨?_, rfl⟩
                   have h9 : fitsAll a (t.take k) = false := by
                    rw [hfs.out, HY.out]; simp only [fits, Bool.true_and]; apply decide_eq_false; omega
                   have h10 := fitsAll_pre a _ (t.drop k) h9
                   rw [HTD.out] at h10
                   have hB : beginsL (a :: t) = false := by simp only [beginsL, h10, Bool.and_false]
                   rw [hB]
                   rfl)
          · obtain rfl : k = n := by omega
            go_wp2
            go_ret
            refine ⟨?_, rfl⟩
            have h9 := hfa.out
            rw [List.take_of_length_le (by omega)] at h9
            have hB : beginsL (a :: t) = true := by
              simp only [beginsL, h1, h9, HN.out, Bool.and_true, Bool.true_and]
              exact decide_eq_true h2
            rw [hB]
            rfl
    · have hb : beginsL (a :: t) = false := by simp only [beginsL, decide_eq_false h2, Bool.false_and, Bool.and_false]
      rw [hb]
      rcases (show (a < 224 ∧ need a = 2) ∨ (224 ≤ a ∧ a < 240 ∧ need a = 3) ∨ (240 ≤ a ∧ need a = 4) from by unfold need; split <;> (try split) <;> omega) with ⟨h, hna⟩ | ⟨h, h', hna⟩ | ⟨h, hna⟩
      all_goals
        rw [hna] at h2
        clear hna
        have hn2 : ¬ ((n : Int) ≤ 4) ∨ True := .inr trivial
        have hn3 : (n : Int) = t.length + 1 := by omega
        have h3 : (t.length : Int) + 1 = n := by omega
        rw [h3] at h2
        clear hn h3 hn3 hn2
        go_enter Try.func37, Try.ntmps37
        go_wp2
        go_ret
        exact ⟨rfl, rfl⟩
  · have hb : beginsL (a :: t) = false := by simp only [beginsL, Bool.eq_false_iff.2 h1, Bool.false_and]
    have h1' := of_decide_eq_false (Bool.eq_false_iff.2 h1)
    have h1' : a < 194 ∨ (¬ a < 194 ∧ 244 < a) := by omega
    rw [hb]
    clear h1
    rcases h1' with h | ⟨h, h'⟩
    all_goals
      go_enter Try.func37, Try.ntmps37
      go_wp2
      go_ret
      exact ⟨rfl, rfl⟩
end Go.Proofs.Ytlpjehmanodhpaa
