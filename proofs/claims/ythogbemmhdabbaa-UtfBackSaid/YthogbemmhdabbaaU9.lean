import Derived.Test.YthogbemmhdabbaaU8
import Derived.Test.YthogbemmhdabbaaK3
set_option linter.unusedSimpArgs false
set_option linter.unusedVariables false
namespace Go.Proofs.Ythogbemmhdabbaa
open Go.RowKit Go.Proofs.YthogbemmhdabbaaW.PrintWords
set_option maxHeartbeats 1000000 in
theorem same_any (w : World) (A B : Option Addr) (ca cb : Nat) (l : List Int) (n : Nat) (hn : l.length = n) (hA : Kd.C (Kd.int .i32) w A n l) (hB : Kd.C (Kd.int .i32) w B n l) :
    Calls Try.prog 9 #[.slice A n ca, .slice B n cb] w fun e w' => e = .returned (.bool true) ∧ ∃ m, w' = w.drewN m := by
  have hmax := Kd.C_max hA
  have HN := hid hn
  clear hn
  go_enter Try.func9, Try.ntmps9
  go_wp2
  go_loopw [5] (fun v5 wr => ∃ (k : Nat), k ≤ n ∧ v5 = .int .i64 k ∧ Drawn0 w wr) (fun v5 _ => n - (intOf v5).toNat)
  case atStart => exact ⟨0, Nat.zero_le _, rfl, Drawn0.refl _⟩
  case round =>
    obtain ⟨k, hk, rfl, hd⟩ := hrel
    by_cases hlt : k < n
    · obtain ⟨ad, e, h0⟩ := C_at (Kd.C_below hA hd.below) k (by rw [HN.out]; exact hlt)
      obtain ⟨bd, e', h1⟩ := C_at (Kd.C_below hB hd.below) k (by rw [HN.out]; exact hlt)
      subst e e'
      generalize l[k]'(by rw [HN.out]; exact hlt) = x at *
      clear hA hB
      go_wp2
      go_quiet (fail)
      go_wp2
      go_roundw
      case rel => exact ⟨k + 1, by omega, by go_num, hd.step _⟩
      case measure => simp [intOf]; omega
    · obtain rfl : k = n := by omega
      clear hA hB
      go_wp2
      go_ret
      obtain ⟨m, hm⟩ := hd.out
      exact ⟨rfl, m, hm⟩
theorem pall_awake : pall [226, 130, 65] = [65533, 65] := by decide
set_option maxHeartbeats 1000000 in
theorem awake_any (w : World) : Calls Try.prog 8 #[] w fun e w' => e = .returned (.bool true) ∧ Fr NoB w w' := by
  go_enter Try.func8, Try.ntmps8
  go_wp2_with fail
  refine (all_any _ _ _ [226, 130, 65] (lit_C .u8 5 w [226, 130, 65] (by decide)) (by decide) (by decide)).mono ?_
  rintro e w1 ⟨v, rfl, hv, hf⟩
  rw [pall_awake] at hv
  obtain ⟨A1, c1, rfl, hcc, hC1⟩ := Kd.R_reads hv
  obtain ⟨ad, e, _⟩ := C_at hC1 0 (by simp)
  subst e
  have h0 := C_zero hC1
  have h1 : w1.cell? ⟨ad.block, ad.off + 1, none⟩ = some (.int .i32 65) := C_succ hC1 0 (by simp)
  clear hv hC1
  go_wp2
  repeat (go_quiet (fail); try go_wp2)
  go_ret
  exact ⟨rfl, by repeat (first | with_reducible exact (Fr.refl _ _) | (with_reducible refine Fr.drewN ?_ _) | (with_reducible exact ((Fr.refl _ _).alloc _).trans hf))⟩
set_option maxHeartbeats 1000000 in
theorem utfAll_walk (A : Option Addr) (cap : Nat) (l : List Int) (w : World) (hC : Kd.C (Kd.int .u8) w A l.length l) (hc : l.length ≤ cap) (hy : l.length * 1 ≤ 140737488351232) (hw : ∀ x ∈ l, (Lit.int .u8 x).wf = true) :
    Calls Try.prog 3 #[.slice A l.length cap] w fun e w' => e = .returned (.bool true) ∧ Below w.heap.size w w' := by
  have hr : ∀ x ∈ l, 0 ≤ x ∧ x ≤ 255 := fun x hx => by
    have := hw x hx
    simp [Lit.wf, IntKind.min, IntKind.max, IntKind.signed, IntKind.bits] at this
    omega
  by_cases hl : l.length ≤ 2000
  · go_enter Try.func3, Try.ntmps3
    go_wp2_with fail
    refine (all_any _ _ _ l hC hr (by omega)).mono ?_
    rintro e w1 ⟨v, rfl, hv, hf⟩
    obtain ⟨A1, c1, rfl, hcc, hC1⟩ := Kd.R_reads hv
    go_wp2_with fail
    refine (refAll_any _ _ _ l (Kd.C_below hC hf.below0) hc hr (by omega)).mono ?_
    rintro e w2 ⟨v2, rfl, hv2, hf2⟩
    obtain ⟨A2, c2, rfl, hcc2, hC2⟩ := Kd.R_reads hv2
    go_wp2_with fail
    refine (same_any _ _ _ _ _ (pall l) _ rfl (Kd.C_below hC1 hf2.below0) hC2).mono ?_
    rintro e w3 ⟨rfl, m, rfl⟩
    go_wp2_with fail
    refine (awake_any _).mono ?_
    rintro e w4 ⟨rfl, hf4⟩
    go_wp2
    go_ret
    exact ⟨rfl, (((hf.trans hf2).drewN m).trans hf4).below0⟩
  · go_enter Try.func3, Try.ntmps3
    go_wp2_with fail
    refine (awake_any _).mono ?_
    rintro e w4 ⟨rfl, hf4⟩
    go_wp2
    go_ret
    exact ⟨rfl, hf4.below0⟩
end Go.Proofs.Ythogbemmhdabbaa
