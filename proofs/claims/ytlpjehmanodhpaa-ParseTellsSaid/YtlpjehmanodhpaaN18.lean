import Derived.Test.YtlpjehmanodhpaaN16
import Derived.Test.YtlpjehmanodhpaaN17
set_option linter.unusedSimpArgs false
set_option linter.unusedVariables false
namespace Go.Proofs.Ytlpjehmanodhpaa
open Go.RowKit Go.Proofs.YtlpjehmanodhpaaW.PrintWords
theorem Fa2.at {α β : Type} {R : α → β → Prop} {l : List α} {m : List β} (h : Fa2 R l m) : ∀ k (hk : k < l.length), ∃ y, y ∈ m ∧ m[k]? = some y ∧ R l[k] y := by
  induction h with
  | nil => intro k hk; simp at hk
  | cons h _ ih =>
    intro k hk
    cases k with
    | zero => exact ⟨_, List.mem_cons_self, rfl, h⟩
    | succ k =>
      obtain ⟨y, h1, h2, h3⟩ := ih k (by simpa using hk)
      exact ⟨y, List.mem_cons_of_mem _ h1, by simpa using h2, by simpa using h3⟩
set_option maxHeartbeats 2000000 in
theorem refSameAll_any (w : World) (base1 base2 : Nat) (v1 v2 : Value) (o1 o2 : List SqV) (us : List Sq) (r1 : Row SqV.cells 7 30 w base1 v1 o1) (r2 : Row SqV.cells 7 30 w base2 v2 o2) (h1 : Fa2 (TellOk w) o1 us) (h2 : Fa2 (TellOk w) o2 us) (hl : us.length ≤ 1000000) :
    Calls Try.prog 8 #[v1, v2] w fun e w' => e = .returned (.bool true) ∧ Fr NoB w w' := by
  obtain ⟨A, ca, rfl, _⟩ := Row.shape r1
  obtain ⟨B, cb, rfl, _⟩ := Row.shape r2
  have l1 := h1.length
  have l2 := h2.length
  obtain ⟨n, hn⟩ : ∃ n, n = us.length := ⟨_, rfl⟩
  rw [← hn] at l1 l2 hl
  have R1 := hid r1
  have R2 := hid r2
  have H1 := hid h1
  have H2 := hid h2
  have L1 := hid l1
  have L2 := hid l2
  rw [l1, l2]
  rw [l1] at R1
  rw [l2] at R2
  clear r1 r2 h1 h2 hn l1 l2
  go_enter Try.func8, Try.ntmps8
  go_wp2
  go_loopw [5] (fun v5 wr => ∃ (k : Nat), k ≤ n ∧ v5 = .int .i64 k ∧ Hid (Fr NoB w wr)) (fun v5 _ => n - (intOf v5).toNat)
  case atStart => exact ⟨0, Nat.zero_le _, rfl, Fr.refl _ _⟩
  case round =>
    obtain ⟨k, hk, rfl, HW⟩ := hrel
    by_cases hlt : k < n
    · have k1 : k < o1.length := by rw [L1.out]; exact hlt
      have k2 : k < o2.length := by rw [L2.out]; exact hlt
      obtain ⟨y, _, hy, t1⟩ := H1.out.at k k1
      obtain ⟨y', _, hy', t2⟩ := H2.out.at k k2
      rw [hy] at hy'
      injection hy' with hyy
      subst hyy
      have T1 := hid (t1.fr HW.out (fun _ _ h => h))
      have T2 := hid (t2.fr HW.out (fun _ _ h => h))
      have q1 := R1.out.fr HW.out (fun _ _ h => h)
      have q2 := R2.out.fr HW.out (fun _ _ h => h)
      rw [← L1.out] at q1
      rw [← L2.out] at q2
      obtain ⟨g, cg, e1, _, _⟩ := Row.ptr q1 (by omega)
      obtain ⟨g', cg', e2, _, _⟩ := Row.ptr q2 (by omega)
      injection e1 with e11 e12 e13
      injection e2 with e21 e22 e23
      subst e11 e21
      clear e12 e13 e22 e23 t1 t2 hy
      have a0 := Row.cell q1 SqV.len k k1 0 (by omega) rfl
      have a1 := Row.cell q1 SqV.len k k1 1 (by omega) rfl
      have a2 := Row.cell q1 SqV.len k k1 2 (by omega) rfl
      have a3 := Row.cell q1 SqV.len k k1 3 (by omega) rfl
      have a4 := Row.cell q1 SqV.len k k1 4 (by omega) rfl
      have a5 := Row.cell q1 SqV.len k k1 5 (by omega) rfl
      have a6 := Row.cell q1 SqV.len k k1 6 (by omega) rfl
      have b0 := Row.cell q2 SqV.len k k2 0 (by omega) rfl
      have b1 := Row.cell q2 SqV.len k k2 1 (by omega) rfl
      have b2 := Row.cell q2 SqV.len k k2 2 (by omega) rfl
      have b3 := Row.cell q2 SqV.len k k2 3 (by omega) rfl
      have b4 := Row.cell q2 SqV.len k k2 4 (by omega) rfl
      have b5 := Row.cell q2 SqV.len k k2 5 (by omega) rfl
      have b6 := Row.cell q2 SqV.len k k2 6 (by omega) rfl
      rw [Nat.add_zero] at a0 b0
      clear q1 q2
      generalize o1[k] = s at *
      generalize o2[k] = t at *
      go_wp2
      go_region_with (go_at_call 12; refine (refSame_any _ s t y (T1.out.fr ((Fr.refl NoB wr).drew) (fun _ _ h => h)) (T2.out.fr ((Fr.refl NoB wr).drew) (fun _ _ h => h))).mono ?_; rintro e5 w5 ⟨rfl, hf5⟩; have HF5 := hid hf5; clear hf5)
      all_goals
        go_wp2
        go_roundw
        case rel => exact ⟨k + 1, by omega, by go_num, (HW.out.drew).trans HF5.out⟩
        case measure => simp [intOf]; omega
    · obtain rfl : k = n := by omega
      go_wp2
      go_ret
      exact ⟨rfl, HW.out⟩
end Go.Proofs.Ytlpjehmanodhpaa
