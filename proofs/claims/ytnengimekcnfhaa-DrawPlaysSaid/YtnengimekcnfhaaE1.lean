import Derived.Test.YtnengimekcnfhaaR1
set_option linter.unusedSimpArgs false
set_option linter.unusedVariables false
set_option maxRecDepth 20000
namespace Go.Proofs.Ytnengimekcnfhaa
open Go.RowKit Go.Proofs.YtnengimekcnfhaaW.PrintWords
theorem rfar_any (w : World) (n : Int) : Calls Try.prog 50 #[.int .i64 n] w fun e w' => e = .returned (.bool (!decide (Near n))) ∧ w' = w := by
  cases h1 : decide (n < -1073741824)
  · cases h2 : decide (n > 1073741824)
    · have hr : decide (Near n) = true := decide_eq_true ⟨by have := of_decide_eq_false h1; omega, by have := of_decide_eq_false h2; omega⟩
      rw [hr]
      clear hr
      go_enter Try.func50, Try.ntmps50
      go_wp2
      go_ret
      exact ⟨rfl, rfl⟩
    · have hr : decide (Near n) = false := decide_eq_false (fun h => by have := of_decide_eq_true h2; have := h.2; omega)
      rw [hr]
      clear hr
      go_enter Try.func50, Try.ntmps50
      go_wp2
      go_ret
      exact ⟨rfl, rfl⟩
  · have hr : decide (Near n) = false := decide_eq_false (fun h => by have := of_decide_eq_true h1; have := h.1; omega)
    rw [hr]
    clear hr
    go_enter Try.func50, Try.ntmps50
    go_wp2
    go_ret
    exact ⟨rfl, rfl⟩
theorem r4Right_any (w : World) (r : Rc) : Calls Try.prog 24 #[r.v] w fun e w' => e = .returned (.bool (decide r.Right)) ∧ Fr NoB w w' := by
  obtain ⟨x, y, rw_, rh⟩ := r
  unfold Rc.v
  cases n1 : decide (Near x)
  · have hr : decide (Rc.Right ⟨x, y, rw_, rh⟩) = false := decide_eq_false (fun h => of_decide_eq_false n1 h.x)
    rw [hr]
    clear hr
    go_enter Try.func24, Try.ntmps24
    go_wp2_with (first | (go_at_call 50; refine (rfar_any _ _).mono ?_; rintro e' w' ⟨rfl, rfl⟩; (first | rw [n1] | rw [n2] | rw [n3] | rw [n4])) | fail)
    go_ret
    exact ⟨rfl, (Fr.refl _ _).alloc _⟩
  cases n2 : decide (Near y)
  · have hr : decide (Rc.Right ⟨x, y, rw_, rh⟩) = false := decide_eq_false (fun h => of_decide_eq_false n2 h.y)
    rw [hr]
    clear hr
    go_enter Try.func24, Try.ntmps24
    go_wp2_with (first | (go_at_call 50; refine (rfar_any _ _).mono ?_; rintro e' w' ⟨rfl, rfl⟩; (first | rw [n1] | rw [n2] | rw [n3] | rw [n4])) | fail)
    go_ret
    exact ⟨rfl, (Fr.refl _ _).alloc _⟩
  cases n3 : decide (Near rw_)
  · have hr : decide (Rc.Right ⟨x, y, rw_, rh⟩) = false := decide_eq_false (fun h => of_decide_eq_false n3 h.w)
    rw [hr]
    clear hr
    go_enter Try.func24, Try.ntmps24
    go_wp2_with (first | (go_at_call 50; refine (rfar_any _ _).mono ?_; rintro e' w' ⟨rfl, rfl⟩; (first | rw [n1] | rw [n2] | rw [n3] | rw [n4])) | fail)
    go_ret
    exact ⟨rfl, (Fr.refl _ _).alloc _⟩
  cases n4 : decide (Near rh)
  · have hr : decide (Rc.Right ⟨x, y, rw_, rh⟩) = false := decide_eq_false (fun h => of_decide_eq_false n4 h.h)
    rw [hr]
    clear hr
    go_enter Try.func24, Try.ntmps24
    go_wp2_with (first | (go_at_call 50; refine (rfar_any _ _).mono ?_; rintro e' w' ⟨rfl, rfl⟩; (first | rw [n1] | rw [n2] | rw [n3] | rw [n4])) | fail)
    go_ret
    exact ⟨rfl, (Fr.refl _ _).alloc _⟩
  cases h5 : decide (rw_ ≥ 0)
  · have hr : decide (Rc.Right ⟨x, y, rw_, rh⟩) = false := decide_eq_false (fun h => of_decide_eq_false h5 h.w0)
    rw [hr]
    clear hr
    go_enter Try.func24, Try.ntmps24
    go_wp2_with (first | (go_at_call 50; refine (rfar_any _ _).mono ?_; rintro e' w' ⟨rfl, rfl⟩; (first | rw [n1] | rw [n2] | rw [n3] | rw [n4])) | fail)
    go_ret
    exact ⟨rfl, (Fr.refl _ _).alloc _⟩
  cases h6 : decide (rh ≥ 0)
  · have hr : decide (Rc.Right ⟨x, y, rw_, rh⟩) = false := decide_eq_false (fun h => of_decide_eq_false h6 h.h0)
    rw [hr]
    clear hr
    go_enter Try.func24, Try.ntmps24
    go_wp2_with (first | (go_at_call 50; refine (rfar_any _ _).mono ?_; rintro e' w' ⟨rfl, rfl⟩; (first | rw [n1] | rw [n2] | rw [n3] | rw [n4])) | fail)
    go_ret
    exact ⟨rfl, (Fr.refl _ _).alloc _⟩
  have hr : decide (Rc.Right ⟨x, y, rw_, rh⟩) = true := decide_eq_true ⟨of_decide_eq_true n1, of_decide_eq_true n2, of_decide_eq_true n3, of_decide_eq_true n4, of_decide_eq_true h5, of_decide_eq_true h6⟩
  rw [hr]
  clear hr
  go_enter Try.func24, Try.ntmps24
  go_wp2_with (first | (go_at_call 50; refine (rfar_any _ _).mono ?_; rintro e' w' ⟨rfl, rfl⟩; (first | rw [n1] | rw [n2] | rw [n3] | rw [n4])) | fail)
  go_ret
  exact ⟨rfl, (Fr.refl _ _).alloc _⟩
/-- May a rectangle be a window's? -/
def FitsIn (W H : Int) (r : Rc) : Prop := r.Right ∧ 0 < r.w ∧ 0 < r.h ∧ 0 ≤ r.x ∧ 0 ≤ r.y ∧ r.x + r.w ≤ W ∧ r.y + r.h ≤ H
instance (W H : Int) (r : Rc) : Decidable (FitsIn W H r) := inferInstanceAs (Decidable (_ ∧ _))
theorem r12Fits_any (w : World) (W H : Int) (r : Rc) : Calls Try.prog 6 #[.int .i64 W, .int .i64 H, r.v] w fun e w' => e = .returned (.bool (decide (FitsIn W H r))) ∧ Fr NoB w w' := by
  have HR := hid (r4Right_any (w.alloc (.cells #[.int .i64 r.x, .int .i64 r.y, .int .i64 r.w, .int .i64 r.h] 23)) r)
  have HB := hid (Blk.new w 23 r.cells)
  unfold Rc.v at *
  cases n0 : decide r.Right
  · have hr : decide (FitsIn W H r) = false := decide_eq_false (fun h => of_decide_eq_false n0 h.1)
    rw [hr]
    clear hr
    go_enter Try.func6, Try.ntmps6
    go_wp2_with (first | (go_at_call 24; refine HR.out.mono ?_; rintro e' w1 ⟨rfl, hf⟩; rw [n0]; have HF := hid hf; clear hf; have b0 := (HB.out.fr HF.out (fun h => h)).cell 0 rfl; have b1 := (HB.out.fr HF.out (fun h => h)).cell 1 rfl; have b2 := (HB.out.fr HF.out (fun h => h)).cell 2 rfl; have b3 := (HB.out.fr HF.out (fun h => h)).cell 3 rfl; have bl := (HB.out.fr HF.out (fun h => h)).lt) | fail)
    go_ret
    exact ⟨rfl, ((Fr.refl _ _).alloc _).trans HF.out⟩
  have hR := of_decide_eq_true n0
  have a1 : IntKind.i64.wrap (r.x + r.w) = r.x + r.w := IntWalk.i64_in _ (by have := hR.x.1; have := hR.x.2; have := hR.w.1; have := hR.w.2; omega)
  have a2 : IntKind.i64.wrap (r.y + r.h) = r.y + r.h := IntWalk.i64_in _ (by have := hR.y.1; have := hR.y.2; have := hR.h.1; have := hR.h.2; omega)
  cases h1 : decide (r.w > 0)
  · have hr : decide (FitsIn W H r) = false := decide_eq_false (fun h => of_decide_eq_false h1 h.2.1)
    clear hR
    rw [hr]
    clear hr
    go_enter Try.func6, Try.ntmps6
    go_wp2_with (first | (go_at_call 24; refine HR.out.mono ?_; rintro e' w1 ⟨rfl, hf⟩; rw [n0]; have HF := hid hf; clear hf; have b0 := (HB.out.fr HF.out (fun h => h)).cell 0 rfl; have b1 := (HB.out.fr HF.out (fun h => h)).cell 1 rfl; have b2 := (HB.out.fr HF.out (fun h => h)).cell 2 rfl; have b3 := (HB.out.fr HF.out (fun h => h)).cell 3 rfl; have bl := (HB.out.fr HF.out (fun h => h)).lt) | fail)
    go_ret
    exact ⟨rfl, ((Fr.refl _ _).alloc _).trans HF.out⟩
  cases h2 : decide (r.h > 0)
  · have hr : decide (FitsIn W H r) = false := decide_eq_false (fun h => of_decide_eq_false h2 h.2.2.1)
    clear hR
    rw [hr]
    clear hr
    go_enter Try.func6, Try.ntmps6
    go_wp2_with (first | (go_at_call 24; refine HR.out.mono ?_; rintro e' w1 ⟨rfl, hf⟩; rw [n0]; have HF := hid hf; clear hf; have b0 := (HB.out.fr HF.out (fun h => h)).cell 0 rfl; have b1 := (HB.out.fr HF.out (fun h => h)).cell 1 rfl; have b2 := (HB.out.fr HF.out (fun h => h)).cell 2 rfl; have b3 := (HB.out.fr HF.out (fun h => h)).cell 3 rfl; have bl := (HB.out.fr HF.out (fun h => h)).lt) | fail)
    go_ret
    exact ⟨rfl, ((Fr.refl _ _).alloc _).trans HF.out⟩
  cases h3 : decide (r.x ≥ 0)
  · have hr : decide (FitsIn W H r) = false := decide_eq_false (fun h => of_decide_eq_false h3 h.2.2.2.1)
    clear hR
    rw [hr]
    clear hr
    go_enter Try.func6, Try.ntmps6
    go_wp2_with (first | (go_at_call 24; refine HR.out.mono ?_; rintro e' w1 ⟨rfl, hf⟩; rw [n0]; have HF := hid hf; clear hf; have b0 := (HB.out.fr HF.out (fun h => h)).cell 0 rfl; have b1 := (HB.out.fr HF.out (fun h => h)).cell 1 rfl; have b2 := (HB.out.fr HF.out (fun h => h)).cell 2 rfl; have b3 := (HB.out.fr HF.out (fun h => h)).cell 3 rfl; have bl := (HB.out.fr HF.out (fun h => h)).lt) | fail)
    go_ret
    exact ⟨rfl, ((Fr.refl _ _).alloc _).trans HF.out⟩
  cases h4 : decide (r.y ≥ 0)
  · have hr : decide (FitsIn W H r) = false := decide_eq_false (fun h => of_decide_eq_false h4 h.2.2.2.2.1)
    clear hR
    rw [hr]
    clear hr
    go_enter Try.func6, Try.ntmps6
    go_wp2_with (first | (go_at_call 24; refine HR.out.mono ?_; rintro e' w1 ⟨rfl, hf⟩; rw [n0]; have HF := hid hf; clear hf; have b0 := (HB.out.fr HF.out (fun h => h)).cell 0 rfl; have b1 := (HB.out.fr HF.out (fun h => h)).cell 1 rfl; have b2 := (HB.out.fr HF.out (fun h => h)).cell 2 rfl; have b3 := (HB.out.fr HF.out (fun h => h)).cell 3 rfl; have bl := (HB.out.fr HF.out (fun h => h)).lt) | fail)
    go_ret
    exact ⟨rfl, ((Fr.refl _ _).alloc _).trans HF.out⟩
  cases h5 : decide (r.x + r.w ≤ W)
  · have hr : decide (FitsIn W H r) = false := decide_eq_false (fun h => of_decide_eq_false h5 h.2.2.2.2.2.1)
    clear hR
    rw [hr]
    clear hr
    go_enter Try.func6, Try.ntmps6
    go_wp2_with (first | (go_at_call 24; refine HR.out.mono ?_; rintro e' w1 ⟨rfl, hf⟩; rw [n0]; have HF := hid hf; clear hf; have b0 := (HB.out.fr HF.out (fun h => h)).cell 0 rfl; have b1 := (HB.out.fr HF.out (fun h => h)).cell 1 rfl; have b2 := (HB.out.fr HF.out (fun h => h)).cell 2 rfl; have b3 := (HB.out.fr HF.out (fun h => h)).cell 3 rfl; have bl := (HB.out.fr HF.out (fun h => h)).lt) | fail)
    go_ret
    exact ⟨rfl, ((Fr.refl _ _).alloc _).trans HF.out⟩
  cases h6 : decide (r.y + r.h ≤ H)
  · have hr : decide (FitsIn W H r) = false := decide_eq_false (fun h => of_decide_eq_false h6 h.2.2.2.2.2.2)
    clear hR
    rw [hr]
    clear hr
    go_enter Try.func6, Try.ntmps6
    go_wp2_with (first | (go_at_call 24; refine HR.out.mono ?_; rintro e' w1 ⟨rfl, hf⟩; rw [n0]; have HF := hid hf; clear hf; have b0 := (HB.out.fr HF.out (fun h => h)).cell 0 rfl; have b1 := (HB.out.fr HF.out (fun h => h)).cell 1 rfl; have b2 := (HB.out.fr HF.out (fun h => h)).cell 2 rfl; have b3 := (HB.out.fr HF.out (fun h => h)).cell 3 rfl; have bl := (HB.out.fr HF.out (fun h => h)).lt) | fail)
    go_ret
    exact ⟨rfl, ((Fr.refl _ _).alloc _).trans HF.out⟩
  have hr : decide (FitsIn W H r) = true := decide_eq_true ⟨hR, of_decide_eq_true h1, of_decide_eq_true h2, of_decide_eq_true h3, of_decide_eq_true h4, of_decide_eq_true h5, of_decide_eq_true h6⟩
  clear hR
  rw [hr]
  clear hr
  go_enter Try.func6, Try.ntmps6
  go_wp2_with (first | (go_at_call 24; refine HR.out.mono ?_; rintro e' w1 ⟨rfl, hf⟩; rw [n0]; have HF := hid hf; clear hf; have b0 := (HB.out.fr HF.out (fun h => h)).cell 0 rfl; have b1 := (HB.out.fr HF.out (fun h => h)).cell 1 rfl; have b2 := (HB.out.fr HF.out (fun h => h)).cell 2 rfl; have b3 := (HB.out.fr HF.out (fun h => h)).cell 3 rfl; have bl := (HB.out.fr HF.out (fun h => h)).lt) | fail)
  go_ret
  exact ⟨rfl, ((Fr.refl _ _).alloc _).trans HF.out⟩
end Go.Proofs.Ytnengimekcnfhaa
