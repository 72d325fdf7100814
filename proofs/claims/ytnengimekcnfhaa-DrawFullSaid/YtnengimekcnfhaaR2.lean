import Derived.Test.YtnengimekcnfhaaR1
import Derived.Deep.RegionHeld3
import Derived.Test.YtnengimekcnfhaaWEqStruct
set_option linter.unusedSimpArgs false
set_option linter.unusedVariables false
namespace Go.Proofs.Ytnengimekcnfhaa
open Go.RowKit Go.Proofs.YtnengimekcnfhaaW.PrintWords
theorem rect_eqA (d : Nat) (w : World) (x0 y0 : Int) (x1 y1 : Int) (x2 y2 : Int) (x3 y3 : Int) :
    (Op.equalIn (d + 2) 23 (.agg #[.int .i64 x0, .int .i64 x1, .int .i64 x2, .int .i64 x3]) (.agg #[.int .i64 y0, .int .i64 y1, .int .i64 y2, .int .i64 y3])).run Try.prog w = .ok (x0 == y0 && (x1 == y1 && (x2 == y2 && (x3 == y3)))) w := by
  refine eqA_of Try.underlying23 (by kernel_rfl) ?_
  refine eqf_cons (by rfl) (by go_simp; rfl) (by go_simp; rfl) (by go_simp) ?_
  refine eqf_cons (by rfl) (by go_simp; rfl) (by go_simp; rfl) (by go_simp) ?_
  refine eqf_cons (by rfl) (by go_simp; rfl) (by go_simp; rfl) (by go_simp) ?_
  exact eqf_last (by rfl) (by go_simp; rfl) (by go_simp; rfl) (by go_simp)
theorem Rc.eq_dec (a b : Rc) : (a.x == b.x && (a.y == b.y && (a.w == b.w && (a.h == b.h)))) = decide (a = b) := by
  obtain ⟨a0, a1, a2, a3⟩ := a
  obtain ⟨b0, b1, b2, b3⟩ := b
  rw [Bool.eq_iff_iff]
  simp
/-- '==' of rectangles. -/
theorem rect_eq (a b : Rc) (w : World) : (Op.equalIn 10000 23 (.agg #[.int .i64 a.x, .int .i64 a.y, .int .i64 a.w, .int .i64 a.h]) (.agg #[.int .i64 b.x, .int .i64 b.y, .int .i64 b.w, .int .i64 b.h])).run Try.prog w = .ok (decide (a = b)) w := by
  rw [← Rc.eq_dec a b]
  exact rect_eqA 9998 w _ _ _ _ _ _ _ _
set_option maxHeartbeats 2000000 in
theorem rHas_any (w : World) (a b : Rc) (hne : ¬ b.emp) : Calls Try.prog 52 #[a.v, b.v] w fun e w' => e = .returned (.bool (decide (a.Right ∧ b.Right ∧ a.both b = b))) ∧ Fr NoB w w' := by
  have hA0 := (Blk.new w 23 a.cells).alloc (.cells #[.int .i64 b.x, .int .i64 b.y, .int .i64 b.w, .int .i64 b.h] 23)
  have hC0 := Blk.new (w.alloc (.cells #[.int .i64 a.x, .int .i64 a.y, .int .i64 a.w, .int .i64 a.h] 23)) 23 b.cells
  simp only [World.size_alloc] at hA0 hC0
  have hF0 : Fr NoB w ((w.alloc (.cells #[.int .i64 a.x, .int .i64 a.y, .int .i64 a.w, .int .i64 a.h] 23)).alloc (.cells #[.int .i64 b.x, .int .i64 b.y, .int .i64 b.w, .int .i64 b.h] 23)) := ((Fr.refl _ _).alloc _).alloc _
  have HA := fun w => hid (rRight_any w a)
  have HB := fun w => hid (rRight_any w b)
  unfold Rc.v at HA HB
  have e1 : a.v = .agg #[.int .i64 a.x, .int .i64 a.y, .int .i64 a.w, .int .i64 a.h] := rfl
  have e2 : b.v = .agg #[.int .i64 b.x, .int .i64 b.y, .int .i64 b.w, .int .i64 b.h] := rfl
  rw [e1, e2]
  have HA0 := hid hA0
  have HC0 := hid hC0
  have HF0 := hid hF0
  clear hA0 hC0 hF0
  cases ha : decide a.Right
  · rw [show decide (a.Right ∧ b.Right ∧ a.both b = b) = false from decide_eq_false (fun h => of_decide_eq_false ha h.1)]
    clear e1 e2
    go_enter Try.func52, Try.ntmps52
    go_wp2_with fail
    refine (HA _).out.mono ?_
    rintro e' w1 ⟨rfl, hf1⟩
    rw [ha]
    go_wp2
    go_ret
    exact ⟨rfl, HF0.out.trans hf1⟩
  cases hb : decide b.Right
  · rw [show decide (a.Right ∧ b.Right ∧ a.both b = b) = false from decide_eq_false (fun h => of_decide_eq_false hb h.2.1)]
    clear e1 e2
    go_enter Try.func52, Try.ntmps52
    go_wp2_with fail
    refine (HA _).out.mono ?_
    rintro e' w0 ⟨rfl, hf0⟩
    rw [ha]
    have hC1 := HC0.out.fr hf0 (fun h => h)
    have k0 := hC1.cell 0 rfl
    have k1 := hC1.cell 1 rfl
    have k2 := hC1.cell 2 rfl
    have k3 := hC1.cell 3 rfl
    unfold Rc.cells at hC1
    go_wp2_with fail
    refine (HB _).out.mono ?_
    rintro e' w1 ⟨rfl, hf1⟩
    rw [hb]
    go_wp2
    go_ret
    exact ⟨rfl, (HF0.out.trans hf0).trans hf1⟩
  have hra := of_decide_eq_true ha
  have hrb := of_decide_eq_true hb
  have hd : decide (a.Right ∧ b.Right ∧ a.both b = b) = decide (a.both b = b) := decide_eq_decide.2 ⟨fun h => h.2.2, fun h => ⟨hra, hrb, h⟩⟩
  rw [hd]
  clear hd hra hrb
  have HE := fun w => hid (rEmpty_any w b)
  have hne' : decide b.emp = false := decide_eq_false hne
  rw [hne'] at HE
  have HO := fun w => hid (rBoth_any w a b)
  generalize a.both b = z at HO ⊢
  have hq := fun w => rect_eq z b w
  unfold Rc.v at HO HE
  clear e1 e2 hne hne'
  go_enter Try.func52, Try.ntmps52
  go_wp2_with fail
  refine (HA _).out.mono ?_
  rintro e' w0 ⟨rfl, hf0⟩
  rw [ha]
  have hC1 := HC0.out.fr hf0 (fun h => h)
  have k0 := hC1.cell 0 rfl
  have k1 := hC1.cell 1 rfl
  have k2 := hC1.cell 2 rfl
  have k3 := hC1.cell 3 rfl
  unfold Rc.cells at hC1
  go_wp2_with fail
  refine (HB _).out.mono ?_
  rintro e' w2 ⟨rfl, hf2⟩
  rw [hb]
  have hC2 := hC1.fr hf2 (fun h => h)
  have hA2 := HA0.out.fr (Fr.trans hf0 hf2) (fun h => h)
  have HF2 := hid ((HF0.out.trans hf0).trans hf2)
  have HS : Hid (∀ W, Fr NoB w2 W → (Fr NoB w2 W ∧ W.cell? ⟨w.heap.size, 0, none⟩ = some (.int .i64 a.x) ∧ W.cell? ⟨w.heap.size, 1, none⟩ = some (.int .i64 a.y) ∧ W.cell? ⟨w.heap.size, 2, none⟩ = some (.int .i64 a.w) ∧ W.cell? ⟨w.heap.size, 3, none⟩ = some (.int .i64 a.h) ∧
      W.cell? ⟨w.heap.size + 1, 0, none⟩ = some (.int .i64 b.x) ∧ W.cell? ⟨w.heap.size + 1, 1, none⟩ = some (.int .i64 b.y) ∧ W.cell? ⟨w.heap.size + 1, 2, none⟩ = some (.int .i64 b.w) ∧ W.cell? ⟨w.heap.size + 1, 3, none⟩ = some (.int .i64 b.h))) := fun W hW => by
    have h1 := hA2.fr hW (fun h => h)
    have h2 := hC2.fr hW (fun h => h)
    exact ⟨hW, h1.cell 0 rfl, h1.cell 1 rfl, h1.cell 2 rfl, h1.cell 3 rfl, h2.cell 0 rfl, h2.cell 1 rfl, h2.cell 2 rfl, h2.cell 3 rfl⟩
  clear hC1 hC2 hA2 k0 k1 k2 k3 hf0 hf2
  go_wp2_with fail
  (go_region_held3 (fun W : World => Fr NoB w2 W ∧ W.cell? ⟨w.heap.size, 0, none⟩ = some (.int .i64 a.x) ∧ W.cell? ⟨w.heap.size, 1, none⟩ = some (.int .i64 a.y) ∧ W.cell? ⟨w.heap.size, 2, none⟩ = some (.int .i64 a.w) ∧ W.cell? ⟨w.heap.size, 3, none⟩ = some (.int .i64 a.h) ∧
      W.cell? ⟨w.heap.size + 1, 0, none⟩ = some (.int .i64 b.x) ∧ W.cell? ⟨w.heap.size + 1, 1, none⟩ = some (.int .i64 b.y) ∧ W.cell? ⟨w.heap.size + 1, 2, none⟩ = some (.int .i64 b.w) ∧ W.cell? ⟨w.heap.size + 1, 3, none⟩ = some (.int .i64 b.h)) (first | exact HS.out _ (Fr.drew (Fr.refl _ _)) | exact HS.out _ (Fr.trans (Fr.drew (Fr.refl _ _)) (by assumption)) | exact HS.out _ (Fr.trans (by assumption : Fr NoB w2 _ ∧ _ ∧ _).1 (by assumption)) | exact HS.out _ (by assumption) | fail) (first | (go_at_call 51; refine (HE _).out.mono ?_; rintro e' w6 ⟨rfl, hf6⟩) | (go_at_call 56; refine (HO _).out.mono ?_; rintro e' w7 ⟨rfl, hf7⟩) | fail))
  have hF7 : Fr NoB w2 w7 := (by assumption : Fr NoB w2 w7 ∧ _ ∧ _).1
  go_wp2
  go_ret
  exact ⟨rfl, HF2.out.trans hF7⟩
end Go.Proofs.Ytnengimekcnfhaa
