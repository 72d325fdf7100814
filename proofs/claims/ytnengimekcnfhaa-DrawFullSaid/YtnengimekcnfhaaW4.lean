import Derived.Test.YtnengimekcnfhaaW3
set_option linter.unusedSimpArgs false
set_option linter.unusedVariables false
set_option maxRecDepth 20000
namespace Go.Proofs.Ytnengimekcnfhaa
open Go.RowKit Go.Proofs.YtnengimekcnfhaaW.PrintWords
set_option maxHeartbeats 4000000 in
theorem sfits_any (w : World) (b : Nat) (scr : Rc) (v : Value) (xs : List Wn) (next : Int) (r : Rc) (h : SK w b scr v xs next) :
    Calls Try.prog 26 #[.pointer (some ⟨b, 0, none⟩), r.v] w fun e w' => e = .returned (.bool (decide (Fits scr r))) ∧ Fr NoB w w' := by
  have hf0 : Fr NoB w (w.alloc (.cells #[.int .i64 r.x, .int .i64 r.y, .int .i64 r.w, .int .i64 r.h] 23)) := (Fr.refl _ _).alloc _
  have HF0 := hid hf0
  have hB0 := Blk.new w 23 r.cells
  have hS0 := h.blk.fr hf0 (fun h => h)
  have HR := fun w => hid (rRight_any w r)
  have HE := fun w => hid (rEmpty_any w r)
  have hlt := h.blk.lt
  have e1 : r.v = .agg #[.int .i64 r.x, .int .i64 r.y, .int .i64 r.w, .int .i64 r.h] := rfl
  unfold Rc.v at HR HE
  rw [e1]
  clear e1
  cases hr : decide r.Right
  · rw [show decide (Fits scr r) = false from decide_eq_false (fun h => of_decide_eq_false hr h.1)]
    have q0 := hB0.cell 0 rfl
    have q1 := hB0.cell 1 rfl
    have q2 := hB0.cell 2 rfl
    have q3 := hB0.cell 3 rfl
    have s0 := hS0.cell 0 rfl
    have s1 := hS0.cell 1 rfl
    have s2 := hS0.cell 2 rfl
    have s3 := hS0.cell 3 rfl
    clear h hB0 hS0 hf0
    go_enter Try.func26, Try.ntmps26
    go_wp2_with fail
    first | (go_region_with (first | (go_at_call 49; refine (HR _).out.mono ?_; rintro e' w6 ⟨rfl, hf6⟩; rw [hr]) | fail)) | fail
    all_goals
      go_wp2
      go_ret
      exact ⟨rfl, HF0.out.trans (Fr.trans (Fr.drew (Fr.refl _ _)) hf6)⟩
  cases he : decide r.emp
  · have hr' := of_decide_eq_true hr
    have he' := of_decide_eq_false he
    have hd : decide (Fits scr r) = decide (scr.Right ∧ r.Right ∧ scr.both r = r) := decide_eq_decide.2 ⟨fun h => h.2.2, fun h => ⟨hr', he', h⟩⟩
    rw [hd]
    have HH := fun w => hid (rHas_any w scr r he')
    have HH' : ∀ w, Hid (Calls Try.prog 52 #[.agg #[.int .i64 scr.x, .int .i64 scr.y, .int .i64 scr.w, .int .i64 scr.h], .agg #[.int .i64 r.x, .int .i64 r.y, .int .i64 r.w, .int .i64 r.h]] w fun e w' => e = .returned (.bool (decide (scr.Right ∧ r.Right ∧ scr.both r = r))) ∧ Fr NoB w w') := HH
    generalize decide (scr.Right ∧ r.Right ∧ scr.both r = r) = ans at HH' ⊢
    have hB0' := hid hB0
    have hS0' := hid hS0
    have HS : Hid (∀ W, Fr NoB (w.alloc (.cells #[.int .i64 r.x, .int .i64 r.y, .int .i64 r.w, .int .i64 r.h] 23)) W → (Fr NoB (w.alloc (.cells #[.int .i64 r.x, .int .i64 r.y, .int .i64 r.w, .int .i64 r.h] 23)) W ∧ W.cell? ⟨w.heap.size, 0, none⟩ = some (.int .i64 r.x) ∧ W.cell? ⟨w.heap.size, 1, none⟩ = some (.int .i64 r.y) ∧ W.cell? ⟨w.heap.size, 2, none⟩ = some (.int .i64 r.w) ∧ W.cell? ⟨w.heap.size, 3, none⟩ = some (.int .i64 r.h) ∧
        W.cell? ⟨b, 0, none⟩ = some (.int .i64 scr.x) ∧ W.cell? ⟨b, 1, none⟩ = some (.int .i64 scr.y) ∧ W.cell? ⟨b, 2, none⟩ = some (.int .i64 scr.w) ∧ W.cell? ⟨b, 3, none⟩ = some (.int .i64 scr.h))) := fun W hW => by
      have h1 := hB0'.out.fr hW (fun h => h)
      have h2 := hS0'.out.fr hW (fun h => h)
      exact ⟨hW, h1.cell 0 rfl, h1.cell 1 rfl, h1.cell 2 rfl, h1.cell 3 rfl, h2.cell 0 rfl, h2.cell 1 rfl, h2.cell 2 rfl, h2.cell 3 rfl⟩
    clear h hB0 hS0 hf0 hd HH hr' he'
    go_enter Try.func26, Try.ntmps26
    go_wp2_with fail
    go_region_held3 (fun W : World => Fr NoB (w.alloc (.cells #[.int .i64 r.x, .int .i64 r.y, .int .i64 r.w, .int .i64 r.h] 23)) W ∧ W.cell? ⟨w.heap.size, 0, none⟩ = some (.int .i64 r.x) ∧ W.cell? ⟨w.heap.size, 1, none⟩ = some (.int .i64 r.y) ∧ W.cell? ⟨w.heap.size, 2, none⟩ = some (.int .i64 r.w) ∧ W.cell? ⟨w.heap.size, 3, none⟩ = some (.int .i64 r.h) ∧
        W.cell? ⟨b, 0, none⟩ = some (.int .i64 scr.x) ∧ W.cell? ⟨b, 1, none⟩ = some (.int .i64 scr.y) ∧ W.cell? ⟨b, 2, none⟩ = some (.int .i64 scr.w) ∧ W.cell? ⟨b, 3, none⟩ = some (.int .i64 scr.h)) (first | exact HS.out _ (Fr.drew (Fr.refl _ _)) | exact HS.out _ (Fr.trans (by assumption : Fr NoB _ _ ∧ _ ∧ _).1 (by assumption)) | exact HS.out _ (by assumption) | fail) (first | (go_at_call 49; refine (HR _).out.mono ?_; rintro e' w6 ⟨rfl, hf6⟩; rw [hr]) | (go_at_call 51; refine (HE _).out.mono ?_; rintro e' w7 ⟨rfl, hf7⟩; rw [he]) | (go_at_call 52; refine (HH' _).out.mono ?_; rintro e' w8 ⟨rfl, hf8⟩) | fail)
    have hF8 := (by assumption : Fr NoB _ w8 ∧ _ ∧ _).1
    go_wp2
    go_ret
    exact ⟨rfl, HF0.out.trans hF8⟩
  · rw [show decide (Fits scr r) = false from decide_eq_false (fun h => h.2.1 (of_decide_eq_true he))]
    have q0 := hB0.cell 0 rfl
    have q1 := hB0.cell 1 rfl
    have q2 := hB0.cell 2 rfl
    have q3 := hB0.cell 3 rfl
    have s0 := hS0.cell 0 rfl
    have s1 := hS0.cell 1 rfl
    have s2 := hS0.cell 2 rfl
    have s3 := hS0.cell 3 rfl
    have HB0 := hid hB0
    have HS0 := hid hS0
    clear h hB0 hS0 hf0
    go_enter Try.func26, Try.ntmps26
    go_wp2_with fail
    first | (go_region_with (first | (go_at_call 49; refine (HR _).out.mono ?_; rintro e' w6 ⟨rfl, hf6⟩; rw [hr]; have B6 := HB0.out.fr (Fr.trans (Fr.drew (Fr.refl _ _)) hf6) (fun h => h); have z0 := B6.cell 0 rfl; have z1 := B6.cell 1 rfl; have z2 := B6.cell 2 rfl; have z3 := B6.cell 3 rfl; have S6 := HS0.out.fr (Fr.trans (Fr.drew (Fr.refl _ _)) hf6) (fun h => h); have y0 := S6.cell 0 rfl; have y1 := S6.cell 1 rfl; have y2 := S6.cell 2 rfl; have y3 := S6.cell 3 rfl) | (go_at_call 51; refine (HE _).out.mono ?_; rintro e' w7 ⟨rfl, hf7⟩; rw [he]) | fail)) | fail
    all_goals
      go_wp2
      go_ret
      exact ⟨rfl, HF0.out.trans (Fr.trans (Fr.trans (Fr.drew (Fr.refl _ _)) hf6) hf7)⟩
end Go.Proofs.Ytnengimekcnfhaa
