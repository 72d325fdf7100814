import Derived.Test.YtnengimekcnfhaaQ5
set_option linter.unusedSimpArgs false
set_option linter.unusedVariables false
set_option maxRecDepth 20000
namespace Go.Proofs.Ytnengimekcnfhaa
open Go.RowKit Go.Proofs.YtnengimekcnfhaaW.PrintWords
set_option maxHeartbeats 4000000 in
theorem r13Cells_off (w : World) (gb c : Nat) (cs : List Cl) (v : Value) (t : Wn) (x y : Int) (A : Option Addr) (cap : Nat) (n : Nat) (hg : RG w gb c cs) (hoff : ¬ (Near x ∧ Near y)) (xs : List Wn) (hV : WnS w v xs) :
    Calls Try.prog 42 #[gV gb c, v, t.v, .int .i64 x, .int .i64 y, .slice A n cap] w fun e w' => ∃ gb' c', e = .returned (.tuple #[gV gb' c', .int .i64 0]) ∧ RG w' gb' c' cs ∧ Fr NoB w w' ∧ (gb' = gb ∨ w.heap.size ≤ gb') := by
  have HNx := fun w9 => hid (r13far_any w9 x)
  have HNy := fun w9 => hid (r13far_any w9 y)
  have HRG := hid hg
  obtain ⟨A9, c9, hv, _, _⟩ := hV.shape
  subst hv
  have hZ := Blk.new ((w.alloc (.cells #[.int .i64 10, .int .i64 10, .slice (some ⟨gb, 0, none⟩) 100 c] 59)).alloc (.cells #[.int .i64 t.id, .int .i64 t.env, .int .i64 t.x, .int .i64 t.y, .int .i64 t.w, .int .i64 t.h, .bool t.hid] 73)) 59 [.int .i64 0, .int .i64 0, .slice none 0 0]
  have hB := ((Blk.new w 59 [.int .i64 10, .int .i64 10, .slice (some ⟨gb, 0, none⟩) 100 c]).alloc (.cells #[.int .i64 t.id, .int .i64 t.env, .int .i64 t.x, .int .i64 t.y, .int .i64 t.w, .int .i64 t.h, .bool t.hid] 73)).alloc (.cells #[.int .i64 0, .int .i64 0, .slice none 0 0] 59)
  simp only [World.size_alloc] at hZ
  have hf0 : Fr NoB w (((w.alloc (.cells #[.int .i64 10, .int .i64 10, .slice (some ⟨gb, 0, none⟩) 100 c] 59)).alloc (.cells #[.int .i64 t.id, .int .i64 t.env, .int .i64 t.x, .int .i64 t.y, .int .i64 t.w, .int .i64 t.h, .bool t.hid] 73)).alloc (.cells #[.int .i64 0, .int .i64 0, .slice none 0 0] 59)) := (((Fr.refl _ _).alloc _).alloc _).alloc _
  have HS0 := hid (And.intro hZ (And.intro hB hf0))
  clear hZ hB hf0 hg
  unfold gV Wn.v
  cases n1 : decide (Near x)
  rotate_left
  · have n2 : decide (Near y) = false := decide_eq_false (fun h => hoff ⟨of_decide_eq_true n1, h⟩)
    rw [n1] at HNx
    rw [n2] at HNy
    clear hoff n1 n2
    go_enter Try.func42, Try.ntmps42
    go_wp2
    go_loopw [14, 15] (fun v14 v15 wr => v15 = .int .i64 0 ∧ v14 = .int .i64 0 ∧ Hid (Blk wr (w.heap.size + 1 + 1) 59 [.int .i64 0, .int .i64 0, .slice none 0 0] ∧ Blk wr w.heap.size 59 [.int .i64 10, .int .i64 10, .slice (some ⟨gb, 0, none⟩) 100 c] ∧ Fr NoB w wr)) (fun _ v15 _ => 0)
    case atStart => exact ⟨rfl, rfl, HS0.out⟩
    case round =>
      obtain ⟨rfl, rfl, HR⟩ := hrel
      have m0 := HR.out.2.1.cell 0 rfl
      have m1 := HR.out.2.1.cell 1 rfl
      have m2 := HR.out.2.1.cell 2 rfl
      have ml := HR.out.2.1.lt
      have z0 := HR.out.1.cell 0 rfl
      have z1 := HR.out.1.cell 1 rfl
      have z2 := HR.out.1.cell 2 rfl
      have y0 := HR.out.1.frozen 0
      have y1 := HR.out.1.frozen 1
      have y2 := HR.out.1.frozen 2
      have zl := HR.out.1.lt
      by_cases hn0 : 0 < n
      · go_wp2_with (first | (go_at_call 66; first | (refine (HNx _).out.mono ?_; rintro e' w' ⟨rfl, rfl⟩) | (refine (HNy _).out.mono ?_; rintro e' w' ⟨rfl, rfl⟩)) | fail)
        have hZF := ((HR.out.1.set 0 (.int .i64 10)).set 1 (.int .i64 10)).set 2 (.slice (some ⟨gb, 0, none⟩) 100 c)
        have r0 := hZF.cell 0 rfl
        have r1 := hZF.cell 1 rfl
        have r2 := hZF.cell 2 rfl
        have hs := fun W => (((Fr.refl (At (w.heap.size + 1 + 1)) W).setAt 0 (.int .i64 10)).setAt 1 (.int .i64 10)).setAt 2 (.slice (some ⟨gb, 0, none⟩) 100 c)
        obtain ⟨rest, hv5⟩ := (HRG.out.frd HR.out.2.2).row
        refine bodyPost_ret (v := .tuple #[gV gb c, .int .i64 0]) (by simp [results, Try.results42, go_sem, r0, r1, r2, gV]) rfl ⟨gb, c, rfl, (HRG.out.frd HR.out.2.2).fr (hs _) (fun e => absurd (blk_ty (show Blk _ (w.heap.size + 1 + 1) _ _ from e ▸ hv5.blk) HR.out.1) (by decide)), HR.out.2.2.then_ (hs _) (fun j e => .inr (by have e' : j = w.heap.size + 1 + 1 := e; omega)), .inl rfl⟩
      · obtain rfl : n = 0 := by omega
        go_wp2
        have hZF := ((HR.out.1.set 0 (.int .i64 10)).set 1 (.int .i64 10)).set 2 (.slice (some ⟨gb, 0, none⟩) 100 c)
        have r0 := hZF.cell 0 rfl
        have r1 := hZF.cell 1 rfl
        have r2 := hZF.cell 2 rfl
        have hs := fun W => (((Fr.refl (At (w.heap.size + 1 + 1)) W).setAt 0 (.int .i64 10)).setAt 1 (.int .i64 10)).setAt 2 (.slice (some ⟨gb, 0, none⟩) 100 c)
        obtain ⟨rest, hv5⟩ := (HRG.out.frd HR.out.2.2).row
        refine bodyPost_ret (v := .tuple #[gV gb c, .int .i64 0]) (by simp [results, Try.results42, go_sem, r0, r1, r2, gV]) rfl ⟨gb, c, rfl, (HRG.out.frd HR.out.2.2).fr (hs _) (fun e => absurd (blk_ty (show Blk _ (w.heap.size + 1 + 1) _ _ from e ▸ hv5.blk) HR.out.1) (by decide)), HR.out.2.2.then_ (hs _) (fun j e => .inr (by have e' : j = w.heap.size + 1 + 1 := e; omega)), .inl rfl⟩
  · rw [n1] at HNx
    clear hoff n1 HNy
    go_enter Try.func42, Try.ntmps42
    go_wp2
    go_loopw [14, 15] (fun v14 v15 wr => v15 = .int .i64 0 ∧ v14 = .int .i64 0 ∧ Hid (Blk wr (w.heap.size + 1 + 1) 59 [.int .i64 0, .int .i64 0, .slice none 0 0] ∧ Blk wr w.heap.size 59 [.int .i64 10, .int .i64 10, .slice (some ⟨gb, 0, none⟩) 100 c] ∧ Fr NoB w wr)) (fun _ v15 _ => 0)
    case atStart => exact ⟨rfl, rfl, HS0.out⟩
    case round =>
      obtain ⟨rfl, rfl, HR⟩ := hrel
      have HNy := HNx
      have m0 := HR.out.2.1.cell 0 rfl
      have m1 := HR.out.2.1.cell 1 rfl
      have m2 := HR.out.2.1.cell 2 rfl
      have ml := HR.out.2.1.lt
      have z0 := HR.out.1.cell 0 rfl
      have z1 := HR.out.1.cell 1 rfl
      have z2 := HR.out.1.cell 2 rfl
      have y0 := HR.out.1.frozen 0
      have y1 := HR.out.1.frozen 1
      have y2 := HR.out.1.frozen 2
      have zl := HR.out.1.lt
      by_cases hn0 : 0 < n
      · go_wp2_with (first | (go_at_call 66; first | (refine (HNx _).out.mono ?_; rintro e' w' ⟨rfl, rfl⟩) | (refine (HNy _).out.mono ?_; rintro e' w' ⟨rfl, rfl⟩)) | fail)
        have hZF := ((HR.out.1.set 0 (.int .i64 10)).set 1 (.int .i64 10)).set 2 (.slice (some ⟨gb, 0, none⟩) 100 c)
        have r0 := hZF.cell 0 rfl
        have r1 := hZF.cell 1 rfl
        have r2 := hZF.cell 2 rfl
        have hs := fun W => (((Fr.refl (At (w.heap.size + 1 + 1)) W).setAt 0 (.int .i64 10)).setAt 1 (.int .i64 10)).setAt 2 (.slice (some ⟨gb, 0, none⟩) 100 c)
        obtain ⟨rest, hv5⟩ := (HRG.out.frd HR.out.2.2).row
        refine bodyPost_ret (v := .tuple #[gV gb c, .int .i64 0]) (by simp [results, Try.results42, go_sem, r0, r1, r2, gV]) rfl ⟨gb, c, rfl, (HRG.out.frd HR.out.2.2).fr (hs _) (fun e => absurd (blk_ty (show Blk _ (w.heap.size + 1 + 1) _ _ from e ▸ hv5.blk) HR.out.1) (by decide)), HR.out.2.2.then_ (hs _) (fun j e => .inr (by have e' : j = w.heap.size + 1 + 1 := e; omega)), .inl rfl⟩
      · obtain rfl : n = 0 := by omega
        go_wp2
        have hZF := ((HR.out.1.set 0 (.int .i64 10)).set 1 (.int .i64 10)).set 2 (.slice (some ⟨gb, 0, none⟩) 100 c)
        have r0 := hZF.cell 0 rfl
        have r1 := hZF.cell 1 rfl
        have r2 := hZF.cell 2 rfl
        have hs := fun W => (((Fr.refl (At (w.heap.size + 1 + 1)) W).setAt 0 (.int .i64 10)).setAt 1 (.int .i64 10)).setAt 2 (.slice (some ⟨gb, 0, none⟩) 100 c)
        obtain ⟨rest, hv5⟩ := (HRG.out.frd HR.out.2.2).row
        refine bodyPost_ret (v := .tuple #[gV gb c, .int .i64 0]) (by simp [results, Try.results42, go_sem, r0, r1, r2, gV]) rfl ⟨gb, c, rfl, (HRG.out.frd HR.out.2.2).fr (hs _) (fun e => absurd (blk_ty (show Blk _ (w.heap.size + 1 + 1) _ _ from e ▸ hv5.blk) HR.out.1) (by decide)), HR.out.2.2.then_ (hs _) (fun j e => .inr (by have e' : j = w.heap.size + 1 + 1 := e; omega)), .inl rfl⟩
end Go.Proofs.Ytnengimekcnfhaa
