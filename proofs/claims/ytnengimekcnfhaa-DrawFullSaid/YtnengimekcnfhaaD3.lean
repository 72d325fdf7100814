import Derived.Test.YtnengimekcnfhaaD2
import Derived.Test.YtnengimekcnfhaaD1
set_option linter.unusedSimpArgs false
set_option linter.unusedVariables false
set_option maxRecDepth 20000
namespace Go.Proofs.Ytnengimekcnfhaa
open Go.RowKit Go.Proofs.YtnengimekcnfhaaW.PrintWords
theorem dnear_any (w : World) (n : Int) : Calls Try.prog 29 #[.int .i64 n] w fun e w' => e = .returned (.bool (decide (Near n))) ∧ w' = w := by
  cases h1 : decide (n ≥ -1073741824)
  · have hr : decide (Near n) = false := decide_eq_false (fun h => of_decide_eq_false h1 h.1)
    rw [hr]
    clear hr
    go_enter Try.func29, Try.ntmps29
    go_wp2
    go_ret
    exact ⟨rfl, rfl⟩
  · cases h2 : decide (n ≤ 1073741824)
    · have hr : decide (Near n) = false := decide_eq_false (fun h => of_decide_eq_false h2 h.2)
      rw [hr]
      clear hr
      go_enter Try.func29, Try.ntmps29
      go_wp2
      go_ret
      exact ⟨rfl, rfl⟩
    · have hr : decide (Near n) = true := decide_eq_true ⟨of_decide_eq_true h1, of_decide_eq_true h2⟩
      rw [hr]
      clear hr
      go_enter Try.func29, Try.ntmps29
      go_wp2
      go_ret
      exact ⟨rfl, rfl⟩
/-- What of a rectangle is in a window, told from its corner. -/
def inW (t : Wn) (r : Rc) : Rc := r.both ⟨0, 0, t.w, t.h⟩
set_option maxHeartbeats 2000000 in
theorem places_any (w : World) (t : Wn) (r : Rc) : Calls Try.prog 30 #[t.v, r.v] w fun e w' => ∃ iB wB, e = .returned (.func (.func 57) #[] #[.pointer (some ⟨iB, 0, none⟩), .pointer (some ⟨wB, 0, none⟩)]) ∧ Blk w' iB 23 (inW t r).cells ∧ Blk w' wB 73 t.cells ∧ Fr NoB w w' ∧ w.heap.size ≤ iB ∧ w.heap.size ≤ wB := by
  have hmf : ∀ (fn : Fn) (first cap : Array Value) (w : World), (Instr.makeFunc fn first cap).run Try.prog w = .ok (.func fn first cap) w := fun _ _ _ _ => rfl
  have hf0 : Fr NoB w ((w.alloc (.cells #[.int .i64 t.id, .int .i64 t.env, .int .i64 t.x, .int .i64 t.y, .int .i64 t.w, .int .i64 t.h, .bool t.hid] 73)).alloc (.cells #[.int .i64 r.x, .int .i64 r.y, .int .i64 r.w, .int .i64 r.h] 23)) := ((Fr.refl _ _).alloc _).alloc _
  have HF0 := hid hf0
  have hW0 := (Blk.new w 73 t.cells).alloc (.cells #[.int .i64 r.x, .int .i64 r.y, .int .i64 r.w, .int .i64 r.h] 23)
  have HW0 := hid hW0
  have HBo := fun w => hid (rBoth_any w r ⟨0, 0, t.w, t.h⟩)
  have HBo' : ∀ w, Hid (Calls Try.prog 56 #[.agg #[.int .i64 r.x, .int .i64 r.y, .int .i64 r.w, .int .i64 r.h], .agg #[.int .i64 0, .int .i64 0, .int .i64 t.w, .int .i64 t.h]] w fun e w' => e = .returned (.agg #[.int .i64 (inW t r).x, .int .i64 (inW t r).y, .int .i64 (inW t r).w, .int .i64 (inW t r).h]) ∧ Fr NoB w w') := HBo
  generalize inW t r = z at HBo' ⊢
  have e1 : t.v = .agg #[.int .i64 t.id, .int .i64 t.env, .int .i64 t.x, .int .i64 t.y, .int .i64 t.w, .int .i64 t.h, .bool t.hid] := rfl
  have e2 : r.v = .agg #[.int .i64 r.x, .int .i64 r.y, .int .i64 r.w, .int .i64 r.h] := rfl
  rw [e1, e2]
  clear hf0 hW0 HBo e1 e2
  go_enter Try.func30, Try.ntmps30
  go_wp2_with fail
  refine (HBo' _).out.mono ?_
  rintro e' w1 ⟨rfl, hf1⟩
  have hW1 := hid ((HW0.out.fr hf1 (fun h => h)).alloc (.cells #[.int .i64 z.x, .int .i64 z.y, .int .i64 z.w, .int .i64 z.h] 23))
  have hF1 := hid (HF0.out.trans hf1)
  clear hf1
  go_wp2
  go_ret
  exact ⟨_, _, rfl, Blk.new w1 23 z.cells, hW1.out, hF1.out.alloc _, hF1.out.size, Nat.le_refl _⟩
set_option maxHeartbeats 2000000 in
theorem window_any (w : World) (f b : Nat) (scr : Rc) (v : Value) (xs : List Wn) (next id : Int) (h : SK w b scr v xs next) (hl : xs.length ≤ 4096) :
    Calls Try.prog 28 #[.pointer (some ⟨f, 0, none⟩), .pointer (some ⟨b, 0, none⟩), .int .i64 id] w fun e w' => e = .returned (.tuple #[((getW xs id).getD Wn.nil).v, .int .i64 (if (getW xs id).isSome then 0 else 5)]) ∧ Fr NoB w w' := by
  have hf0 : Fr NoB w (w.alloc (.cells #[.int .i64 0, .int .i64 0, .int .i64 0, .int .i64 0, .int .i64 0, .int .i64 0, .bool false] 73)) := (Fr.refl _ _).alloc _
  have HF0 := hid hf0
  have HG := hid (sGet_any _ b scr v xs next id (h.frd hf0) hl)
  have HB0 := hid (Blk.new w 73 (Wn.cells Wn.nil))
  cases hg : getW xs id with
  | none =>
    rw [hg] at HG
    clear h hf0 hg
    have HG' : Hid (Calls Try.prog 55 #[.pointer (some ⟨b, 0, none⟩), .int .i64 id] (w.alloc (.cells #[.int .i64 0, .int .i64 0, .int .i64 0, .int .i64 0, .int .i64 0, .int .i64 0, .bool false] 73)) fun e w' => e = .returned (.tuple #[.agg #[.int .i64 0, .int .i64 0, .int .i64 0, .int .i64 0, .int .i64 0, .int .i64 0, .bool false], .bool false]) ∧ Fr NoB (w.alloc (.cells #[.int .i64 0, .int .i64 0, .int .i64 0, .int .i64 0, .int .i64 0, .int .i64 0, .bool false] 73)) w') := HG
    clear HG
    have HG := HG'
    clear HG'
    go_enter Try.func28, Try.ntmps28
    go_wp2_with fail
    refine HG.out.mono ?_
    rintro e' w1 ⟨rfl, hf1⟩
    have hB := HB0.out.fr hf1 (fun h => h)
    have hF1 := hid (HF0.out.trans hf1)
    unfold Wn.cells at hB
    have q0 := hB.cell 0 rfl
    have q1 := hB.cell 1 rfl
    have q2 := hB.cell 2 rfl
    have q3 := hB.cell 3 rfl
    have q4 := hB.cell 4 rfl
    have q5 := hB.cell 5 rfl
    have q6 := hB.cell 6 rfl
    have p0 := hB.frozen 0
    have p1 := hB.frozen 1
    have p2 := hB.frozen 2
    have p3 := hB.frozen 3
    have p4 := hB.frozen 4
    have p5 := hB.frozen 5
    have p6 := hB.frozen 6
    have plt := hB.lt
    clear hf1
    go_wp2
    have hBF := (put7_blk (u := Wn.nil) hB Wn.nil).alloc (.cells #[.int .i64 0, .int .i64 0, .int .i64 0, .int .i64 0, .int .i64 0, .int .i64 0, .bool false] 73)
    have r0 := hBF.cell 0 rfl
    have r1 := hBF.cell 1 rfl
    have r2 := hBF.cell 2 rfl
    have r3 := hBF.cell 3 rfl
    have r4 := hBF.cell 4 rfl
    have r5 := hBF.cell 5 rfl
    have r6 := hBF.cell 6 rfl
    unfold put7 at r0 r1 r2 r3 r4 r5 r6
    try dsimp only [Wn.nil] at r0 r1 r2 r3 r4 r5 r6
    refine bodyPost_ret (v := .tuple #[Wn.v Wn.nil, .int .i64 5]) (by simp [results, Try.results28, go_sem, r0, r1, r2, r3, r4, r5, r6, Wn.v, Wn.nil]) rfl ⟨rfl, (put7_fr hF1.out (.inr (Nat.le_refl _)) Wn.nil).alloc _⟩
  | some t =>
    rw [hg] at HG
    clear h hf0 hg
    have HG' : Hid (Calls Try.prog 55 #[.pointer (some ⟨b, 0, none⟩), .int .i64 id] (w.alloc (.cells #[.int .i64 0, .int .i64 0, .int .i64 0, .int .i64 0, .int .i64 0, .int .i64 0, .bool false] 73)) fun e w' => e = .returned (.tuple #[.agg #[.int .i64 t.id, .int .i64 t.env, .int .i64 t.x, .int .i64 t.y, .int .i64 t.w, .int .i64 t.h, .bool t.hid], .bool true]) ∧ Fr NoB (w.alloc (.cells #[.int .i64 0, .int .i64 0, .int .i64 0, .int .i64 0, .int .i64 0, .int .i64 0, .bool false] 73)) w') := HG
    clear HG
    have HG := HG'
    clear HG'
    go_enter Try.func28, Try.ntmps28
    go_wp2_with fail
    refine HG.out.mono ?_
    rintro e' w1 ⟨rfl, hf1⟩
    have hB := HB0.out.fr hf1 (fun h => h)
    have hF1 := hid (HF0.out.trans hf1)
    unfold Wn.cells at hB
    have q0 := hB.cell 0 rfl
    have q1 := hB.cell 1 rfl
    have q2 := hB.cell 2 rfl
    have q3 := hB.cell 3 rfl
    have q4 := hB.cell 4 rfl
    have q5 := hB.cell 5 rfl
    have q6 := hB.cell 6 rfl
    have p0 := hB.frozen 0
    have p1 := hB.frozen 1
    have p2 := hB.frozen 2
    have p3 := hB.frozen 3
    have p4 := hB.frozen 4
    have p5 := hB.frozen 5
    have p6 := hB.frozen 6
    have plt := hB.lt
    clear hf1
    go_wp2
    have hBF := (put7_blk (u := Wn.nil) hB t).alloc (.cells #[.int .i64 t.id, .int .i64 t.env, .int .i64 t.x, .int .i64 t.y, .int .i64 t.w, .int .i64 t.h, .bool t.hid] 73)
    have r0 := hBF.cell 0 rfl
    have r1 := hBF.cell 1 rfl
    have r2 := hBF.cell 2 rfl
    have r3 := hBF.cell 3 rfl
    have r4 := hBF.cell 4 rfl
    have r5 := hBF.cell 5 rfl
    have r6 := hBF.cell 6 rfl
    unfold put7 at r0 r1 r2 r3 r4 r5 r6
    try dsimp only at r0 r1 r2 r3 r4 r5 r6
    refine bodyPost_ret (v := .tuple #[Wn.v t, .int .i64 0]) (by simp [results, Try.results28, go_sem, r0, r1, r2, r3, r4, r5, r6, Wn.v]) rfl ⟨rfl, (put7_fr hF1.out (.inr (Nat.le_refl _)) t).alloc _⟩
end Go.Proofs.Ytnengimekcnfhaa
