import Derived.Test.YtnengimekcnfhaaQ7
set_option linter.unusedSimpArgs false
set_option linter.unusedVariables false
set_option maxRecDepth 20000
namespace Go.Proofs.Ytnengimekcnfhaa
open Go.RowKit Go.Proofs.YtnengimekcnfhaaW.PrintWords
set_option maxHeartbeats 4000000 in
theorem r13Fill_off (w : World) (gb g9 : Nat) (cs : List Cl) (v : Value) (t : Wn) (r : Rc) (c : Cl) (hg : RG w gb g9 cs) (xs : List Wn) (hV : WnS w v xs) (ht : FitsIn 10 10 t.r) (hoff : ¬ r.Right) :
    Calls Try.prog 43 #[gV gb g9, v, t.v, r.v, c.v] w fun e w' => ∃ gb' c', e = .returned (.tuple #[gV gb' c', .int .i64 0]) ∧ RG w' gb' c' cs ∧ Fr NoB w w' ∧ (gb' = gb ∨ w.heap.size ≤ gb') := by
  obtain ⟨g1, g2, g3, g4, g5, g6, g7⟩ : t.r.Right ∧ 0 < t.w ∧ 0 < t.h ∧ 0 ≤ t.x ∧ 0 ≤ t.y ∧ t.x + t.w ≤ 10 ∧ t.y + t.h ≤ 10 := ht
  have HRR := fun w9 => hid (r4Right_any w9 r)
  have HRG := hid hg
  obtain ⟨A9, c9, hv, _, _⟩ := hV.shape
  subst hv
  have a0 := ((((Blk.new w 59 [.int .i64 10, .int .i64 10, .slice (some ⟨gb, 0, none⟩) 100 g9]).alloc (.cells #[.int .i64 t.id, .int .i64 t.env, .int .i64 t.x, .int .i64 t.y, .int .i64 t.w, .int .i64 t.h, .bool t.hid] 73)).alloc (.cells #[.int .i64 r.x, .int .i64 r.y, .int .i64 r.w, .int .i64 r.h] 23)).alloc (.cells #[.int .i32 c.r, .int .i64 c.fg, .int .i64 c.bg, .int .i64 c.fl] 38)).alloc (.cells #[.int .i64 0, .int .i64 0, .slice none 0 0] 59)
  have a1 := (((Blk.new (w.alloc (.cells #[.int .i64 10, .int .i64 10, .slice (some ⟨gb, 0, none⟩) 100 g9] 59)) 73 [.int .i64 t.id, .int .i64 t.env, .int .i64 t.x, .int .i64 t.y, .int .i64 t.w, .int .i64 t.h, .bool t.hid]).alloc (.cells #[.int .i64 r.x, .int .i64 r.y, .int .i64 r.w, .int .i64 r.h] 23)).alloc (.cells #[.int .i32 c.r, .int .i64 c.fg, .int .i64 c.bg, .int .i64 c.fl] 38)).alloc (.cells #[.int .i64 0, .int .i64 0, .slice none 0 0] 59)
  have a2 := ((Blk.new ((w.alloc (.cells #[.int .i64 10, .int .i64 10, .slice (some ⟨gb, 0, none⟩) 100 g9] 59)).alloc (.cells #[.int .i64 t.id, .int .i64 t.env, .int .i64 t.x, .int .i64 t.y, .int .i64 t.w, .int .i64 t.h, .bool t.hid] 73)) 23 [.int .i64 r.x, .int .i64 r.y, .int .i64 r.w, .int .i64 r.h]).alloc (.cells #[.int .i32 c.r, .int .i64 c.fg, .int .i64 c.bg, .int .i64 c.fl] 38)).alloc (.cells #[.int .i64 0, .int .i64 0, .slice none 0 0] 59)
  have a3 := (Blk.new (((w.alloc (.cells #[.int .i64 10, .int .i64 10, .slice (some ⟨gb, 0, none⟩) 100 g9] 59)).alloc (.cells #[.int .i64 t.id, .int .i64 t.env, .int .i64 t.x, .int .i64 t.y, .int .i64 t.w, .int .i64 t.h, .bool t.hid] 73)).alloc (.cells #[.int .i64 r.x, .int .i64 r.y, .int .i64 r.w, .int .i64 r.h] 23)) 38 [.int .i32 c.r, .int .i64 c.fg, .int .i64 c.bg, .int .i64 c.fl]).alloc (.cells #[.int .i64 0, .int .i64 0, .slice none 0 0] 59)
  have a4 := Blk.new ((((w.alloc (.cells #[.int .i64 10, .int .i64 10, .slice (some ⟨gb, 0, none⟩) 100 g9] 59)).alloc (.cells #[.int .i64 t.id, .int .i64 t.env, .int .i64 t.x, .int .i64 t.y, .int .i64 t.w, .int .i64 t.h, .bool t.hid] 73)).alloc (.cells #[.int .i64 r.x, .int .i64 r.y, .int .i64 r.w, .int .i64 r.h] 23)).alloc (.cells #[.int .i32 c.r, .int .i64 c.fg, .int .i64 c.bg, .int .i64 c.fl] 38)) 59 [.int .i64 0, .int .i64 0, .slice none 0 0]
  simp only [World.size_alloc] at a1 a2 a3 a4
  have hf0 : Fr NoB w (((((w.alloc (.cells #[.int .i64 10, .int .i64 10, .slice (some ⟨gb, 0, none⟩) 100 g9] 59)).alloc (.cells #[.int .i64 t.id, .int .i64 t.env, .int .i64 t.x, .int .i64 t.y, .int .i64 t.w, .int .i64 t.h, .bool t.hid] 73)).alloc (.cells #[.int .i64 r.x, .int .i64 r.y, .int .i64 r.w, .int .i64 r.h] 23)).alloc (.cells #[.int .i32 c.r, .int .i64 c.fg, .int .i64 c.bg, .int .i64 c.fl] 38)).alloc (.cells #[.int .i64 0, .int .i64 0, .slice none 0 0] 59)) := (((((Fr.refl _ _).alloc _).alloc _).alloc _).alloc _).alloc _
  have HS0 := hid (And.intro a0 (And.intro a1 (And.intro a2 (And.intro a3 (And.intro a4 hf0)))))
  clear a0 a1 a2 a3 a4 hf0 hg g1
  unfold gV Wn.v Rc.v Cl.v
  unfold Rc.v at HRR
  rw [show decide r.Right = false from decide_eq_false hoff] at HRR
  go_enter Try.func43, Try.ntmps43
  go_wp2
  go_loopw [12, 13] (fun v12 v13 wr => v13 = .int .i64 0 ∧ v12 = .int .i64 0 ∧ Hid (Blk wr (w.heap.size) 59 [.int .i64 10, .int .i64 10, .slice (some ⟨gb, 0, none⟩) 100 g9] ∧ Blk wr (w.heap.size + 1) 73 [.int .i64 t.id, .int .i64 t.env, .int .i64 t.x, .int .i64 t.y, .int .i64 t.w, .int .i64 t.h, .bool t.hid] ∧ Blk wr (w.heap.size + 1 + 1) 23 [.int .i64 r.x, .int .i64 r.y, .int .i64 r.w, .int .i64 r.h] ∧ Blk wr (w.heap.size + 1 + 1 + 1) 38 [.int .i32 c.r, .int .i64 c.fg, .int .i64 c.bg, .int .i64 c.fl] ∧ Blk wr (w.heap.size + 1 + 1 + 1 + 1) 59 [.int .i64 0, .int .i64 0, .slice none 0 0] ∧ Fr NoB w wr)) (fun _ _ _ => 0)
  case atStart => exact ⟨rfl, rfl, HS0.out⟩
  case round =>
    obtain ⟨rfl, rfl, HR⟩ := hrel
    obtain ⟨q0, q1, q2, q3, q4, hfr⟩ := HR.out
    have c0_0 := q0.cell 0 rfl
    have c0_1 := q0.cell 1 rfl
    have c0_2 := q0.cell 2 rfl
    have l0 := q0.lt
    have c1_0 := q1.cell 0 rfl
    have c1_1 := q1.cell 1 rfl
    have c1_2 := q1.cell 2 rfl
    have c1_3 := q1.cell 3 rfl
    have c1_4 := q1.cell 4 rfl
    have c1_5 := q1.cell 5 rfl
    have c1_6 := q1.cell 6 rfl
    have l1 := q1.lt
    have c2_0 := q2.cell 0 rfl
    have c2_1 := q2.cell 1 rfl
    have c2_2 := q2.cell 2 rfl
    have c2_3 := q2.cell 3 rfl
    have l2 := q2.lt
    have c3_0 := q3.cell 0 rfl
    have c3_1 := q3.cell 1 rfl
    have c3_2 := q3.cell 2 rfl
    have c3_3 := q3.cell 3 rfl
    have l3 := q3.lt
    have c4_0 := q4.cell 0 rfl
    have c4_1 := q4.cell 1 rfl
    have c4_2 := q4.cell 2 rfl
    have l4 := q4.lt
    have y0 := q4.frozen 0
    have y1 := q4.frozen 1
    have y2 := q4.frozen 2
    have HZ := hid q4
    have HFR := hid hfr
    clear HR hfr q0 q1 q2 q3 q4
    go_wp2_with fail
    refine (HRR _).out.mono ?_
    rintro e' w2 ⟨rfl, hf2⟩
    have HZ := hid (HZ.out.fr hf2 (fun h => h))
    have HFR := hid (HFR.out.trans hf2)
    have d0 := cellto c0_0 hf2
    have d1 := cellto c0_1 hf2
    have d2 := cellto c0_2 hf2
    have dl := Nat.lt_of_lt_of_le l0 hf2.size
    have z0 := HZ.out.cell 0 rfl
    have z1 := HZ.out.cell 1 rfl
    have z2 := HZ.out.cell 2 rfl
    have z3 := HZ.out.frozen 0
    have z4 := HZ.out.frozen 1
    have z5 := HZ.out.frozen 2
    have zl := HZ.out.lt
    clear hf2
    go_wp2
    have hZF := ((HZ.out.set 0 (.int .i64 10)).set 1 (.int .i64 10)).set 2 (.slice (some ⟨gb, 0, none⟩) 100 g9)
    have r0 := hZF.cell 0 rfl
    have r1 := hZF.cell 1 rfl
    have r2 := hZF.cell 2 rfl
    have hs := fun W => (((Fr.refl (At (w.heap.size + 1 + 1 + 1 + 1)) W).setAt 0 (.int .i64 10)).setAt 1 (.int .i64 10)).setAt 2 (.slice (some ⟨gb, 0, none⟩) 100 g9)
    obtain ⟨rest, hv5⟩ := (HRG.out.frd HFR.out).row
    refine bodyPost_ret (v := .tuple #[gV gb g9, .int .i64 0]) (by simp [results, Try.results43, go_sem, r0, r1, r2, gV]) rfl ⟨gb, g9, rfl, (HRG.out.frd HFR.out).fr (hs _) (fun e => absurd (blk_ty (show Blk _ (w.heap.size + 1 + 1 + 1 + 1) _ _ from e ▸ hv5.blk) HZ.out) (by decide)), HFR.out.then_ (hs _) (fun j e => .inr (by have e' : j = w.heap.size + 1 + 1 + 1 + 1 := e; omega)), .inl rfl⟩
set_option maxHeartbeats 4000000 in
theorem r13Copy_off (w : World) (gb g9 : Nat) (cs : List Cl) (v : Value) (t : Wn) (r : Rc) (x y : Int) (hg : RG w gb g9 cs) (xs : List Wn) (hV : WnS w v xs) (ht : FitsIn 10 10 t.r) (hoff : ¬ (r.Right ∧ Near x ∧ Near y)) :
    Calls Try.prog 44 #[gV gb g9, v, t.v, r.v, .int .i64 x, .int .i64 y] w fun e w' => ∃ gb' c', e = .returned (.tuple #[gV gb' c', .int .i64 0]) ∧ RG w' gb' c' cs ∧ Fr NoB w w' ∧ (gb' = gb ∨ w.heap.size ≤ gb') := by
  obtain ⟨g1, g2, g3, g4, g5, g6, g7⟩ : t.r.Right ∧ 0 < t.w ∧ 0 < t.h ∧ 0 ≤ t.x ∧ 0 ≤ t.y ∧ t.x + t.w ≤ 10 ∧ t.y + t.h ≤ 10 := ht
  have HRR := fun w9 => hid (r4Right_any w9 r)
  have HRG := hid hg
  obtain ⟨A9, c9, hv, _, _⟩ := hV.shape
  subst hv
  have a0 := ((((Blk.new w 59 [.int .i64 10, .int .i64 10, .slice (some ⟨gb, 0, none⟩) 100 g9]).alloc (.cells #[.int .i64 t.id, .int .i64 t.env, .int .i64 t.x, .int .i64 t.y, .int .i64 t.w, .int .i64 t.h, .bool t.hid] 73)).alloc (.cells #[.int .i64 r.x, .int .i64 r.y, .int .i64 r.w, .int .i64 r.h] 23)).alloc (.cells #[.int .i64 0, .int .i64 0, .slice none 0 0] 59)).alloc (.cells #[.int .i64 10, .int .i64 10, .slice (some ⟨gb, 0, none⟩) 100 g9] 59)
  have a1 := (((Blk.new (w.alloc (.cells #[.int .i64 10, .int .i64 10, .slice (some ⟨gb, 0, none⟩) 100 g9] 59)) 73 [.int .i64 t.id, .int .i64 t.env, .int .i64 t.x, .int .i64 t.y, .int .i64 t.w, .int .i64 t.h, .bool t.hid]).alloc (.cells #[.int .i64 r.x, .int .i64 r.y, .int .i64 r.w, .int .i64 r.h] 23)).alloc (.cells #[.int .i64 0, .int .i64 0, .slice none 0 0] 59)).alloc (.cells #[.int .i64 10, .int .i64 10, .slice (some ⟨gb, 0, none⟩) 100 g9] 59)
  have a2 := ((Blk.new ((w.alloc (.cells #[.int .i64 10, .int .i64 10, .slice (some ⟨gb, 0, none⟩) 100 g9] 59)).alloc (.cells #[.int .i64 t.id, .int .i64 t.env, .int .i64 t.x, .int .i64 t.y, .int .i64 t.w, .int .i64 t.h, .bool t.hid] 73)) 23 [.int .i64 r.x, .int .i64 r.y, .int .i64 r.w, .int .i64 r.h]).alloc (.cells #[.int .i64 0, .int .i64 0, .slice none 0 0] 59)).alloc (.cells #[.int .i64 10, .int .i64 10, .slice (some ⟨gb, 0, none⟩) 100 g9] 59)
  have a3 := (Blk.new (((w.alloc (.cells #[.int .i64 10, .int .i64 10, .slice (some ⟨gb, 0, none⟩) 100 g9] 59)).alloc (.cells #[.int .i64 t.id, .int .i64 t.env, .int .i64 t.x, .int .i64 t.y, .int .i64 t.w, .int .i64 t.h, .bool t.hid] 73)).alloc (.cells #[.int .i64 r.x, .int .i64 r.y, .int .i64 r.w, .int .i64 r.h] 23)) 59 [.int .i64 0, .int .i64 0, .slice none 0 0]).alloc (.cells #[.int .i64 10, .int .i64 10, .slice (some ⟨gb, 0, none⟩) 100 g9] 59)
  have a4 := Blk.new ((((w.alloc (.cells #[.int .i64 10, .int .i64 10, .slice (some ⟨gb, 0, none⟩) 100 g9] 59)).alloc (.cells #[.int .i64 t.id, .int .i64 t.env, .int .i64 t.x, .int .i64 t.y, .int .i64 t.w, .int .i64 t.h, .bool t.hid] 73)).alloc (.cells #[.int .i64 r.x, .int .i64 r.y, .int .i64 r.w, .int .i64 r.h] 23)).alloc (.cells #[.int .i64 0, .int .i64 0, .slice none 0 0] 59)) 59 [.int .i64 10, .int .i64 10, .slice (some ⟨gb, 0, none⟩) 100 g9]
  simp only [World.size_alloc] at a1 a2 a3 a4
  have hf0 : Fr NoB w (((((w.alloc (.cells #[.int .i64 10, .int .i64 10, .slice (some ⟨gb, 0, none⟩) 100 g9] 59)).alloc (.cells #[.int .i64 t.id, .int .i64 t.env, .int .i64 t.x, .int .i64 t.y, .int .i64 t.w, .int .i64 t.h, .bool t.hid] 73)).alloc (.cells #[.int .i64 r.x, .int .i64 r.y, .int .i64 r.w, .int .i64 r.h] 23)).alloc (.cells #[.int .i64 0, .int .i64 0, .slice none 0 0] 59)).alloc (.cells #[.int .i64 10, .int .i64 10, .slice (some ⟨gb, 0, none⟩) 100 g9] 59)) := (((((Fr.refl _ _).alloc _).alloc _).alloc _).alloc _).alloc _
  have HS0 := hid (And.intro a0 (And.intro a1 (And.intro a2 (And.intro a3 (And.intro a4 hf0)))))
  clear a0 a1 a2 a3 a4 hf0 hg g1
  unfold gV Wn.v Rc.v
  unfold Rc.v at HRR
  have HNx := fun w9 => hid (r13far_any w9 x)
  have HNy := fun w9 => hid (r13far_any w9 y)
  cases n0 : decide r.Right
  · rw [n0] at HRR
    clear hoff HNx HNy
    go_enter Try.func44, Try.ntmps44
    go_wp2
    go_loopw [14, 16] (fun v14 v16 wr => v16 = .int .i64 0 ∧ v14 = .int .i64 0 ∧ Hid (Blk wr (w.heap.size) 59 [.int .i64 10, .int .i64 10, .slice (some ⟨gb, 0, none⟩) 100 g9] ∧ Blk wr (w.heap.size + 1) 73 [.int .i64 t.id, .int .i64 t.env, .int .i64 t.x, .int .i64 t.y, .int .i64 t.w, .int .i64 t.h, .bool t.hid] ∧ Blk wr (w.heap.size + 1 + 1) 23 [.int .i64 r.x, .int .i64 r.y, .int .i64 r.w, .int .i64 r.h] ∧ Blk wr (w.heap.size + 1 + 1 + 1) 59 [.int .i64 0, .int .i64 0, .slice none 0 0] ∧ Blk wr (w.heap.size + 1 + 1 + 1 + 1) 59 [.int .i64 10, .int .i64 10, .slice (some ⟨gb, 0, none⟩) 100 g9] ∧ Fr NoB w wr)) (fun _ _ _ => 0)
    case atStart => exact ⟨rfl, rfl, HS0.out⟩
    case round =>
      obtain ⟨rfl, rfl, HR⟩ := hrel
      obtain ⟨q0, q1, q2, q3, q4, hfr⟩ := HR.out
      have c0_0 := q0.cell 0 rfl
      have c0_1 := q0.cell 1 rfl
      have c0_2 := q0.cell 2 rfl
      have l0 := q0.lt
      have c1_0 := q1.cell 0 rfl
      have c1_1 := q1.cell 1 rfl
      have c1_2 := q1.cell 2 rfl
      have c1_3 := q1.cell 3 rfl
      have c1_4 := q1.cell 4 rfl
      have c1_5 := q1.cell 5 rfl
      have c1_6 := q1.cell 6 rfl
      have l1 := q1.lt
      have c2_0 := q2.cell 0 rfl
      have c2_1 := q2.cell 1 rfl
      have c2_2 := q2.cell 2 rfl
      have c2_3 := q2.cell 3 rfl
      have l2 := q2.lt
      have c3_0 := q3.cell 0 rfl
      have c3_1 := q3.cell 1 rfl
      have c3_2 := q3.cell 2 rfl
      have l3 := q3.lt
      have c4_0 := q4.cell 0 rfl
      have c4_1 := q4.cell 1 rfl
      have c4_2 := q4.cell 2 rfl
      have l4 := q4.lt
      have y0 := q3.frozen 0
      have y1 := q3.frozen 1
      have y2 := q3.frozen 2
      have HZ := hid q3
      have HFR := hid hfr
      clear HR hfr q0 q1 q2 q3 q4
      go_wp2_with fail
      refine (HRR _).out.mono ?_
      rintro e' w2 ⟨rfl, hf2⟩
      have HZ := hid (HZ.out.fr hf2 (fun h => h))
      have HFR := hid (HFR.out.trans hf2)
      have d0 := cellto c0_0 hf2
      have d1 := cellto c0_1 hf2
      have d2 := cellto c0_2 hf2
      have dl := Nat.lt_of_lt_of_le l0 hf2.size
      have z0 := HZ.out.cell 0 rfl
      have z1 := HZ.out.cell 1 rfl
      have z2 := HZ.out.cell 2 rfl
      have z3 := HZ.out.frozen 0
      have z4 := HZ.out.frozen 1
      have z5 := HZ.out.frozen 2
      have zl := HZ.out.lt
      clear hf2
      go_wp2
      have hZF := ((HZ.out.set 0 (.int .i64 10)).set 1 (.int .i64 10)).set 2 (.slice (some ⟨gb, 0, none⟩) 100 g9)
      have r0 := hZF.cell 0 rfl
      have r1 := hZF.cell 1 rfl
      have r2 := hZF.cell 2 rfl
      have hs := fun W => (((Fr.refl (At (w.heap.size + 1 + 1 + 1)) W).setAt 0 (.int .i64 10)).setAt 1 (.int .i64 10)).setAt 2 (.slice (some ⟨gb, 0, none⟩) 100 g9)
      obtain ⟨rest, hv5⟩ := (HRG.out.frd HFR.out).row
      refine bodyPost_ret (v := .tuple #[gV gb g9, .int .i64 0]) (by simp [results, Try.results44, go_sem, r0, r1, r2, gV]) rfl ⟨gb, g9, rfl, (HRG.out.frd HFR.out).fr (hs _) (fun e => absurd (blk_ty (show Blk _ (w.heap.size + 1 + 1 + 1) _ _ from e ▸ hv5.blk) HZ.out) (by decide)), HFR.out.then_ (hs _) (fun j e => .inr (by have e' : j = w.heap.size + 1 + 1 + 1 := e; omega)), .inl rfl⟩
  · rw [n0] at HRR
    cases n1 : decide (Near x)
    · rw [n1] at HNx
      clear hoff HNy
      go_enter Try.func44, Try.ntmps44
      go_wp2
      go_loopw [14, 16] (fun v14 v16 wr => v16 = .int .i64 0 ∧ v14 = .int .i64 0 ∧ Hid (Blk wr (w.heap.size) 59 [.int .i64 10, .int .i64 10, .slice (some ⟨gb, 0, none⟩) 100 g9] ∧ Blk wr (w.heap.size + 1) 73 [.int .i64 t.id, .int .i64 t.env, .int .i64 t.x, .int .i64 t.y, .int .i64 t.w, .int .i64 t.h, .bool t.hid] ∧ Blk wr (w.heap.size + 1 + 1) 23 [.int .i64 r.x, .int .i64 r.y, .int .i64 r.w, .int .i64 r.h] ∧ Blk wr (w.heap.size + 1 + 1 + 1) 59 [.int .i64 0, .int .i64 0, .slice none 0 0] ∧ Blk wr (w.heap.size + 1 + 1 + 1 + 1) 59 [.int .i64 10, .int .i64 10, .slice (some ⟨gb, 0, none⟩) 100 g9] ∧ Fr NoB w wr)) (fun _ _ _ => 0)
      case atStart => exact ⟨rfl, rfl, HS0.out⟩
      case round =>
        obtain ⟨rfl, rfl, HR⟩ := hrel
        obtain ⟨q0, q1, q2, q3, q4, hfr⟩ := HR.out
        have c0_0 := q0.cell 0 rfl
        have c0_1 := q0.cell 1 rfl
        have c0_2 := q0.cell 2 rfl
        have l0 := q0.lt
        have c1_0 := q1.cell 0 rfl
        have c1_1 := q1.cell 1 rfl
        have c1_2 := q1.cell 2 rfl
        have c1_3 := q1.cell 3 rfl
        have c1_4 := q1.cell 4 rfl
        have c1_5 := q1.cell 5 rfl
        have c1_6 := q1.cell 6 rfl
        have l1 := q1.lt
        have c2_0 := q2.cell 0 rfl
        have c2_1 := q2.cell 1 rfl
        have c2_2 := q2.cell 2 rfl
        have c2_3 := q2.cell 3 rfl
        have l2 := q2.lt
        have c3_0 := q3.cell 0 rfl
        have c3_1 := q3.cell 1 rfl
        have c3_2 := q3.cell 2 rfl
        have l3 := q3.lt
        have c4_0 := q4.cell 0 rfl
        have c4_1 := q4.cell 1 rfl
        have c4_2 := q4.cell 2 rfl
        have l4 := q4.lt
        have y0 := q3.frozen 0
        have y1 := q3.frozen 1
        have y2 := q3.frozen 2
        have HZ := hid q3
        have HFR := hid hfr
        clear HR hfr q0 q1 q2 q3 q4
        go_wp2_with fail
        refine (HRR _).out.mono ?_
        rintro e' w2 ⟨rfl, hf2⟩
        have HZ := hid (HZ.out.fr hf2 (fun h => h))
        have HFR := hid (HFR.out.trans hf2)
        have d0 := cellto c0_0 hf2
        have d1 := cellto c0_1 hf2
        have d2 := cellto c0_2 hf2
        have dl := Nat.lt_of_lt_of_le l0 hf2.size
        have z0 := HZ.out.cell 0 rfl
        have z1 := HZ.out.cell 1 rfl
        have z2 := HZ.out.cell 2 rfl
        have z3 := HZ.out.frozen 0
        have z4 := HZ.out.frozen 1
        have z5 := HZ.out.frozen 2
        have zl := HZ.out.lt
        clear hf2
        go_wp2_with fail
        refine (HNx _).out.mono ?_
        rintro e' w3 ⟨rfl, rfl⟩
        go_wp2
        have hZF := ((HZ.out.set 0 (.int .i64 10)).set 1 (.int .i64 10)).set 2 (.slice (some ⟨gb, 0, none⟩) 100 g9)
        have r0 := hZF.cell 0 rfl
        have r1 := hZF.cell 1 rfl
        have r2 := hZF.cell 2 rfl
        have hs := fun W => (((Fr.refl (At (w.heap.size + 1 + 1 + 1)) W).setAt 0 (.int .i64 10)).setAt 1 (.int .i64 10)).setAt 2 (.slice (some ⟨gb, 0, none⟩) 100 g9)
        obtain ⟨rest, hv5⟩ := (HRG.out.frd HFR.out).row
        refine bodyPost_ret (v := .tuple #[gV gb g9, .int .i64 0]) (by simp [results, Try.results44, go_sem, r0, r1, r2, gV]) rfl ⟨gb, g9, rfl, (HRG.out.frd HFR.out).fr (hs _) (fun e => absurd (blk_ty (show Blk _ (w.heap.size + 1 + 1 + 1) _ _ from e ▸ hv5.blk) HZ.out) (by decide)), HFR.out.then_ (hs _) (fun j e => .inr (by have e' : j = w.heap.size + 1 + 1 + 1 := e; omega)), .inl rfl⟩
    · have n2 : decide (Near y) = false := decide_eq_false (fun h => hoff ⟨of_decide_eq_true n0, of_decide_eq_true n1, h⟩)
      rw [n1] at HNx
      rw [n2] at HNy
      clear hoff
      go_enter Try.func44, Try.ntmps44
      go_wp2
      go_loopw [14, 16] (fun v14 v16 wr => v16 = .int .i64 0 ∧ v14 = .int .i64 0 ∧ Hid (Blk wr (w.heap.size) 59 [.int .i64 10, .int .i64 10, .slice (some ⟨gb, 0, none⟩) 100 g9] ∧ Blk wr (w.heap.size + 1) 73 [.int .i64 t.id, .int .i64 t.env, .int .i64 t.x, .int .i64 t.y, .int .i64 t.w, .int .i64 t.h, .bool t.hid] ∧ Blk wr (w.heap.size + 1 + 1) 23 [.int .i64 r.x, .int .i64 r.y, .int .i64 r.w, .int .i64 r.h] ∧ Blk wr (w.heap.size + 1 + 1 + 1) 59 [.int .i64 0, .int .i64 0, .slice none 0 0] ∧ Blk wr (w.heap.size + 1 + 1 + 1 + 1) 59 [.int .i64 10, .int .i64 10, .slice (some ⟨gb, 0, none⟩) 100 g9] ∧ Fr NoB w wr)) (fun _ _ _ => 0)
      case atStart => exact ⟨rfl, rfl, HS0.out⟩
      case round =>
        obtain ⟨rfl, rfl, HR⟩ := hrel
        obtain ⟨q0, q1, q2, q3, q4, hfr⟩ := HR.out
        have c0_0 := q0.cell 0 rfl
        have c0_1 := q0.cell 1 rfl
        have c0_2 := q0.cell 2 rfl
        have l0 := q0.lt
        have c1_0 := q1.cell 0 rfl
        have c1_1 := q1.cell 1 rfl
        have c1_2 := q1.cell 2 rfl
        have c1_3 := q1.cell 3 rfl
        have c1_4 := q1.cell 4 rfl
        have c1_5 := q1.cell 5 rfl
        have c1_6 := q1.cell 6 rfl
        have l1 := q1.lt
        have c2_0 := q2.cell 0 rfl
        have c2_1 := q2.cell 1 rfl
        have c2_2 := q2.cell 2 rfl
        have c2_3 := q2.cell 3 rfl
        have l2 := q2.lt
        have c3_0 := q3.cell 0 rfl
        have c3_1 := q3.cell 1 rfl
        have c3_2 := q3.cell 2 rfl
        have l3 := q3.lt
        have c4_0 := q4.cell 0 rfl
        have c4_1 := q4.cell 1 rfl
        have c4_2 := q4.cell 2 rfl
        have l4 := q4.lt
        have y0 := q3.frozen 0
        have y1 := q3.frozen 1
        have y2 := q3.frozen 2
        have HZ := hid q3
        have HFR := hid hfr
        clear HR hfr q0 q1 q2 q3 q4
        go_wp2_with fail
        refine (HRR _).out.mono ?_
        rintro e' w2 ⟨rfl, hf2⟩
        have HZ := hid (HZ.out.fr hf2 (fun h => h))
        have HFR := hid (HFR.out.trans hf2)
        have d0 := cellto c0_0 hf2
        have d1 := cellto c0_1 hf2
        have d2 := cellto c0_2 hf2
        have dl := Nat.lt_of_lt_of_le l0 hf2.size
        have z0 := HZ.out.cell 0 rfl
        have z1 := HZ.out.cell 1 rfl
        have z2 := HZ.out.cell 2 rfl
        have z3 := HZ.out.frozen 0
        have z4 := HZ.out.frozen 1
        have z5 := HZ.out.frozen 2
        have zl := HZ.out.lt
        clear hf2
        go_wp2_with fail
        refine (HNx _).out.mono ?_
        rintro e' w3 ⟨rfl, rfl⟩
        go_wp2_with fail
        refine (HNy _).out.mono ?_
        rintro e' w4 ⟨rfl, rfl⟩
        go_wp2
        have hZF := ((HZ.out.set 0 (.int .i64 10)).set 1 (.int .i64 10)).set 2 (.slice (some ⟨gb, 0, none⟩) 100 g9)
        have r0 := hZF.cell 0 rfl
        have r1 := hZF.cell 1 rfl
        have r2 := hZF.cell 2 rfl
        have hs := fun W => (((Fr.refl (At (w.heap.size + 1 + 1 + 1)) W).setAt 0 (.int .i64 10)).setAt 1 (.int .i64 10)).setAt 2 (.slice (some ⟨gb, 0, none⟩) 100 g9)
        obtain ⟨rest, hv5⟩ := (HRG.out.frd HFR.out).row
        refine bodyPost_ret (v := .tuple #[gV gb g9, .int .i64 0]) (by simp [results, Try.results44, go_sem, r0, r1, r2, gV]) rfl ⟨gb, g9, rfl, (HRG.out.frd HFR.out).fr (hs _) (fun e => absurd (blk_ty (show Blk _ (w.heap.size + 1 + 1 + 1) _ _ from e ▸ hv5.blk) HZ.out) (by decide)), HFR.out.then_ (hs _) (fun j e => .inr (by have e' : j = w.heap.size + 1 + 1 + 1 := e; omega)), .inl rfl⟩
end Go.Proofs.Ytnengimekcnfhaa
