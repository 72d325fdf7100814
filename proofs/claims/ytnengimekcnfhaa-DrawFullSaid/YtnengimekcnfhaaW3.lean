import Derived.Test.YtnengimekcnfhaaW2
set_option linter.unusedSimpArgs false
set_option linter.unusedVariables false
set_option maxRecDepth 20000
namespace Go.Proofs.Ytnengimekcnfhaa
open Go.RowKit Go.Proofs.YtnengimekcnfhaaW.PrintWords
def Wn.nil : Wn := ⟨0, 0, 0, 0, 0, 0, false⟩
/-- A window of a number, if there is one. -/
def getW (xs : List Wn) (id : Int) : Option Wn := xs.find? (byId id)
theorem cellto {w w1 : World} {a : Addr} {v : Value} (h : w.cell? a = some v) (hf : Fr NoB w w1) : w1.cell? a = some v :=
  (World.cell?_of_block (w' := w1) (hf.block a.block (cell_lt h) (fun h => h))).trans h
theorem idAt_some {xs : List Wn} {id : Int} {t : Wn} (h : getW xs id = some t) : ∃ k, ∃ hk : k < xs.length, idAt id xs = k ∧ xs[k] = t ∧ t.id = id := by
  unfold getW at h
  obtain ⟨hp, l1, l2, rfl, hn⟩ := List.find?_eq_some_iff_append.1 h
  refine ⟨l1.length, by simp, ?_, by simp, by unfold byId at hp; simpa using hp⟩
  have h5 := wIx_hit (p := byId id) (xs := l1 ++ t :: l2) (k := l1.length) (by simp) (by
    rw [List.take_left]
    rw [List.any_eq_false]
    intro x hx
    have := hn x hx
    simpa using this) (by simpa using hp)
  exact h5
theorem idAt_none {xs : List Wn} {id : Int} (h : getW xs id = none) : idAt id xs = -1 := by
  unfold getW at h
  rw [List.find?_eq_none] at h
  refine wIx_none ?_
  rw [List.any_eq_false]
  exact h
/-- A block of seven cells that a window is put into. -/
def put7 (w : World) (b : Nat) (t : Wn) : World := ((((((w.setCell ⟨b, 0, none⟩ (.int .i64 t.id)).setCell ⟨b, 1, none⟩ (.int .i64 t.env)).setCell ⟨b, 2, none⟩ (.int .i64 t.x)).setCell ⟨b, 3, none⟩ (.int .i64 t.y)).setCell ⟨b, 4, none⟩ (.int .i64 t.w)).setCell ⟨b, 5, none⟩ (.int .i64 t.h)).setCell ⟨b, 6, none⟩ (.bool t.hid)
theorem put7_blk {w : World} {b : Nat} {T : TypeId} {u : Wn} (h : Blk w b T u.cells) (t : Wn) : Blk (put7 w b t) b T t.cells :=
  ((((((h.set 0 (.int .i64 t.id)).set 1 (.int .i64 t.env)).set 2 (.int .i64 t.x)).set 3 (.int .i64 t.y)).set 4 (.int .i64 t.w)).set 5 (.int .i64 t.h)).set 6 (.bool t.hid)
theorem put7_fr {S : Nat → Prop} {w w1 : World} {b : Nat} (h : Fr S w w1) (hb : S b ∨ w.heap.size ≤ b) (t : Wn) : Fr S w (put7 w1 b t) :=
  ((((((h.setCell (p := ⟨b, 0, none⟩) hb _).setCell (p := ⟨b, 1, none⟩) hb _).setCell (p := ⟨b, 2, none⟩) hb _).setCell (p := ⟨b, 3, none⟩) hb _).setCell (p := ⟨b, 4, none⟩) hb _).setCell (p := ⟨b, 5, none⟩) hb _).setCell (p := ⟨b, 6, none⟩) hb _
set_option maxHeartbeats 4000000 in
theorem sGet_any (w : World) (b : Nat) (scr : Rc) (v : Value) (xs : List Wn) (next id : Int) (h : SK w b scr v xs next) (hl : xs.length ≤ 4096) :
    Calls Try.prog 55 #[.pointer (some ⟨b, 0, none⟩), .int .i64 id] w fun e w' => e = .returned (.tuple #[((getW xs id).getD Wn.nil).v, .bool (getW xs id).isSome]) ∧ Fr NoB w w' := by
  have hf0 : Fr NoB w (w.alloc (.cells #[.int .i64 0, .int .i64 0, .int .i64 0, .int .i64 0, .int .i64 0, .int .i64 0, .bool false] 73)) := (Fr.refl _ _).alloc _
  have HF0 := hid hf0
  have HAT := hid (sat_any _ b scr v xs next id (h.frd hf0) hl)
  have HB0 := hid (Blk.new w 73 (Wn.cells Wn.nil))
  have HK := hid h
  cases hg : getW xs id with
  | none =>
    have hi := idAt_none hg
    rw [hi] at HAT
    clear h hf0 hg hi
    go_enter Try.func55, Try.ntmps55
    go_wp2_with fail
    refine HAT.out.mono ?_
    rintro e' w1 ⟨rfl, hf1⟩
    have hB := HB0.out.fr hf1 (fun h => h)
    unfold Wn.cells at hB
    have q0 := hB.cell 0 rfl
    have q1 := hB.cell 1 rfl
    have q2 := hB.cell 2 rfl
    have q3 := hB.cell 3 rfl
    have q4 := hB.cell 4 rfl
    have q5 := hB.cell 5 rfl
    have q6 := hB.cell 6 rfl
    have p0 := hB.frozen 0
    have p1 := hB.frozen 1
    have p2 := hB.frozen 2
    have p3 := hB.frozen 3
    have p4 := hB.frozen 4
    have p5 := hB.frozen 5
    have p6 := hB.frozen 6
    have plt := hB.lt
    have hBF := put7_blk (u := Wn.nil) hB Wn.nil
    have r0 := hBF.cell 0 rfl
    have r1 := hBF.cell 1 rfl
    have r2 := hBF.cell 2 rfl
    have r3 := hBF.cell 3 rfl
    have r4 := hBF.cell 4 rfl
    have r5 := hBF.cell 5 rfl
    have r6 := hBF.cell 6 rfl
    unfold put7 at r0 r1 r2 r3 r4 r5 r6
    dsimp only [Wn.nil] at r0 r1 r2 r3 r4 r5 r6
    go_wp2
    refine bodyPost_ret (v := .tuple #[Wn.v Wn.nil, .bool false]) (by simp [results, Try.results55, go_sem, r0, r1, r2, r3, r4, r5, r6, Wn.v, Wn.nil]) rfl ⟨rfl, put7_fr (HF0.out.trans hf1) (.inr (Nat.le_refl _)) Wn.nil⟩
  | some t =>
    obtain ⟨k, hk, hi, hkt, hti⟩ := idAt_some hg
    clear hti
    rw [hi] at HAT
    obtain ⟨A, c, hv, hxc, hcm⟩ := h.row.shape
    have HKT := hid hkt
    have hvec : ∃ g, A = some ⟨g, 0, none⟩ ∧ ∃ rest, Hid (WnV w g xs rest c) := by
      rcases h.row with ⟨h1, h2⟩ | ⟨g, c', rest, h1, h2, _⟩
      · rw [h2] at hk
        simp at hk
      · rw [hv] at h1
        injection h1 with e1 e2 e3
        subst e1
        subst e3
        exact ⟨g, rfl, rest, h2⟩
    obtain ⟨g, rfl, rest, HV⟩ := hvec
    subst hv
    have c4 := h.blk.cell 4 rfl
    have hlt := h.blk.lt
    clear h hf0 hg hi hkt
    go_enter Try.func55, Try.ntmps55
    go_wp2_with fail
    refine HAT.out.mono ?_
    rintro e' w1 ⟨rfl, hf1⟩
    have hB := HB0.out.fr hf1 (fun h => h)
    have hF1 := hid (HF0.out.trans hf1)
    have d4 := cellto c4 hF1.out
    obtain ⟨k0, k1, k2, k3, k4, k5, k6⟩ := WnV.cells (Vec.fr HV.out hF1.out (fun h => h)) k hk
    rw [show xs[k] = t from HKT.out] at k0 k1 k2 k3 k4 k5 k6
    unfold Wn.cells at hB
    have q0 := hB.cell 0 rfl
    have q1 := hB.cell 1 rfl
    have q2 := hB.cell 2 rfl
    have q3 := hB.cell 3 rfl
    have q4 := hB.cell 4 rfl
    have q5 := hB.cell 5 rfl
    have q6 := hB.cell 6 rfl
    have p0 := hB.frozen 0
    have p1 := hB.frozen 1
    have p2 := hB.frozen 2
    have p3 := hB.frozen 3
    have p4 := hB.frozen 4
    have p5 := hB.frozen 5
    have p6 := hB.frozen 6
    have plt := hB.lt
    go_wp2
    have hBF := put7_blk (u := Wn.nil) hB t
    have r0 := hBF.cell 0 rfl
    have r1 := hBF.cell 1 rfl
    have r2 := hBF.cell 2 rfl
    have r3 := hBF.cell 3 rfl
    have r4 := hBF.cell 4 rfl
    have r5 := hBF.cell 5 rfl
    have r6 := hBF.cell 6 rfl
    unfold put7 at r0 r1 r2 r3 r4 r5 r6
    try dsimp only at r0 r1 r2 r3 r4 r5 r6
    refine bodyPost_ret (v := .tuple #[Wn.v t, .bool true]) (by simp [results, Try.results55, go_sem, r0, r1, r2, r3, r4, r5, r6, Wn.v]) rfl ⟨rfl, put7_fr (HF0.out.trans hf1) (.inr (Nat.le_refl _)) t⟩
end Go.Proofs.Ytnengimekcnfhaa
