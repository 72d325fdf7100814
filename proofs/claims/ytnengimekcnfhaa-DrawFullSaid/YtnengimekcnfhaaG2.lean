import Derived.Test.YtnengimekcnfhaaG1
set_option linter.unusedSimpArgs false
set_option linter.unusedVariables false
set_option maxRecDepth 20000
namespace Go.Proofs.Ytnengimekcnfhaa
open Go.RowKit Go.Proofs.YtnengimekcnfhaaW.PrintWords
/-- Cell k is put. -/
def put4c (w : World) (b o : Nat) (c : Cl) : World := (((w.setCell ⟨b, o, none⟩ (.int .i32 c.r)).setCell ⟨b, o + 1, none⟩ (.int .i64 c.fg)).setCell ⟨b, o + 2, none⟩ (.int .i64 c.bg)).setCell ⟨b, o + 3, none⟩ (.int .i64 c.fl)
theorem put4c_fr {S : Nat → Prop} {w w1 : World} {b : Nat} (h : Fr S w w1) (hb : S b ∨ w.heap.size ≤ b) (o : Nat) (c : Cl) : Fr S w (put4c w1 b o c) :=
  (((h.setCell (p := ⟨b, o, none⟩) hb _).setCell (p := ⟨b, o + 1, none⟩) hb _).setCell (p := ⟨b, o + 2, none⟩) hb _).setCell (p := ⟨b, o + 3, none⟩) hb _
theorem put4c_blk {w : World} {b : Nat} {T : TypeId} {cs : List Cl} (h : Blk w b T (cs.flatMap Cl.cells)) (k : Nat) (hk : k < cs.length) (c : Cl) : Blk (put4c w b (k * 4) c) b T ((cs.set k c).flatMap Cl.cells) := by
  have b4 := (((h.set (k * 4) (.int .i32 c.r)).set (k * 4 + 1) (.int .i64 c.fg)).set (k * 4 + 2) (.int .i64 c.bg)).set (k * 4 + 3) (.int .i64 c.fl)
  refine Blk.eq b4 ?_
  have e1 := flat_set Cl.cells_len cs k 0 hk (by omega) (.int .i32 c.r) ⟨c.r, cs[k].fg, cs[k].bg, cs[k].fl⟩ rfl
  have e2 := flat_set Cl.cells_len (cs.set k ⟨c.r, cs[k].fg, cs[k].bg, cs[k].fl⟩) k 1 (by simpa using hk) (by omega) (.int .i64 c.fg) ⟨c.r, c.fg, cs[k].bg, cs[k].fl⟩ (by rw [List.getElem_set_self]; rfl)
  have e3 := flat_set Cl.cells_len ((cs.set k ⟨c.r, cs[k].fg, cs[k].bg, cs[k].fl⟩).set k ⟨c.r, c.fg, cs[k].bg, cs[k].fl⟩) k 2 (by simpa using hk) (by omega) (.int .i64 c.bg) ⟨c.r, c.fg, c.bg, cs[k].fl⟩ (by rw [List.getElem_set_self]; rfl)
  have e4 := flat_set Cl.cells_len (((cs.set k ⟨c.r, cs[k].fg, cs[k].bg, cs[k].fl⟩).set k ⟨c.r, c.fg, cs[k].bg, cs[k].fl⟩).set k ⟨c.r, c.fg, c.bg, cs[k].fl⟩) k 3 (by simpa using hk) (by omega) (.int .i64 c.fl) c (by rw [List.getElem_set_self]; rfl)
  rw [Nat.add_zero] at e1
  rw [e1, e2, e3, e4, List.set_set, List.set_set, List.set_set]
theorem flat_cell {cs : List Cl} {w : World} {b : Nat} {T : TypeId} (h : Blk w b T (cs.flatMap Cl.cells)) (k : Nat) (hk : k < cs.length) :
    w.cell? ⟨b, k * 4, none⟩ = some (.int .i32 cs[k].r) ∧ w.cell? ⟨b, k * 4 + 1, none⟩ = some (.int .i64 cs[k].fg) ∧ w.cell? ⟨b, k * 4 + 2, none⟩ = some (.int .i64 cs[k].bg) ∧ w.cell? ⟨b, k * 4 + 3, none⟩ = some (.int .i64 cs[k].fl) :=
  ⟨h.cell _ (by rw [show k * 4 = k * 4 + 0 from rfl, flat_get Cl.cells_len cs k 0 hk (by omega)]; rfl), h.cell _ (by rw [flat_get Cl.cells_len cs k 1 hk (by omega)]; rfl), h.cell _ (by rw [flat_get Cl.cells_len cs k 2 hk (by omega)]; rfl), h.cell _ (by rw [flat_get Cl.cells_len cs k 3 hk (by omega)]; rfl)⟩
theorem setG_ok {w : World} {g gb W H : Nat} {cs : List Cl} (h : GD w g gb W H cs) (x y : Nat) (hx : x < W) (hy : y < H) (c : Cl) : GD (put4c w gb ((y * W + x) * 4) c) g gb W H (setG W cs x y c) := by
  have hk : y * W + x < cs.length := by rw [h.len]; exact cell_ix hx hy
  refine ⟨h.blk.fr (S := At gb) (put4c_fr (S := At gb) (Fr.refl (At gb) w) (.inl rfl) _ c) h.ne, ?_, ?_, h.w1, h.w2, h.h1, h.h2⟩
  · have h5 := put4c_blk h.cel (y * W + x) hk c
    exact h5
  · show (cs.set _ c).length = _
    rw [List.length_set]
    exact h.len
set_option maxHeartbeats 4000000 in
theorem gSet_in (w : World) (g gb W H : Nat) (cs : List Cl) (x y : Nat) (c : Cl) (h : GD w g gb W H cs) (hx : x < W) (hy : y < H) :
    Calls Try.prog 58 #[.pointer (some ⟨g, 0, none⟩), .int .i64 x, .int .i64 y, c.v] w fun e w' => e = .returned (.bool true) ∧ GD w' g gb W H (setG W cs x y c) ∧ Fr (At gb) w w' := by
  have hf0 : Fr NoB w (w.alloc (.cells #[.int .i32 c.r, .int .i64 c.fg, .int .i64 c.bg, .int .i64 c.fl] 38)) := (Fr.refl _ _).alloc _
  have HF0 := hid hf0
  have HB0 := hid (Blk.new w 38 c.cells)
  have HH := hid h
  have HAll := hid (gAll_any _ g gb W H cs (h.frd hf0))
  have hI := fun w => rIn_any w (rect0 W H) (x : Int) (y : Int) (rect0_I h.w2 h.h2) (by have := h.w2; unfold I64; omega) (by have := h.h2; unfold I64; omega)
  have hin : decide ((rect0 W H).has (x : Int) (y : Int)) = true := decide_eq_true ((rect0_has W H x y).2 (by omega))
  rw [hin] at hI
  have HI : ∀ w, Hid _ := fun w => hid (hI w)
  have HRow := fun w h => hid (gRow_any w g gb W H cs y h hy)
  have hxW : (x : Int) < (W : Int) := by omega
  have hk : y * W + x < cs.length := by rw [h.len]; exact cell_ix hx hy
  have e1 : c.v = .agg #[.int .i32 c.r, .int .i64 c.fg, .int .i64 c.bg, .int .i64 c.fl] := rfl
  have e4 : Hid ((y * W + x) * 4 = y * W * 4 + x * 4) := hid (by rw [Nat.add_mul])
  rw [e1]
  unfold Rc.v at HAll HI
  clear h hf0 hin hI e1
  have HK := hid hk
  go_enter Try.func58, Try.ntmps58
  go_wp2_with fail
  refine HAll.out.mono ?_
  rintro e' w1 ⟨rfl, hf1⟩
  have HF1 := hid (HF0.out.trans hf1)
  go_wp2_with fail
  refine (HI _).out.mono ?_
  rintro e' w2 ⟨rfl, hf2⟩
  have HF2 := hid (HF1.out.trans hf2)
  have hB2 := (HB0.out.fr (Fr.trans hf1 hf2) (fun h => h))
  have q0 := hB2.cell 0 rfl
  have q1 := hB2.cell 1 rfl
  have q2 := hB2.cell 2 rfl
  have q3 := hB2.cell 3 rfl
  have HB2 := hid hB2
  have hG2 := HH.out.frd HF2.out
  have HG2 := hid hG2
  clear hf1 hf2 hB2 hG2
  go_wp2_with fail
  go_region_with (go_at_call 34; refine (HRow _ (HG2.out.frd (Fr.drew (Fr.refl _ _)))).out.mono ?_; rintro e' w3 ⟨rfl, hf3⟩; have HF3 : Hid (Fr NoB w2 w3) := Fr.trans (Fr.drew (Fr.refl _ _)) hf3; have hB3 := HB2.out.fr HF3.out (fun h => h); have z0 := hB3.cell 0 rfl; have z1 := hB3.cell 1 rfl; have z2 := hB3.cell 2 rfl; have z3 := hB3.cell 3 rfl; have hG3 := HG2.out.frd HF3.out; have hce := flat_cell hG3.cel (y * W + x) HK.out; rw [e4.out] at hce; obtain ⟨y0, y1, y2, y3⟩ := hce; have v0 := hG3.cel.frozen (y * W * 4 + x * 4); have v1 := hG3.cel.frozen (y * W * 4 + x * 4 + 1); have v2 := hG3.cel.frozen (y * W * 4 + x * 4 + 2); have v3 := hG3.cel.frozen (y * W * 4 + x * 4 + 3); have vlt := hG3.cel.lt; have HG3 := hid hG3; clear hG3 hB3 hf3)
  all_goals
    go_wp2
    go_ret
    have hs := setG_ok HG3.out x y hx hy c
    rw [e4.out] at hs
    exact ⟨rfl, hs, put4c_fr (S := At gb) (b := gb) ((HF2.out.trans HF3.out).mono (fun _ h => h.elim)) (.inl rfl) (y * W * 4 + x * 4) c⟩
theorem atG_in {W H : Nat} {cs : List Cl} (x y : Nat) (hx : x < W) (hy : y < H) (hk : y * W + x < cs.length) : atG W H cs x y = cs[y * W + x] := by
  unfold atG
  rw [if_pos (by omega), Int.toNat_natCast, Int.toNat_natCast, List.getD_eq_getElem?_getD, List.getElem?_eq_getElem hk]
  rfl
set_option maxHeartbeats 4000000 in
theorem gAt_in (w : World) (g gb W H : Nat) (cs : List Cl) (x y : Nat) (h : GD w g gb W H cs) (hx : x < W) (hy : y < H) :
    Calls Try.prog 12 #[.pointer (some ⟨g, 0, none⟩), .int .i64 x, .int .i64 y] w fun e w' => e = .returned (atG W H cs x y).v ∧ Fr NoB w w' := by
  have hf0 : Fr NoB w (w.alloc (.cells #[.int .i32 0, .int .i64 0, .int .i64 0, .int .i64 0] 38)) := (Fr.refl _ _).alloc _
  have HF0 := hid hf0
  have HB0 := hid (Blk.new w 38 Cl.zero.cells)
  have HH := hid h
  have HAll := hid (gAll_any _ g gb W H cs (h.frd hf0))
  have hI := fun w => rIn_any w (rect0 W H) (x : Int) (y : Int) (rect0_I h.w2 h.h2) (by have := h.w2; unfold I64; omega) (by have := h.h2; unfold I64; omega)
  have hin : decide ((rect0 W H).has (x : Int) (y : Int)) = true := decide_eq_true ((rect0_has W H x y).2 (by omega))
  rw [hin] at hI
  have HI : ∀ w, Hid _ := fun w => hid (hI w)
  have HRow := fun w h => hid (gRow_any w g gb W H cs y h hy)
  have hxW : (x : Int) < (W : Int) := by omega
  have hk : y * W + x < cs.length := by rw [h.len]; exact cell_ix hx hy
  rw [atG_in x y hx hy hk]
  have e4 : Hid ((y * W + x) * 4 = y * W * 4 + x * 4) := hid (by rw [Nat.add_mul])
  unfold Rc.v at HAll HI
  have HCE := fun (W3 : World) (hW : Fr NoB w W3) => flat_cell (h.cel.fr hW (fun h => h)) (y * W + x) hk
  rw [e4.out] at HCE
  generalize cs[y * W + x] = c at HCE ⊢
  have HCE' := hid HCE
  clear h hf0 hin hI hk HCE
  go_enter Try.func12, Try.ntmps12
  go_wp2_with fail
  refine HAll.out.mono ?_
  rintro e' w1 ⟨rfl, hf1⟩
  have HF1 := hid (HF0.out.trans hf1)
  go_wp2_with fail
  refine (HI _).out.mono ?_
  rintro e' w2 ⟨rfl, hf2⟩
  have HF2 := hid (HF1.out.trans hf2)
  have HB2 := hid (HB0.out.fr (Fr.trans hf1 hf2) (fun h => h))
  clear hf1 hf2
  go_wp2_with fail
  refine (HRow _ (HH.out.frd HF2.out)).out.mono ?_
  rintro e' w3 ⟨rfl, hf3⟩
  have hB := HB2.out.fr hf3 (fun h => h)
  have HF3 := hid (HF2.out.trans hf3)
  obtain ⟨y0, y1, y2, y3⟩ := HCE'.out w3 HF3.out
  unfold Cl.cells at hB
  have q0 := hB.cell 0 rfl
  have q1 := hB.cell 1 rfl
  have q2 := hB.cell 2 rfl
  have q3 := hB.cell 3 rfl
  have p0 := hB.frozen 0
  have p1 := hB.frozen 1
  have p2 := hB.frozen 2
  have p3 := hB.frozen 3
  have plt := hB.lt
  clear hf3
  go_wp2
  have hBF := hB.put4 (.int .i32 c.r) (.int .i64 c.fg) (.int .i64 c.bg) (.int .i64 c.fl)
  have r0 := hBF.cell 0 rfl
  have r1 := hBF.cell 1 rfl
  have r2 := hBF.cell 2 rfl
  have r3 := hBF.cell 3 rfl
  refine bodyPost_ret (v := c.v) (by simp [results, Try.results12, go_sem, r0, r1, r2, r3, Cl.v]) rfl ⟨rfl, Fr.put4 HF3.out (.inr (Nat.le_refl _)) _ _ _ _⟩
end Go.Proofs.Ytnengimekcnfhaa
