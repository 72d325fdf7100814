import Derived.Test.YtnengimekcnfhaaDoorR1
import Derived.Deep.DeepMust
import Derived.RegionTactic
import Derived.StillTailTactics
set_option linter.unusedSimpArgs false
set_option linter.unusedVariables false
set_option maxRecDepth 20000
namespace Go.Proofs.YtnengimekcnfhaaDoor
open Go.RowKit Go.Proofs.YtnengimekcnfhaaDoorW.PrintWords
/-- A cell. -/
structure Cl where
  r : Int
  fg : Int
  bg : Int
  fl : Int
deriving DecidableEq
def Cl.cells (c : Cl) : List Value := [.int .i32 c.r, .int .i64 c.fg, .int .i64 c.bg, .int .i64 c.fl]
theorem Cl.cells_len (c : Cl) : c.cells.length = 4 := rfl
def Cl.v (c : Cl) : Value := .agg #[.int .i32 c.r, .int .i64 c.fg, .int .i64 c.bg, .int .i64 c.fl]
def Cl.zero : Cl := ⟨0, 0, 0, 0⟩
theorem infoCl : (Tryd.prog.info? 40).map (fun i => (i.zero, i.size, i.bytes)) = some (some Cl.zero.v, 4, 32) := by kernel_rfl
theorem sizeCl (w : World) : (Go.sizeOf 40).run Tryd.prog w = .ok 4 w := by kernel_rfl
theorem Cl.one (t : Cl) : ∀ u ∈ t.cells, u.oneCell' = true := by
  intro u hu
  simp only [Cl.cells, List.mem_cons, List.not_mem_nil, or_false] at hu
  rcases hu with rfl | rfl | rfl | rfl <;> rfl
/-- A grid in memory: its block g, its cells' block gb. -/
structure GD (w : World) (g gb W H : Nat) (cs : List Cl) : Prop where
  blk : Blk w g 87 [.int .i64 W, .int .i64 H, .slice (some ⟨gb, 0, none⟩) (W * H) (W * H)]
  cel : Blk w gb 40 (cs.flatMap Cl.cells)
  len : cs.length = W * H
  w1 : 1 ≤ W
  w2 : W ≤ 512
  h1 : 1 ≤ H
  h2 : H ≤ 512
theorem GD.fr {S : Nat → Prop} {w w1 : World} {g gb W H : Nat} {cs : List Cl} (h : GD w g gb W H cs) (hf : Fr S w w1) (h1 : ¬ S g) (h2 : ¬ S gb) : GD w1 g gb W H cs := ⟨h.blk.fr hf h1, h.cel.fr hf h2, h.len, h.w1, h.w2, h.h1, h.h2⟩
theorem GD.frd {w w1 : World} {g gb W H : Nat} {cs : List Cl} (h : GD w g gb W H cs) (hf : Fr NoB w w1) : GD w1 g gb W H cs := h.fr hf (fun h => h) (fun h => h)
theorem GD.ne {w : World} {g gb W H : Nat} {cs : List Cl} (h : GD w g gb W H cs) : g ≠ gb := fun e => by
  have h1 := h.blk
  have h2 := h.cel
  rw [e] at h1
  unfold Blk at h1 h2
  rw [h1] at h2
  injection h2 with h3
  injection h3 with h4 h5
  revert h5
  decide
theorem GD.n {w : World} {g gb W H : Nat} {cs : List Cl} (h : GD w g gb W H cs) : W * H ≤ 262144 := Nat.mul_le_mul h.w2 h.h2
/-- The place of a cell. -/
theorem cell_ix {W H x y : Nat} (hx : x < W) (hy : y < H) : y * W + x < W * H := by
  have h1 : (y + 1) * W ≤ H * W := Nat.mul_le_mul_right _ hy
  rw [Nat.add_mul, Nat.one_mul, Nat.mul_comm H W] at h1
  omega
def rect0 (W H : Nat) : Rc := ⟨0, 0, W, H⟩
theorem rect0_has (W H : Nat) (x y : Int) : (rect0 W H).has x y ↔ (0 ≤ x ∧ x < W ∧ 0 ≤ y ∧ y < H) := by
  unfold Rc.has Within rect0
  simp only
  omega
theorem rect0_I {W H : Nat} (h1 : W ≤ 512) (h2 : H ≤ 512) : (rect0 W H).I := ⟨by unfold I64 rect0; simp, by unfold I64 rect0; simp, by unfold I64 rect0; simp only; omega, by unfold I64 rect0; simp only; omega⟩
def atG (W H : Nat) (cs : List Cl) (x y : Int) : Cl := if 0 ≤ x ∧ x < W ∧ 0 ≤ y ∧ y < H then cs.getD (y.toNat * W + x.toNat) Cl.zero else Cl.zero
def setG (W : Nat) (cs : List Cl) (x y : Int) (c : Cl) : List Cl := cs.set (y.toNat * W + x.toNat) c
set_option maxHeartbeats 1000000 in
theorem gNew_ok (w : World) (W H : Nat) (h1 : 1 ≤ W) (h2 : W ≤ 512) (h3 : 1 ≤ H) (h4 : H ≤ 512) :
    Calls Tryd.prog 17 #[.int .i64 W, .int .i64 H] w fun e w' => ∃ g gb, e = .returned (.pointer (some ⟨g, 0, none⟩)) ∧ GD w' g gb W H (List.replicate (W * H) Cl.zero) ∧ Fr NoB w w' ∧ w.heap.size ≤ g ∧ w.heap.size ≤ gb := by
  have hm : W * H ≤ 262144 := Nat.mul_le_mul h2 h4
  have t1 : decide ((W : Int) < 1) = false := decide_eq_false (by omega)
  have t2 : decide ((W : Int) > 512) = false := decide_eq_false (by omega)
  have t3 : decide ((H : Int) < 1) = false := decide_eq_false (by omega)
  have t4 : decide ((H : Int) > 512) = false := decide_eq_false (by omega)
  have hmk := run_make_flat (P := Tryd.prog) Cl.cells_len (by omega) 26 40 Cl.zero Cl.zero.v 32 Tryd.underlying26 infoCl rfl (W * H) (by omega) (by omega)
  have hmul : (W : Int) * (H : Int) = ((W * H : Nat) : Int) := (Int.natCast_mul W H).symm
  have hw : IntKind.i64.wrap ((W : Int) * (H : Int)) = ((W * H : Nat) : Int) := by rw [hmul]; exact IntWalk.i64_in _ (by omega)
  obtain ⟨n, hn⟩ : ∃ n, n = W * H := ⟨_, rfl⟩
  rw [← hn] at hw hmk hm
  have HN := hid hn
  clear hmul hn
  go_enter Tryd.func17, Tryd.ntmps17
  go_wp2
  go_ret
  refine ⟨_, _, rfl, ⟨?_, ?_, ?_, h1, h2, h3, h4⟩, ((Fr.refl _ _).alloc _).alloc _, Nat.le_succ _, Nat.le_refl _⟩
  · have h5 := Blk.new (w.alloc (.cells ((List.replicate n Cl.zero).flatMap Cl.cells).toArray 40)) 87 [.int .i64 W, .int .i64 H, .slice (some ⟨w.heap.size, 0, none⟩) n n]
    rw [World.size_alloc] at h5
    rw [← HN.out]
    exact h5
  · rw [← HN.out]
    exact (Blk.new w 40 ((List.replicate n Cl.zero).flatMap Cl.cells)).alloc _
  · rw [List.length_replicate]
theorem gSize_any (w : World) (g gb W H : Nat) (cs : List Cl) (h : GD w g gb W H cs) : Calls Tryd.prog 41 #[.pointer (some ⟨g, 0, none⟩)] w fun e w' => e = .returned (.tuple #[.int .i64 W, .int .i64 H]) ∧ Fr NoB w w' := by
  have c0 := h.blk.cell 0 rfl
  have c1 := h.blk.cell 1 rfl
  have hlt := h.blk.lt
  clear h
  go_enter Tryd.func41, Tryd.ntmps41
  go_wp2
  go_quiet (fail)
  go_wp2
  go_ret2
  exact ⟨rfl, (Fr.refl _ _).drewN _⟩
theorem gAll_any (w : World) (g gb W H : Nat) (cs : List Cl) (h : GD w g gb W H cs) : Calls Tryd.prog 26 #[.pointer (some ⟨g, 0, none⟩)] w fun e w' => e = .returned (rect0 W H).v ∧ Fr NoB w w' := by
  have c0 := h.blk.cell 0 rfl
  have c1 := h.blk.cell 1 rfl
  have hlt := h.blk.lt
  have hB0 := Blk.new w 37 [.int .i64 0, .int .i64 0, .int .i64 0, .int .i64 0]
  have HB0 := hid hB0
  clear h hB0
  go_enter Tryd.func26, Tryd.ntmps26
  go_wp2
  go_region
  all_goals
    go_wp2
    have hBF := (Blk.new w 37 [.int .i64 0, .int .i64 0, .int .i64 W, .int .i64 H]).drew
    have r0 := hBF.cell 0 rfl
    have r1 := hBF.cell 1 rfl
    have r2 := hBF.cell 2 rfl
    have r3 := hBF.cell 3 rfl
    refine bodyPost_ret (v := Rc.v (rect0 W H)) (by simp [results, Tryd.results26, go_sem, r0, r1, r2, r3, Rc.v, rect0]) rfl ⟨rfl, ((Fr.refl _ _).alloc _).drew⟩
theorem gRow_any (w : World) (g gb W H : Nat) (cs : List Cl) (y : Nat) (h : GD w g gb W H cs) (hy : y < H) : Calls Tryd.prog 27 #[.pointer (some ⟨g, 0, none⟩), .int .i64 y] w fun e w' => e = .returned (.slice (some ⟨gb, y * W * 4, none⟩) W (W * H - y * W)) ∧ Fr NoB w w' := by
  have c0 := h.blk.cell 0 rfl
  have c2 := h.blk.cell 2 rfl
  have hlt := h.blk.lt
  have hn := h.n
  have hyw : y * W + W ≤ W * H := by
    have h1 : (y + 1) * W ≤ H * W := Nat.mul_le_mul_right _ hy
    rw [Nat.add_mul, Nat.one_mul, Nat.mul_comm H W] at h1
    exact h1
  have hw1 := h.w1
  have hy2 : (y : Int) ≤ 511 := by have := h.h2; omega
  have e1 : (y : Int) * (W : Int) = ((y * W : Nat) : Int) := (Int.natCast_mul y W).symm
  have e2 : ((y : Int) + 1) * (W : Int) = ((y * W + W : Nat) : Int) := by rw [Int.add_mul, e1, Int.one_mul]; omega
  have m1 : IntKind.i64.wrap ((y : Int) * (W : Int)) = ((y * W : Nat) : Int) := by rw [e1]; exact IntWalk.i64_in _ (by omega)
  have m2 : IntKind.i64.wrap (((y : Int) + 1) * (W : Int)) = ((y * W + W : Nat) : Int) := by rw [e2]; exact IntWalk.i64_in _ (by omega)
  have hcut : ∀ W0 : World, (Instr.slice 26 (.slice (some ⟨gb, 0, none⟩) (W * H) (W * H)) (some (.int .i64 ((y * W : Nat) : Int))) (some (.int .i64 ((y * W + W : Nat) : Int))) none).run Tryd.prog W0 = .ok (.slice (some ⟨gb, y * W * 4, none⟩) W (W * H - y * W)) W0 := fun W0 => by
    have he : Tryd.prog.elem 26 = 40 := by simp [Program.elem, Tryd.underlying26]
    rw [run_slice_lh W0 26 _ _ _ (by rw [he]; exact Tryd.underlying26) .i64 .i64 _ _ (by omega) (by omega) (by omega), he, sizeCl]
    simp only [sliced, Result.andThen, Int.toNat_natCast]
    have h5 : ¬ (W * H = y * W) := by omega
    simp [h5, Addr.add]
    omega
  obtain ⟨n, hn'⟩ : ∃ n, n = W * H := ⟨_, rfl⟩
  obtain ⟨yw, hyw'⟩ : ∃ yw, yw = y * W := ⟨_, rfl⟩
  rw [← hn'] at c2 hcut hn
  rw [← hyw'] at hcut m1 m2 hyw
  rw [← hn'] at hyw
  have b1 : (0 : Int) ≤ (yw : Int) := by omega
  have b2 : (yw : Int) ≤ ((yw + W : Nat) : Int) := by omega
  have b3 : ((yw + W : Nat) : Int) ≤ (n : Int) := by omega
  have b4 : ¬ n = yw := by omega
  have k1 : IntKind.i64.wrap ((y : Int) + 1) = (y : Int) + 1 := IntWalk.i64_in _ (by omega)
  have HN := hid hn'
  have HY := hid hyw'
  clear h e1 e2 hyw hn' hyw'
  go_enter Tryd.func27, Tryd.ntmps27
  go_wp2
  refine wp_region_still_tail 17 (by kernel_rfl) (by kernel_rfl) ?_
  change wpStill _ _ (World.drew _) _ _ _
  simp only [List.take_succ_cons, List.take_zero, List.drop_succ_cons, List.drop_zero]
  iterate 17 still_step
  refine wpStill_nil ?_
  change wpList _ _ _ _ _ (World.drew _)
  go_wp2
  go_ret
  rw [HN.out, HY.out]
  refine ⟨?_, Fr.drew (Fr.refl _ _)⟩
  show Ending.returned (Value.slice (some ⟨gb, y * W * 4, none⟩) (y * W + W - y * W) (W * H - y * W)) = _
  rw [Nat.add_sub_cancel_left]
end Go.Proofs.YtnengimekcnfhaaDoor
set_option linter.unusedSimpArgs false
set_option linter.unusedVariables false
set_option maxRecDepth 20000
namespace Go.Proofs.YtnengimekcnfhaaDoor
open Go.RowKit Go.Proofs.YtnengimekcnfhaaDoorW.PrintWords
/-- Cell k is put. -/
def put4c (w : World) (b o : Nat) (c : Cl) : World := (((w.setCell ⟨b, o, none⟩ (.int .i32 c.r)).setCell ⟨b, o + 1, none⟩ (.int .i64 c.fg)).setCell ⟨b, o + 2, none⟩ (.int .i64 c.bg)).setCell ⟨b, o + 3, none⟩ (.int .i64 c.fl)
theorem put4c_fr {S : Nat → Prop} {w w1 : World} {b : Nat} (h : Fr S w w1) (hb : S b ∨ w.heap.size ≤ b) (o : Nat) (c : Cl) : Fr S w (put4c w1 b o c) :=
  (((h.setCell (p := ⟨b, o, none⟩) hb _).setCell (p := ⟨b, o + 1, none⟩) hb _).setCell (p := ⟨b, o + 2, none⟩) hb _).setCell (p := ⟨b, o + 3, none⟩) hb _
theorem put4c_blk {w : World} {b : Nat} {T : TypeId} {cs : List Cl} (h : Blk w b T (cs.flatMap Cl.cells)) (k : Nat) (hk : k < cs.length) (c : Cl) : Blk (put4c w b (k * 4) c) b T ((cs.set k c).flatMap Cl.cells) := by
  have b4 := (((h.set (k * 4) (.int .i32 c.r)).set (k * 4 + 1) (.int .i64 c.fg)).set (k * 4 + 2) (.int .i64 c.bg)).set (k * 4 + 3) (.int .i64 c.fl)
  refine Blk.eq b4 ?_
  have e1 := flat_set Cl.cells_len cs k 0 hk (by omega) (.int .i32 c.r) ⟨c.r, cs[k].fg, cs[k].bg, cs[k].fl⟩ rfl
  have e2 := flat_set Cl.cells_len (cs.set k ⟨c.r, cs[k].fg, cs[k].bg, cs[k].fl⟩) k 1 (by simpa using hk) (by omega) (.int .i64 c.fg) ⟨c.r, c.fg, cs[k].bg, cs[k].fl⟩ (by rw [List.getElem_set_self]; rfl)
  have e3 := flat_set Cl.cells_len ((cs.set k ⟨c.r, cs[k].fg, cs[k].bg, cs[k].fl⟩).set k ⟨c.r, c.fg, cs[k].bg, cs[k].fl⟩) k 2 (by simpa using hk) (by omega) (.int .i64 c.bg) ⟨c.r, c.fg, c.bg, cs[k].fl⟩ (by rw [List.getElem_set_self]; rfl)
  have e4 := flat_set Cl.cells_len (((cs.set k ⟨c.r, cs[k].fg, cs[k].bg, cs[k].fl⟩).set k ⟨c.r, c.fg, cs[k].bg, cs[k].fl⟩).set k ⟨c.r, c.fg, c.bg, cs[k].fl⟩) k 3 (by simpa using hk) (by omega) (.int .i64 c.fl) c (by rw [List.getElem_set_self]; rfl)
  rw [Nat.add_zero] at e1
  rw [e1, e2, e3, e4, List.set_set, List.set_set, List.set_set]
theorem flat_cell {cs : List Cl} {w : World} {b : Nat} {T : TypeId} (h : Blk w b T (cs.flatMap Cl.cells)) (k : Nat) (hk : k < cs.length) :
    w.cell? ⟨b, k * 4, none⟩ = some (.int .i32 cs[k].r) ∧ w.cell? ⟨b, k * 4 + 1, none⟩ = some (.int .i64 cs[k].fg) ∧ w.cell? ⟨b, k * 4 + 2, none⟩ = some (.int .i64 cs[k].bg) ∧ w.cell? ⟨b, k * 4 + 3, none⟩ = some (.int .i64 cs[k].fl) :=
  ⟨h.cell _ (by rw [show k * 4 = k * 4 + 0 from rfl, flat_get Cl.cells_len cs k 0 hk (by omega)]; rfl), h.cell _ (by rw [flat_get Cl.cells_len cs k 1 hk (by omega)]; rfl), h.cell _ (by rw [flat_get Cl.cells_len cs k 2 hk (by omega)]; rfl), h.cell _ (by rw [flat_get Cl.cells_len cs k 3 hk (by omega)]; rfl)⟩
theorem setG_ok {w : World} {g gb W H : Nat} {cs : List Cl} (h : GD w g gb W H cs) (x y : Nat) (hx : x < W) (hy : y < H) (c : Cl) : GD (put4c w gb ((y * W + x) * 4) c) g gb W H (setG W cs x y c) := by
  have hk : y * W + x < cs.length := by rw [h.len]; exact cell_ix hx hy
  refine ⟨h.blk.fr (S := At gb) (put4c_fr (S := At gb) (Fr.refl (At gb) w) (.inl rfl) _ c) h.ne, ?_, ?_, h.w1, h.w2, h.h1, h.h2⟩
  · have h5 := put4c_blk h.cel (y * W + x) hk c
    exact h5
  · show (cs.set _ c).length = _
    rw [List.length_set]
    exact h.len
set_option maxHeartbeats 4000000 in
theorem gSet_in (w : World) (g gb W H : Nat) (cs : List Cl) (x y : Nat) (c : Cl) (h : GD w g gb W H cs) (hx : x < W) (hy : y < H) :
    Calls Tryd.prog 42 #[.pointer (some ⟨g, 0, none⟩), .int .i64 x, .int .i64 y, c.v] w fun e w' => e = .returned (.bool true) ∧ GD w' g gb W H (setG W cs x y c) ∧ Fr (At gb) w w' := by
  have hf0 : Fr NoB w (w.alloc (.cells #[.int .i32 c.r, .int .i64 c.fg, .int .i64 c.bg, .int .i64 c.fl] 40)) := (Fr.refl _ _).alloc _
  have HF0 := hid hf0
  have HB0 := hid (Blk.new w 40 c.cells)
  have HH := hid h
  have HAll := hid (gAll_any _ g gb W H cs (h.frd hf0))
  have hI := fun w => rIn_any w (rect0 W H) (x : Int) (y : Int) (rect0_I h.w2 h.h2) (by have := h.w2; unfold I64; omega) (by have := h.h2; unfold I64; omega)
  have hin : decide ((rect0 W H).has (x : Int) (y : Int)) = true := decide_eq_true ((rect0_has W H x y).2 (by omega))
  rw [hin] at hI
  have HI : ∀ w, Hid _ := fun w => hid (hI w)
  have HRow := fun w h => hid (gRow_any w g gb W H cs y h hy)
  have hxW : (x : Int) < (W : Int) := by omega
  have hk : y * W + x < cs.length := by rw [h.len]; exact cell_ix hx hy
  have e1 : c.v = .agg #[.int .i32 c.r, .int .i64 c.fg, .int .i64 c.bg, .int .i64 c.fl] := rfl
  have e4 : Hid ((y * W + x) * 4 = y * W * 4 + x * 4) := hid (by rw [Nat.add_mul])
  rw [e1]
  unfold Rc.v at HAll HI
  clear h hf0 hin hI e1
  have HK := hid hk
  go_enter Tryd.func42, Tryd.ntmps42
  go_wp2_with fail
  refine HAll.out.mono ?_
  rintro e' w1 ⟨rfl, hf1⟩
  have HF1 := hid (HF0.out.trans hf1)
  go_wp2_with fail
  refine (HI _).out.mono ?_
  rintro e' w2 ⟨rfl, hf2⟩
  have HF2 := hid (HF1.out.trans hf2)
  have hB2 := (HB0.out.fr (Fr.trans hf1 hf2) (fun h => h))
  have q0 := hB2.cell 0 rfl
  have q1 := hB2.cell 1 rfl
  have q2 := hB2.cell 2 rfl
  have q3 := hB2.cell 3 rfl
  have HB2 := hid hB2
  have hG2 := HH.out.frd HF2.out
  have HG2 := hid hG2
  clear hf1 hf2 hB2 hG2
  go_wp2_with fail
  go_region_with (go_at_call 27; refine (HRow _ (HG2.out.frd (Fr.drew (Fr.refl _ _)))).out.mono ?_; rintro e' w3 ⟨rfl, hf3⟩; have HF3 : Hid (Fr NoB w2 w3) := Fr.trans (Fr.drew (Fr.refl _ _)) hf3; have hB3 := HB2.out.fr HF3.out (fun h => h); have z0 := hB3.cell 0 rfl; have z1 := hB3.cell 1 rfl; have z2 := hB3.cell 2 rfl; have z3 := hB3.cell 3 rfl; have hG3 := HG2.out.frd HF3.out; have hce := flat_cell hG3.cel (y * W + x) HK.out; rw [e4.out] at hce; obtain ⟨y0, y1, y2, y3⟩ := hce; have v0 := hG3.cel.frozen (y * W * 4 + x * 4); have v1 := hG3.cel.frozen (y * W * 4 + x * 4 + 1); have v2 := hG3.cel.frozen (y * W * 4 + x * 4 + 2); have v3 := hG3.cel.frozen (y * W * 4 + x * 4 + 3); have vlt := hG3.cel.lt; have HG3 := hid hG3; clear hG3 hB3 hf3)
  all_goals
    go_wp2
    go_ret
    have hs := setG_ok HG3.out x y hx hy c
    rw [e4.out] at hs
    exact ⟨rfl, hs, put4c_fr (S := At gb) (b := gb) ((HF2.out.trans HF3.out).mono (fun _ h => h.elim)) (.inl rfl) (y * W * 4 + x * 4) c⟩
theorem atG_in {W H : Nat} {cs : List Cl} (x y : Nat) (hx : x < W) (hy : y < H) (hk : y * W + x < cs.length) : atG W H cs x y = cs[y * W + x] := by
  unfold atG
  rw [if_pos (by omega), Int.toNat_natCast, Int.toNat_natCast, List.getD_eq_getElem?_getD, List.getElem?_eq_getElem hk]
  rfl
set_option maxHeartbeats 4000000 in
theorem gAt_in (w : World) (g gb W H : Nat) (cs : List Cl) (x y : Nat) (h : GD w g gb W H cs) (hx : x < W) (hy : y < H) :
    Calls Tryd.prog 12 #[.pointer (some ⟨g, 0, none⟩), .int .i64 x, .int .i64 y] w fun e w' => e = .returned (atG W H cs x y).v ∧ Fr NoB w w' := by
  have hf0 : Fr NoB w (w.alloc (.cells #[.int .i32 0, .int .i64 0, .int .i64 0, .int .i64 0] 40)) := (Fr.refl _ _).alloc _
  have HF0 := hid hf0
  have HB0 := hid (Blk.new w 40 Cl.zero.cells)
  have HH := hid h
  have HAll := hid (gAll_any _ g gb W H cs (h.frd hf0))
  have hI := fun w => rIn_any w (rect0 W H) (x : Int) (y : Int) (rect0_I h.w2 h.h2) (by have := h.w2; unfold I64; omega) (by have := h.h2; unfold I64; omega)
  have hin : decide ((rect0 W H).has (x : Int) (y : Int)) = true := decide_eq_true ((rect0_has W H x y).2 (by omega))
  rw [hin] at hI
  have HI : ∀ w, Hid _ := fun w => hid (hI w)
  have HRow := fun w h => hid (gRow_any w g gb W H cs y h hy)
  have hxW : (x : Int) < (W : Int) := by omega
  have hk : y * W + x < cs.length := by rw [h.len]; exact cell_ix hx hy
  rw [atG_in x y hx hy hk]
  have e4 : Hid ((y * W + x) * 4 = y * W * 4 + x * 4) := hid (by rw [Nat.add_mul])
  unfold Rc.v at HAll HI
  have HCE := fun (W3 : World) (hW : Fr NoB w W3) => flat_cell (h.cel.fr hW (fun h => h)) (y * W + x) hk
  rw [e4.out] at HCE
  generalize cs[y * W + x] = c at HCE ⊢
  have HCE' := hid HCE
  clear h hf0 hin hI hk HCE
  go_enter Tryd.func12, Tryd.ntmps12
  go_wp2_with fail
  refine HAll.out.mono ?_
  rintro e' w1 ⟨rfl, hf1⟩
  have HF1 := hid (HF0.out.trans hf1)
  go_wp2_with fail
  refine (HI _).out.mono ?_
  rintro e' w2 ⟨rfl, hf2⟩
  have HF2 := hid (HF1.out.trans hf2)
  have HB2 := hid (HB0.out.fr (Fr.trans hf1 hf2) (fun h => h))
  clear hf1 hf2
  go_wp2_with fail
  refine (HRow _ (HH.out.frd HF2.out)).out.mono ?_
  rintro e' w3 ⟨rfl, hf3⟩
  have hB := HB2.out.fr hf3 (fun h => h)
  have HF3 := hid (HF2.out.trans hf3)
  obtain ⟨y0, y1, y2, y3⟩ := HCE'.out w3 HF3.out
  unfold Cl.cells at hB
  have q0 := hB.cell 0 rfl
  have q1 := hB.cell 1 rfl
  have q2 := hB.cell 2 rfl
  have q3 := hB.cell 3 rfl
  have p0 := hB.frozen 0
  have p1 := hB.frozen 1
  have p2 := hB.frozen 2
  have p3 := hB.frozen 3
  have plt := hB.lt
  clear hf3
  go_wp2
  have hBF := hB.put4 (.int .i32 c.r) (.int .i64 c.fg) (.int .i64 c.bg) (.int .i64 c.fl)
  have r0 := hBF.cell 0 rfl
  have r1 := hBF.cell 1 rfl
  have r2 := hBF.cell 2 rfl
  have r3 := hBF.cell 3 rfl
  refine bodyPost_ret (v := c.v) (by simp [results, Tryd.results12, go_sem, r0, r1, r2, r3, Cl.v]) rfl ⟨rfl, Fr.put4 HF3.out (.inr (Nat.le_refl _)) _ _ _ _⟩
end Go.Proofs.YtnengimekcnfhaaDoor
