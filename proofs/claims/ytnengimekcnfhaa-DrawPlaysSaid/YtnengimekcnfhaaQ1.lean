import Derived.Test.YtnengimekcnfhaaG1
import Derived.Test.YtnengimekcnfhaaW2
set_option linter.unusedSimpArgs false
set_option linter.unusedVariables false
set_option maxRecDepth 20000
namespace Go.Proofs.Ytnengimekcnfhaa
open Go.RowKit Go.Proofs.YtnengimekcnfhaaW.PrintWords
/-! The document's grid of 10 by 10 cells: a value with a row of its own, which is never written to behind its making. -/
def gV (gb c : Nat) : Value := .agg #[.int .i64 10, .int .i64 10, .slice (some ⟨gb, 0, none⟩) 100 c]
structure RG (w : World) (gb c : Nat) (cs : List Cl) : Prop where
  row : ∃ rest, Vec Cl.cells 4 w gb 38 cs rest c
  len : cs.length = 100
  cap : 100 ≤ c
  cm : c ≤ maxLen
theorem RG.fr {S : Nat → Prop} {w w1 : World} {gb c : Nat} {cs : List Cl} (h : RG w gb c cs) (hf : Fr S w w1) (hs : ¬ S gb) : RG w1 gb c cs := by
  obtain ⟨rest, hr⟩ := h.row
  exact ⟨⟨rest, hr.fr hf hs⟩, h.len, h.cap, h.cm⟩
theorem RG.frd {w w1 : World} {gb c : Nat} {cs : List Cl} (h : RG w gb c cs) (hf : Fr NoB w w1) : RG w1 gb c cs := h.fr hf (fun h => h)
theorem RG.lt {w : World} {gb c : Nat} {cs : List Cl} (h : RG w gb c cs) : gb < w.heap.size := by
  obtain ⟨rest, hr⟩ := h.row
  exact hr.blk.lt
/-- The cells of one element. -/
theorem RG.cells {w : World} {gb c : Nat} {cs : List Cl} (h : RG w gb c cs) (k : Nat) (hk : k < cs.length) : w.cell? ⟨gb, k * 4, none⟩ = some (.int .i32 cs[k].r) ∧ w.cell? ⟨gb, k * 4 + 1, none⟩ = some (.int .i64 cs[k].fg) ∧ w.cell? ⟨gb, k * 4 + 2, none⟩ = some (.int .i64 cs[k].bg) ∧ w.cell? ⟨gb, k * 4 + 3, none⟩ = some (.int .i64 cs[k].fl) := by
  obtain ⟨rest, hr⟩ := h.row
  have z0 := hr.cell Cl.cells_len k hk 0 (by decide) rfl
  rw [Nat.add_zero] at z0
  exact ⟨z0, hr.cell Cl.cells_len k hk 1 (by decide) rfl, hr.cell Cl.cells_len k hk 2 (by decide) rfl, hr.cell Cl.cells_len k hk 3 (by decide) rfl⟩
theorem r6New_any (w : World) : Calls Try.prog 18 #[.int .i64 10, .int .i64 10] w fun e w' => ∃ gb c, e = .returned (gV gb c) ∧ RG w' gb c (List.replicate 100 Cl.zero) ∧ Fr NoB w w' ∧ w.heap.size ≤ gb := by
  have hmk := run_make_flat (P := Try.prog) Cl.cells_len (by omega) 24 38 Cl.zero Cl.zero.v 32 Try.underlying24 infoCl rfl 100 (by omega) (by omega)
  have hmk2 : ∀ w : World, (Instr.makeSlice 24 (.int .i64 100) (.int .i64 100)).run Try.prog w = .ok (.slice (some ⟨w.heap.size, 0, none⟩) 100 100) (w.alloc (.cells ((List.replicate 100 Cl.zero).flatMap Cl.cells).toArray 38)) := hmk
  have HM := hid hmk2
  have hxs : ∃ xs : List Value, xs = (List.replicate 100 Cl.zero).flatMap Cl.cells := ⟨_, rfl⟩
  obtain ⟨xs, hxs⟩ := hxs
  rw [← hxs] at hmk2
  have HX := hid hxs
  clear hmk hxs
  go_enter Try.func18, Try.ntmps18
  go_wp2
  have hb := (Blk.new w 59 [.int .i64 10, .int .i64 10, .slice (some ⟨w.heap.size + 1, 0, none⟩) 100 100]).alloc (.cells xs.toArray 38)
  have r0 := hb.cell 0 rfl
  have r1 := hb.cell 1 rfl
  have r2 := hb.cell 2 rfl
  have hc := Blk.new (w.alloc (.cells #[.int .i64 10, .int .i64 10, .slice (some ⟨w.heap.size + 1, 0, none⟩) 100 100] 59)) 38 xs
  rw [World.size_alloc] at hc
  refine bodyPost_ret (v := gV (w.heap.size + 1) 100) (by simp [results, Try.results18, go_sem, r0, r1, r2, gV]) rfl ⟨_, _, rfl, ⟨⟨[], ⟨?_, ?_⟩⟩, List.length_replicate, Nat.le_refl _, by decide⟩, ((Fr.refl _ _).alloc _).alloc _, Nat.le_succ _⟩
  · rw [List.append_nil, ← HX.out]
    exact hc
  · rw [List.length_replicate]
    rfl
theorem r6In_any (w : World) (sl : Value) (A : Option Addr) (n c : Nat) (hsl : sl = .slice A n c) (x y : Int) : Calls Try.prog 77 #[.agg #[.int .i64 10, .int .i64 10, sl], .int .i64 x, .int .i64 y] w fun e w' => e = .returned (.bool (decide (0 ≤ x ∧ x < 10 ∧ 0 ≤ y ∧ y < 10))) ∧ Fr NoB w w' := by
  subst hsl
  have hr : decide (0 ≤ x ∧ x < 10 ∧ 0 ≤ y ∧ y < 10) = (decide (0 ≤ x) && (decide (x < 10) && (decide (0 ≤ y) && decide (y < 10)))) := by simp [Bool.decide_and]
  rw [hr]
  clear hr
  cases h1 : decide (0 ≤ x) <;> cases h2 : decide (x < 10) <;> cases h3 : decide (0 ≤ y) <;> cases h4 : decide (y < 10)
  all_goals
    have g1 := h1
    go_enter Try.func77, Try.ntmps77
    go_wp2
    go_ret
    exact ⟨rfl, (Fr.refl _ _).alloc _⟩
theorem r6At_in (w : World) (gb c : Nat) (cs : List Cl) (x y : Nat) (h : RG w gb c cs) (hx : x < 10) (hy : y < 10) :
    Calls Try.prog 70 #[gV gb c, .int .i64 x, .int .i64 y] w fun e w' => e = .returned (atG 10 10 cs x y).v ∧ Fr NoB w w' := by
  have hk : y * 10 + x < cs.length := by rw [h.len]; omega
  rw [atG_in x y hx hy hk]
  obtain ⟨k0, k1, k2, k3⟩ := h.cells (y * 10 + x) hk
  have hgl := h.lt
  have HI := fun w9 => hid (r6In_any w9 (.slice (some ⟨gb, 0, none⟩) 100 c) _ _ _ rfl (x : Int) (y : Int))
  have hin : decide (0 ≤ (x : Int) ∧ (x : Int) < 10 ∧ 0 ≤ (y : Int) ∧ (y : Int) < 10) = true := decide_eq_true (by omega)
  rw [hin] at HI
  have m1 : IntKind.i64.wrap ((y : Int) * 10) = (y : Int) * 10 := IntWalk.i64_in _ (by omega)
  have m2 : IntKind.i64.wrap ((y : Int) * 10 + x) = ((y * 10 + x : Nat) : Int) := by rw [IntWalk.i64_in _ (by omega)]; omega
  generalize cs[y * 10 + x] = q at *
  have hk2 : y * 10 + x < 100 := by have := h.len; omega
  have HK := hid (h.fr (Fr.refl NoB w) (fun h => h))
  generalize y * 10 + x = k at *
  unfold gV
  clear h hin hk
  have HF0 := hid (((Fr.refl NoB w).alloc (.cells #[.int .i64 10, .int .i64 10, .slice (some ⟨gb, 0, none⟩) 100 c] 59)).alloc (.cells #[.int .i32 0, .int .i64 0, .int .i64 0, .int .i64 0] 38))
  have HB := hid ((Blk.new w 59 [.int .i64 10, .int .i64 10, .slice (some ⟨gb, 0, none⟩) 100 c]).alloc (.cells #[.int .i32 0, .int .i64 0, .int .i64 0, .int .i64 0] 38))
  have hC := Blk.new (w.alloc (.cells #[.int .i64 10, .int .i64 10, .slice (some ⟨gb, 0, none⟩) 100 c] 59)) 38 Cl.zero.cells
  rw [World.size_alloc] at hC
  have HC := hid hC
  clear hC
  go_enter Try.func70, Try.ntmps70
  go_wp2_with fail
  refine (HI _).out.mono ?_
  rintro e' w1 ⟨rfl, hf1⟩
  have HF1 := hid (HF0.out.trans hf1)
  have y0 := cellto k0 HF1.out
  have y1 := cellto k1 HF1.out
  have y2 := cellto k2 HF1.out
  have y3 := cellto k3 HF1.out
  have hB1 := HB.out.fr hf1 (fun h => h)
  have b0 := hB1.cell 0 rfl
  have b1 := hB1.cell 1 rfl
  have b2 := hB1.cell 2 rfl
  have bl := hB1.lt
  have hC1 := HC.out.fr hf1 (fun h => h)
  unfold Cl.cells at hC1
  have p0 := hC1.frozen 0
  have p1 := hC1.frozen 1
  have p2 := hC1.frozen 2
  have p3 := hC1.frozen 3
  have q0 := hC1.cell 0 rfl
  have q1 := hC1.cell 1 rfl
  have q2 := hC1.cell 2 rfl
  have q3 := hC1.cell 3 rfl
  have plt := hC1.lt
  clear hf1 hB1 k0 k1 k2 k3
  go_wp2
  have hBF := hC1.put4 (.int .i32 q.r) (.int .i64 q.fg) (.int .i64 q.bg) (.int .i64 q.fl)
  have r0 := hBF.cell 0 rfl
  have r1 := hBF.cell 1 rfl
  have r2 := hBF.cell 2 rfl
  have r3 := hBF.cell 3 rfl
  refine bodyPost_ret (v := q.v) (by simp [results, Try.results70, go_sem, r0, r1, r2, r3, Cl.v]) rfl ⟨rfl, Fr.put4 HF1.out (.inr (Nat.le_succ _)) _ _ _ _⟩
end Go.Proofs.Ytnengimekcnfhaa
