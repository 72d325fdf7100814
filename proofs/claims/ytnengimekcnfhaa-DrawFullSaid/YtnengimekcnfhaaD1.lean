import Derived.Test.YtnengimekcnfhaaG2
import Derived.Deep.RegionLaw
set_option linter.unusedSimpArgs false
set_option linter.unusedVariables false
set_option maxRecDepth 20000
namespace Go.Proofs.Ytnengimekcnfhaa
open Go.RowKit Go.Proofs.YtnengimekcnfhaaW.PrintWords
/-- A cell that was written. -/
structure Wr where
  x : Int
  y : Int
  c : Cl
def Wr.cells (t : Wr) : List Value := [.int .i64 t.x, .int .i64 t.y, .int .i32 t.c.r, .int .i64 t.c.fg, .int .i64 t.c.bg, .int .i64 t.c.fl]
theorem Wr.len (t : Wr) : t.cells.length = 6 := rfl
def Wr.v (t : Wr) : Value := .agg #[.int .i64 t.x, .int .i64 t.y, .int .i32 t.c.r, .int .i64 t.c.fg, .int .i64 t.c.bg, .int .i64 t.c.fl]
def Wr.zero : Value := .agg #[.int .i64 0, .int .i64 0, .int .i32 0, .int .i64 0, .int .i64 0, .int .i64 0]
theorem infoWr : (Try.prog.info? 57).map (fun i => (i.zero, i.size, i.bytes)) = some (some Wr.zero, 6, 48) := by kernel_rfl
theorem Wr.one (t : Wr) : ∀ u ∈ t.cells, u.oneCell' = true := by
  intro u hu
  simp only [Wr.cells, List.mem_cons, List.not_mem_nil, or_false] at hu
  rcases hu with rfl | rfl | rfl | rfl | rfl | rfl <;> rfl
def WrRow (w : World) (v : Value) (ns : List Wr) : Prop := Row Wr.cells 6 57 w 0 v ns
/-- A frame in memory: its block f, its grid, its notes. -/
structure FD (w : World) (f g gb W H : Nat) (cs : List Cl) (nv : Value) (ns : List Wr) : Prop where
  blk : Blk w f 43 [.pointer (some ⟨g, 0, none⟩), nv]
  gd : GD w g gb W H cs
  row : WrRow w nv ns
/-- What a frame's function writes to. -/
def FB (f gb : Nat) (nv : Value) : Nat → Prop := fun k => k = f ∨ k = gb ∨ OwnB nv k
theorem FD.fr {S : Nat → Prop} {w w1 : World} {f g gb W H : Nat} {cs : List Cl} {nv : Value} {ns : List Wr} (h : FD w f g gb W H cs nv ns) (hf : Fr S w w1) (h0 : ¬ S f) (h1 : ¬ S g) (h2 : ¬ S gb) (h3 : ∀ k, OwnB nv k → ¬ S k) : FD w1 f g gb W H cs nv ns :=
  ⟨h.blk.fr hf h0, h.gd.fr hf h1 h2, h.row.fr hf h3⟩
theorem FD.frd {w w1 : World} {f g gb W H : Nat} {cs : List Cl} {nv : Value} {ns : List Wr} (h : FD w f g gb W H cs nv ns) (hf : Fr NoB w w1) : FD w1 f g gb W H cs nv ns := h.fr hf (fun h => h) (fun h => h) (fun h => h) (fun _ _ h => h)
theorem blk_type {w : World} {b : Nat} {T T2 : TypeId} {l l2 : List Value} (h1 : Blk w b T l) (h2 : Blk w b T2 l2) : T = T2 := by
  unfold Blk at h1 h2
  rw [h1] at h2
  injection h2 with h3
  injection h3 with h4 h5
theorem FD.apart {w : World} {f g gb W H : Nat} {cs : List Cl} {nv : Value} {ns : List Wr} (h : FD w f g gb W H cs nv ns) : f ≠ g ∧ f ≠ gb ∧ g ≠ gb ∧ ¬ OwnB nv f ∧ ¬ OwnB nv g ∧ ¬ OwnB nv gb :=
  ⟨fun e => absurd (blk_type h.blk (e ▸ h.gd.blk)) (by decide), fun e => absurd (blk_type h.blk (e ▸ h.gd.cel)) (by decide), h.gd.ne, h.row.not_blk h.blk (by decide), h.row.not_blk h.gd.blk (by decide), h.row.not_blk h.gd.cel (by decide)⟩
theorem fNew_ok (w : World) (W H : Nat) (h1 : 1 ≤ W) (h2 : W ≤ 512) (h3 : 1 ≤ H) (h4 : H ≤ 512) :
    Calls Try.prog 8 #[.int .i64 W, .int .i64 H] w fun e w' => ∃ f g gb, e = .returned (.pointer (some ⟨f, 0, none⟩)) ∧ FD w' f g gb W H (List.replicate (W * H) Cl.zero) (.slice none 0 0) [] ∧ Fr NoB w w' ∧ w.heap.size ≤ f ∧ w.heap.size ≤ g ∧ w.heap.size ≤ gb := by
  have HN := hid (gNew_ok w W H h1 h2 h3 h4)
  clear h1 h2 h3 h4
  go_enter Try.func8, Try.ntmps8
  go_wp2_with fail
  refine HN.out.mono ?_
  rintro e' w1 ⟨g, gb, rfl, hg, hf1, l1, l2⟩
  have HG := hid hg
  clear hg
  go_wp2
  go_ret
  exact ⟨_, g, gb, rfl, ⟨Blk.new w1 43 _, HG.out.frd ((Fr.refl _ _).alloc _), Row.nil ..⟩, hf1.alloc _, hf1.size, l1, l2⟩
set_option maxHeartbeats 4000000 in
theorem fPut_in (w : World) (f g gb W H : Nat) (cs : List Cl) (nv : Value) (ns : List Wr) (x y : Nat) (c : Cl) (h : FD w f g gb W H cs nv ns) (hx : x < W) (hy : y < H) (hl : ns.length ≤ 1000000) :
    Calls Try.prog 31 #[.pointer (some ⟨f, 0, none⟩), .int .i64 x, .int .i64 y, c.v] w fun e w' => e = .returned (.bool true) ∧ ∃ nv', FD w' f g gb W H (setG W cs x y c) nv' (ns ++ [⟨x, y, c⟩]) ∧ Fr (FB f gb nv) w w' ∧ ∀ k, OwnB nv' k → OwnB nv k ∨ w.heap.size ≤ k := by
  have hf0 : Fr NoB w (w.alloc (.cells #[.int .i32 c.r, .int .i64 c.fg, .int .i64 c.bg, .int .i64 c.fl] 38)) := (Fr.refl _ _).alloc _
  have HF0 := hid hf0
  have HB0 := hid (Blk.new w 38 c.cells)
  have HH := hid h
  have HSz := hid (gSize_any _ g gb W H cs ((h.frd hf0).gd))
  have c0 := h.blk.cell 0 rfl
  have hlt := h.blk.lt
  have t1 : decide ((x : Int) < 0) = false := decide_eq_false (by omega)
  have t2 : decide ((y : Int) < 0) = false := decide_eq_false (by omega)
  have t3 : decide ((x : Int) ≥ (W : Int)) = false := decide_eq_false (by omega)
  have t4 : decide ((y : Int) ≥ (H : Int)) = false := decide_eq_false (by omega)
  obtain ⟨A, cc, hv, hcap⟩ := Row.shape h.row
  have HV := hid hv
  have e1 : c.v = .agg #[.int .i32 c.r, .int .i64 c.fg, .int .i64 c.bg, .int .i64 c.fl] := rfl
  rw [e1]
  have hl88 : Hid ((ns.length + 1) * 48 ≤ 140737488355328) := hid (by omega)
  have HM : Hid ([(⟨x, y, c⟩ : Wr)].length = 1) := rfl
  clear h hf0 hv e1
  go_enter Try.func31, Try.ntmps31
  go_wp2_with fail
  refine HSz.out.mono ?_
  rintro e' w1 ⟨rfl, hf1⟩
  have HF1 := hid (HF0.out.trans hf1)
  have hD1 := HH.out.frd HF1.out
  have HD1 := hid hD1
  have d0 := hD1.blk.cell 0 rfl
  have d1 := hD1.blk.cell 1 rfl
  have g1 := hD1.blk.frozen 1
  have dlt := hD1.blk.lt
  rw [show nv = _ from HV.out] at d1
  have hB1 := HB0.out.fr hf1 (fun h => h)
  have q0 := hB1.cell 0 rfl
  have q1 := hB1.cell 1 rfl
  have q2 := hB1.cell 2 rfl
  have q3 := hB1.cell 3 rfl
  have HB1 := hid hB1
  have HFa : Hid (Fr NoB w1 (w1.alloc (.cells #[.int .i64 x, .int .i64 y, .int .i32 c.r, .int .i64 c.fg, .int .i64 c.bg, .int .i64 c.fl] 57)).drew) := ((Fr.refl NoB w1).alloc _).drew
  have HRW := hid (HD1.out.row.fr HFa.out (fun _ _ h => h))
  rw [show nv = _ from HV.out] at HRW
  have HS : Hid (∀ j u, ([(⟨x, y, c⟩ : Wr)].flatMap Wr.cells)[j]? = some u → (w1.alloc (.cells #[.int .i64 x, .int .i64 y, .int .i32 c.r, .int .i64 c.fg, .int .i64 c.bg, .int .i64 c.fl] 57)).drew.cell? ((⟨w1.heap.size, 0, none⟩ : Addr).add j) = some u) := fun j u hj => by
    rw [show [(⟨x, y, c⟩ : Wr)].flatMap Wr.cells = Wr.cells ⟨x, y, c⟩ by simp] at hj
    exact ((Blk.new w1 57 (Wr.cells ⟨x, y, c⟩)).drew).cells 0 _ (fun j v hj => by rwa [Nat.zero_add]) j u hj
  have hap := hD1.apart
  rw [show nv = _ from HV.out] at hap
  have HAP := hid hap
  clear hD1 hB1 hf1 c0 hap
  go_wp2_with fail
  go_region_law (refine step_row_apps (f := Wr.cells) Wr.len Wr.one 0 rfl (.tmp 39) (.tmp 44) 41 57 Wr.zero 48 rfl Try.underlying41 infoWr rfl (by omega) (by omega) (.slice A ns.length cc) ns [⟨x, y, c⟩] ⟨w1.heap.size, 0, none⟩ 1 1 rfl rfl HM HS.out HRW.out (Nat.zero_le _) hl88.out ?_; intro v3 w3 hr3 hf3 hat3; obtain ⟨A3, c3, rfl, _⟩ := Row.shape hr3; have hb3 := (HD1.out.blk.fr HFa.out (fun h => h)).fr hf3 HAP.out.2.2.2.1; have p0 := hb3.cell 0 rfl; have p1 := hb3.cell 1 rfl; have p2 := hb3.frozen 1; have p3 := hb3.lt; have HBF3 := hid hb3; have HB3 := hid ((HB1.out.fr HFa.out (fun h => h)).fr hf3 (fun hk => Row.not_blk HRW.out (HB1.out.fr HFa.out (fun h => h)) (by decide) hk)); clear hb3)
  all_goals
    rw [List.length_append, List.length_singleton] at hr3 hat3
    obtain ⟨w4, hw4⟩ : ∃ w4, w4 = w3.setCell ⟨f, 1, none⟩ (.slice A3 (ns.length + 1) c3) := ⟨_, rfl⟩
    have hf34 : Fr (At f) w3 w4 := by rw [hw4]; exact (Fr.refl (At f) w3).setAt 1 _
    have hgd3 : GD w3 g gb W H cs := (HD1.out.gd.frd HFa.out).fr hf3 HAP.out.2.2.2.2.1 HAP.out.2.2.2.2.2
    have hgd4 : GD w4 g gb W H cs := hgd3.fr hf34 (fun e => HAP.out.1 e.symm) (fun e => HAP.out.2.1 e.symm)
    have hbf4 : Blk w4 f 43 [.pointer (some ⟨g, 0, none⟩), .slice A3 (ns.length + 1) c3] := by rw [hw4]; exact HBF3.out.set 1 _
    have hbx4 := HB3.out.fr hf34 (fun e => absurd (blk_type HBF3.out ((show w.heap.size = f from e) ▸ HB3.out)) (by decide))
    have hrow3 : ¬ OwnB (.slice A3 (ns.length + 1) c3) f := Row.not_blk hr3 HBF3.out (by decide)
    have hrow4 : WrRow w4 (.slice A3 (ns.length + 1) c3) (ns ++ [⟨x, y, c⟩]) := Row.fr hr3 hf34 (fun k hk he => hrow3 (by have he' : k = f := he; subst he'; exact hk))
    have hset := gSet_in w4.drew g gb W H cs x y c (hgd4.frd (Fr.drew (Fr.refl _ _))) hx hy
    have u0 := hbf4.cell 0 rfl
    have ult := hbf4.lt
    have z0 := hbx4.cell 0 rfl
    have z1 := hbx4.cell 1 rfl
    have z2 := hbx4.cell 2 rfl
    have z3 := hbx4.cell 3 rfl
    have HSet := hid hset
    have HG4 := hid hgd4
    have HBF4 := hid hbf4
    have HR4 := hid hrow4
    have HF34 := hid hf34
    have HF3 := hid hf3
    have HW4 := hid hw4
    have HAT := hid hat3
    rw [← hw4]
    clear hset hgd4 hbf4 hrow4 hf34 hgd3 hbx4 hrow3 hf3 hw4 hr3 hat3 p0 p1 p2 p3 q0 q1 q2 q3 d0 d1 g1
    go_wp2_with fail
    go_region_with (go_at_call 58; refine HSet.out.mono ?_; rintro e' w5 ⟨rfl, hg5, hf5⟩)
    all_goals
      go_wp2
      go_ret
      have hf45 : Fr (At gb) w4 w5 := (Fr.drew (Fr.refl (At gb) w4)).trans hf5
      refine ⟨rfl, .slice A3 (ns.length + 1) c3, ⟨HBF4.out.fr hf45 HAP.out.2.1, hg5, HR4.out.fr hf45 (fun k hk he => Row.not_blk HR4.out HG4.out.cel (by decide) (by have he' : k = gb := he; subst he'; exact hk))⟩, ?_, fun k hk => ?_⟩
      · have a1 : Fr (FB f gb nv) w w3 := ((HF1.out.trans HFa.out).mono (S2 := FB f gb nv) (fun _ h => h.elim)).then_ HF3.out (fun k hk => .inl (.inr (.inr (by rw [show nv = _ from HV.out]; exact hk))))
        have a2 : Fr (FB f gb nv) w w4 := a1.then_ HF34.out (fun k hk => .inl (.inl hk))
        exact a2.then_ hf45 (fun k hk => .inl (.inr (.inl hk)))
      · have hk' : (Value.slice A3 (ns.length + 1) c3).ownBlock = some k := hk
        rcases HAT.out with h1 | h1
        · exact .inl (by rw [show nv = _ from HV.out]; exact h1.symm.trans hk')
        · rw [h1] at hk'
          have := Option.some.inj hk'
          have hsz := (HF1.out.trans HFa.out).size
          exact .inr (by omega)
end Go.Proofs.Ytnengimekcnfhaa
