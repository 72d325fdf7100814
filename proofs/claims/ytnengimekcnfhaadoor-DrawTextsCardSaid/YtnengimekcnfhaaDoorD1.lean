import Derived.Test.YtnengimekcnfhaaDoorG1
import Derived.Deep.RegionLaw
import Derived.RangeFuncNested
import Derived.RangeFuncBound
import Derived.RangeFuncCalls
import Derived.RangeFuncLeaves
import Derived.Shelf.Abstract
import Derived.Shelf.RegionOpen
import Derived.OwnWalkIn
import Derived.TacticsInMore
import Derived.LoopNIn
import Derived.LoopIn
import Derived.Test.YtnengimekcnfhaaDoorW2
set_option linter.unusedSimpArgs false
set_option linter.unusedVariables false
set_option maxRecDepth 20000
namespace Go.Proofs.YtnengimekcnfhaaDoor
open Go.RowKit Go.Proofs.YtnengimekcnfhaaDoorW.PrintWords
/-- A cell that was written. -/
structure Wr where
  x : Int
  y : Int
  c : Cl
def Wr.cells (t : Wr) : List Value := [.int .i64 t.x, .int .i64 t.y, .int .i32 t.c.r, .int .i64 t.c.fg, .int .i64 t.c.bg, .int .i64 t.c.fl]
theorem Wr.len (t : Wr) : t.cells.length = 6 := rfl
def Wr.v (t : Wr) : Value := .agg #[.int .i64 t.x, .int .i64 t.y, .int .i32 t.c.r, .int .i64 t.c.fg, .int .i64 t.c.bg, .int .i64 t.c.fl]
def Wr.zero : Value := .agg #[.int .i64 0, .int .i64 0, .int .i32 0, .int .i64 0, .int .i64 0, .int .i64 0]
theorem infoWr : (Tryd.prog.info? 99).map (fun i => (i.zero, i.size, i.bytes)) = some (some Wr.zero, 6, 48) := by kernel_rfl
theorem Wr.one (t : Wr) : ∀ u ∈ t.cells, u.oneCell' = true := by
  intro u hu
  simp only [Wr.cells, List.mem_cons, List.not_mem_nil, or_false] at hu
  rcases hu with rfl | rfl | rfl | rfl | rfl | rfl <;> rfl
def WrRow (w : World) (v : Value) (ns : List Wr) : Prop := Row Wr.cells 6 99 w 0 v ns
/-- A frame in memory: its block f, its grid, its notes. -/
structure FD (w : World) (f g gb W H : Nat) (cs : List Cl) (nv : Value) (ns : List Wr) : Prop where
  blk : Blk w f 45 [.pointer (some ⟨g, 0, none⟩), nv]
  gd : GD w g gb W H cs
  row : WrRow w nv ns
/-- What a frame's function writes to. -/
def FB (f gb : Nat) (nv : Value) : Nat → Prop := fun k => k = f ∨ k = gb ∨ OwnB nv k
theorem FD.fr {S : Nat → Prop} {w w1 : World} {f g gb W H : Nat} {cs : List Cl} {nv : Value} {ns : List Wr} (h : FD w f g gb W H cs nv ns) (hf : Fr S w w1) (h0 : ¬ S f) (h1 : ¬ S g) (h2 : ¬ S gb) (h3 : ∀ k, OwnB nv k → ¬ S k) : FD w1 f g gb W H cs nv ns :=
  ⟨h.blk.fr hf h0, h.gd.fr hf h1 h2, h.row.fr hf h3⟩
theorem FD.frd {w w1 : World} {f g gb W H : Nat} {cs : List Cl} {nv : Value} {ns : List Wr} (h : FD w f g gb W H cs nv ns) (hf : Fr NoB w w1) : FD w1 f g gb W H cs nv ns := h.fr hf (fun h => h) (fun h => h) (fun h => h) (fun _ _ h => h)
theorem blk_type {w : World} {b : Nat} {T T2 : TypeId} {l l2 : List Value} (h1 : Blk w b T l) (h2 : Blk w b T2 l2) : T = T2 := by
  unfold Blk at h1 h2
  rw [h1] at h2
  injection h2 with h3
  injection h3 with h4 h5
theorem FD.apart {w : World} {f g gb W H : Nat} {cs : List Cl} {nv : Value} {ns : List Wr} (h : FD w f g gb W H cs nv ns) : f ≠ g ∧ f ≠ gb ∧ g ≠ gb ∧ ¬ OwnB nv f ∧ ¬ OwnB nv g ∧ ¬ OwnB nv gb :=
  ⟨fun e => absurd (blk_type h.blk (e ▸ h.gd.blk)) (by decide), fun e => absurd (blk_type h.blk (e ▸ h.gd.cel)) (by decide), h.gd.ne, h.row.not_blk h.blk (by decide), h.row.not_blk h.gd.blk (by decide), h.row.not_blk h.gd.cel (by decide)⟩
theorem fNew_ok (w : World) (W H : Nat) (h1 : 1 ≤ W) (h2 : W ≤ 512) (h3 : 1 ≤ H) (h4 : H ≤ 512) :
    Calls Tryd.prog 8 #[.int .i64 W, .int .i64 H] w fun e w' => ∃ f g gb, e = .returned (.pointer (some ⟨f, 0, none⟩)) ∧ FD w' f g gb W H (List.replicate (W * H) Cl.zero) (.slice none 0 0) [] ∧ Fr NoB w w' ∧ w.heap.size ≤ f ∧ w.heap.size ≤ g ∧ w.heap.size ≤ gb := by
  have HN := hid (gNew_ok w W H h1 h2 h3 h4)
  clear h1 h2 h3 h4
  go_enter Tryd.func8, Tryd.ntmps8
  go_wp2_with fail
  refine HN.out.mono ?_
  rintro e' w1 ⟨g, gb, rfl, hg, hf1, l1, l2⟩
  have HG := hid hg
  clear hg
  go_wp2
  go_ret
  exact ⟨_, g, gb, rfl, ⟨Blk.new w1 45 _, HG.out.frd ((Fr.refl _ _).alloc _), Row.nil ..⟩, hf1.alloc _, hf1.size, l1, l2⟩
set_option maxHeartbeats 4000000 in
theorem fPut_in (w : World) (f g gb W H : Nat) (cs : List Cl) (nv : Value) (ns : List Wr) (x y : Nat) (c : Cl) (h : FD w f g gb W H cs nv ns) (hx : x < W) (hy : y < H) (hl : ns.length ≤ 1000000) :
    Calls Tryd.prog 24 #[.pointer (some ⟨f, 0, none⟩), .int .i64 x, .int .i64 y, c.v] w fun e w' => e = .returned (.bool true) ∧ ∃ nv', FD w' f g gb W H (setG W cs x y c) nv' (ns ++ [⟨x, y, c⟩]) ∧ Fr (FB f gb nv) w w' ∧ ∀ k, OwnB nv' k → OwnB nv k ∨ w.heap.size ≤ k := by
  have hf0 : Fr NoB w (w.alloc (.cells #[.int .i32 c.r, .int .i64 c.fg, .int .i64 c.bg, .int .i64 c.fl] 40)) := (Fr.refl _ _).alloc _
  have HF0 := hid hf0
  have HB0 := hid (Blk.new w 40 c.cells)
  have HH := hid h
  have HSz := hid (gSize_any _ g gb W H cs ((h.frd hf0).gd))
  have c0 := h.blk.cell 0 rfl
  have hlt := h.blk.lt
  have t1 : decide ((x : Int) < 0) = false := decide_eq_false (by omega)
  have t2 : decide ((y : Int) < 0) = false := decide_eq_false (by omega)
  have t3 : decide ((x : Int) ≥ (W : Int)) = false := decide_eq_false (by omega)
  have t4 : decide ((y : Int) ≥ (H : Int)) = false := decide_eq_false (by omega)
  obtain ⟨A, cc, hv, hcap⟩ := Row.shape h.row
  have HV := hid hv
  have e1 : c.v = .agg #[.int .i32 c.r, .int .i64 c.fg, .int .i64 c.bg, .int .i64 c.fl] := rfl
  rw [e1]
  have hl88 : Hid ((ns.length + 1) * 48 ≤ 140737488355328) := hid (by omega)
  have HM : Hid ([(⟨x, y, c⟩ : Wr)].length = 1) := rfl
  clear h hf0 hv e1
  go_enter Tryd.func24, Tryd.ntmps24
  go_wp2_with fail
  refine HSz.out.mono ?_
  rintro e' w1 ⟨rfl, hf1⟩
  have HF1 := hid (HF0.out.trans hf1)
  have hD1 := HH.out.frd HF1.out
  have HD1 := hid hD1
  have d0 := hD1.blk.cell 0 rfl
  have d1 := hD1.blk.cell 1 rfl
  have g1 := hD1.blk.frozen 1
  have dlt := hD1.blk.lt
  rw [show nv = _ from HV.out] at d1
  have hB1 := HB0.out.fr hf1 (fun h => h)
  have q0 := hB1.cell 0 rfl
  have q1 := hB1.cell 1 rfl
  have q2 := hB1.cell 2 rfl
  have q3 := hB1.cell 3 rfl
  have HB1 := hid hB1
  have HFa : Hid (Fr NoB w1 (w1.alloc (.cells #[.int .i64 x, .int .i64 y, .int .i32 c.r, .int .i64 c.fg, .int .i64 c.bg, .int .i64 c.fl] 99)).drew) := ((Fr.refl NoB w1).alloc _).drew
  have HRW := hid (HD1.out.row.fr HFa.out (fun _ _ h => h))
  rw [show nv = _ from HV.out] at HRW
  have HS : Hid (∀ j u, ([(⟨x, y, c⟩ : Wr)].flatMap Wr.cells)[j]? = some u → (w1.alloc (.cells #[.int .i64 x, .int .i64 y, .int .i32 c.r, .int .i64 c.fg, .int .i64 c.bg, .int .i64 c.fl] 99)).drew.cell? ((⟨w1.heap.size, 0, none⟩ : Addr).add j) = some u) := fun j u hj => by
    rw [show [(⟨x, y, c⟩ : Wr)].flatMap Wr.cells = Wr.cells ⟨x, y, c⟩ by simp] at hj
    exact ((Blk.new w1 99 (Wr.cells ⟨x, y, c⟩)).drew).cells 0 _ (fun j v hj => by rwa [Nat.zero_add]) j u hj
  have hap := hD1.apart
  rw [show nv = _ from HV.out] at hap
  have HAP := hid hap
  clear hD1 hB1 hf1 c0 hap
  go_wp2_with fail
  go_region_law (refine step_row_apps (f := Wr.cells) Wr.len Wr.one 0 rfl (.tmp 39) (.tmp 44) 43 99 Wr.zero 48 rfl Tryd.underlying43 infoWr rfl (by omega) (by omega) (.slice A ns.length cc) ns [⟨x, y, c⟩] ⟨w1.heap.size, 0, none⟩ 1 1 rfl rfl HM HS.out HRW.out (Nat.zero_le _) hl88.out ?_; intro v3 w3 hr3 hf3 hat3; obtain ⟨A3, c3, rfl, _⟩ := Row.shape hr3; have hb3 := (HD1.out.blk.fr HFa.out (fun h => h)).fr hf3 HAP.out.2.2.2.1; have p0 := hb3.cell 0 rfl; have p1 := hb3.cell 1 rfl; have p2 := hb3.frozen 1; have p3 := hb3.lt; have HBF3 := hid hb3; have HB3 := hid ((HB1.out.fr HFa.out (fun h => h)).fr hf3 (fun hk => Row.not_blk HRW.out (HB1.out.fr HFa.out (fun h => h)) (by decide) hk)); clear hb3)
  all_goals
    rw [List.length_append, List.length_singleton] at hr3 hat3
    obtain ⟨w4, hw4⟩ : ∃ w4, w4 = w3.setCell ⟨f, 1, none⟩ (.slice A3 (ns.length + 1) c3) := ⟨_, rfl⟩
    have hf34 : Fr (At f) w3 w4 := by rw [hw4]; exact (Fr.refl (At f) w3).setAt 1 _
    have hgd3 : GD w3 g gb W H cs := (HD1.out.gd.frd HFa.out).fr hf3 HAP.out.2.2.2.2.1 HAP.out.2.2.2.2.2
    have hgd4 : GD w4 g gb W H cs := hgd3.fr hf34 (fun e => HAP.out.1 e.symm) (fun e => HAP.out.2.1 e.symm)
    have hbf4 : Blk w4 f 45 [.pointer (some ⟨g, 0, none⟩), .slice A3 (ns.length + 1) c3] := by rw [hw4]; exact HBF3.out.set 1 _
    have hbx4 := HB3.out.fr hf34 (fun e => absurd (blk_type HBF3.out ((show w.heap.size = f from e) ▸ HB3.out)) (by decide))
    have hrow3 : ¬ OwnB (.slice A3 (ns.length + 1) c3) f := Row.not_blk hr3 HBF3.out (by decide)
    have hrow4 : WrRow w4 (.slice A3 (ns.length + 1) c3) (ns ++ [⟨x, y, c⟩]) := Row.fr hr3 hf34 (fun k hk he => hrow3 (by have he' : k = f := he; subst he'; exact hk))
    have hset := gSet_in w4.drew g gb W H cs x y c (hgd4.frd (Fr.drew (Fr.refl _ _))) hx hy
    have u0 := hbf4.cell 0 rfl
    have ult := hbf4.lt
    have z0 := hbx4.cell 0 rfl
    have z1 := hbx4.cell 1 rfl
    have z2 := hbx4.cell 2 rfl
    have z3 := hbx4.cell 3 rfl
    have HSet := hid hset
    have HG4 := hid hgd4
    have HBF4 := hid hbf4
    have HR4 := hid hrow4
    have HF34 := hid hf34
    have HF3 := hid hf3
    have HW4 := hid hw4
    have HAT := hid hat3
    rw [← hw4]
    clear hset hgd4 hbf4 hrow4 hf34 hgd3 hbx4 hrow3 hf3 hw4 hr3 hat3 p0 p1 p2 p3 q0 q1 q2 q3 d0 d1 g1
    go_wp2_with fail
    go_region_with (go_at_call 42; refine HSet.out.mono ?_; rintro e' w5 ⟨rfl, hg5, hf5⟩)
    all_goals
      go_wp2
      go_ret
      have hf45 : Fr (At gb) w4 w5 := (Fr.drew (Fr.refl (At gb) w4)).trans hf5
      refine ⟨rfl, .slice A3 (ns.length + 1) c3, ⟨HBF4.out.fr hf45 HAP.out.2.1, hg5, HR4.out.fr hf45 (fun k hk he => Row.not_blk HR4.out HG4.out.cel (by decide) (by have he' : k = gb := he; subst he'; exact hk))⟩, ?_, fun k hk => ?_⟩
      · have a1 : Fr (FB f gb nv) w w3 := ((HF1.out.trans HFa.out).mono (S2 := FB f gb nv) (fun _ h => h.elim)).then_ HF3.out (fun k hk => .inl (.inr (.inr (by rw [show nv = _ from HV.out]; exact hk))))
        have a2 : Fr (FB f gb nv) w w4 := a1.then_ HF34.out (fun k hk => .inl (.inl hk))
        exact a2.then_ hf45 (fun k hk => .inl (.inr (.inl hk)))
      · have hk' : (Value.slice A3 (ns.length + 1) c3).ownBlock = some k := hk
        rcases HAT.out with h1 | h1
        · exact .inl (by rw [show nv = _ from HV.out]; exact h1.symm.trans hk')
        · rw [h1] at hk'
          have := Option.some.inj hk'
          have hsz := (HF1.out.trans HFa.out).size
          exact .inr (by omega)
end Go.Proofs.YtnengimekcnfhaaDoor
set_option linter.unusedSimpArgs false
set_option linter.unusedVariables false
set_option maxRecDepth 20000
namespace Go.Proofs.YtnengimekcnfhaaDoor
open Go.RowKit Go.Shelf Go.Proofs.YtnengimekcnfhaaDoorW.PrintWords
attribute [local go_sem] Oper.semAt_some
/-- The places of a rectangle. -/
abbrev Pl (X Y : Int) (W H : Nat) := { p : Int × Int // X ≤ p.1 ∧ p.1 < X + W ∧ Y ≤ p.2 ∧ p.2 < Y + H }
theorem pl_ok (X Y : Int) (W H k : Nat) (hk : k < H * W) : X ≤ X + (k % W : Nat) ∧ X + (k % W : Nat) < X + W ∧ Y ≤ Y + (k / W : Nat) ∧ Y + (k / W : Nat) < Y + H := by
  have hW : 0 < W := Nat.pos_of_ne_zero (fun e => by subst e; simp at hk)
  have h1 := Nat.mod_lt k hW
  have h2 : k / W < H := by rw [Nat.div_lt_iff_lt_mul hW]; exact hk
  generalize k % W = a at *
  generalize k / W = b at *
  omega
def plF (X Y : Int) (W H : Nat) (k : Fin (H * W)) : Pl X Y W H := ⟨(X + (k.1 % W : Nat), Y + (k.1 / W : Nat)), pl_ok X Y W H k.1 k.2⟩
/-- All of them, row by row. -/
def plL (X Y : Int) (W H : Nat) : List (Pl X Y W H) := (List.finRange (H * W)).map (plF X Y W H)
theorem plL_len (X Y : Int) (W H : Nat) : (plL X Y W H).length = H * W := by simp [plL]
theorem plL_get (X Y : Int) (W H k : Nat) (hk : k < H * W) : (plL X Y W H)[k]'(by rw [plL_len]; exact hk) = plF X Y W H ⟨k, hk⟩ := by simp [plL]
theorem plL_next (X Y : Int) (W H x y : Nat) (hx : x < W) (hy : y < H) : ∃ hk : y * W + x < H * W, (plL X Y W H).take (y * W + x + 1) = (plL X Y W H).take (y * W + x) ++ [plF X Y W H ⟨y * W + x, hk⟩] ∧ (plF X Y W H ⟨y * W + x, hk⟩).1 = (X + x, Y + y) := by
  have hk : y * W + x < H * W := by
    have h1 : (y + 1) * W ≤ H * W := Nat.mul_le_mul_right _ hy
    rw [Nat.add_mul, Nat.one_mul] at h1
    omega
  refine ⟨hk, ?_, ?_⟩
  · rw [List.take_succ_eq_append_getElem (by rw [plL_len]; exact hk), plL_get X Y W H _ hk]
  · show (X + ((y * W + x) % W : Nat), Y + ((y * W + x) / W : Nat)) = _
    have e1 : (y * W + x) % W = x := by rw [Nat.mul_comm, Nat.mul_add_mod, Nat.mod_eq_of_lt hx]
    have e2 : (y * W + x) / W = y := by rw [Nat.mul_comm, Nat.mul_add_div (by omega), Nat.div_eq_of_lt hx, Nat.add_zero]
    rw [e1, e2]
def KpB (b1 b2 : Nat) (W W' : World) : Prop := W'.heap[b1]? = W.heap[b1]? ∧ W'.heap[b2]? = W.heap[b2]?
set_option maxHeartbeats 4000000 in
theorem pl_stops (F : Fence) (n : Nat) (hf : F.fn 40) (hro : F.round = none) (hn : 1 ≤ n) (iB wB : Nat) (t : Wn) (ir : Rc) (W H : Nat) (hW : ir.w = W) (hH : ir.h = H) (hW2 : W ≤ 1000000) (hH2 : H ≤ 1000000) (hx : Near ir.x) (hy : Near ir.y) (htx : Near t.x) (hty : Near t.y) (w : World) (hi : Blk w iB 37 ir.cells) (hw : Blk w wB 58 t.cells) :
    SeqStopsK F n Tryd.prog 40 #[.pointer (some ⟨iB, 0, none⟩), .pointer (some ⟨wB, 0, none⟩)] (fun p : Pl (t.x + ir.x) (t.y + ir.y) W H => #[.int .i64 p.1.1, .int .i64 p.1.2]) (KpB iB wB) (fun xs => xs = plL (t.x + ir.x) (t.y + ir.y) W H) (fun _ => True) (H * W) w := fun l J Jx W0 hb hJ hJx hY h0 => by
  obtain ⟨x1, x2⟩ := hx
  obtain ⟨y1, y2⟩ := hy
  obtain ⟨u1, u2⟩ := htx
  obtain ⟨v1, v2⟩ := hty
  have hi0 : Blk W0 iB 37 ir.cells := (hb.block iB hi.lt).trans hi
  have hw0 : Blk W0 wB 58 t.cells := (hb.block wB hw.lt).trans hw
  have c3 := hi0.cell 3 rfl
  rw [hH] at c3
  refine callsIn_of_wp Tryd.func40 rfl hf ?_ hro
  simp only [Tryd.ntmps40, List.size_toArray, List.length_cons, List.length_nil, Nat.reduceAdd, Nat.reduceSub, Array.replicate_succ, Array.replicate_zero, List.push_toArray, List.append_toArray, List.nil_append, List.cons_append]
  have HI0 := hid hi0
  have HW0 := hid hw0
  have HY := hid hY
  clear hi hw hi0 hw0 hb hY hJ hJx
  gi_wp2
  gi_loopw [8] (fun v8 wr => ∃ y : Nat, y ≤ H ∧ v8 = .int .i64 y ∧ Hid (Blk wr iB 37 ir.cells) ∧ Hid (Blk wr wB 58 t.cells) ∧ Hid (J ((plL (t.x + ir.x) (t.y + ir.y) W H).take (y * W)) wr)) (fun v8 _ => H - (intOf v8).toNat)
  case atStart => exact ⟨0, Nat.zero_le _, rfl, HI0, HW0, hid (by simpa using h0)⟩
  case round =>
    obtain ⟨y, hyH, rfl, HI, HW, HJ⟩ := hrel
    by_cases hlt : y < H
    · have d2 := HI.out.cell 2 rfl
      rw [hW] at d2
      gi_wp2
      gi_loopw [13] (fun v13 wq => ∃ x : Nat, x ≤ W ∧ v13 = .int .i64 x ∧ Hid (Blk wq iB 37 ir.cells) ∧ Hid (Blk wq wB 58 t.cells) ∧ Hid (J ((plL (t.x + ir.x) (t.y + ir.y) W H).take (y * W + x)) wq)) (fun v13 _ => W - (intOf v13).toNat)
      case atStart => exact ⟨0, Nat.zero_le _, rfl, HI, HW, HJ⟩
      case round =>
        obtain ⟨x, hxW, rfl, HI2, HW2, HJ2⟩ := hrel
        by_cases hxl : x < W
        · obtain ⟨hk, hnext, hval⟩ := plL_next (t.x + ir.x) (t.y + ir.y) W H x y hxl hlt
          obtain ⟨fn, tmps, assign, body, hy, hR⟩ := HY.out ((plL (t.x + ir.x) (t.y + ir.y) W H).take (y * W + x)) (plF (t.x + ir.x) (t.y + ir.y) W H ⟨y * W + x, hk⟩) wr HJ2.out (by rw [List.length_take, plL_len]; omega)
          rw [hval] at hy
          rw [← hnext] at hR
          dsimp only at hy
          have a2 := HW2.out.cell 2 rfl
          have a3 := HW2.out.cell 3 rfl
          have b0 := HI2.out.cell 0 rfl
          have b1 := HI2.out.cell 1 rfl
          have HR := hid hR
          clear hR hnext hval
          gi_wp2
          refine HR.out.mono ?_
          rintro e W3 (⟨rfl, hJ3, hk3⟩ | ⟨rfl, hJx3⟩)
          · have HI3 : Hid (Blk W3 iB 37 ir.cells) := hk3.1.trans HI2.out
            have HW3 : Hid (Blk W3 wB 58 t.cells) := hk3.2.trans HW2.out
            have HJ3 := hid hJ3
            clear hJ3 hk3
            gi_wp2
            go_roundw
            case rel => exact ⟨x + 1, by omega, by go_num, HI3, HW3, HJ3⟩
            case measure => simp [intOf]; omega
          · have HJ3 := hid hJx3
            clear hJx3
            gi_wp2
            refine bodyPost_ret (results_none rfl _ _ _) rfl ?_
            exact ⟨⟨_, rfl⟩, .inr ⟨_, trivial, HJ3.out⟩⟩
        · obtain rfl : x = W := by omega
          gi_wp2
          go_roundw
          case rel => exact ⟨y + 1, by omega, by go_num, HI2, HW2, by rw [Nat.add_mul, Nat.one_mul]; exact HJ2⟩
          case measure => simp [intOf]; omega
    · obtain rfl : y = H := by omega
      gi_wp2
      go_end0
      exact ⟨⟨_, rfl⟩, .inl ⟨_, rfl, by have := HJ.out; rwa [List.take_of_length_le (by rw [plL_len]; exact Nat.le_refl _)] at this⟩⟩
end Go.Proofs.YtnengimekcnfhaaDoor
set_option linter.unusedSimpArgs false
set_option linter.unusedVariables false
set_option maxRecDepth 20000
namespace Go.Proofs.YtnengimekcnfhaaDoor
open Go.RowKit Go.Proofs.YtnengimekcnfhaaDoorW.PrintWords
/-- What of a rectangle is in a window, told from its corner. -/
def inW (t : Wn) (r : Rc) : Rc := r.both ⟨0, 0, t.w, t.h⟩
set_option maxHeartbeats 2000000 in
theorem places_any (w : World) (t : Wn) (r : Rc) : Calls Tryd.prog 22 #[t.v, r.v] w fun e w' => ∃ iB wB, e = .returned (.func (.func 40) #[] #[.pointer (some ⟨iB, 0, none⟩), .pointer (some ⟨wB, 0, none⟩)]) ∧ Blk w' iB 37 (inW t r).cells ∧ Blk w' wB 58 t.cells ∧ Fr NoB w w' ∧ w.heap.size ≤ iB ∧ w.heap.size ≤ wB := by
  have hmf : ∀ (fn : Fn) (first cap : Array Value) (w : World), (Instr.makeFunc fn first cap).run Tryd.prog w = .ok (.func fn first cap) w := fun _ _ _ _ => rfl
  have hf0 : Fr NoB w ((w.alloc (.cells #[.int .i64 t.id, .int .i64 t.env, .int .i64 t.x, .int .i64 t.y, .int .i64 t.w, .int .i64 t.h, .bool t.hid] 58)).alloc (.cells #[.int .i64 r.x, .int .i64 r.y, .int .i64 r.w, .int .i64 r.h] 37)) := ((Fr.refl _ _).alloc _).alloc _
  have HF0 := hid hf0
  have hW0 := (Blk.new w 58 t.cells).alloc (.cells #[.int .i64 r.x, .int .i64 r.y, .int .i64 r.w, .int .i64 r.h] 37)
  have HW0 := hid hW0
  have HBo := fun w => hid (rBoth_any w r ⟨0, 0, t.w, t.h⟩)
  have HBo' : ∀ w, Hid (Calls Tryd.prog 39 #[.agg #[.int .i64 r.x, .int .i64 r.y, .int .i64 r.w, .int .i64 r.h], .agg #[.int .i64 0, .int .i64 0, .int .i64 t.w, .int .i64 t.h]] w fun e w' => e = .returned (.agg #[.int .i64 (inW t r).x, .int .i64 (inW t r).y, .int .i64 (inW t r).w, .int .i64 (inW t r).h]) ∧ Fr NoB w w') := HBo
  generalize inW t r = z at HBo' ⊢
  have e1 : t.v = .agg #[.int .i64 t.id, .int .i64 t.env, .int .i64 t.x, .int .i64 t.y, .int .i64 t.w, .int .i64 t.h, .bool t.hid] := rfl
  have e2 : r.v = .agg #[.int .i64 r.x, .int .i64 r.y, .int .i64 r.w, .int .i64 r.h] := rfl
  rw [e1, e2]
  clear hf0 hW0 HBo e1 e2
  go_enter Tryd.func22, Tryd.ntmps22
  go_wp2_with fail
  refine (HBo' _).out.mono ?_
  rintro e' w1 ⟨rfl, hf1⟩
  have hW1 := hid ((HW0.out.fr hf1 (fun h => h)).alloc (.cells #[.int .i64 z.x, .int .i64 z.y, .int .i64 z.w, .int .i64 z.h] 37))
  have hF1 := hid (HF0.out.trans hf1)
  clear hf1
  go_wp2
  go_ret
  exact ⟨_, _, rfl, Blk.new w1 37 z.cells, hW1.out, hF1.out.alloc _, hF1.out.size, Nat.le_refl _⟩
set_option maxHeartbeats 2000000 in
theorem window_any (w : World) (f b : Nat) (scr : Rc) (v : Value) (xs : List Wn) (next id : Int) (h : SK w b scr v xs next) (hl : xs.length ≤ 4096) :
    Calls Tryd.prog 20 #[.pointer (some ⟨f, 0, none⟩), .pointer (some ⟨b, 0, none⟩), .int .i64 id] w fun e w' => e = .returned (.tuple #[((getW xs id).getD Wn.nil).v, .int .i64 (if (getW xs id).isSome then 0 else 5)]) ∧ Fr NoB w w' := by
  have hf0 : Fr NoB w (w.alloc (.cells #[.int .i64 0, .int .i64 0, .int .i64 0, .int .i64 0, .int .i64 0, .int .i64 0, .bool false] 58)) := (Fr.refl _ _).alloc _
  have HF0 := hid hf0
  have HG := hid (sGet_any _ b scr v xs next id (h.frd hf0) hl)
  have HB0 := hid (Blk.new w 58 (Wn.cells Wn.nil))
  cases hg : getW xs id with
  | none =>
    rw [hg] at HG
    clear h hf0 hg
    have HG' : Hid (Calls Tryd.prog 37 #[.pointer (some ⟨b, 0, none⟩), .int .i64 id] (w.alloc (.cells #[.int .i64 0, .int .i64 0, .int .i64 0, .int .i64 0, .int .i64 0, .int .i64 0, .bool false] 58)) fun e w' => e = .returned (.tuple #[.agg #[.int .i64 0, .int .i64 0, .int .i64 0, .int .i64 0, .int .i64 0, .int .i64 0, .bool false], .bool false]) ∧ Fr NoB (w.alloc (.cells #[.int .i64 0, .int .i64 0, .int .i64 0, .int .i64 0, .int .i64 0, .int .i64 0, .bool false] 58)) w') := HG
    clear HG
    have HG := HG'
    clear HG'
    go_enter Tryd.func20, Tryd.ntmps20
    go_wp2_with fail
    refine HG.out.mono ?_
    rintro e' w1 ⟨rfl, hf1⟩
    have hB := HB0.out.fr hf1 (fun h => h)
    have hF1 := hid (HF0.out.trans hf1)
    unfold Wn.cells at hB
    have q0 := hB.cell 0 rfl
    have q1 := hB.cell 1 rfl
    have q2 := hB.cell 2 rfl
    have q3 := hB.cell 3 rfl
    have q4 := hB.cell 4 rfl
    have q5 := hB.cell 5 rfl
    have q6 := hB.cell 6 rfl
    have p0 := hB.frozen 0
    have p1 := hB.frozen 1
    have p2 := hB.frozen 2
    have p3 := hB.frozen 3
    have p4 := hB.frozen 4
    have p5 := hB.frozen 5
    have p6 := hB.frozen 6
    have plt := hB.lt
    clear hf1
    go_wp2
    have hBF := (put7_blk (u := Wn.nil) hB Wn.nil).alloc (.cells #[.int .i64 0, .int .i64 0, .int .i64 0, .int .i64 0, .int .i64 0, .int .i64 0, .bool false] 58)
    have r0 := hBF.cell 0 rfl
    have r1 := hBF.cell 1 rfl
    have r2 := hBF.cell 2 rfl
    have r3 := hBF.cell 3 rfl
    have r4 := hBF.cell 4 rfl
    have r5 := hBF.cell 5 rfl
    have r6 := hBF.cell 6 rfl
    unfold put7 at r0 r1 r2 r3 r4 r5 r6
    try dsimp only [Wn.nil] at r0 r1 r2 r3 r4 r5 r6
    refine bodyPost_ret (v := .tuple #[Wn.v Wn.nil, .int .i64 5]) (by simp [results, Tryd.results20, go_sem, r0, r1, r2, r3, r4, r5, r6, Wn.v, Wn.nil]) rfl ⟨rfl, (put7_fr hF1.out (.inr (Nat.le_refl _)) Wn.nil).alloc _⟩
  | some t =>
    rw [hg] at HG
    clear h hf0 hg
    have HG' : Hid (Calls Tryd.prog 37 #[.pointer (some ⟨b, 0, none⟩), .int .i64 id] (w.alloc (.cells #[.int .i64 0, .int .i64 0, .int .i64 0, .int .i64 0, .int .i64 0, .int .i64 0, .bool false] 58)) fun e w' => e = .returned (.tuple #[.agg #[.int .i64 t.id, .int .i64 t.env, .int .i64 t.x, .int .i64 t.y, .int .i64 t.w, .int .i64 t.h, .bool t.hid], .bool true]) ∧ Fr NoB (w.alloc (.cells #[.int .i64 0, .int .i64 0, .int .i64 0, .int .i64 0, .int .i64 0, .int .i64 0, .bool false] 58)) w') := HG
    clear HG
    have HG := HG'
    clear HG'
    go_enter Tryd.func20, Tryd.ntmps20
    go_wp2_with fail
    refine HG.out.mono ?_
    rintro e' w1 ⟨rfl, hf1⟩
    have hB := HB0.out.fr hf1 (fun h => h)
    have hF1 := hid (HF0.out.trans hf1)
    unfold Wn.cells at hB
    have q0 := hB.cell 0 rfl
    have q1 := hB.cell 1 rfl
    have q2 := hB.cell 2 rfl
    have q3 := hB.cell 3 rfl
    have q4 := hB.cell 4 rfl
    have q5 := hB.cell 5 rfl
    have q6 := hB.cell 6 rfl
    have p0 := hB.frozen 0
    have p1 := hB.frozen 1
    have p2 := hB.frozen 2
    have p3 := hB.frozen 3
    have p4 := hB.frozen 4
    have p5 := hB.frozen 5
    have p6 := hB.frozen 6
    have plt := hB.lt
    clear hf1
    go_wp2
    have hBF := (put7_blk (u := Wn.nil) hB t).alloc (.cells #[.int .i64 t.id, .int .i64 t.env, .int .i64 t.x, .int .i64 t.y, .int .i64 t.w, .int .i64 t.h, .bool t.hid] 58)
    have r0 := hBF.cell 0 rfl
    have r1 := hBF.cell 1 rfl
    have r2 := hBF.cell 2 rfl
    have r3 := hBF.cell 3 rfl
    have r4 := hBF.cell 4 rfl
    have r5 := hBF.cell 5 rfl
    have r6 := hBF.cell 6 rfl
    unfold put7 at r0 r1 r2 r3 r4 r5 r6
    try dsimp only at r0 r1 r2 r3 r4 r5 r6
    refine bodyPost_ret (v := .tuple #[Wn.v t, .int .i64 0]) (by simp [results, Tryd.results20, go_sem, r0, r1, r2, r3, r4, r5, r6, Wn.v]) rfl ⟨rfl, (put7_fr hF1.out (.inr (Nat.le_refl _)) t).alloc _⟩
end Go.Proofs.YtnengimekcnfhaaDoor
set_option linter.unusedSimpArgs false
set_option linter.unusedVariables false
set_option maxRecDepth 20000
namespace Go.Proofs.YtnengimekcnfhaaDoor
open Go.RowKit Go.Shelf Go.Proofs.YtnengimekcnfhaaDoorW.PrintWords
attribute [local go_sem] Oper.semAt_some
/-- Cells that are read at an address. -/
def CA (w : World) (A : Option Addr) (l : List Cl) : Prop := ∀ k (h : k < l.length), ∃ ad, A = some ad ∧ w.cell? (ad.add (k * 4)) = some (.int .i32 l[k].r) ∧ w.cell? (ad.add (k * 4 + 1)) = some (.int .i64 l[k].fg) ∧ w.cell? (ad.add (k * 4 + 2)) = some (.int .i64 l[k].bg) ∧ w.cell? (ad.add (k * 4 + 3)) = some (.int .i64 l[k].fl)
theorem CA.fr {S : Nat → Prop} {w w1 : World} {A : Option Addr} {l : List Cl} (h : CA w A l) (hf : Fr S w w1) (hs : ∀ ad, A = some ad → 0 < l.length → ¬ S ad.block) : CA w1 A l := fun k hk => by
  obtain ⟨ad, e, h1, h2, h3, h4⟩ := h k hk
  have hb : ∀ j, (ad.add j).block = ad.block := fun j => by unfold Addr.add; split <;> rfl
  have hn := hs ad e (by omega)
  have mv : ∀ j u, w.cell? (ad.add j) = some u → w1.cell? (ad.add j) = some u := fun j u hc => by
    rw [World.cell?_of_block (w' := w1) (hf.block _ (cell_lt hc) (by rw [hb]; exact hn))]
    exact hc
  exact ⟨ad, e, mv _ _ h1, mv _ _ h2, mv _ _ h3, mv _ _ h4⟩
theorem noncell {w : World} {b r : Nat} {T : TypeId} {l : List Value} {o : Obj} (h : Blk w b T l) (hr : w.heap[r]? = some o) (ho : o.isCells = false) : b ≠ r := fun e => by
  subst e
  unfold Blk at h
  rw [h] at hr
  cases hr
  cases ho
/-- What a drawing reads, boxed: the frame, the stack, the window's number, a column, the cells; the window; how many were written. -/
structure Boxes (w : World) (B D E f b : Nat) (id x : Int) (A : Option Addr) (n cap : Nat) (t : Wn) (many : Int) : Prop where
  b0 : Blk w B 29 [.pointer (some ⟨f, 0, none⟩)]
  b1 : Blk w (B + 1) 31 [.pointer (some ⟨b, 0, none⟩)]
  b2 : Blk w (B + 1 + 1) 3 [.int .i64 id]
  b3 : Blk w (B + 1 + 1 + 1) 3 [.int .i64 x]
  b4 : Blk w (B + 1 + 1 + 1 + 1) 26 [.slice A n cap]
  d : Blk w D 58 t.cells
  e : Blk w E 3 [.int .i64 many]
/-- The state of a loop that draws. -/
structure CS (w0 W : World) (B D E f g gb Wd Hd b : Nat) (scr : Rc) (v : Value) (xs : List Wn) (next id x : Int) (A : Option Addr) (l : List Cl) (cap : Nat) (t : Wn) (nv0 : Value) (cs : List Cl) (ns : List Wr) (many : Int) : Prop where
  fd : ∃ nv, FD W f g gb Wd Hd cs nv ns ∧ ∀ k, OwnB nv k → OwnB nv0 k ∨ w0.heap.size ≤ k
  sk : SK W b scr v xs next
  bx : Boxes W B D E f b id x A l.length cap t many
  ca : CA W A l
  frm : Fr (FB f gb nv0) w0 W
  far : ∀ ad, A = some ad → 0 < l.length → ¬ FB f gb nv0 ad.block ∧ ad.block < w0.heap.size
  old : w0.heap.size ≤ B ∧ w0.heap.size ≤ D ∧ w0.heap.size ≤ E
theorem CS.move {w0 W W' : World} {B D E f g gb Wd Hd b : Nat} {scr : Rc} {v : Value} {xs : List Wn} {next id x : Int} {A : Option Addr} {l : List Cl} {cap : Nat} {t : Wn} {nv0 : Value} {cs : List Cl} {ns : List Wr} {many : Int}
    (h : CS w0 W B D E f g gb Wd Hd b scr v xs next id x A l cap t nv0 cs ns many) {row : Option Nat} (hg : W.grownBy W' row) (hr : ∀ r, row = some r → w0.heap.size ≤ r ∧ ∃ o : Obj, W.heap[r]? = some o ∧ o.isCells = false) :
    CS w0 W' B D E f g gb Wd Hd b scr v xs next id x A l cap t nv0 cs ns many := by
  have hf : Fr (fun k => row = some k) W W' := Fr.of_grown hg
  have nb : ∀ {c T L}, Blk W c T L → ¬ (row = some c) := fun hb e => by
    obtain ⟨_, o, h1, h2⟩ := hr _ e
    exact noncell hb h1 h2 rfl
  have mv : ∀ {c T L}, Blk W c T L → Blk W' c T L := fun hb => hb.fr hf (nb hb)
  obtain ⟨nv, hfd, hown⟩ := h.fd
  have hrw : ∀ k, OwnB nv k → ¬ (row = some k) := fun k hk e => by
    obtain ⟨_, o, h1, h2⟩ := hr _ e
    have h5 := hfd.row
    rcases h5.2 with ⟨h6, _⟩ | ⟨g', c', cur, h6, _, h7, _⟩
    · rw [h6] at hk
      cases hk
    · rw [h6] at hk
      obtain rfl : g' = k := Option.some.inj hk
      rw [h7] at h1
      cases h1
      cases h2
  have hvw : ∀ k, OwnB v k → ¬ (row = some k) := fun k hk e => by
    obtain ⟨_, o, h1, h2⟩ := hr _ e
    rcases h.sk.row with ⟨h6, _⟩ | ⟨g', c', rest, h6, hV, _⟩
    · rw [h6] at hk
      cases hk
    · rw [h6] at hk
      obtain rfl : g' = k := Option.some.inj hk
      exact noncell hV.blk h1 h2 rfl
  refine ⟨⟨nv, hfd.fr hf (nb hfd.blk) (nb hfd.gd.blk) (nb hfd.gd.cel) hrw, hown⟩, h.sk.fr hf (nb h.sk.blk) hvw, ⟨mv h.bx.b0, mv h.bx.b1, mv h.bx.b2, mv h.bx.b3, mv h.bx.b4, mv h.bx.d, mv h.bx.e⟩, h.ca.fr hf (fun ad e h0 hk => ?_), h.frm.then_ hf (fun k hk => .inr (hr k hk).1), h.far, h.old⟩
  have := (h.far ad e h0).2
  have := (hr _ hk).1
  omega
end Go.Proofs.YtnengimekcnfhaaDoor
set_option linter.unusedSimpArgs false
set_option linter.unusedVariables false
set_option maxRecDepth 20000
namespace Go.Proofs.YtnengimekcnfhaaDoor
open Go.RowKit Go.Shelf Go.Proofs.YtnengimekcnfhaaDoorW.PrintWords
/-- What of a rectangle is in a window: whole numbers. -/
theorem inW_ok (t : Wn) (r : Rc) (ht : t.r.Right) : ∃ W H : Nat, (inW t r).w = W ∧ (inW t r).h = H ∧ Near (inW t r).x ∧ Near (inW t r).y ∧
    ((inW t r = Rc.zero ∧ W = 0 ∧ H = 0) ∨ (r.Right ∧ 0 ≤ (inW t r).x ∧ (inW t r).x + W ≤ t.w ∧ 0 ≤ (inW t r).y ∧ (inW t r).y + H ≤ t.h ∧ r.x ≤ (inW t r).x ∧ (inW t r).x + W ≤ r.x + r.w ∧ r.y ≤ (inW t r).y ∧ (inW t r).y + H ≤ r.y + r.h)) := by
  have hw := ht.w0
  have hh := ht.h0
  have nz : Near 0 := ⟨by decide, by decide⟩
  have key : inW t r = Rc.zero ∨ (r.Right ∧ inW t r = ofR (max r.x 0) (max r.y 0) (min (r.x + r.w) (0 + t.w)) (min (r.y + r.h) (0 + t.h))) := by
    unfold inW Rc.both
    split
    · rename_i h
      exact .inr ⟨h.1, rfl⟩
    · exact .inl rfl
  rcases key with hz | ⟨hr, hz⟩
  · rw [hz]
    exact ⟨0, 0, rfl, rfl, nz, nz, .inl ⟨rfl, rfl, rfl⟩⟩
  · unfold ofR at hz
    split at hz
    · rw [hz]
      exact ⟨0, 0, rfl, rfl, nz, nz, .inl ⟨rfl, rfl, rfl⟩⟩
    · rename_i hne
      rw [hz]
      have tw : t.w ≤ 1073741824 := ht.w.2
      have th : t.h ≤ 1073741824 := ht.h.2
      have tw' : t.r.w = t.w := rfl
      have th' : t.r.h = t.h := rfl
      rw [tw'] at hw
      rw [th'] at hh
      refine ⟨(min (r.x + r.w) (0 + t.w) - max r.x 0).toNat, (min (r.y + r.h) (0 + t.h) - max r.y 0).toNat, by show min (r.x + r.w) (0 + t.w) - max r.x 0 = _; omega, by show min (r.y + r.h) (0 + t.h) - max r.y 0 = _; omega, ⟨by show _ ≤ max r.x 0; omega, by show max r.x 0 ≤ _; omega⟩, ⟨by show _ ≤ max r.y 0; omega, by show max r.y 0 ≤ _; omega⟩, .inr ⟨hr, ?_⟩⟩
      show 0 ≤ max r.x 0 ∧ _ ≤ _ ∧ 0 ≤ max r.y 0 ∧ _ ≤ _ ∧ r.x ≤ max r.x 0 ∧ _ ≤ _ ∧ r.y ≤ max r.y 0 ∧ _ ≤ _
      dsimp only
      omega
/-- One place of a drawing. -/
def stepC (Wd : Nat) (xs : List Wn) (id ox : Int) (l : List Cl) (s : List Cl × List Wr × Int) (p : Int × Int) : List Cl × List Wr × Int :=
  if ownerOf xs p.1 p.2 = id then (setG Wd s.1 p.1 p.2 (l.getD (p.1 - ox).toNat Cl.zero), s.2.1 ++ [⟨p.1, p.2, l.getD (p.1 - ox).toNat Cl.zero⟩], s.2.2 + 1) else s
def foldC {X Y : Int} {W H : Nat} (Wd : Nat) (xs : List Wn) (id ox : Int) (l : List Cl) (cs : List Cl) (ns : List Wr) (ps : List (Pl X Y W H)) : List Cl × List Wr × Int := ps.foldl (fun s p => stepC Wd xs id ox l s p.1) (cs, ns, 0)
theorem foldC_snoc {X Y : Int} {W H : Nat} (Wd : Nat) (xs : List Wn) (id ox : Int) (l : List Cl) (cs : List Cl) (ns : List Wr) (ps : List (Pl X Y W H)) (p : Pl X Y W H) : foldC Wd xs id ox l cs ns (ps ++ [p]) = stepC Wd xs id ox l (foldC Wd xs id ox l cs ns ps) p.1 := by simp [foldC]
theorem foldC_bd {X Y : Int} {W H : Nat} (Wd : Nat) (xs : List Wn) (id ox : Int) (l : List Cl) (cs : List Cl) (ns : List Wr) (ps : List (Pl X Y W H)) : 0 ≤ (foldC Wd xs id ox l cs ns ps).2.2 ∧ (foldC Wd xs id ox l cs ns ps).2.2 ≤ ps.length ∧ (foldC Wd xs id ox l cs ns ps).2.1.length ≤ ns.length + ps.length := by
  obtain ⟨n, hn⟩ : ∃ n, n = ps.length := ⟨_, rfl⟩
  induction n generalizing ps with
  | zero =>
    obtain rfl := List.eq_nil_of_length_eq_zero hn.symm
    simp [foldC]
  | succ n ih =>
    obtain ⟨qs, p, rfl⟩ : ∃ qs p, ps = qs ++ [p] := ⟨ps.dropLast, ps.getLast (by intro e; subst e; simp at hn), (List.dropLast_concat_getLast _).symm⟩
    have hq : n = qs.length := by simpa using hn
    obtain ⟨h1, h2, h3⟩ := ih qs hq
    rw [foldC_snoc]
    unfold stepC
    rw [List.length_append, List.length_singleton]
    split
    · simp only [List.length_append, List.length_singleton]
      omega
    · omega
/-- A drawing's end: the frame's cells and notes, how many were written; no error. -/
def DrawTo (w : World) (f g gb W H b : Nat) (scr : Rc) (v : Value) (xs : List Wn) (next : Int) (nv0 : Value) (s : List Cl × List Wr × Int) (e : Ending) (w' : World) : Prop :=
  e = .returned (.tuple #[.int .i64 s.2.2, .int .i64 0]) ∧ (∃ nv, FD w' f g gb W H s.1 nv s.2.1 ∧ ∀ k, OwnB nv k → OwnB nv0 k ∨ w.heap.size ≤ k) ∧ SK w' b scr v xs next ∧ Fr (FB f gb nv0) w w'
end Go.Proofs.YtnengimekcnfhaaDoor
