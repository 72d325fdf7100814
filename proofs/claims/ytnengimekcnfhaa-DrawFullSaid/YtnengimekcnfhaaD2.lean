import Derived.RangeFuncNested
import Derived.RangeFuncBound
import Derived.RangeFuncCalls
import Derived.RangeFuncLeaves
import Derived.Shelf.Abstract
import Derived.Shelf.RegionOpen
import Derived.OwnWalkIn
import Derived.TacticsInMore
import Derived.LoopNIn
import Derived.LoopIn
import Derived.Test.YtnengimekcnfhaaW5
set_option linter.unusedSimpArgs false
set_option linter.unusedVariables false
set_option maxRecDepth 20000
namespace Go.Proofs.Ytnengimekcnfhaa
open Go.RowKit Go.Shelf Go.Proofs.YtnengimekcnfhaaW.PrintWords
attribute [local go_sem] Oper.semAt_some
/-- The places of a rectangle. -/
abbrev Pl (X Y : Int) (W H : Nat) := { p : Int × Int // X ≤ p.1 ∧ p.1 < X + W ∧ Y ≤ p.2 ∧ p.2 < Y + H }
theorem pl_ok (X Y : Int) (W H k : Nat) (hk : k < H * W) : X ≤ X + (k % W : Nat) ∧ X + (k % W : Nat) < X + W ∧ Y ≤ Y + (k / W : Nat) ∧ Y + (k / W : Nat) < Y + H := by
  have hW : 0 < W := Nat.pos_of_ne_zero (fun e => by subst e; simp at hk)
  have h1 := Nat.mod_lt k hW
  have h2 : k / W < H := by rw [Nat.div_lt_iff_lt_mul hW]; exact hk
  generalize k % W = a at *
  generalize k / W = b at *
  omega
def plF (X Y : Int) (W H : Nat) (k : Fin (H * W)) : Pl X Y W H := ⟨(X + (k.1 % W : Nat), Y + (k.1 / W : Nat)), pl_ok X Y W H k.1 k.2⟩
/-- All of them, row by row. -/
def plL (X Y : Int) (W H : Nat) : List (Pl X Y W H) := (List.finRange (H * W)).map (plF X Y W H)
theorem plL_len (X Y : Int) (W H : Nat) : (plL X Y W H).length = H * W := by simp [plL]
theorem plL_get (X Y : Int) (W H k : Nat) (hk : k < H * W) : (plL X Y W H)[k]'(by rw [plL_len]; exact hk) = plF X Y W H ⟨k, hk⟩ := by simp [plL]
theorem plL_next (X Y : Int) (W H x y : Nat) (hx : x < W) (hy : y < H) : ∃ hk : y * W + x < H * W, (plL X Y W H).take (y * W + x + 1) = (plL X Y W H).take (y * W + x) ++ [plF X Y W H ⟨y * W + x, hk⟩] ∧ (plF X Y W H ⟨y * W + x, hk⟩).1 = (X + x, Y + y) := by
  have hk : y * W + x < H * W := by
    have h1 : (y + 1) * W ≤ H * W := Nat.mul_le_mul_right _ hy
    rw [Nat.add_mul, Nat.one_mul] at h1
    omega
  refine ⟨hk, ?_, ?_⟩
  · rw [List.take_succ_eq_append_getElem (by rw [plL_len]; exact hk), plL_get X Y W H _ hk]
  · show (X + ((y * W + x) % W : Nat), Y + ((y * W + x) / W : Nat)) = _
    have e1 : (y * W + x) % W = x := by rw [Nat.mul_comm, Nat.mul_add_mod, Nat.mod_eq_of_lt hx]
    have e2 : (y * W + x) / W = y := by rw [Nat.mul_comm, Nat.mul_add_div (by omega), Nat.div_eq_of_lt hx, Nat.add_zero]
    rw [e1, e2]
def KpB (b1 b2 : Nat) (W W' : World) : Prop := W'.heap[b1]? = W.heap[b1]? ∧ W'.heap[b2]? = W.heap[b2]?
set_option maxHeartbeats 4000000 in
theorem pl_stops (F : Fence) (n : Nat) (hf : F.fn 57) (hro : F.round = none) (hn : 1 ≤ n) (iB wB : Nat) (t : Wn) (ir : Rc) (W H : Nat) (hW : ir.w = W) (hH : ir.h = H) (hW2 : W ≤ 1000000) (hH2 : H ≤ 1000000) (hx : Near ir.x) (hy : Near ir.y) (htx : Near t.x) (hty : Near t.y) (w : World) (hi : Blk w iB 23 ir.cells) (hw : Blk w wB 73 t.cells) :
    SeqStopsK F n Try.prog 57 #[.pointer (some ⟨iB, 0, none⟩), .pointer (some ⟨wB, 0, none⟩)] (fun p : Pl (t.x + ir.x) (t.y + ir.y) W H => #[.int .i64 p.1.1, .int .i64 p.1.2]) (KpB iB wB) (fun xs => xs = plL (t.x + ir.x) (t.y + ir.y) W H) (fun _ => True) (H * W) w := fun l J Jx W0 hb hJ hJx hY h0 => by
  obtain ⟨x1, x2⟩ := hx
  obtain ⟨y1, y2⟩ := hy
  obtain ⟨u1, u2⟩ := htx
  obtain ⟨v1, v2⟩ := hty
  have hi0 : Blk W0 iB 23 ir.cells := (hb.block iB hi.lt).trans hi
  have hw0 : Blk W0 wB 73 t.cells := (hb.block wB hw.lt).trans hw
  have c3 := hi0.cell 3 rfl
  rw [hH] at c3
  refine callsIn_of_wp Try.func57 rfl hf ?_ hro
  simp only [Try.ntmps57, List.size_toArray, List.length_cons, List.length_nil, Nat.reduceAdd, Nat.reduceSub, Array.replicate_succ, Array.replicate_zero, List.push_toArray, List.append_toArray, List.nil_append, List.cons_append]
  have HI0 := hid hi0
  have HW0 := hid hw0
  have HY := hid hY
  clear hi hw hi0 hw0 hb hY hJ hJx
  gi_wp2
  gi_loopw [8] (fun v8 wr => ∃ y : Nat, y ≤ H ∧ v8 = .int .i64 y ∧ Hid (Blk wr iB 23 ir.cells) ∧ Hid (Blk wr wB 73 t.cells) ∧ Hid (J ((plL (t.x + ir.x) (t.y + ir.y) W H).take (y * W)) wr)) (fun v8 _ => H - (intOf v8).toNat)
  case atStart => exact ⟨0, Nat.zero_le _, rfl, HI0, HW0, hid (by simpa using h0)⟩
  case round =>
    obtain ⟨y, hyH, rfl, HI, HW, HJ⟩ := hrel
    by_cases hlt : y < H
    · have d2 := HI.out.cell 2 rfl
      rw [hW] at d2
      gi_wp2
      gi_loopw [13] (fun v13 wq => ∃ x : Nat, x ≤ W ∧ v13 = .int .i64 x ∧ Hid (Blk wq iB 23 ir.cells) ∧ Hid (Blk wq wB 73 t.cells) ∧ Hid (J ((plL (t.x + ir.x) (t.y + ir.y) W H).take (y * W + x)) wq)) (fun v13 _ => W - (intOf v13).toNat)
      case atStart => exact ⟨0, Nat.zero_le _, rfl, HI, HW, HJ⟩
      case round =>
        obtain ⟨x, hxW, rfl, HI2, HW2, HJ2⟩ := hrel
        by_cases hxl : x < W
        · obtain ⟨hk, hnext, hval⟩ := plL_next (t.x + ir.x) (t.y + ir.y) W H x y hxl hlt
          obtain ⟨fn, tmps, assign, body, hy, hR⟩ := HY.out ((plL (t.x + ir.x) (t.y + ir.y) W H).take (y * W + x)) (plF (t.x + ir.x) (t.y + ir.y) W H ⟨y * W + x, hk⟩) wr HJ2.out (by rw [List.length_take, plL_len]; omega)
          rw [hval] at hy
          rw [← hnext] at hR
          dsimp only at hy
          have a2 := HW2.out.cell 2 rfl
          have a3 := HW2.out.cell 3 rfl
          have b0 := HI2.out.cell 0 rfl
          have b1 := HI2.out.cell 1 rfl
          have HR := hid hR
          clear hR hnext hval
          gi_wp2
          refine HR.out.mono ?_
          rintro e W3 (⟨rfl, hJ3, hk3⟩ | ⟨rfl, hJx3⟩)
          · have HI3 : Hid (Blk W3 iB 23 ir.cells) := hk3.1.trans HI2.out
            have HW3 : Hid (Blk W3 wB 73 t.cells) := hk3.2.trans HW2.out
            have HJ3 := hid hJ3
            clear hJ3 hk3
            gi_wp2
            go_roundw
            case rel => exact ⟨x + 1, by omega, by go_num, HI3, HW3, HJ3⟩
            case measure => simp [intOf]; omega
          · have HJ3 := hid hJx3
            clear hJx3
            gi_wp2
            refine bodyPost_ret (results_none rfl _ _ _) rfl ?_
            exact ⟨⟨_, rfl⟩, .inr ⟨_, trivial, HJ3.out⟩⟩
        · obtain rfl : x = W := by omega
          gi_wp2
          go_roundw
          case rel => exact ⟨y + 1, by omega, by go_num, HI2, HW2, by rw [Nat.add_mul, Nat.one_mul]; exact HJ2⟩
          case measure => simp [intOf]; omega
    · obtain rfl : y = H := by omega
      gi_wp2
      go_end0
      exact ⟨⟨_, rfl⟩, .inl ⟨_, rfl, by have := HJ.out; rwa [List.take_of_length_le (by rw [plL_len]; exact Nat.le_refl _)] at this⟩⟩
end Go.Proofs.Ytnengimekcnfhaa
