import Derived.Test.YteaoafipjaffpaaS6
import Derived.Test.YteaoafipjaffpaaK7
set_option linter.unusedSimpArgs false
set_option linter.unusedVariables false
namespace Go.Proofs.Yteaoafipjaffpaa
open Go.RowKit Go.Proofs.YteaoafipjaffpaaW.PrintWords
attribute [local go_sem] st_float
def iw (x : Nat) : List Value := [.int .i64 x]
theorem iw_len (x : Nat) : (iw x).length = 1 := rfl
theorem iw_get (l : List Nat) (k : Nat) (h : k < l.length) : (l.flatMap iw)[k]? = some (.int .i64 l[k]) := by
  have := flat_get iw_len l k 0 h (by omega)
  rw [Nat.mul_one, Nat.add_zero] at this
  rw [this]; rfl
theorem iw_set (l : List Nat) (k : Nat) (h : k < l.length) (x : Nat) : (l.flatMap iw).set k (.int .i64 x) = (l.set k x).flatMap iw := by
  have := flat_set iw_len l k 0 h (by omega) (.int .i64 x) x rfl
  rw [Nat.mul_one, Nat.add_zero] at this
  exact this
theorem info_i64 : (Try.prog.info? 3).map (fun i => (i.zero, i.size, i.bytes)) = some (some (.int .i64 0), 1, 8) := by kernel_rfl
theorem info_bool : (Try.prog.info? 4).map (fun i => (i.zero, i.size, i.bytes)) = some (some (.bool false), 1, 1) := by kernel_rfl
theorem make_i64 (m : Nat) (hm : m ≤ 4096) (w : World) : (Instr.makeSlice 28 (.int .i64 m) (.int .i64 m)).run Try.prog w = .ok (.slice (some ⟨w.heap.size, 0, none⟩) m m) (w.alloc (.cells ((List.replicate m 0).flatMap iw).toArray 3)) :=
  run_make_flat iw_len (by omega) 28 3 0 (.int .i64 0) 8 Try.underlying28 info_i64 rfl m (by omega) (by omega) w
theorem make_bool (m : Nat) (hm : m ≤ 4096) (w : World) : (Instr.makeSlice 44 (.int .i64 m) (.int .i64 m)).run Try.prog w = .ok (.slice (some ⟨w.heap.size, 0, none⟩) m m) (w.alloc (.cells ((List.replicate m false).flatMap bw).toArray 4)) :=
  run_make_flat bw_len (by omega) 44 4 false (.bool false) 1 Try.underlying44 info_bool rfl m (by omega) (by omega) w
theorem flat_bw (l : List Bool) : l.flatMap bw = l.map Value.bool := by
  induction l with
  | nil => rfl
  | cons x l ih => rw [List.flatMap_cons, ih]; rfl
theorem clear_got (w : World) (g n c : Nat) (got : List Bool) (hG : Blk w g 4 (got.flatMap bw)) (hl : got.length = n) (hn : 0 < n) (ty : TypeId) :
    (Builtin.clear_ #[44] ty #[.slice (some ⟨g, 0, none⟩) n c]).run Try.prog w = .ok (.tuple #[]) (w.setCells g 0 (List.replicate n (.bool false))) :=
  Lib.run_clear_slice w 44 4 ty (.bool false) Try.underlying44 (fun w => by kernel_rfl) rfl rfl g 0 n c hn (fun j hj => by rw [Nat.zero_add, hG.cell j (bw_get got j (by omega))]; rfl) (fun j hj => hG.frozen _)
theorem cleared (w : World) (g n : Nat) (got : List Bool) (hG : Blk w g 4 (got.flatMap bw)) (hl : got.length = n) : Blk (w.setCells g 0 (List.replicate n (.bool false))) g 4 ((List.replicate n false).flatMap bw) := by
  have h := Blk.setCells (List.replicate n (.bool false)) 0 w _ hG (by rw [List.length_replicate, flat_len bw_len, hl]; omega)
  rw [List.take_zero, List.nil_append] at h
  rw [flat_bw, List.map_replicate]
  exact h
theorem conv_floor (z : Nat) (hz : z ≤ 4096) (w : World) : (convert 26 3 (.float .f64 (FT.ofN z))).run Try.prog w = .ok (.int .i64 z) w := by
  refine run_convert_float_int w 26 3 .f64 .i64 _ _ (by kernel_rfl) Try.underlying3 ?_
  have h := FT.toInt_of (FT.ofN_exact z (by omega)).1
  rw [FT.floorN_ofN z (by omega)] at h
  have hd : (FloatKind.f64.decode (FT.ofN z)).toInt .zero = some (z : Int) := h
  unfold floatToIntVal
  rw [hd]
  simp only []
  rw [if_pos]
  constructor
  · show (-9223372036854775808 : Int) ≤ _
    omega
  · show _ ≤ (9223372036854775807 : Int)
    omega
theorem Shares_none (w : World) (A : Option Addr) (c : Nat) (l : List Nat) (n : Int) (hV : FV w A l) (hW : FT.Ws l) (hl : l.length ≤ 4096) (hn : l.length = 0 ∨ 64 < l.length ∨ n < 0 ∨ 512 < n) :
    Calls Try.prog 13 #[.int .i64 n, .slice A l.length c] w fun e w' => e = .returned (.slice none 0 0) ∧ Fr NoB w w' := by
  have hnil := fun (w : World) (a : Option Addr) (n c : Nat) => Lib.run_eql_slice_nil (P := Try.prog) w 22 26 a n c 0 0 Try.underlying22
  by_cases h1 : l.length = 0 ∨ 64 < l.length
  · go_enter Try.func13, Try.ntmps13
    go_wp2_with (go_at_call 9; refine (Together_none w A c l hl h1).mono ?_; rintro e w1 ⟨rfl, hf⟩)
    go_ret
    exact ⟨rfl, hf⟩
  · by_cases h2 : n < 0
    · have h2' : decide (n < 0) = true := by simpa using h2
      clear h2
      go_enter Try.func13, Try.ntmps13
      go_wp2_with (go_at_call 9; refine (Together_any w A c l hV hW (by omega) (by omega)).mono ?_; rintro e w1 ⟨⟨b, rfl, hb, hB⟩, hf⟩)
      go_ret
      exact ⟨rfl, hf⟩
    · have h2' : decide (n < 0) = false := by simpa using h2
      have h3' : decide (n > 512) = true := by simp only [decide_eq_true_eq]; omega
      have hn2 := hid hn
      clear hn h2
      go_enter Try.func13, Try.ntmps13
      go_wp2_with (go_at_call 9; refine (Together_any w A c l hV hW (by omega) (by omega)).mono ?_; rintro e w1 ⟨⟨b, rfl, hb, hB⟩, hf⟩)
      go_ret
      exact ⟨rfl, hf⟩
end Go.Proofs.Yteaoafipjaffpaa
