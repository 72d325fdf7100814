import Derived.Test.YtnengimekcnfhaaE7
set_option linter.unusedSimpArgs false
set_option linter.unusedVariables false
set_option maxRecDepth 20000
namespace Go.Proofs.Ytnengimekcnfhaa
open Go.RowKit Go.Shelf Go.Proofs.YtnengimekcnfhaaW.PrintWords
section
open Go.Proofs.YtnengimekcnfhaaW.PrintMore
theorem window_nilf (w : World) (b : Nat) (id : Int) :
    Calls Try.prog 28 #[.pointer none, .pointer (some ⟨b, 0, none⟩), .int .i64 id] w fun e w' => e = .returned (.tuple #[.agg #[.int .i64 0, .int .i64 0, .int .i64 0, .int .i64 0, .int .i64 0, .int .i64 0, .bool false], .int .i64 1]) ∧ Fr NoB w w' := by
  go_enter Try.func28, Try.ntmps28
  go_wp2
  have hB := Blk.new w 73 (Wn.cells Wn.nil)
  unfold Wn.cells Wn.nil at hB
  have r0 := hB.cell 0 rfl
  have r1 := hB.cell 1 rfl
  have r2 := hB.cell 2 rfl
  have r3 := hB.cell 3 rfl
  have r4 := hB.cell 4 rfl
  have r5 := hB.cell 5 rfl
  have r6 := hB.cell 6 rfl
  refine bodyPost_ret (v := .tuple #[Wn.v Wn.nil, .int .i64 1]) (by simp [results, Try.results28, go_sem, r0, r1, r2, r3, r4, r5, r6, Wn.v, Wn.nil]) rfl ⟨rfl, (Fr.refl _ _).alloc _⟩
theorem window_nils (w : World) (f : Nat) (id : Int) :
    Calls Try.prog 28 #[.pointer (some ⟨f, 0, none⟩), .pointer none, .int .i64 id] w fun e w' => e = .returned (.tuple #[.agg #[.int .i64 0, .int .i64 0, .int .i64 0, .int .i64 0, .int .i64 0, .int .i64 0, .bool false], .int .i64 1]) ∧ Fr NoB w w' := by
  go_enter Try.func28, Try.ntmps28
  go_wp2
  have hB := Blk.new w 73 (Wn.cells Wn.nil)
  unfold Wn.cells Wn.nil at hB
  have r0 := hB.cell 0 rfl
  have r1 := hB.cell 1 rfl
  have r2 := hB.cell 2 rfl
  have r3 := hB.cell 3 rfl
  have r4 := hB.cell 4 rfl
  have r5 := hB.cell 5 rfl
  have r6 := hB.cell 6 rfl
  refine bodyPost_ret (v := .tuple #[Wn.v Wn.nil, .int .i64 1]) (by simp [results, Try.results28, go_sem, r0, r1, r2, r3, r4, r5, r6, Wn.v, Wn.nil]) rfl ⟨rfl, (Fr.refl _ _).alloc _⟩
theorem dFill_nil (w : World) (b : Nat) :
    Calls Try.prog 22 #[.pointer none, .pointer (some ⟨b, 0, none⟩), .int .i64 1, .agg #[.int .i64 0, .int .i64 0, .int .i64 0, .int .i64 0], .agg #[.int .i32 0, .int .i64 0, .int .i64 0, .int .i64 0]] w fun e w' => e = .returned (.tuple #[.int .i64 0, .int .i64 1]) ∧ Fr NoB w w' := by
  have hb0 : Fr NoB w (((((w.alloc (.cells #[.pointer none] 27)).alloc (.cells #[.pointer (some ⟨b, 0, none⟩)] 29)).alloc (.cells #[.int .i64 1] 3)).alloc (.cells #[.int .i64 0, .int .i64 0, .int .i64 0, .int .i64 0] 23)).alloc (.cells #[.int .i32 0, .int .i64 0, .int .i64 0, .int .i64 0] 38)) := (((((Fr.refl _ _).alloc _).alloc _).alloc _).alloc _).alloc _
  have HWi := hid (window_nilf _ b 1 : Calls Try.prog 28 #[.pointer none, .pointer (some ⟨b, 0, none⟩), .int .i64 1] (((((w.alloc (.cells #[.pointer none] 27)).alloc (.cells #[.pointer (some ⟨b, 0, none⟩)] 29)).alloc (.cells #[.int .i64 1] 3)).alloc (.cells #[.int .i64 0, .int .i64 0, .int .i64 0, .int .i64 0] 23)).alloc (.cells #[.int .i32 0, .int .i64 0, .int .i64 0, .int .i64 0] 38)) _)
  have HF0 := hid hb0
  clear hb0
  go_enter Try.func22, Try.ntmps22
  go_wp2_with fail
  refine HWi.out.mono ?_
  rintro e' w1 ⟨rfl, hf1⟩
  have HF1 := hid (HF0.out.trans hf1)
  clear hf1
  go_wp2_with fail
  go_ret2
  exact ⟨rfl, HF1.out.alloc _⟩
theorem dCopy_nil (w : World) (f : Nat) :
    Calls Try.prog 23 #[.pointer (some ⟨f, 0, none⟩), .pointer none, .int .i64 1, .agg #[.int .i64 0, .int .i64 0, .int .i64 0, .int .i64 0], .int .i64 0, .int .i64 0] w fun e w' => e = .returned (.tuple #[.int .i64 0, .int .i64 1]) ∧ Fr NoB w w' := by
  have hb0 : Fr NoB w ((((((w.alloc (.cells #[.pointer (some ⟨f, 0, none⟩)] 27)).alloc (.cells #[.pointer none] 29)).alloc (.cells #[.int .i64 1] 3)).alloc (.cells #[.int .i64 0, .int .i64 0, .int .i64 0, .int .i64 0] 23)).alloc (.cells #[.int .i64 0] 3)).alloc (.cells #[.int .i64 0] 3)) := ((((((Fr.refl _ _).alloc _).alloc _).alloc _).alloc _).alloc _).alloc _
  have HWi := hid (window_nils _ f 1 : Calls Try.prog 28 #[.pointer (some ⟨f, 0, none⟩), .pointer none, .int .i64 1] ((((((w.alloc (.cells #[.pointer (some ⟨f, 0, none⟩)] 27)).alloc (.cells #[.pointer none] 29)).alloc (.cells #[.int .i64 1] 3)).alloc (.cells #[.int .i64 0, .int .i64 0, .int .i64 0, .int .i64 0] 23)).alloc (.cells #[.int .i64 0] 3)).alloc (.cells #[.int .i64 0] 3)) _)
  have HF0 := hid hb0
  clear hb0
  go_enter Try.func23, Try.ntmps23
  go_wp2_with fail
  refine HWi.out.mono ?_
  rintro e' w1 ⟨rfl, hf1⟩
  have HF1 := hid (HF0.out.trans hf1)
  clear hf1
  go_wp2_with fail
  go_ret2
  exact ⟨rfl, HF1.out.alloc _⟩
end
end Go.Proofs.Ytnengimekcnfhaa
