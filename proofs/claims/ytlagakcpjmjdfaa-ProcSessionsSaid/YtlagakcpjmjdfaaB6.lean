import Derived.Test.YtlagakcpjmjdfaaB5
set_option linter.unusedSimpArgs false
set_option linter.unusedVariables false
set_option maxRecDepth 20000
namespace Go.Proofs.Ytlagakcpjmjdfaa
open Go.RowKit Go.Proofs.YtlagakcpjmjdfaaW.PrintWords
def RTTo (w : World) (t : Tb) (e : Ending) (w' : World) : Prop := ∃ v fv F, e = .returned (rtv v t.nx fv) ∧ RT w' v fv t F ∧ Fr NoB w w' ∧ (∀ k, OwnB v k → w.heap.size ≤ k) ∧ (∀ k, OwnB fv k → w.heap.size ≤ k)
set_option maxHeartbeats 1000000 in
theorem rNew_any (w : World) : Calls Try.prog 16 #[] w (RTTo w newT) := by
  have hmk := run_make_flat (P := Try.prog) ic_len (by omega) 41 3 (0 : Int) (.int .i64 0) 8 Try.underlying41 infoI rfl 65 (by omega) (by omega)
  have hmk2 : ∀ w : World, (Instr.makeSlice 41 (.int .i64 65) (.int .i64 65)).run Try.prog w = .ok (.slice (some ⟨w.heap.size, 0, none⟩) 65 65) (w.alloc (.cells ((List.replicate 65 (0 : Int)).flatMap ic).toArray 3)) := hmk
  obtain ⟨xs, hxs⟩ : ∃ xs : List Value, xs = (List.replicate 65 (0 : Int)).flatMap ic := ⟨_, rfl⟩
  rw [← hxs] at hmk2
  have HX := hid hxs
  clear hmk hxs
  go_enter Try.func16, Try.ntmps16
  go_wp2
  have hb := ((Blk.new w 43 [.slice (some ⟨w.heap.size + 1, 0, none⟩) 1 1, .int .i64 2, .slice (some ⟨w.heap.size + 1 + 1, 0, none⟩) 65 65]).alloc (.cells #[.int .i64 1, .int .i64 0, .int .i64 1, .int .i64 1, .int .i64 0, .bool false] 51)).alloc (.cells xs.toArray 3)
  have r0 := hb.cell 0 rfl
  have r1 := hb.cell 1 rfl
  have r2 := hb.cell 2 rfl
  have hp := (Blk.new (w.alloc (.cells #[.slice (some ⟨w.heap.size + 1, 0, none⟩) 1 1, .int .i64 2, .slice (some ⟨w.heap.size + 1 + 1, 0, none⟩) 65 65] 43)) 51 (⟨1, 0, 1, 1, 0, false⟩ : Pr).cells).alloc (.cells xs.toArray 3)
  rw [World.size_alloc] at hp
  have hc := Blk.new ((w.alloc (.cells #[.slice (some ⟨w.heap.size + 1, 0, none⟩) 1 1, .int .i64 2, .slice (some ⟨w.heap.size + 1 + 1, 0, none⟩) 65 65] 43)).alloc (.cells #[.int .i64 1, .int .i64 0, .int .i64 1, .int .i64 1, .int .i64 0, .bool false] 51)) 3 xs
  simp only [World.size_alloc] at hc
  refine bodyPost_ret (v := rtv (.slice (some ⟨w.heap.size + 1, 0, none⟩) 1 1) 2 (.slice (some ⟨w.heap.size + 1 + 1, 0, none⟩) 65 65)) (by simp [results, Try.results16, go_sem, r0, r1, r2, rtv]) rfl ⟨_, _, List.replicate 65 0, rfl, ⟨?_, ?_, by simp, fun j h1 h2 => ?_⟩, (((Fr.refl _ _).alloc _).alloc _).alloc _, fun k hk => ?_, fun k hk => ?_⟩
  · have hv : Vec Pr.cells 6 _ (w.heap.size + 1) 51 [(⟨1, 0, 1, 1, 0, false⟩ : Pr)] [] 1 := ⟨hp, rfl⟩
    exact hv.row Pr.len (Nat.zero_le _) (Nat.le_refl _) (by decide)
  · rw [HX.out] at hc
    have hv : Vec ic 1 _ (w.heap.size + 1 + 1) 3 (List.replicate 65 (0 : Int)) [] 65 := ⟨by rw [List.append_nil]; exact hc, by simp⟩
    have h := hv.row ic_len (base := 0) (Nat.zero_le _) (by simp) (by decide)
    rw [List.length_replicate] at h
    rw [HX.out]
    exact h
  · show (List.replicate 65 (0 : Int)).getD j 0 = 0
    rw [List.getD_eq_getElem?_getD, List.getElem?_replicate]
    split <;> rfl
  · obtain rfl : w.heap.size + 1 = k := Option.some.inj hk
    omega
  · obtain rfl : w.heap.size + 1 + 1 = k := Option.some.inj hk
    omega
end Go.Proofs.Ytlagakcpjmjdfaa
