import Derived.Test.YtgjgmaeickhhfaaL17
import Derived.Test.YtgjgmaeickhhfaaK12
set_option linter.unusedSimpArgs false
set_option linter.unusedVariables false
namespace Go.Proofs.Ytgjgmaeickhhfaa
open Go.RowKit Go.ChangeShapes Go.WideShapes
theorem flatAct : FlatT Try.prog 40 [.int .i64, .int .i64, .int .i64, .int .i64] :=
  FlatT.of_struct [[.int .i64], [.int .i64], [.int .i64], [.int .i64]] Try.underlying40 (by kernel_rfl) (fun i ls h => by
    match i, h with
    | 0, h => obtain rfl := Option.some.inj h; exact ⟨_, rfl, FlatT.of_int Try.underlying3, rfl, by kernel_rfl⟩
    | 1, h => obtain rfl := Option.some.inj h; exact ⟨_, rfl, FlatT.of_int Try.underlying3, rfl, by kernel_rfl⟩
    | 2, h => obtain rfl := Option.some.inj h; exact ⟨_, rfl, FlatT.of_int Try.underlying3, rfl, by kernel_rfl⟩
    | 3, h => obtain rfl := Option.some.inj h; exact ⟨_, rfl, FlatT.of_int Try.underlying3, rfl, by kernel_rfl⟩
    | i + 4, h => simp at h)
theorem open_av {H : Type} {enc : TypeId × Value → H} {w : World} {base : Nat} {spare : Nat → Bool} {held : Bool} {a : Option Addr} {len cap : Nat} {d : DataW H} {ps : List MemPlace}
    (h : DataW.Trod enc Try.prog w base spare held 38 (.slice a len cap) d ps) : ∃ l : List Ac, len = l.length ∧ AV w a l ∧ l.length ≤ cap := by
  obtain ⟨fuel, hf⟩ := h
  rcases open_rows (cl := Ac.cells) (sz := 4) (ok := fun _ => True) Ac.cells_len (fun fuel cs y hy => by
    obtain ⟨h1, h2⟩ := flatAct H enc w base spare held fuel cs y hy
    match cs, h1 with
    | [v0, v1, v2, v3], _ =>
      obtain ⟨n0, rfl, _⟩ := h2 0 _ v0 rfl rfl
      obtain ⟨n1, rfl, _⟩ := h2 1 _ v1 rfl rfl
      obtain ⟨n2, rfl, _⟩ := h2 2 _ v2 rfl rfl
      obtain ⟨n3, rfl, _⟩ := h2 3 _ v3 rfl rfl
      exact ⟨⟨n0, n1, n2, n3⟩, rfl, trivial⟩) Try.underlying38 (by kernel_rfl) hf with hcs | ⟨x, l, c, zs, hcs, hz, hlc, hcell, hok⟩
  · simp [Value.cells] at hcs
    obtain ⟨rfl, rfl, rfl⟩ := hcs
    exact ⟨[], rfl, fun k hk => by simp at hk, Nat.le_refl _⟩
  · simp [Value.cells] at hcs
    obtain ⟨rfl, rfl, rfl⟩ := hcs
    refine ⟨zs, hz.symm, fun k hk => ?_, by rw [hz]; exact hlc⟩
    refine ⟨x, rfl, ?_, fun j v hv => hcell k hk j v hv⟩
    have h1 := cell_lt (hcell k hk 0 _ rfl)
    rwa [add_block] at h1
end Go.Proofs.Ytgjgmaeickhhfaa
