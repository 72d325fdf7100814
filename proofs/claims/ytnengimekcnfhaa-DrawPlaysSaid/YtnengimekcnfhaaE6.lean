import Derived.Test.YtnengimekcnfhaaD1
import Derived.Test.YtnengimekcnfhaaK7
set_option linter.unusedSimpArgs false
set_option linter.unusedVariables false
set_option maxRecDepth 20000
namespace Go.Proofs.Ytnengimekcnfhaa
open Go.RowKit Go.ChangeShapes Go.WideShapes
theorem flatPen : FlatT Try.prog 36 [.int .i64, .int .i64, .int .i64] :=
  FlatT.of_struct [[.int .i64], [.int .i64], [.int .i64]] Try.underlying36 (by kernel_rfl) (fun i ls h => by
    match i, h with
    | 0, h => obtain rfl := Option.some.inj h; exact ⟨_, rfl, FlatT.of_int Try.underlying3, rfl, by kernel_rfl⟩
    | 1, h => obtain rfl := Option.some.inj h; exact ⟨_, rfl, FlatT.of_int Try.underlying3, rfl, by kernel_rfl⟩
    | 2, h => obtain rfl := Option.some.inj h; exact ⟨_, rfl, FlatT.of_int Try.underlying3, rfl, by kernel_rfl⟩
    | i + 3, h => simp at h)
theorem flatCell : FlatT Try.prog 38 [.int .i32, .int .i64, .int .i64, .int .i64] :=
  FlatT.of_struct [[.int .i32], [.int .i64, .int .i64, .int .i64]] Try.underlying38 (by kernel_rfl) (fun i ls h => by
    match i, h with
    | 0, h => obtain rfl := Option.some.inj h; exact ⟨_, rfl, FlatT.of_int Try.underlying21, rfl, by kernel_rfl⟩
    | 1, h => obtain rfl := Option.some.inj h; exact ⟨_, rfl, flatPen, rfl, by kernel_rfl⟩
    | i + 2, h => simp at h)
theorem flatRect : FlatT Try.prog 23 [.int .i64, .int .i64, .int .i64, .int .i64] :=
  FlatT.of_struct [[.int .i64], [.int .i64], [.int .i64], [.int .i64]] Try.underlying23 (by kernel_rfl) (fun i ls h => by
    match i, h with
    | 0, h => obtain rfl := Option.some.inj h; exact ⟨_, rfl, FlatT.of_int Try.underlying3, rfl, by kernel_rfl⟩
    | 1, h => obtain rfl := Option.some.inj h; exact ⟨_, rfl, FlatT.of_int Try.underlying3, rfl, by kernel_rfl⟩
    | 2, h => obtain rfl := Option.some.inj h; exact ⟨_, rfl, FlatT.of_int Try.underlying3, rfl, by kernel_rfl⟩
    | 3, h => obtain rfl := Option.some.inj h; exact ⟨_, rfl, FlatT.of_int Try.underlying3, rfl, by kernel_rfl⟩
    | i + 4, h => simp at h)
theorem open_cl {H : Type} {enc : TypeId × Value → H} {w : World} {base : Nat} {spare : Nat → Bool} {held : Bool} {a : Option Addr} {len cap : Nat} {d : DataW H} {ps : List MemPlace}
    (h : DataW.Trod enc Try.prog w base spare held 24 (.slice a len cap) d ps) : ∃ l : List Cl, len = l.length ∧ (CA w a l ∧ ∀ ad, a = some ad → 0 < l.length → ad.block < w.heap.size) ∧ l.length ≤ cap := by
  obtain ⟨fuel, hf⟩ := h
  rcases open_rows (cl := Cl.cells) (sz := 4) (ok := fun _ => True) (fun _ => rfl) (fun fuel cs y hy => by
    obtain ⟨h1, h2⟩ := flatCell H enc w base spare held fuel cs y hy
    match cs, h1 with
    | [v0, v1, v2, v3], _ =>
      obtain ⟨n0, rfl, _⟩ := h2 0 _ v0 rfl rfl
      obtain ⟨n1, rfl, _⟩ := h2 1 _ v1 rfl rfl
      obtain ⟨n2, rfl, _⟩ := h2 2 _ v2 rfl rfl
      obtain ⟨n3, rfl, _⟩ := h2 3 _ v3 rfl rfl
      exact ⟨⟨n0, n1, n2, n3⟩, rfl, trivial⟩) Try.underlying24 (by kernel_rfl) hf with hcs | ⟨x, l, c, zs, hcs, hz, hlc, hcell, hok⟩
  · simp [Value.cells] at hcs
    obtain ⟨rfl, rfl, rfl⟩ := hcs
    exact ⟨[], rfl, ⟨fun k hk => by simp at hk, fun ad e h0 => by cases e⟩, Nat.le_refl _⟩
  · simp [Value.cells] at hcs
    obtain ⟨rfl, rfl, rfl⟩ := hcs
    refine ⟨zs, hz.symm, ⟨fun k hk => ⟨x, rfl, hcell k hk 0 _ rfl, hcell k hk 1 _ rfl, hcell k hk 2 _ rfl, hcell k hk 3 _ rfl⟩, fun ad e h0 => ?_⟩, by rw [hz]; exact hlc⟩
    obtain rfl := Option.some.inj e
    have h1 := cell_lt (hcell 0 h0 0 _ rfl)
    have hb : ∀ j, (x.add j).block = x.block := fun j => by unfold Addr.add; split <;> rfl
    rwa [hb] at h1
theorem i64_wf {n : Int} (h : (Lit.int .i64 n).wf = true) : I64 n := by
  unfold I64
  simp [Lit.wf, IntKind.wrap] at h
  have e1 : IntKind.i64.min = -9223372036854775808 := by decide
  have e2 : IntKind.i64.max = 9223372036854775807 := by decide
  omega
theorem open_rect {H : Type} {enc : TypeId × Value → H} {w : World} {base : Nat} {spare : Nat → Bool} {held : Bool} {v : Value} {d : DataW H} {ps : List MemPlace} {r0 : Reach} {b0 : Nat} {w0 : World}
    (hw : Value.okWide Try.prog w0 r0 b0 23 v) (h : DataW.Trod enc Try.prog w base spare held 23 v d ps) : ∃ r : Rc, v = r.v ∧ r.I := by
  obtain ⟨cs, rfl, hsz⟩ := okWide_struct Try.underlying23 hw
  obtain ⟨fuel, hf⟩ := h
  obtain ⟨h1, h2⟩ := flatRect H enc w base spare held fuel _ _ hf
  obtain ⟨cs⟩ := cs
  simp only [Value.cells] at h1 h2
  match cs, h1 with
  | [v0, v1, v2, v3], _ =>
    obtain ⟨n0, rfl, w0⟩ := h2 0 _ v0 rfl rfl
    obtain ⟨n1, rfl, w1⟩ := h2 1 _ v1 rfl rfl
    obtain ⟨n2, rfl, w2⟩ := h2 2 _ v2 rfl rfl
    obtain ⟨n3, rfl, w3⟩ := h2 3 _ v3 rfl rfl
    exact ⟨⟨n0, n1, n2, n3⟩, rfl, ⟨i64_wf w0, i64_wf w1, i64_wf w2, i64_wf w3⟩⟩
end Go.Proofs.Ytnengimekcnfhaa
