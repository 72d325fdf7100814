import Derived.Test.YtlpjehmanodhpaaK
import Derived.Test.YtlpjehmanodhpaaWMore
import Derived.Test.YtlpjehmanodhpaaWAt
/-! Rows of a call's own, told beside the words of K. -/
set_option linter.unusedSimpArgs false
set_option linter.unusedVariables false
namespace Go.Proofs.Ytlpjehmanodhpaa
open Go.RowKit Go.Proofs.YtlpjehmanodhpaaW.PrintWords
section
variable {α : Type} {d : Kd α} {e base : Nat} {ok S : Nat → Prop} {w w1 : World} {v : Value} {xs : List α}
theorem R_fr (h : d.R e w base ok v xs) (hf : Fr S w w1) (hS : ∀ k, S k → k < base) : d.R e w1 base ok v xs :=
  Kd.R_mono (ok := fun k => ok k ∧ base ≤ k) (Kd.R_step (Kd.R_mono (Kd.R_bound h) (fun _ hk => ⟨hk.1, hk.2.1⟩)) (fun k hk hlt => hf.block k hlt (fun hs => by have := hS k hs; omega))) (fun _ hk => hk.1)
end
/-- Element i of a row of numbers that is read. -/
theorem C_at {k : IntKind} {w : World} {A : Option Addr} {n : Nat} {xs : List Int} (h : (Kd.int k).C w A n xs) (i : Nat) (hi : i < xs.length) : ∃ ad, A = some ad ∧ w.cell? (ad.add i) = some (.int k xs[i]) := by
  have hn : xs.length = n := h.1
  obtain ⟨ad, e, hc⟩ := Kd.at_int h (i : Int) (by omega) (by omega)
  have hrd : rd xs i = xs[i] := by simp [rd, List.getD_eq_getElem?_getD, hi]
  rw [hrd, Int.toNat_natCast] at hc
  exact ⟨ad, e, hc⟩
/-- A piece of a row of numbers that is read. -/
theorem cut_int {P : Program} {k : IntKind} (t e : TypeId) (z : Value) (bytes : Nat) (ht : P.underlying t = some (.slice e)) (hinfo : (P.info? e).map (fun i => (i.zero, i.size, i.bytes)) = some (some z, 1, bytes)) (A : Option Addr) (c : Nat) (xs : List Int) (a b : Int) (h0 : 0 ≤ a) (h1 : a ≤ b) (hm : b ≤ xs.length) (hc : xs.length ≤ c) :
    ∃ A' : Option Addr, (∀ W : World, (Instr.slice t (.slice A xs.length c) (some (.int .i64 a)) (some (.int .i64 b)) none).run P W = .ok (.slice A' ((xs.take b.toNat).drop a.toNat).length (c - a.toNat)) W) ∧
      (∀ w : World, (Kd.int k).C w A xs.length xs → (Kd.int k).C w A' ((xs.take b.toNat).drop a.toNat).length ((xs.take b.toNat).drop a.toNat)) ∧ ((xs.take b.toNat).drop a.toNat).length ≤ c - a.toNat := by
  obtain ⟨i0, hi, _, hsz, _⟩ := info_parts hinfo
  obtain ⟨A', hcut, hA', hC'⟩ := print_mid_of (P := P) (Value.int k) 0 t e .i64 .i64 ht hi hsz A c xs a b h0 h1 hm hc
  exact ⟨A', hcut, fun w h => Kd.C_of_reads (h1 := fun _ => rfl) (hA' _ (Kd.reads_of_C h)), hC'⟩
end Go.Proofs.Ytlpjehmanodhpaa
