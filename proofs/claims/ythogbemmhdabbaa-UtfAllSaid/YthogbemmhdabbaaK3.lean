import Derived.Test.YthogbemmhdabbaaK2
set_option linter.unusedSimpArgs false
set_option linter.unusedVariables false
namespace Go.Proofs.Ythogbemmhdabbaa
open Go.RowKit Go.Proofs.YthogbemmhdabbaaW.PrintWords
/-- A literal '[]T{..}' of whole numbers. -/
theorem lit_R (k : IntKind) (e : TypeId) {base : Nat} {w1 : World} {g : Nat} (hg : w1.heap.size = g) (l : List Int) (h : base ≤ g) (hm : l.length ≤ 9223372036854775807) :
    Kd.R (Kd.int k) e (w1.alloc (.cells (l.map (Value.int k)).toArray e)) base (fun _ => True) (.slice (some ⟨g, 0, none⟩) l.length l.length) l := by
  subst hg
  have h2 := World.ownsRow_lit (base := base) (e := e) (size := 1) w1 (l.map (Value.int k)).toArray l.length h (by simpa [maxLen] using hm) (by simp)
  exact Kd.R_of_own (by simpa [encs] using h2) (fun _ _ => trivial)
theorem lit_C (k : IntKind) (e : TypeId) (w1 : World) (l : List Int) (hm : l.length ≤ 9223372036854775807) :
    Kd.C (Kd.int k) (w1.alloc (.cells (l.map (Value.int k)).toArray e)) (some ⟨w1.heap.size, 0, none⟩) l.length l := (Kd.R_reads' (lit_R k e (base := 0) rfl l (Nat.zero_le _) hm)).2.2
/-- The first elements of a row of numbers that is read, at their addresses as the walk spells them. -/
theorem C_zero {k : IntKind} {w : World} {ad : Addr} {n : Nat} {x : Int} {xs : List Int} (h : (Kd.int k).C w (some ad) n (x :: xs)) : w.cell? ad = some (.int k x) := by
  obtain ⟨ad', e, hc⟩ := C_at h 0 (by simp)
  obtain rfl := Option.some.inj e
  simpa [Addr.add] using hc
theorem C_succ {k : IntKind} {w : World} {ad : Addr} {n : Nat} {xs : List Int} (h : (Kd.int k).C w (some ad) n xs) (i : Nat) (hi : i + 1 < xs.length) : w.cell? ⟨ad.block, ad.off + (i + 1), none⟩ = some (.int k xs[i + 1]) := by
  obtain ⟨ad', e, hc⟩ := C_at h (i + 1) hi
  obtain rfl := Option.some.inj e
  simpa [Addr.add] using hc
end Go.Proofs.Ythogbemmhdabbaa
