import Derived.Test.YtlpjehmanodhpaaK4
import Derived.Laws.MakeOwn
set_option linter.unusedSimpArgs false
set_option linter.unusedVariables false
namespace Go.Proofs.Ytlpjehmanodhpaa
open Go.RowKit Go.Proofs.YtlpjehmanodhpaaW.PrintWords
theorem make_flat {α : Type} {f : α → List Value} {sz : Nat} (hn : ∀ x, (f x).length = sz) (hs : 0 < sz) (x : α) (m : Nat) : madeCells (f x).toArray (m * sz) = ((List.replicate m x).flatMap f).toArray := by
  apply Array.ext'
  apply List.ext_getElem?
  intro j
  by_cases hj : j < m * sz
  · have h1 : j / sz < (List.replicate m x).length := by rw [List.length_replicate]; exact Nat.div_lt_of_lt_mul (by rw [Nat.mul_comm]; exact hj)
    have h2 := flat_get hn (List.replicate m x) (j / sz) (j % sz) h1 (Nat.mod_lt _ hs)
    rw [Nat.div_add_mod', List.getElem_replicate] at h2
    simp only [h2]
    have h3 : j % sz < (f x).length := by rw [hn]; exact Nat.mod_lt _ hs
    simp [madeCells, hj, hn, h3]
    rw [List.getElem?_eq_getElem h3]
    rfl
  · rw [List.getElem?_eq_none (by simp [madeCells]; omega), List.getElem?_eq_none (by simp only [flat_len hn, List.length_replicate]; omega)]
/-- make([]T, n), T of sz cells. -/
theorem run_make_flat {P : Program} {α : Type} {f : α → List Value} {sz : Nat} (hn : ∀ x, (f x).length = sz) (hs : 0 < sz) (t e : TypeId) (x : α) (z : Value) (bytes : Nat) (ht : P.underlying t = some (.slice e)) (hinfo : (P.info? e).map (fun i => (i.zero, i.size, i.bytes)) = some (some z, sz, bytes)) (hz : z.cells = (f x).toArray) (m : Nat) (hb : bytes * m ≤ 281474976710656) (hm : m ≤ 9223372036854775807) (w : World) :
    (Instr.makeSlice t (.int .i64 m) (.int .i64 m)).run P w = .ok (.slice (some ⟨w.heap.size, 0, none⟩) m m) (w.alloc (.cells ((List.replicate m x).flatMap f).toArray e)) := by
  obtain ⟨i0, hi, hzz⟩ := Option.map_eq_some_iff.1 hinfo
  simp only [Prod.mk.injEq] at hzz
  obtain ⟨hz0, hz1, hz2⟩ := hzz
  have hr := run_make (P := P) w t e i0 z ht hi hz0 .i64 .i64 (m : Int) (m : Int) (by omega) (Int.le_refl _)
    (by
      have h3 : ((i0.bytes * m : Nat) : Int) ≤ 281474976710656 := by rw [hz2]; omega
      rwa [Int.natCast_mul] at h3) (by omega)
  simp only [Int.toNat_natCast] at hr
  rw [hz1, hz, make_flat hn hs] at hr
  exact hr
end Go.Proofs.Ytlpjehmanodhpaa
