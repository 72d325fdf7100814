import Derived.Test.YtlpjehmanodhpaaK10
import Derived.Lib.AppendZerosOnto
import Derived.Lib.Overlaps
set_option linter.unusedSimpArgs false
set_option linter.unusedVariables false
namespace Go.Proofs.Ytlpjehmanodhpaa
open Go.RowKit
/-! append(s[:i], make(..)...) where it grows; what overlaps asks. -/
theorem Blk.shape {w : World} {b : Nat} {T : TypeId} {l : List Value} (h : Blk w b T l) : w.shape? b = some (T, l.length) := by
  unfold Blk at h
  simp [World.shape?, h]
section
variable {P : Program} {ops : Array Oper} {rest : List Oper} {o : Oper} {a : Act} {Q : Exit → Act → World → Prop} {W : World}
theorem wpList_append_zeros {α : Type} {f : α → List Value} {sz : Nat} (hn : ∀ x, (f x).length = sz) (hgd : o.guard = none) (s x : Operand) (t tn e : TypeId) (z : Value) (bytes : Nat) (kn : IntKind)
    (ho : o.op = .call { callee := .builtin .append, args := #[s, x], argTypes := #[t, tn] })
    (ht : P.underlying t = some (.slice e)) (htn : P.underlying tn = some (.int kn)) (hinfo : (P.info? e).map (fun i => (i.zero, i.size, i.bytes)) = some (some z, sz, bytes)) (hz : z.cells.size = sz) (hs0 : 0 < sz) (hb0 : 0 < bytes)
    (g i c k m : Nat) (kx : Int) (hs : a.eval s = .slice (some ⟨g, 0, none⟩) i c) (hx : a.eval x = .int .i64 kx) (hkx : kx = (k : Int)) (hm : i + k = m) (xs : List α) (rs : List Value) (hV : Vec f sz W g e xs rs c) (hi : i ≤ xs.length) (hk0 : 0 < k) (hg : c < m) (hl : m * bytes ≤ 140737488355328)
    (h : ∀ c1 L w1, m ≤ c1 → c1 ≤ maxLen → Hid (Vec f sz w1 W.heap.size e (xs.take i) L c1) → Fr NoB W w1 → wpList P ops Q rest (a.put o.dst (.slice (some ⟨W.heap.size, 0, none⟩) m c1)) w1) :
    wpList P ops Q (o :: rest) a W := by
  obtain ⟨i0, hi0, hz0, hz1, hz2⟩ := info_parts hinfo
  subst hm
  subst hkx
  have hlen : i + k ≤ 140737488355328 := Nat.le_trans (Nat.le_mul_of_pos_right _ hb0) hl
  have hold := run_firstCells_some (P := P) W.drew i0.size i ⟨g, 0, none⟩ i c ((xs.take i).flatMap f) (by rw [flat_len hn, List.length_take, Nat.min_eq_left hi, hz1]) (fun j v hj => by
    have h1 := Vec.src hV hn 0 (Nat.zero_le _) (xs.take i) (List.take_prefix i xs) j v hj
    rw [Nat.zero_mul] at h1
    exact h1)
  have hge := grownCap_ge W (i + k) c e
  have hcm : grownCap W (i + k) c e ≤ maxLen := grownCap_le_maxLen W (i + k) c e (by simp only [maxLen]; omega)
  have hr := Lib.run_append_grow_zeros (P := P) W t tn o.type e i0 z .i64 kn ht htn hi0 hz0 (some ⟨g, 0, none⟩) i c ((xs.take i).flatMap f) hold k hk0 (by omega) hg (by omega) (by
      rw [hz2]
      have : k * bytes ≤ (i + k) * bytes := Nat.mul_le_mul_right _ (by omega)
      omega) (by rw [hz2]; exact growslice_fits hg hl)
  refine wpList_plain hgd fun K hK => ?_
  unfold Oper.wp
  simp [execOp, ho, resolve, invoke, builtin, hs, hx, hr, Result.andThen]
  refine hK _ _ (h _ (Builtin.zeroCells z.cells k ++ Builtin.zeroCells z.cells (grownCap W (i + k) c e - (i + k))).toList _ hge hcm ?_ ((Fr.refl NoB W).drew.alloc _))
  refine (show Vec .. from ⟨?_, ?_⟩)
  · have hb := Blk.new W.drew e ((xs.take i).flatMap f ++ (Builtin.zeroCells z.cells k ++ Builtin.zeroCells z.cells (grownCap W (i + k) c e - (i + k))).toList)
    have e1 : ((xs.take i).flatMap f ++ (Builtin.zeroCells z.cells k ++ Builtin.zeroCells z.cells (grownCap W (i + k) c e - (i + k))).toList).toArray = ((xs.take i).flatMap f).toArray ++ (Builtin.zeroCells z.cells k ++ Builtin.zeroCells z.cells (grownCap W (i + k) c e - (i + k))) := by
      apply Array.ext'
      simp
    rw [e1] at hb
    exact hb
  · simp only [Array.toList_append, List.length_append, Array.length_toList, size_zeroCells, hz, List.length_take, Nat.min_eq_left hi, ← Nat.add_mul]
    congr 1
    omega
end
end Go.Proofs.Ytlpjehmanodhpaa
