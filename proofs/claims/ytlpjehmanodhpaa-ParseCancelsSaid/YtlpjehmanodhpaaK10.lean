import Derived.Test.YtlpjehmanodhpaaK9
import Derived.Laws.CopyOwn
import Derived.ArgAppend
import Derived.Laws.Slices
import Derived.Maps.AppendAt
set_option linter.unusedSimpArgs false
set_option linter.unusedVariables false
namespace Go.Proofs.Ytlpjehmanodhpaa
open Go.RowKit
/-! Slices whose elements are some cells each: cuts, copy, clear, append in place, at a block that is known whole. -/
theorem Blk.some_ {w : World} {b : Nat} {T : TypeId} {l : List Value} (h : Blk w b T l) (i : Nat) (hi : i < l.length) : (w.cell? ⟨b, i, none⟩).isSome = true := by
  rw [h.cell i (List.getElem?_eq_getElem hi)]
  rfl
theorem Blk.cells {w : World} {b : Nat} {T : TypeId} {l : List Value} (h : Blk w b T l) (o : Nat) (cs : List Value) (hcs : ∀ j v, cs[j]? = some v → l[o + j]? = some v) : ∀ j v, cs[j]? = some v → w.cell? ((⟨b, o, none⟩ : Addr).add j) = some v := fun j v hj => by
  rw [Addr.add_lit]
  exact h.cell _ (hcs j v hj)
section
variable {P : Program}
theorem run_copy_sz (w : World) (dT sT ty e : TypeId) (i : TypeInfo) (hu : P.underlying dT = some (.slice e)) (hi : P.info? e = some i) (g o dLen dCap : Nat) (ad : Addr) (sLen sCap n : Nat) (hn : Nat.min sLen dLen = n) (cs : List Value) (hl : cs.length = n * i.size)
    (hsrc : ∀ j v, cs[j]? = some v → w.cell? (ad.add j) = some v) (h1 : ∀ v ∈ cs, v.oneCell' = true) (hc : ∀ j, j < cs.length → (w.cell? ⟨g, o + j, none⟩).isSome = true) (hf : ∀ j, j < cs.length → w.frozen? ⟨g, o + j, none⟩ = false) :
    (Builtin.copy_ #[dT, sT] ty #[.slice (some ⟨g, o, none⟩) dLen dCap, .slice (some ad) sLen sCap]).run P w = .ok (goInt n) (w.setCells g o cs) := by
  have hfc := run_firstCells_some (P := P) w i.size n ad sLen sCap cs hl hsrc
  have hst := run_storeCells_cells (P := P) g o cs 0 w (by simpa using hc) (by simpa using hf) h1
  simp only [Nat.add_zero] at hst
  simp [Builtin.copy_, run_underlying hu, Builtin.lenOf, sizeOf, typeInfo, hi, hn, hfc, hst]
/-- clear of n > 0 elements: zs, what n zero values are. -/
theorem run_clear_sz (w : World) (t e ty : TypeId) (z : Value) (ht : P.underlying t = some (.slice e)) (hv : ∀ w, (zeroValue e).run P w = .ok z w) (zs : List Value) (b o n c : Nat) (hn : 0 < n) (hz : (Builtin.zeroCells z.cells n).toList = zs) (h1 : ∀ v ∈ zs, v.oneCell' = true)
    (hc : ∀ j, j < zs.length → (w.cell? ⟨b, o + j, none⟩).isSome = true) (hf : ∀ j, j < zs.length → w.frozen? ⟨b, o + j, none⟩ = false) :
    (Builtin.clear_ #[t] ty #[.slice (some ⟨b, o, none⟩) n c]).run P w = .ok (.tuple #[]) (w.setCells b o zs) := by
  have hst := run_storeCells_cells (P := P) b o zs 0 w (by simpa using hc) (by simpa using hf) h1
  simp only [Nat.add_zero] at hst
  obtain ⟨m, rfl⟩ : ∃ m, n = m + 1 := ⟨n - 1, by omega⟩
  simp [Builtin.clear_, run_underlying ht, hv, hz, hst]
variable {ops : Array Oper} {rest : List Oper} {o : Oper} {a : Act} {Q : Exit → Act → World → Prop} {w : World}
theorem wpList_copy_blk (hgd : o.guard = none) (d s : Operand) (dT sT : TypeId) (ho : o.op = .call { callee := .builtin .copy, args := #[d, s], argTypes := #[dT, sT] }) (e : TypeId) (i : TypeInfo) (hu : P.underlying dT = some (.slice e)) (hi : P.info? e = some i)
    (g o' dLen dCap : Nat) (ad : Addr) (sLen sCap n : Nat) (hd : a.eval d = .slice (some ⟨g, o', none⟩) dLen dCap) (hs : a.eval s = .slice (some ad) sLen sCap) (hn : Nat.min sLen dLen = n) (T : TypeId) (L cs : List Value) (hB : Hid (Blk w g T L)) (hl : cs.length = n * i.size)
    (hsrc : ∀ j v, cs[j]? = some v → w.cell? (ad.add j) = some v) (h1 : ∀ v ∈ cs, v.oneCell' = true) (hfit : o' + cs.length ≤ L.length)
    (h : ∀ w', Hid (Blk w' g T (L.take o' ++ cs ++ L.drop (o' + cs.length))) → Fr (At g) w w' → wpList P ops Q rest (a.put o.dst (goInt n)) w') : wpList P ops Q (o :: rest) a w := by
  refine wpList_plain hgd fun K hK => ?_
  have hrun := run_copy_sz (P := P) w dT sT o.type e i hu hi g o' dLen dCap ad sLen sCap n hn cs hl hsrc h1 (fun j hj => hB.out.some_ _ (by omega)) (fun j hj => hB.out.frozen _)
  unfold Oper.wp
  simp [execOp, ho, resolve, invoke, builtin, hd, hs, hrun, Result.andThen]
  exact hK _ _ (h _ (Blk.setCells_mid cs o' w L hB.out hfit) (Fr.setCells (S := At g) (.inl rfl) cs o' w (Fr.refl _ _)))
theorem wpList_append_blk (hgd : o.guard = none) (s x : Operand) (t : TypeId) (ho : o.op = .call { callee := .builtin .append, args := #[s, x], argTypes := #[t, t] }) (e : TypeId) (i : TypeInfo) (hu : P.underlying t = some (.slice e)) (hi : P.info? e = some i)
    (g off sLen sCap : Nat) (ad : Addr) (m c : Nat) (hs : a.eval s = .slice (some ⟨g, off, none⟩) sLen sCap) (hx : a.eval x = .slice (some ad) m c) (T : TypeId) (L cs : List Value) (hB : Hid (Blk w g T L)) (hl : cs.length = m * i.size)
    (hsrc : ∀ j v, cs[j]? = some v → w.cell? (ad.add j) = some v) (h1 : ∀ v ∈ cs, v.oneCell' = true) (hroom : sLen + m ≤ sCap) (hfit : off + sLen * i.size + cs.length ≤ L.length)
    (h : ∀ w', Hid (Blk w' g T (L.take (off + sLen * i.size) ++ cs ++ L.drop (off + sLen * i.size + cs.length))) → Fr (At g) w w' → wpList P ops Q rest (a.put o.dst (.slice (some ⟨g, off, none⟩) (sLen + m) sCap)) w') : wpList P ops Q (o :: rest) a w := by
  refine wpList_plain hgd fun K hK => ?_
  have hrun := run_append_room_cells (P := P) w t o.type e i hu hi g off sLen sCap ad m c cs hl hsrc h1 hroom (fun j hj => hB.out.some_ _ (by omega)) (fun j hj => hB.out.frozen _)
  unfold Oper.wp
  simp [execOp, ho, resolve, invoke, builtin, hs, hx, hrun, Result.andThen]
  exact hK _ _ (h _ (Blk.setCells_mid cs _ w L hB.out hfit) (Fr.setCells (S := At g) (.inl rfl) cs _ w (Fr.refl _ _)))
theorem wpList_clear_blk (hgd : o.guard = none) (s : Operand) (t : TypeId) (ho : o.op = .call { callee := .builtin .clear, args := #[s], argTypes := #[t] }) (e : TypeId) (z : Value) (hu : P.underlying t = some (.slice e)) (hv : ∀ w, (zeroValue e).run P w = .ok z w)
    (g off n c : Nat) (hs : a.eval s = .slice (some ⟨g, off, none⟩) n c) (hn : 0 < n) (T : TypeId) (L zs : List Value) (hz : (Builtin.zeroCells z.cells n).toList = zs) (hB : Hid (Blk w g T L)) (h1 : ∀ v ∈ zs, v.oneCell' = true) (hfit : off + zs.length ≤ L.length)
    (h : ∀ w', Hid (Blk w' g T (L.take off ++ zs ++ L.drop (off + zs.length))) → Fr (At g) w w' → wpList P ops Q rest (a.put o.dst (.tuple #[])) w') : wpList P ops Q (o :: rest) a w := by
  refine wpList_plain hgd fun K hK => ?_
  have hrun := run_clear_sz (P := P) w t e o.type z hu hv zs g off n c hn hz h1 (fun j hj => hB.out.some_ _ (by omega)) (fun j hj => hB.out.frozen _)
  unfold Oper.wp
  simp [execOp, ho, resolve, invoke, builtin, hs, hrun, Result.andThen]
  exact hK _ _ (h _ (Blk.setCells_mid zs off w L hB.out hfit) (Fr.setCells (S := At g) (.inl rfl) zs off w (Fr.refl _ _)))
/-- A builtin stands next: a guard for an arm. -/
theorem at_bi (b : Builtin) {d : Option Tmp} {as : Array Operand} {ts : Array TypeId} {ty : TypeId} {pos : String} {af : Array Edge} {gd : Option (Tmp × Bool)} (h : wpList P ops Q (⟨d, .call { callee := .builtin b, args := as, argTypes := ts }, ty, pos, af, gd⟩ :: rest) a w) : wpList P ops Q (⟨d, .call { callee := .builtin b, args := as, argTypes := ts }, ty, pos, af, gd⟩ :: rest) a w := h
/-- s[i:] of elements of sz cells at a block's head: the address is told where something is left. -/
theorem cut_lo (t e : TypeId) (i : TypeInfo) (ht : P.underlying t = some (.slice e)) (hi : P.info? e = some i) (g n c k : Nat) (hk : k ≤ n) :
    ∃ ad : Addr, (∀ W : World, (Instr.slice t (.slice (some ⟨g, 0, none⟩) n c) (some (.int .i64 k)) none none).run P W = .ok (.slice (some ad) (n - k) (c - k)) W) ∧ (k < c → ad = ⟨g, k * i.size, none⟩) := by
  have he : P.elem t = e := by simp [Program.elem, ht]
  refine ⟨if c = k then ⟨g, 0, none⟩ else ⟨g, k * i.size, none⟩, fun W => ?_, fun h => if_neg (by omega)⟩
  rw [run_slice_l W t _ n c (by rw [he]; exact ht) .i64 k (by omega) (by omega), he]
  simp only [sizeOf, typeInfo, Int.toNat_natCast]
  by_cases h : c = k <;> simp [hi, h, sliced, Result.andThen, Addr.add]
  intro h1
  exact h1.symm
end
/-- zero values, n of them. -/
theorem zero_cells (z : Value) (zs : List Value) (sz n : Nat) (hz : z.cells = zs.toArray) (hs : zs.length = sz) (h0 : 0 < sz) : (Builtin.zeroCells z.cells n).toList = (List.replicate n ()).flatMap (fun _ => zs) := by
  have hm := make_flat (f := fun _ : Unit => zs) (sz := sz) (fun _ => hs) h0 () n
  have e : Builtin.zeroCells z.cells n = madeCells zs.toArray (n * sz) := by
    apply Array.ext'
    apply List.ext_getElem?
    intro j
    rw [hz]
    simp only [Builtin.zeroCells, madeCells, List.size_toArray, hs, Array.toList_map, Array.toList_range, List.getElem?_map, List.getElem?_range]
  rw [e, hm]
section
variable {α : Type} {f : α → List Value} {sz : Nat}
theorem flat_take (hn : ∀ x, (f x).length = sz) (l : List α) (rest : List Value) (i : Nat) (hi : i ≤ l.length) : (l.flatMap f ++ rest).take (i * sz) = (l.take i).flatMap f := by
  rw [List.take_append_of_le_length (by rw [flat_len hn]; exact Nat.mul_le_mul_right _ hi)]
  conv => lhs; rw [← List.take_append_drop i l, List.flatMap_append]
  rw [List.take_left' (by rw [flat_len hn, List.length_take, Nat.min_eq_left hi])]
theorem flat_drop (hn : ∀ x, (f x).length = sz) (l : List α) (rest : List Value) (i : Nat) (hi : i ≤ l.length) : (l.flatMap f ++ rest).drop (i * sz) = (l.drop i).flatMap f ++ rest := by
  rw [List.drop_append_of_le_length (by rw [flat_len hn]; exact Nat.mul_le_mul_right _ hi)]
  conv => lhs; rw [← List.take_append_drop i l, List.flatMap_append]
  rw [List.drop_left' (by rw [flat_len hn, List.length_take, Nat.min_eq_left hi])]
theorem flat_one (h1 : ∀ x, ∀ u ∈ f x, u.oneCell' = true) (l : List α) : ∀ u ∈ l.flatMap f, u.oneCell' = true := fun u hu => by
  obtain ⟨x, _, hx⟩ := List.mem_flatMap.1 hu
  exact h1 x u hx
/-- Where the elements from place o on lie. -/
theorem Vec.src {w : World} {g : Nat} {T : TypeId} {xs : List α} {rest : List Value} {c : Nat} (h : Vec f sz w g T xs rest c) (hn : ∀ x, (f x).length = sz) (o : Nat) (ho : o ≤ xs.length) (ys : List α) (hy : ys <+: xs.drop o) : ∀ j v, (ys.flatMap f)[j]? = some v → w.cell? ((⟨g, o * sz, none⟩ : Addr).add j) = some v :=
  h.blk.cells _ _ fun j v hj => by
    obtain ⟨zs, hz⟩ := hy
    rw [← List.getElem?_drop, flat_drop hn xs rest o ho, ← hz, List.flatMap_append, List.append_assoc, List.getElem?_append_left (List.getElem?_eq_some_iff.1 hj).1]
    exact hj
end
/-- append(v, ys...): v a row of one's own, ys' cells lie at ad. -/
theorem row_apps {α : Type} {f : α → List Value} {sz : Nat} {P : Program} {ops : Array Oper} {rest : List Oper} {o : Oper} {a : Act} {Q : Exit → Act → World → Prop} {W : World} (hn : ∀ x, (f x).length = sz) (h1 : ∀ x, ∀ u ∈ f x, u.oneCell' = true) (base : Nat) (hgd : o.guard = none) (s x : Operand) (t e : TypeId) (z : Value) (bytes : Nat)
    (ho : o.op = .call { callee := .builtin .append, args := #[s, x], argTypes := #[t, t] })
    (ht : P.underlying t = some (.slice e)) (hinfo : (P.info? e).map (fun i => (i.zero, i.size, i.bytes)) = some (some z, sz, bytes)) (hz : z.cells.size = sz) (hs0 : 0 < sz) (hb0 : 0 < bytes)
    (v : Value) (xs ys : List α) (ad : Addr) (m c : Nat) (hs : a.eval s = v) (hx : a.eval x = .slice (some ad) m c) (hm : Hid (ys.length = m)) (hsrc : ∀ j u, (ys.flatMap f)[j]? = some u → W.cell? (ad.add j) = some u)
    (HO : Row f sz e W base v xs) (hbase : base ≤ W.heap.size) (hl : (xs.length + m) * bytes ≤ 140737488355328)
    (h : ∀ v1 w1, Row f sz e w1 base v1 (xs ++ ys) → Fr (OwnB v) W w1 → (v1.ownBlock = v.ownBlock ∨ v1.ownBlock = some W.heap.size) → wpList P ops Q rest (a.put o.dst v1) w1) :
    wpList P ops Q (o :: rest) a W := by
  obtain ⟨i0, hi, hz0, hz1, hz2⟩ := info_parts hinfo
  have hlen : xs.length + m ≤ 140737488355328 := Nat.le_trans (Nat.le_mul_of_pos_right _ hb0) hl
  refine wpList_append_own_at W hgd s x t ho base e i0 z sz bytes ht hi hz0 hz1 hz2 hz hs0 v xs.length (xs.flatMap f) hs HO ad m c (ys.flatMap f) hx (by rw [flat_len hn, hm.out]) hsrc (flat_one h1 ys) (by simp only [maxLen]; omega) hl hbase ?_
  intro v1 w1 hr hg _ hat
  refine h v1 w1 ?_ (Fr.of_own hg) hat
  unfold Row
  rw [List.length_append, List.flatMap_append, hm.out]
  exact hr
end Go.Proofs.Ytlpjehmanodhpaa
