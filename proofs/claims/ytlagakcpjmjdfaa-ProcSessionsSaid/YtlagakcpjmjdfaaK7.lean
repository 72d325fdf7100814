import Derived.Test.YtlagakcpjmjdfaaK2
import Derived.Lib.SliceRun
import Derived.ChangeSlices
import Derived.Laws.Cover2
import Derived.Laws.CopyOwn
import Derived.ArgAppend
import Derived.Laws.Slices
import Derived.Maps.AppendAt
import Derived.Lib.AppendZerosOnto
import Derived.Lib.Overlaps
import Derived.ChangeArms
import Derived.Deep.RegionLaw
set_option linter.unusedSimpArgs false
set_option linter.unusedVariables false
namespace Go.Proofs.Ytlagakcpjmjdfaa
open Go.RowKit
/-! A row of one-cell values that is written at a stretch (clear). -/
theorem Blk.setCells {b : Nat} {T : TypeId} : ∀ (vs : List Value) (o : Nat) (w : World) (l : List Value), Blk w b T l → o + vs.length = l.length → Blk (w.setCells b o vs) b T (l.take o ++ vs)
  | [], o, w, l, h, e => by
    rw [List.take_of_length_le (by simp at e; omega), List.append_nil]
    exact h
  | v :: r, o, w, l, h, e => by
    rw [List.length_cons] at e
    have ih := Blk.setCells r (o + 1) _ _ (h.set o v) (by rw [List.length_set]; omega)
    have e2 : (l.set o v).take (o + 1) ++ r = l.take o ++ v :: r := by
      rw [List.take_succ_eq_append_getElem (by rw [List.length_set]; omega), List.take_set_of_le (Nat.le_refl _), List.getElem_set_self, List.append_assoc]
      rfl
    rw [e2] at ih
    exact ih
theorem Fr.setCells {S : Nat → Prop} {w : World} {b : Nat} (hp : S b ∨ w.heap.size ≤ b) : ∀ (vs : List Value) (o : Nat) (w1 : World), Fr S w w1 → Fr S w (w1.setCells b o vs)
  | [], _, _, h => h
  | v :: r, o, w1, h => Fr.setCells hp r (o + 1) _ (h.setCell (p := ⟨b, o, none⟩) hp v)
end Go.Proofs.Ytlagakcpjmjdfaa
set_option linter.unusedSimpArgs false
set_option linter.unusedVariables false
namespace Go.Proofs.Ytlagakcpjmjdfaa
open Go.RowKit Go.ChangeShapes Go.WideShapes
/-! Slices that come in, of elements that are flat (no memory below them): what their cells read as. -/
section
variable {H : Type} {enc : TypeId × Value → H} {P : Program} {w : World} {base : Nat} {spare : Nat → Bool} {held : Bool}
theorem trod_float {t : TypeId} {k : FloatKind} {fuel : Nat} {cs : List Value} {y : DataW H × List MemPlace} (ht : P.underlying t = some (.float k)) (h : DataW.trod enc P w base spare held fuel t cs = some y) : ∃ b, cs = [.float k b] ∧ (Lit.float k b).wf = true := by
  cases fuel with
  | zero => simp [DataW.trod] at h
  | succ n =>
    unfold DataW.trod at h
    rw [ht] at h
    split at h <;> simp_all
/-- The reading of a flat slice: nil, or a row of elements that lie one behind the other. -/
theorem open_rows {α : Type} {cl : α → List Value} {sz : Nat} {ok : α → Prop} {t e : TypeId} (hcl : ∀ x, (cl x).length = sz) (he : ∀ (fuel : Nat) cs y, DataW.trod enc P w base spare held fuel e cs = some y → ∃ x, cs = cl x ∧ ok x)
    (ht : P.underlying t = some (.slice e)) (hc : P.cellsOf e = sz) {fuel : Nat} {cs : List Value} {x : DataW H × List MemPlace} (h : DataW.trod enc P w base spare held fuel t cs = some x) :
    cs = [.slice none 0 0] ∨ ∃ (a : Addr) (len cap : Nat) (zs : List α), cs = [.slice (some a) len cap] ∧ zs.length = len ∧ len ≤ cap ∧ (∀ i (hi : i < zs.length) (j : Nat) v, (cl zs[i])[j]? = some v → w.cell? (a.add (i * sz + j)) = some v) ∧ ∀ x ∈ zs, ok x := by
  rcases DataW.trod_slice ht h with ⟨h0, _⟩ | ⟨a, len, cap, elems, rest, n, _, rfl, _, hb, hl, hm, hlen, hel, _, _⟩
  · exact .inl h0
  right
  have each : ∀ i, i < len → ∃ x, w.cells? base (a.add (i * sz)) sz = some (cl x) ∧ ok x := by
    intro i hi
    have h1 := hel i hi
    rw [List.getElem?_eq_getElem (by omega), hc, Option.bind_eq_some_iff] at h1
    obtain ⟨cs', h2, h3⟩ := h1
    obtain ⟨x, rfl, hx⟩ := he n cs' _ h3
    exact ⟨x, h2, hx⟩
  have build : ∀ m, m ≤ len → ∃ zs : List α, zs.length = m ∧ ∀ i (hi : i < zs.length), w.cells? base (a.add (i * sz)) sz = some (cl zs[i]) ∧ ok zs[i] := by
    intro m
    induction m with
    | zero => intro _; exact ⟨[], rfl, fun i hi => by simp at hi⟩
    | succ m ih =>
      intro hm
      obtain ⟨zs, h1, h2⟩ := ih (by omega)
      obtain ⟨x, h3, h4⟩ := each m (by omega)
      refine ⟨zs ++ [x], by simp [h1], fun i hi => ?_⟩
      by_cases him : i < zs.length
      · rw [List.getElem_append_left him]
        exact h2 i him
      · have e : i = zs.length := by simp at hi; omega
        subst e
        rw [List.getElem_append_right (Nat.le_refl _)]
        simp only [Nat.sub_self, List.getElem_cons_zero]
        rw [h1]
        exact ⟨h3, h4⟩
  obtain ⟨zs, h1, h2⟩ := build len (Nat.le_refl _)
  refine ⟨a, len, cap, zs, rfl, h1, hl, fun i hi j v hv => ?_, fun x hx => ?_⟩
  · obtain ⟨h3, _⟩ := h2 i hi
    obtain ⟨_, _, h4⟩ := World.cells?_some h3
    have hj : j < sz := by
      have := (List.getElem?_eq_some_iff.1 hv).1
      rw [hcl] at this
      exact this
    have h5 := h4 j hj
    rw [Addr.add_add] at h5
    rw [h5]
    exact hv
  · obtain ⟨i, hi, rfl⟩ := List.getElem_of_mem hx
    exact (h2 i hi).2
end
theorem cell_lt {w : World} {a : Addr} {v : Value} (h : w.cell? a = some v) : a.block < w.heap.size := by
  by_cases hc : a.block < w.heap.size
  · exact hc
  · exfalso
    have : w.heap[a.block]? = none := Array.getElem?_eq_none (by omega)
    simp [World.cell?, this] at h
end Go.Proofs.Ytlagakcpjmjdfaa
set_option linter.unusedSimpArgs false
set_option linter.unusedVariables false
namespace Go.Proofs.Ytlagakcpjmjdfaa
open Go.RowKit
/-! A row with spare room: the block is known whole: elements told flat, then cells that nobody reads. -/
theorem Blk.setCells_mid {b : Nat} {T : TypeId} : ∀ (vs : List Value) (o : Nat) (w : World) (l : List Value), Blk w b T l → o + vs.length ≤ l.length → Blk (w.setCells b o vs) b T (l.take o ++ vs ++ l.drop (o + vs.length))
  | [], o, w, l, h, e => by
    rw [List.append_nil, List.length_nil, Nat.add_zero, List.take_append_drop]
    exact h
  | v :: r, o, w, l, h, e => by
    rw [List.length_cons] at e
    have ih := Blk.setCells_mid r (o + 1) _ _ (h.set o v) (by rw [List.length_set]; omega)
    have e2 : (l.set o v).take (o + 1) ++ r ++ (l.set o v).drop (o + 1 + r.length) = l.take o ++ v :: r ++ l.drop (o + (v :: r).length) := by
      rw [List.take_succ_eq_append_getElem (by rw [List.length_set]; omega), List.take_set_of_le (Nat.le_refl _), List.getElem_set_self, List.drop_set_of_lt (by omega), List.length_cons, show o + 1 + r.length = o + (r.length + 1) by omega]
      simp
    rw [e2] at ih
    exact ih
/-- n elements xs of sz cells each at block g, then room for more: c elements in all. -/
structure Vec {α : Type} (f : α → List Value) (sz : Nat) (w : World) (g : Nat) (T : TypeId) (xs : List α) (rest : List Value) (c : Nat) : Prop where
  blk : Blk w g T (xs.flatMap f ++ rest)
  len : xs.length * sz + rest.length = c * sz
section
variable {α : Type} {f : α → List Value} {sz : Nat} {w w1 : World} {g : Nat} {T : TypeId} {xs : List α} {rest : List Value} {c : Nat}
theorem Vec.cell (h : Vec f sz w g T xs rest c) (hn : ∀ x, (f x).length = sz) (k : Nat) (hk : k < xs.length) (j : Nat) (hj : j < sz) {u : Value} (hu : (f xs[k])[j]? = some u) : w.cell? ⟨g, k * sz + j, none⟩ = some u := by
  have hlt : k * sz + j < xs.length * sz := by
    have : (k + 1) * sz ≤ xs.length * sz := Nat.mul_le_mul_right _ hk
    rw [Nat.add_mul] at this
    omega
  refine h.blk.cell _ ?_
  rw [List.getElem?_append_left (by rw [flat_len hn]; exact hlt), flat_get hn xs k j hk hj]
  exact hu
theorem Vec.fr {S : Nat → Prop} (h : Vec f sz w g T xs rest c) (hf : Fr S w w1) (hs : ¬ S g) : Vec f sz w1 g T xs rest c := ⟨h.blk.fr hf hs, h.len⟩
/-- A row of one's own (behind an append) is such a row. -/
theorem Vec.of_row {e : TypeId} {base : Nat} {v : Value} (h : Row f sz e w base v xs) (h0 : 0 < xs.length) : ∃ g c rest, v = .slice (some ⟨g, 0, none⟩) xs.length c ∧ Vec f sz w g e xs rest c ∧ base ≤ g ∧ xs.length ≤ c ∧ c ≤ maxLen := by
  obtain ⟨hl, h2⟩ := h
  rcases h2 with ⟨_, h3⟩ | ⟨g, c, cur, hv, hb, hh, hn, hm, hs, ht⟩
  · omega
  · refine ⟨g, c, cur.toList.drop (xs.length * sz), hv, ⟨?_, ?_⟩, hb, hn, hm⟩
    · unfold Blk
      rw [← ht, List.take_append_drop]
      simpa using hh
    · have h5 : xs.length * sz ≤ c * sz := Nat.mul_le_mul_right _ hn
      have h6 : cur.toList.length = c * sz := by rw [← hs, Array.length_toList]
      rw [List.length_drop, h6]
      omega
/-- And back: for the next append. -/
theorem Vec.row {base : Nat} (h : Vec f sz w g T xs rest c) (hn : ∀ x, (f x).length = sz) (hb : base ≤ g) (hc : xs.length ≤ c) (hm : c ≤ maxLen) : Row f sz T w base (.slice (some ⟨g, 0, none⟩) xs.length c) xs := by
  refine ⟨flat_len hn xs, .inr ⟨g, c, (xs.flatMap f ++ rest).toArray, rfl, hb, h.blk, hc, hm, ?_, ?_⟩⟩
  · have := h.len
    simp only [List.size_toArray, List.length_append, flat_len hn]
    exact this
  · show (xs.flatMap f ++ rest).take (xs.length * sz) = xs.flatMap f
    rw [← flat_len hn xs, List.take_left]
end
end Go.Proofs.Ytlagakcpjmjdfaa
set_option linter.unusedSimpArgs false
set_option linter.unusedVariables false
namespace Go.Proofs.Ytlagakcpjmjdfaa
open Go.RowKit
/-! Slices whose elements are some cells each: cuts, copy, clear, append in place, at a block that is known whole. -/
theorem Blk.some_ {w : World} {b : Nat} {T : TypeId} {l : List Value} (h : Blk w b T l) (i : Nat) (hi : i < l.length) : (w.cell? ⟨b, i, none⟩).isSome = true := by
  rw [h.cell i (List.getElem?_eq_getElem hi)]
  rfl
theorem Blk.cells {w : World} {b : Nat} {T : TypeId} {l : List Value} (h : Blk w b T l) (o : Nat) (cs : List Value) (hcs : ∀ j v, cs[j]? = some v → l[o + j]? = some v) : ∀ j v, cs[j]? = some v → w.cell? ((⟨b, o, none⟩ : Addr).add j) = some v := fun j v hj => by
  rw [Addr.add_lit]
  exact h.cell _ (hcs j v hj)
section
variable {P : Program}
theorem run_copy_sz (w : World) (dT sT ty e : TypeId) (i : TypeInfo) (hu : P.underlying dT = some (.slice e)) (hi : P.info? e = some i) (g o dLen dCap : Nat) (ad : Addr) (sLen sCap n : Nat) (hn : Nat.min sLen dLen = n) (cs : List Value) (hl : cs.length = n * i.size)
    (hsrc : ∀ j v, cs[j]? = some v → w.cell? (ad.add j) = some v) (h1 : ∀ v ∈ cs, v.oneCell' = true) (hc : ∀ j, j < cs.length → (w.cell? ⟨g, o + j, none⟩).isSome = true) (hf : ∀ j, j < cs.length → w.frozen? ⟨g, o + j, none⟩ = false) :
    (Builtin.copy_ #[dT, sT] ty #[.slice (some ⟨g, o, none⟩) dLen dCap, .slice (some ad) sLen sCap]).run P w = .ok (goInt n) (w.setCells g o cs) := by
  have hfc := run_firstCells_some (P := P) w i.size n ad sLen sCap cs hl hsrc
  have hst := run_storeCells_cells (P := P) g o cs 0 w (by simpa using hc) (by simpa using hf) h1
  simp only [Nat.add_zero] at hst
  simp [Builtin.copy_, run_underlying hu, Builtin.lenOf, sizeOf, typeInfo, hi, hn, hfc, hst]
/-- clear of n > 0 elements: zs, what n zero values are. -/
theorem run_clear_sz (w : World) (t e ty : TypeId) (z : Value) (ht : P.underlying t = some (.slice e)) (hv : ∀ w, (zeroValue e).run P w = .ok z w) (zs : List Value) (b o n c : Nat) (hn : 0 < n) (hz : (Builtin.zeroCells z.cells n).toList = zs) (h1 : ∀ v ∈ zs, v.oneCell' = true)
    (hc : ∀ j, j < zs.length → (w.cell? ⟨b, o + j, none⟩).isSome = true) (hf : ∀ j, j < zs.length → w.frozen? ⟨b, o + j, none⟩ = false) :
    (Builtin.clear_ #[t] ty #[.slice (some ⟨b, o, none⟩) n c]).run P w = .ok (.tuple #[]) (w.setCells b o zs) := by
  have hst := run_storeCells_cells (P := P) b o zs 0 w (by simpa using hc) (by simpa using hf) h1
  simp only [Nat.add_zero] at hst
  obtain ⟨m, rfl⟩ : ∃ m, n = m + 1 := ⟨n - 1, by omega⟩
  simp [Builtin.clear_, run_underlying ht, hv, hz, hst]
variable {ops : Array Oper} {rest : List Oper} {o : Oper} {a : Act} {Q : Exit → Act → World → Prop} {w : World}
theorem wpList_copy_blk (hgd : o.guard = none) (d s : Operand) (dT sT : TypeId) (ho : o.op = .call { callee := .builtin .copy, args := #[d, s], argTypes := #[dT, sT] }) (e : TypeId) (i : TypeInfo) (hu : P.underlying dT = some (.slice e)) (hi : P.info? e = some i)
    (g o' dLen dCap : Nat) (ad : Addr) (sLen sCap n : Nat) (hd : a.eval d = .slice (some ⟨g, o', none⟩) dLen dCap) (hs : a.eval s = .slice (some ad) sLen sCap) (hn : Nat.min sLen dLen = n) (T : TypeId) (L cs : List Value) (hB : Hid (Blk w g T L)) (hl : cs.length = n * i.size)
    (hsrc : ∀ j v, cs[j]? = some v → w.cell? (ad.add j) = some v) (h1 : ∀ v ∈ cs, v.oneCell' = true) (hfit : o' + cs.length ≤ L.length)
    (h : ∀ w', Hid (Blk w' g T (L.take o' ++ cs ++ L.drop (o' + cs.length))) → Fr (At g) w w' → wpList P ops Q rest (a.put o.dst (goInt n)) w') : wpList P ops Q (o :: rest) a w := by
  refine wpList_plain hgd fun K hK => ?_
  have hrun := run_copy_sz (P := P) w dT sT o.type e i hu hi g o' dLen dCap ad sLen sCap n hn cs hl hsrc h1 (fun j hj => hB.out.some_ _ (by omega)) (fun j hj => hB.out.frozen _)
  unfold Oper.wp
  simp [execOp, ho, resolve, invoke, builtin, hd, hs, hrun, Result.andThen]
  exact hK _ _ (h _ (Blk.setCells_mid cs o' w L hB.out hfit) (Fr.setCells (S := At g) (.inl rfl) cs o' w (Fr.refl _ _)))
theorem wpList_append_blk (hgd : o.guard = none) (s x : Operand) (t : TypeId) (ho : o.op = .call { callee := .builtin .append, args := #[s, x], argTypes := #[t, t] }) (e : TypeId) (i : TypeInfo) (hu : P.underlying t = some (.slice e)) (hi : P.info? e = some i)
    (g off sLen sCap : Nat) (ad : Addr) (m c : Nat) (hs : a.eval s = .slice (some ⟨g, off, none⟩) sLen sCap) (hx : a.eval x = .slice (some ad) m c) (T : TypeId) (L cs : List Value) (hB : Hid (Blk w g T L)) (hl : cs.length = m * i.size)
    (hsrc : ∀ j v, cs[j]? = some v → w.cell? (ad.add j) = some v) (h1 : ∀ v ∈ cs, v.oneCell' = true) (hroom : sLen + m ≤ sCap) (hfit : off + sLen * i.size + cs.length ≤ L.length)
    (h : ∀ w', Hid (Blk w' g T (L.take (off + sLen * i.size) ++ cs ++ L.drop (off + sLen * i.size + cs.length))) → Fr (At g) w w' → wpList P ops Q rest (a.put o.dst (.slice (some ⟨g, off, none⟩) (sLen + m) sCap)) w') : wpList P ops Q (o :: rest) a w := by
  refine wpList_plain hgd fun K hK => ?_
  have hrun := run_append_room_cells (P := P) w t o.type e i hu hi g off sLen sCap ad m c cs hl hsrc h1 hroom (fun j hj => hB.out.some_ _ (by omega)) (fun j hj => hB.out.frozen _)
  unfold Oper.wp
  simp [execOp, ho, resolve, invoke, builtin, hs, hx, hrun, Result.andThen]
  exact hK _ _ (h _ (Blk.setCells_mid cs _ w L hB.out hfit) (Fr.setCells (S := At g) (.inl rfl) cs _ w (Fr.refl _ _)))
theorem wpList_clear_blk (hgd : o.guard = none) (s : Operand) (t : TypeId) (ho : o.op = .call { callee := .builtin .clear, args := #[s], argTypes := #[t] }) (e : TypeId) (z : Value) (hu : P.underlying t = some (.slice e)) (hv : ∀ w, (zeroValue e).run P w = .ok z w)
    (g off n c : Nat) (hs : a.eval s = .slice (some ⟨g, off, none⟩) n c) (hn : 0 < n) (T : TypeId) (L zs : List Value) (hz : (Builtin.zeroCells z.cells n).toList = zs) (hB : Hid (Blk w g T L)) (h1 : ∀ v ∈ zs, v.oneCell' = true) (hfit : off + zs.length ≤ L.length)
    (h : ∀ w', Hid (Blk w' g T (L.take off ++ zs ++ L.drop (off + zs.length))) → Fr (At g) w w' → wpList P ops Q rest (a.put o.dst (.tuple #[])) w') : wpList P ops Q (o :: rest) a w := by
  refine wpList_plain hgd fun K hK => ?_
  have hrun := run_clear_sz (P := P) w t e o.type z hu hv zs g off n c hn hz h1 (fun j hj => hB.out.some_ _ (by omega)) (fun j hj => hB.out.frozen _)
  unfold Oper.wp
  simp [execOp, ho, resolve, invoke, builtin, hs, hrun, Result.andThen]
  exact hK _ _ (h _ (Blk.setCells_mid zs off w L hB.out hfit) (Fr.setCells (S := At g) (.inl rfl) zs off w (Fr.refl _ _)))
/-- A builtin stands next: a guard for an arm. -/
theorem at_bi (b : Builtin) {d : Option Tmp} {as : Array Operand} {ts : Array TypeId} {ty : TypeId} {pos : String} {af : Array Edge} {gd : Option (Tmp × Bool)} (h : wpList P ops Q (⟨d, .call { callee := .builtin b, args := as, argTypes := ts }, ty, pos, af, gd⟩ :: rest) a w) : wpList P ops Q (⟨d, .call { callee := .builtin b, args := as, argTypes := ts }, ty, pos, af, gd⟩ :: rest) a w := h
/-- s[i:] of elements of sz cells at a block's head: the address is told where something is left. -/
theorem cut_lo (t e : TypeId) (i : TypeInfo) (ht : P.underlying t = some (.slice e)) (hi : P.info? e = some i) (g n c k : Nat) (hk : k ≤ n) :
    ∃ ad : Addr, (∀ W : World, (Instr.slice t (.slice (some ⟨g, 0, none⟩) n c) (some (.int .i64 k)) none none).run P W = .ok (.slice (some ad) (n - k) (c - k)) W) ∧ (k < c → ad = ⟨g, k * i.size, none⟩) := by
  have he : P.elem t = e := by simp [Program.elem, ht]
  refine ⟨if c = k then ⟨g, 0, none⟩ else ⟨g, k * i.size, none⟩, fun W => ?_, fun h => if_neg (by omega)⟩
  rw [run_slice_l W t _ n c (by rw [he]; exact ht) .i64 k (by omega) (by omega), he]
  simp only [sizeOf, typeInfo, Int.toNat_natCast]
  by_cases h : c = k <;> simp [hi, h, sliced, Result.andThen, Addr.add]
  intro h1
  exact h1.symm
end
/-- zero values, n of them. -/
theorem zero_cells (z : Value) (zs : List Value) (sz n : Nat) (hz : z.cells = zs.toArray) (hs : zs.length = sz) (h0 : 0 < sz) : (Builtin.zeroCells z.cells n).toList = (List.replicate n ()).flatMap (fun _ => zs) := by
  have hm := make_flat (f := fun _ : Unit => zs) (sz := sz) (fun _ => hs) h0 () n
  have e : Builtin.zeroCells z.cells n = madeCells zs.toArray (n * sz) := by
    apply Array.ext'
    apply List.ext_getElem?
    intro j
    rw [hz]
    simp only [Builtin.zeroCells, madeCells, List.size_toArray, hs, Array.toList_map, Array.toList_range, List.getElem?_map, List.getElem?_range]
  rw [e, hm]
section
variable {α : Type} {f : α → List Value} {sz : Nat}
theorem flat_take (hn : ∀ x, (f x).length = sz) (l : List α) (rest : List Value) (i : Nat) (hi : i ≤ l.length) : (l.flatMap f ++ rest).take (i * sz) = (l.take i).flatMap f := by
  rw [List.take_append_of_le_length (by rw [flat_len hn]; exact Nat.mul_le_mul_right _ hi)]
  conv => lhs; rw [← List.take_append_drop i l, List.flatMap_append]
  rw [List.take_left' (by rw [flat_len hn, List.length_take, Nat.min_eq_left hi])]
theorem flat_drop (hn : ∀ x, (f x).length = sz) (l : List α) (rest : List Value) (i : Nat) (hi : i ≤ l.length) : (l.flatMap f ++ rest).drop (i * sz) = (l.drop i).flatMap f ++ rest := by
  rw [List.drop_append_of_le_length (by rw [flat_len hn]; exact Nat.mul_le_mul_right _ hi)]
  conv => lhs; rw [← List.take_append_drop i l, List.flatMap_append]
  rw [List.drop_left' (by rw [flat_len hn, List.length_take, Nat.min_eq_left hi])]
theorem flat_one (h1 : ∀ x, ∀ u ∈ f x, u.oneCell' = true) (l : List α) : ∀ u ∈ l.flatMap f, u.oneCell' = true := fun u hu => by
  obtain ⟨x, _, hx⟩ := List.mem_flatMap.1 hu
  exact h1 x u hx
/-- Where the elements from place o on lie. -/
theorem Vec.src {w : World} {g : Nat} {T : TypeId} {xs : List α} {rest : List Value} {c : Nat} (h : Vec f sz w g T xs rest c) (hn : ∀ x, (f x).length = sz) (o : Nat) (ho : o ≤ xs.length) (ys : List α) (hy : ys <+: xs.drop o) : ∀ j v, (ys.flatMap f)[j]? = some v → w.cell? ((⟨g, o * sz, none⟩ : Addr).add j) = some v :=
  h.blk.cells _ _ fun j v hj => by
    obtain ⟨zs, hz⟩ := hy
    rw [← List.getElem?_drop, flat_drop hn xs rest o ho, ← hz, List.flatMap_append, List.append_assoc, List.getElem?_append_left (List.getElem?_eq_some_iff.1 hj).1]
    exact hj
end
/-- append(v, ys...): v a row of one's own, ys' cells lie at ad. -/
theorem row_apps {α : Type} {f : α → List Value} {sz : Nat} {P : Program} {ops : Array Oper} {rest : List Oper} {o : Oper} {a : Act} {Q : Exit → Act → World → Prop} {W : World} (hn : ∀ x, (f x).length = sz) (h1 : ∀ x, ∀ u ∈ f x, u.oneCell' = true) (base : Nat) (hgd : o.guard = none) (s x : Operand) (t e : TypeId) (z : Value) (bytes : Nat)
    (ho : o.op = .call { callee := .builtin .append, args := #[s, x], argTypes := #[t, t] })
    (ht : P.underlying t = some (.slice e)) (hinfo : (P.info? e).map (fun i => (i.zero, i.size, i.bytes)) = some (some z, sz, bytes)) (hz : z.cells.size = sz) (hs0 : 0 < sz) (hb0 : 0 < bytes)
    (v : Value) (xs ys : List α) (ad : Addr) (m c : Nat) (hs : a.eval s = v) (hx : a.eval x = .slice (some ad) m c) (hm : Hid (ys.length = m)) (hsrc : ∀ j u, (ys.flatMap f)[j]? = some u → W.cell? (ad.add j) = some u)
    (HO : Row f sz e W base v xs) (hbase : base ≤ W.heap.size) (hl : (xs.length + m) * bytes ≤ 140737488355328)
    (h : ∀ v1 w1, Row f sz e w1 base v1 (xs ++ ys) → Fr (OwnB v) W w1 → (v1.ownBlock = v.ownBlock ∨ v1.ownBlock = some W.heap.size) → wpList P ops Q rest (a.put o.dst v1) w1) :
    wpList P ops Q (o :: rest) a W := by
  obtain ⟨i0, hi, hz0, hz1, hz2⟩ := info_parts hinfo
  have hlen : xs.length + m ≤ 140737488355328 := Nat.le_trans (Nat.le_mul_of_pos_right _ hb0) hl
  refine wpList_append_own_at W hgd s x t ho base e i0 z sz bytes ht hi hz0 hz1 hz2 hz hs0 v xs.length (xs.flatMap f) hs HO ad m c (ys.flatMap f) hx (by rw [flat_len hn, hm.out]) hsrc (flat_one h1 ys) (by simp only [maxLen]; omega) hl hbase ?_
  intro v1 w1 hr hg _ hat
  refine h v1 w1 ?_ (Fr.of_own hg) hat
  unfold Row
  rw [List.length_append, List.flatMap_append, hm.out]
  exact hr
end Go.Proofs.Ytlagakcpjmjdfaa
set_option linter.unusedSimpArgs false
set_option linter.unusedVariables false
namespace Go.Proofs.Ytlagakcpjmjdfaa
open Go.RowKit
/-! append(s[:i], make(..)...) where it grows; what overlaps asks. -/
theorem Blk.shape {w : World} {b : Nat} {T : TypeId} {l : List Value} (h : Blk w b T l) : w.shape? b = some (T, l.length) := by
  unfold Blk at h
  simp [World.shape?, h]
section
variable {P : Program} {ops : Array Oper} {rest : List Oper} {o : Oper} {a : Act} {Q : Exit → Act → World → Prop} {W : World}
theorem wpList_append_zeros {α : Type} {f : α → List Value} {sz : Nat} (hn : ∀ x, (f x).length = sz) (hgd : o.guard = none) (s x : Operand) (t tn e : TypeId) (z : Value) (bytes : Nat) (kn : IntKind)
    (ho : o.op = .call { callee := .builtin .append, args := #[s, x], argTypes := #[t, tn] })
    (ht : P.underlying t = some (.slice e)) (htn : P.underlying tn = some (.int kn)) (hinfo : (P.info? e).map (fun i => (i.zero, i.size, i.bytes)) = some (some z, sz, bytes)) (hz : z.cells.size = sz) (hs0 : 0 < sz) (hb0 : 0 < bytes)
    (g i c k m : Nat) (kx : Int) (hs : a.eval s = .slice (some ⟨g, 0, none⟩) i c) (hx : a.eval x = .int .i64 kx) (hkx : kx = (k : Int)) (hm : i + k = m) (xs : List α) (rs : List Value) (hV : Vec f sz W g e xs rs c) (hi : i ≤ xs.length) (hk0 : 0 < k) (hg : c < m) (hl : m * bytes ≤ 140737488355328)
    (h : ∀ c1 L w1, m ≤ c1 → c1 ≤ maxLen → Hid (Vec f sz w1 W.heap.size e (xs.take i) L c1) → Fr NoB W w1 → wpList P ops Q rest (a.put o.dst (.slice (some ⟨W.heap.size, 0, none⟩) m c1)) w1) :
    wpList P ops Q (o :: rest) a W := by
  obtain ⟨i0, hi0, hz0, hz1, hz2⟩ := info_parts hinfo
  subst hm
  subst hkx
  have hlen : i + k ≤ 140737488355328 := Nat.le_trans (Nat.le_mul_of_pos_right _ hb0) hl
  have hold := run_firstCells_some (P := P) W.drew i0.size i ⟨g, 0, none⟩ i c ((xs.take i).flatMap f) (by rw [flat_len hn, List.length_take, Nat.min_eq_left hi, hz1]) (fun j v hj => by
    have h1 := Vec.src hV hn 0 (Nat.zero_le _) (xs.take i) (List.take_prefix i xs) j v hj
    rw [Nat.zero_mul] at h1
    exact h1)
  have hge := grownCap_ge W (i + k) c e
  have hcm : grownCap W (i + k) c e ≤ maxLen := grownCap_le_maxLen W (i + k) c e (by simp only [maxLen]; omega)
  have hr := Lib.run_append_grow_zeros (P := P) W t tn o.type e i0 z .i64 kn ht htn hi0 hz0 (some ⟨g, 0, none⟩) i c ((xs.take i).flatMap f) hold k hk0 (by omega) hg (by omega) (by
      rw [hz2]
      have : k * bytes ≤ (i + k) * bytes := Nat.mul_le_mul_right _ (by omega)
      omega) (by rw [hz2]; exact growslice_fits hg hl)
  refine wpList_plain hgd fun K hK => ?_
  unfold Oper.wp
  simp [execOp, ho, resolve, invoke, builtin, hs, hx, hr, Result.andThen]
  refine hK _ _ (h _ (Builtin.zeroCells z.cells k ++ Builtin.zeroCells z.cells (grownCap W (i + k) c e - (i + k))).toList _ hge hcm ?_ ((Fr.refl NoB W).drew.alloc _))
  refine (show Vec .. from ⟨?_, ?_⟩)
  · have hb := Blk.new W.drew e ((xs.take i).flatMap f ++ (Builtin.zeroCells z.cells k ++ Builtin.zeroCells z.cells (grownCap W (i + k) c e - (i + k))).toList)
    have e1 : ((xs.take i).flatMap f ++ (Builtin.zeroCells z.cells k ++ Builtin.zeroCells z.cells (grownCap W (i + k) c e - (i + k))).toList).toArray = ((xs.take i).flatMap f).toArray ++ (Builtin.zeroCells z.cells k ++ Builtin.zeroCells z.cells (grownCap W (i + k) c e - (i + k))) := by
      apply Array.ext'
      simp
    rw [e1] at hb
    exact hb
  · simp only [Array.toList_append, List.length_append, Array.length_toList, size_zeroCells, hz, List.length_take, Nat.min_eq_left hi, ← Nat.add_mul]
    congr 1
    omega
end
end Go.Proofs.Ytlagakcpjmjdfaa
set_option linter.unusedSimpArgs false
set_option linter.unusedVariables false
namespace Go.Proofs.Ytlagakcpjmjdfaa
open Go.RowKit Go.ChangeShapes Go.WideShapes
/-! What flat data that come in read as: structs of numbers and bools, structs of such structs. -/
inductive Leaf where
  | int (k : IntKind)
  | bool
def Leaf.ok : Leaf → Value → Prop
  | .int k, v => ∃ n, v = .int k n ∧ (Lit.int k n).wf = true
  | .bool, v => ∃ b, v = .bool b
def FlatT (P : Program) (t : TypeId) (ls : List Leaf) : Prop :=
  ∀ (H : Type) (enc : TypeId × Value → H) (w : World) (base : Nat) (spare : Nat → Bool) (held : Bool) (fuel : Nat) (cs : List Value) (y : DataW H × List MemPlace), DataW.trod enc P w base spare held fuel t cs = some y → cs.length = ls.length ∧ ∀ (i : Nat) (leaf : Leaf) (v : Value), ls[i]? = some leaf → cs[i]? = some v → leaf.ok v
section
variable {P : Program} {t : TypeId}
theorem FlatT.of_int {k : IntKind} (ht : P.underlying t = some (.int k)) : FlatT P t [.int k] := by
  intro H enc w base spare held fuel cs y h
  have h1 : ∃ n, cs = [.int k n] ∧ (Lit.int k n).wf = true := by
    cases fuel with
    | zero => simp [DataW.trod] at h
    | succ n =>
      unfold DataW.trod at h
      rw [ht] at h
      split at h <;> simp_all
  obtain ⟨n, rfl, hw⟩ := h1
  refine ⟨rfl, fun i leaf v hl hv => ?_⟩
  match i with
  | 0 =>
    obtain rfl := Option.some.inj hl
    obtain rfl := Option.some.inj hv
    exact ⟨n, rfl, hw⟩
  | i + 1 => simp at hl
theorem FlatT.of_bool (ht : P.underlying t = some .bool) : FlatT P t [.bool] := by
  intro H enc w base spare held fuel cs y h
  have h1 : ∃ b, cs = [.bool b] := by
    cases fuel with
    | zero => simp [DataW.trod] at h
    | succ n =>
      unfold DataW.trod at h
      rw [ht] at h
      split at h <;> simp_all
  obtain ⟨n, rfl⟩ := h1
  refine ⟨rfl, fun i leaf v hl hv => ?_⟩
  match i with
  | 0 =>
    obtain rfl := Option.some.inj hl
    obtain rfl := Option.some.inj hv
    exact ⟨n, rfl⟩
  | i + 1 => simp at hl
theorem flatten_at : ∀ (lss : List (List Leaf)) (j : Nat) (leaf : Leaf), lss.flatten[j]? = some leaf → ∃ i ls, lss[i]? = some ls ∧ (lss.take i).flatten.length ≤ j ∧ ls[j - (lss.take i).flatten.length]? = some leaf
  | [], j, leaf, h => by simp at h
  | l :: lss, j, leaf, h => by
    by_cases hj : j < l.length
    · refine ⟨0, l, rfl, by simp, ?_⟩
      rw [List.flatten_cons, List.getElem?_append_left hj] at h
      simpa using h
    · rw [List.flatten_cons, List.getElem?_append_right (by omega)] at h
      obtain ⟨i, ls, h1, h2, h3⟩ := flatten_at lss _ leaf h
      refine ⟨i + 1, ls, h1, ?_, ?_⟩
      · simp only [List.take_succ_cons, List.flatten_cons, List.length_append]
        omega
      · simp only [List.take_succ_cons, List.flatten_cons, List.length_append]
        rw [← h3]
        congr 1
        omega
/-- A struct of flat fields. -/
theorem FlatT.of_struct {fs : Array Field} (lss : List (List Leaf)) (ht : P.underlying t = some (.struct fs)) (hn : P.cellsOf t = lss.flatten.length)
    (hf : ∀ i ls, lss[i]? = some ls → ∃ f, fs[i]? = some f ∧ FlatT P f.type ls ∧ f.offset = (lss.take i).flatten.length ∧ P.cellsOf f.type = ls.length) : FlatT P t lss.flatten := by
  intro H enc w base spare held fuel cs y h
  obtain ⟨xs, n, _, _, hl, hlen, hx⟩ := DataW.trod_struct ht h
  refine ⟨hl.trans hn, fun j leaf v h1 h2 => ?_⟩
  obtain ⟨i, ls, h3, h4, h5⟩ := flatten_at lss j leaf h1
  obtain ⟨f, h6, h7, h8, h9⟩ := hf i ls h3
  have h10 := hx i f h6
  have hi : i < xs.length := by
    rw [hlen]
    exact (Array.getElem?_eq_some_iff.1 h6).1
  rw [List.getElem?_eq_getElem hi] at h10
  obtain ⟨_, h11⟩ := h7 H enc w base spare held n _ _ h10
  refine h11 (j - (lss.take i).flatten.length) leaf v h5 ?_
  have hjl := (List.getElem?_eq_some_iff.1 h5).1
  rw [List.getElem?_take_of_lt (by omega), List.getElem?_drop, h8, Nat.add_sub_cancel' h4]
  exact h2
end
end Go.Proofs.Ytlagakcpjmjdfaa
set_option linter.unusedSimpArgs false
set_option linter.unusedVariables false
namespace Go.Proofs.Ytlagakcpjmjdfaa
open Go.RowKit Go.Proofs.YtlagakcpjmjdfaaW.PrintWords
/-- append(v, ys...) as one step of a region that draws. -/
theorem step_row_apps {α : Type} {f : α → List Value} {sz : Nat} {P : Program} {ops : Array Oper} {o : Oper} {a : Act} {K : Act → World → Prop} {Q : Exit → Act → World → Prop} {E : Prop} {W : World} (hn : ∀ x, (f x).length = sz) (h1 : ∀ x, ∀ u ∈ f x, u.oneCell' = true) (base : Nat) (hgd : o.guard = none) (s x : Operand) (t e : TypeId) (z : Value) (bytes : Nat)
    (ho : o.op = .call { callee := .builtin .append, args := #[s, x], argTypes := #[t, t] })
    (ht : P.underlying t = some (.slice e)) (hinfo : (P.info? e).map (fun i => (i.zero, i.size, i.bytes)) = some (some z, sz, bytes)) (hz : z.cells.size = sz) (hs0 : 0 < sz) (hb0 : 0 < bytes)
    (v : Value) (xs ys : List α) (ad : Addr) (m c : Nat) (hs : a.eval s = v) (hx : a.eval x = .slice (some ad) m c) (hm : Hid (ys.length = m)) (hsrc : ∀ j u, (ys.flatMap f)[j]? = some u → W.cell? (ad.add j) = some u)
    (HO : Row f sz e W base v xs) (hbase : base ≤ W.heap.size) (hl : (xs.length + m) * bytes ≤ 140737488355328)
    (h : ∀ v1 w1, Row f sz e w1 base v1 (xs ++ ys) → Fr (OwnB v) W w1 → (v1.ownBlock = v.ownBlock ∨ v1.ownBlock = some W.heap.size) → K (a.put o.dst v1) w1) :
    if Region.wanted o (yielded ops a.tmps) = true then Oper.wp P o a W K Q else E := by
  have hw : Region.wanted o (yielded ops a.tmps) = true := by simp [Region.wanted, hgd]
  rw [if_pos hw]
  obtain ⟨i0, hi, hz0, hz1, hz2⟩ := info_parts hinfo
  have hlen : xs.length + m ≤ 140737488355328 := Nat.le_trans (Nat.le_mul_of_pos_right _ hb0) hl
  obtain ⟨v', w', hr, h2, h3, h4, h5⟩ := run_append_own_at (P := P) W base t o.type e i0 z sz bytes ht hi hz0 hz1 hz2 hz hs0 v xs.length (xs.flatMap f) HO ad m c (ys.flatMap f) (by rw [flat_len hn, hm.out]) hsrc (flat_one h1 ys) (by simp only [maxLen]; omega) hl hbase
  unfold Oper.wp execOp
  simp only [ho, resolve, invoke, builtin, Sem.run_bind, Sem.run_pure, Result.andThen_ok, List.map_toArray, List.map_cons, List.map_nil, hs, hx, hr]
  refine h v' w' ?_ (Fr.of_own h3) h5
  unfold Row
  rw [List.length_append, List.flatMap_append, hm.out]
  exact h2
end Go.Proofs.Ytlagakcpjmjdfaa
