import Derived.Test.YtlagakcpjmjdfaaK
import Derived.Test.YtlagakcpjmjdfaaWMore
import Derived.Test.YtlagakcpjmjdfaaWAt
import Derived.Laws.MakeOwn
/-! Rows of a call's own, told beside the words of K. -/
set_option linter.unusedSimpArgs false
set_option linter.unusedVariables false
namespace Go.Proofs.Ytlagakcpjmjdfaa
open Go.RowKit Go.Proofs.YtlagakcpjmjdfaaW.PrintWords
section
variable {α : Type} {d : Kd α} {e base : Nat} {ok S : Nat → Prop} {w w1 : World} {v : Value} {xs : List α}
theorem R_fr (h : d.R e w base ok v xs) (hf : Fr S w w1) (hS : ∀ k, S k → k < base) : d.R e w1 base ok v xs :=
  Kd.R_mono (ok := fun k => ok k ∧ base ≤ k) (Kd.R_step (Kd.R_mono (Kd.R_bound h) (fun _ hk => ⟨hk.1, hk.2.1⟩)) (fun k hk hlt => hf.block k hlt (fun hs => by have := hS k hs; omega))) (fun _ hk => hk.1)
end
/-- Element i of a row of numbers that is read. -/
theorem C_at {k : IntKind} {w : World} {A : Option Addr} {n : Nat} {xs : List Int} (h : (Kd.int k).C w A n xs) (i : Nat) (hi : i < xs.length) : ∃ ad, A = some ad ∧ w.cell? (ad.add i) = some (.int k xs[i]) := by
  have hn : xs.length = n := h.1
  obtain ⟨ad, e, hc⟩ := Kd.at_int h (i : Int) (by omega) (by omega)
  have hrd : rd xs i = xs[i] := by simp [rd, List.getD_eq_getElem?_getD, hi]
  rw [hrd, Int.toNat_natCast] at hc
  exact ⟨ad, e, hc⟩
/-- A piece of a row of numbers that is read. -/
theorem cut_int {P : Program} {k : IntKind} (t e : TypeId) (z : Value) (bytes : Nat) (ht : P.underlying t = some (.slice e)) (hinfo : (P.info? e).map (fun i => (i.zero, i.size, i.bytes)) = some (some z, 1, bytes)) (A : Option Addr) (c : Nat) (xs : List Int) (a b : Int) (h0 : 0 ≤ a) (h1 : a ≤ b) (hm : b ≤ xs.length) (hc : xs.length ≤ c) :
    ∃ A' : Option Addr, (∀ W : World, (Instr.slice t (.slice A xs.length c) (some (.int .i64 a)) (some (.int .i64 b)) none).run P W = .ok (.slice A' ((xs.take b.toNat).drop a.toNat).length (c - a.toNat)) W) ∧
      (∀ w : World, (Kd.int k).C w A xs.length xs → (Kd.int k).C w A' ((xs.take b.toNat).drop a.toNat).length ((xs.take b.toNat).drop a.toNat)) ∧ ((xs.take b.toNat).drop a.toNat).length ≤ c - a.toNat := by
  obtain ⟨i0, hi, _, hsz, _⟩ := info_parts hinfo
  obtain ⟨A', hcut, hA', hC'⟩ := print_mid_of (P := P) (Value.int k) 0 t e .i64 .i64 ht hi hsz A c xs a b h0 h1 hm hc
  exact ⟨A', hcut, fun w h => Kd.C_of_reads (h1 := fun _ => rfl) (hA' _ (Kd.reads_of_C h)), hC'⟩
end Go.Proofs.Ytlagakcpjmjdfaa
set_option linter.unusedSimpArgs false
set_option linter.unusedVariables false
namespace Go.Proofs.Ytlagakcpjmjdfaa
open Go.RowKit Go.Proofs.YtlagakcpjmjdfaaW.PrintWords
/-- A literal '[]T{..}' of whole numbers. -/
theorem lit_R (k : IntKind) (e : TypeId) {base : Nat} {w1 : World} {g : Nat} (hg : w1.heap.size = g) (l : List Int) (h : base ≤ g) (hm : l.length ≤ 9223372036854775807) :
    Kd.R (Kd.int k) e (w1.alloc (.cells (l.map (Value.int k)).toArray e)) base (fun _ => True) (.slice (some ⟨g, 0, none⟩) l.length l.length) l := by
  subst hg
  have h2 := World.ownsRow_lit (base := base) (e := e) (size := 1) w1 (l.map (Value.int k)).toArray l.length h (by simpa [maxLen] using hm) (by simp)
  exact Kd.R_of_own (by simpa [encs] using h2) (fun _ _ => trivial)
theorem lit_C (k : IntKind) (e : TypeId) (w1 : World) (l : List Int) (hm : l.length ≤ 9223372036854775807) :
    Kd.C (Kd.int k) (w1.alloc (.cells (l.map (Value.int k)).toArray e)) (some ⟨w1.heap.size, 0, none⟩) l.length l := (Kd.R_reads' (lit_R k e (base := 0) rfl l (Nat.zero_le _) hm)).2.2
/-- Blocks from n on. -/
def Ge (n : Nat) : Nat → Prop := fun k => n ≤ k
theorem Fr.ge {S : Nat → Prop} {n : Nat} {w w1 w2 : World} (h : Fr S w w1) (k : Fr (Ge n) w1 w2) (hn : w.heap.size ≤ n) : Fr S w w2 := h.then_ k (fun j hj => .inr (Nat.le_trans hn hj))
theorem R_of_ge {α : Type} {d : Kd α} {e base n : Nat} {ok : Nat → Prop} {w w1 : World} {v : Value} {xs : List α} (h : d.R e w base ok v xs) (hf : Fr (Ge n) w w1) (hlt : ∀ k, v.ownBlock = some k → k < n) (hflat : ∀ {W W' : World} {ok1 ok2 : Nat → Prop} {x : α} {cs : List Value}, d.M W base ok1 x cs → d.M W' base ok2 x cs) : d.R e w1 base ok v xs := by
  obtain ⟨h0, inner, hown, hr⟩ := h
  exact ⟨h0, inner, own_move hown (fun k hk => hf.block k (own_lt hown k hk) (fun hg => by have h1 := hlt k hk; have h2 : n ≤ k := hg; omega)), hr.imp_ (fun _ _ hm => hflat hm)⟩
section
variable {P : Program} {ops : Array Oper} {rest : List Oper} {o : Oper} {a : Act} {Q : Exit → Act → World → Prop}
/-- append(v, ys...) of whole numbers, v the call's own. -/
theorem app_row {k : IntKind} {W : World} (base : Nat) {s x : Operand} (t e : TypeId) (bytes : Nat) (ht : P.underlying t = some (.slice e)) (hinfo : (P.info? e).map (fun i => (i.zero, i.size, i.bytes)) = some (some (.int k 0), 1, bytes)) (hb0 : 0 < bytes)
    (hgd : o.guard = none) (ho : o.op = .call { callee := .builtin .append, args := #[s, x], argTypes := #[t, t] })
    (v : Value) (xs ys : List Int) (A : Option Addr) (m c : Nat) (hs : a.eval s = v) (hx : a.eval x = .slice A m c)
    (HO : Kd.R (Kd.int k) e W base (fun _ => True) v xs) (HR : Kd.C (Kd.int k) W A m ys) (hbase : base ≤ W.heap.size) (hl : (xs.length + m) * bytes ≤ 140737488355328)
    (h : ∀ v1 w1, Kd.R (Kd.int k) e w1 base (fun _ => True) v1 (xs ++ ys) → Fr (Ge base) W w1 → wpList P ops Q rest (a.put o.dst v1) w1) :
    wpList P ops Q (o :: rest) a W :=
  Kd.R_append_row (Value.int k) 0 base hgd s x t e (.int k 0) bytes ho ht hinfo rfl hb0 v xs ys A m c (fun _ => True) hs hx (fun _ _ => trivial) HO HR (Below.refl _ _) hbase hl
    (fun v1 w1 h1 _ h3 _ => h v1 w1 h1 ((Fr.of_grown h3).mono (fun j hj => Kd.R_base HO j hj)))
end
/-- The first elements of a row of numbers that is read, at their addresses as the walk spells them. -/
theorem C_zero {k : IntKind} {w : World} {ad : Addr} {n : Nat} {x : Int} {xs : List Int} (h : (Kd.int k).C w (some ad) n (x :: xs)) : w.cell? ad = some (.int k x) := by
  obtain ⟨ad', e, hc⟩ := C_at h 0 (by simp)
  obtain rfl := Option.some.inj e
  simpa [Addr.add] using hc
theorem C_succ {k : IntKind} {w : World} {ad : Addr} {n : Nat} {xs : List Int} (h : (Kd.int k).C w (some ad) n xs) (i : Nat) (hi : i + 1 < xs.length) : w.cell? ⟨ad.block, ad.off + (i + 1), none⟩ = some (.int k xs[i + 1]) := by
  obtain ⟨ad', e, hc⟩ := C_at h (i + 1) hi
  obtain rfl := Option.some.inj e
  simpa [Addr.add] using hc
end Go.Proofs.Ytlagakcpjmjdfaa
set_option linter.unusedSimpArgs false
set_option linter.unusedVariables false
namespace Go.Proofs.Ytlagakcpjmjdfaa
open Go.RowKit Go.Proofs.YtlagakcpjmjdfaaW.PrintWords
/-! Rows of structs of n cells each, laid flat. -/
section
variable {α : Type} {f : α → List Value} {n : Nat}
theorem flat_len (hn : ∀ x, (f x).length = n) (l : List α) : (l.flatMap f).length = l.length * n := by
  induction l with
  | nil => simp
  | cons x l ih => simp [hn, ih, Nat.add_mul]; omega
theorem flat_get (hn : ∀ x, (f x).length = n) (l : List α) (i j : Nat) (hi : i < l.length) (hj : j < n) : (l.flatMap f)[i * n + j]? = (f l[i])[j]? := by
  induction l generalizing i with
  | nil => simp at hi
  | cons x l ih =>
    rw [List.flatMap_cons]
    cases i with
    | zero => rw [List.getElem?_append_left (by rw [hn]; omega)]; simp
    | succ i =>
      have e : (i + 1) * n + j = n + (i * n + j) := by rw [Nat.add_mul]; omega
      rw [List.getElem?_append_right (by rw [hn, e]; omega), hn, show (i + 1) * n + j - n = i * n + j from by omega]
      exact ih i (by simpa using hi)
theorem flat_set (hn : ∀ x, (f x).length = n) (l : List α) (i j : Nat) (hi : i < l.length) (hj : j < n) (v : Value) (x : α) (hx : f x = (f l[i]).set j v) : (l.flatMap f).set (i * n + j) v = (l.set i x).flatMap f := by
  induction l generalizing i with
  | nil => simp at hi
  | cons y l ih =>
    rw [List.flatMap_cons]
    cases i with
    | zero =>
      rw [List.set_append_left _ _ (by rw [hn]; omega)]
      simp only [List.set_cons_zero, List.flatMap_cons, Nat.zero_mul, Nat.zero_add]
      rw [hx]
      rfl
    | succ i =>
      have e : (i + 1) * n + j = n + (i * n + j) := by rw [Nat.add_mul]; omega
      rw [List.set_append_right _ _ (by rw [hn, e]; omega), hn, show (i + 1) * n + j - n = i * n + j from by omega]
      rw [ih i (by simpa using hi) hx]
      simp
end
end Go.Proofs.Ytlagakcpjmjdfaa
set_option linter.unusedSimpArgs false
set_option linter.unusedVariables false
namespace Go.Proofs.Ytlagakcpjmjdfaa
open Go.RowKit Go.Proofs.YtlagakcpjmjdfaaW.PrintWords
theorem make_flat {α : Type} {f : α → List Value} {sz : Nat} (hn : ∀ x, (f x).length = sz) (hs : 0 < sz) (x : α) (m : Nat) : madeCells (f x).toArray (m * sz) = ((List.replicate m x).flatMap f).toArray := by
  apply Array.ext'
  apply List.ext_getElem?
  intro j
  by_cases hj : j < m * sz
  · have h1 : j / sz < (List.replicate m x).length := by rw [List.length_replicate]; exact Nat.div_lt_of_lt_mul (by rw [Nat.mul_comm]; exact hj)
    have h2 := flat_get hn (List.replicate m x) (j / sz) (j % sz) h1 (Nat.mod_lt _ hs)
    rw [Nat.div_add_mod', List.getElem_replicate] at h2
    simp only [h2]
    have h3 : j % sz < (f x).length := by rw [hn]; exact Nat.mod_lt _ hs
    simp [madeCells, hj, hn, h3]
    rw [List.getElem?_eq_getElem h3]
    rfl
  · rw [List.getElem?_eq_none (by simp [madeCells]; omega), List.getElem?_eq_none (by simp only [flat_len hn, List.length_replicate]; omega)]
/-- make([]T, n), T of sz cells. -/
theorem run_make_flat {P : Program} {α : Type} {f : α → List Value} {sz : Nat} (hn : ∀ x, (f x).length = sz) (hs : 0 < sz) (t e : TypeId) (x : α) (z : Value) (bytes : Nat) (ht : P.underlying t = some (.slice e)) (hinfo : (P.info? e).map (fun i => (i.zero, i.size, i.bytes)) = some (some z, sz, bytes)) (hz : z.cells = (f x).toArray) (m : Nat) (hb : bytes * m ≤ 281474976710656) (hm : m ≤ 9223372036854775807) (w : World) :
    (Instr.makeSlice t (.int .i64 m) (.int .i64 m)).run P w = .ok (.slice (some ⟨w.heap.size, 0, none⟩) m m) (w.alloc (.cells ((List.replicate m x).flatMap f).toArray e)) := by
  obtain ⟨i0, hi, hzz⟩ := Option.map_eq_some_iff.1 hinfo
  simp only [Prod.mk.injEq] at hzz
  obtain ⟨hz0, hz1, hz2⟩ := hzz
  have hr := run_make (P := P) w t e i0 z ht hi hz0 .i64 .i64 (m : Int) (m : Int) (by omega) (Int.le_refl _)
    (by
      have h3 : ((i0.bytes * m : Nat) : Int) ≤ 281474976710656 := by rw [hz2]; omega
      rwa [Int.natCast_mul] at h3) (by omega)
  simp only [Int.toNat_natCast] at hr
  rw [hz1, hz, make_flat hn hs] at hr
  exact hr
end Go.Proofs.Ytlagakcpjmjdfaa
set_option linter.unusedSimpArgs false
set_option linter.unusedVariables false
namespace Go.Proofs.Ytlagakcpjmjdfaa
open Go.RowKit Go.Proofs.YtlagakcpjmjdfaaW.PrintWords
/-! Rows of one's own, told flat: element x is the cells f x, sz of them. -/
def Row {α : Type} (f : α → List Value) (sz : Nat) (e : TypeId) (w : World) (base : Nat) (v : Value) (xs : List α) : Prop := w.ownsRow base e sz v xs.length (xs.flatMap f)
def OwnB (v : Value) : Nat → Prop := fun k => v.ownBlock = some k
section
variable {α : Type} {f : α → List Value} {sz : Nat} {e : TypeId} {w w1 : World} {base : Nat} {v : Value} {xs : List α}
theorem Row.nil (f : α → List Value) (sz : Nat) (e : TypeId) (w : World) (base : Nat) : Row f sz e w base (.slice none 0 0) [] := World.ownsRow_nil w base e sz
theorem Row.shape (h : Row f sz e w base v xs) : ∃ A c, v = .slice A xs.length c ∧ xs.length ≤ c := by
  rcases h.2 with ⟨h1, h2⟩ | ⟨g, c, cur, h1, h2, h3, h4, h5⟩
  · exact ⟨none, 0, by rw [h1, h2], by omega⟩
  · exact ⟨_, c, h1, h4⟩
theorem Row.ptr (h : Row f sz e w base v xs) (hn : 0 < xs.length) : ∃ g c, v = .slice (some ⟨g, 0, none⟩) xs.length c ∧ base ≤ g ∧ xs.length ≤ c := by
  rcases h.2 with ⟨h1, h2⟩ | ⟨g, c, cur, h1, h2, h3, h4, h5⟩
  · omega
  · exact ⟨g, c, h1, h2, h4⟩
theorem Row.cell {g c : Nat} (h : Row f sz e w base (.slice (some ⟨g, 0, none⟩) xs.length c) xs) (hn : ∀ x, (f x).length = sz) (k : Nat) (hk : k < xs.length) (j : Nat) (hj : j < sz) {u : Value} (hu : (f xs[k])[j]? = some u) : w.cell? ⟨g, k * sz + j, none⟩ = some u := by
  have hlt : k * sz + j < xs.length * sz := by
    have : (k + 1) * sz ≤ xs.length * sz := Nat.mul_le_mul_right _ hk
    rw [Nat.add_mul] at this
    omega
  rw [World.ownsRow.cellAt h (k * sz + j) hlt, flat_get hn xs k j hk hj]
  exact hu
theorem Row.frozen {g c : Nat} (h : Row f sz e w base (.slice (some ⟨g, 0, none⟩) xs.length c) xs) (j : Nat) : w.frozen? ⟨g, j, none⟩ = false := World.ownsRow.frozenAt h j
theorem Row.lt (h : Row f sz e w base v xs) (k : Nat) (hk : OwnB v k) : base ≤ k ∧ k < w.heap.size := World.ownsRow.lt h k hk
theorem Row.fr {S : Nat → Prop} (h : Row f sz e w base v xs) (hf : Fr S w w1) (hS : ∀ k, OwnB v k → ¬ S k) : Row f sz e w1 base v xs := own_move h (fun k hk => hf.block k (h.lt k hk).2 (hS k hk))
theorem Row.fr_lt {S : Nat → Prop} (h : Row f sz e w base v xs) (hf : Fr S w w1) (hS : ∀ k, S k → k < base) : Row f sz e w1 base v xs := h.fr hf (fun k hk hs => by have := hS k hs; have := (h.lt k hk).1; omega)
theorem Row.apart {β : Type} {f' : β → List Value} {sz' : Nat} {e' : TypeId} {base' : Nat} {v' : Value} {ys : List β} (h : Row f sz e w base v xs) (h' : Row f' sz' e' w base' v' ys) (he : e ≠ e') : ∀ k, OwnB v k → ¬ OwnB v' k := by
  intro k hk hk'
  obtain ⟨c1, h1⟩ := own_typed h k hk
  obtain ⟨c2, h2⟩ := own_typed h' k hk'
  rw [h1] at h2
  injection h2 with h2
  injection h2 with h3 h4 h5
  exact he h4
theorem Row.not_blk {T : TypeId} {b : Nat} {l : List Value} (h : Row f sz e w base v xs) (hb : Blk w b T l) (he : e ≠ T) : ¬ OwnB v b := by
  intro hk
  obtain ⟨c1, h1⟩ := own_typed h b hk
  rw [hb] at h1
  injection h1 with h2
  injection h2 with h3 h4 h5
  exact he h4.symm
theorem Row.blk (h : Row f sz e w base v xs) {b : Nat} (hb : b < base) : ¬ OwnB v b := fun hk => by have := (h.lt b hk).1; omega
theorem Fr.of_own {v : Value} (hg : w.grownBy w1 v.ownBlock) : Fr (OwnB v) w w1 := (Fr.of_grown hg).mono (fun k hk => hk)
theorem Fr.own_lt {S : Nat → Prop} {w2 : World} (h : Fr S w w1) (k : Fr (OwnB v) w1 w2) (hr : Row f sz e w1 base v xs) (hb : w.heap.size ≤ base) : Fr S w w2 := h.then_ k (fun j hj => .inr (by have := (hr.lt j hj).1; omega))
/-- append(v, x) -/
theorem row_app {P : Program} {ops : Array Oper} {rest : List Oper} {o : Oper} {a : Act} {Q : Exit → Act → World → Prop} {W : World} (hn : ∀ x, (f x).length = sz) (h1 : ∀ x, ∀ u ∈ f x, u.oneCell' = true) (base : Nat) (hgd : o.guard = none) (s x : Operand) (t e : TypeId) (z : Value) (bytes : Nat)
    (ho : o.op = .call { callee := .builtin .append, args := #[s, x], argTypes := #[t, t] })
    (ht : P.underlying t = some (.slice e)) (hinfo : (P.info? e).map (fun i => (i.zero, i.size, i.bytes)) = some (some z, sz, bytes)) (hz : z.cells.size = sz) (hs0 : 0 < sz) (hb0 : 0 < bytes)
    (v : Value) (xs : List α) (p : α) (hs : a.eval s = v) (hx : a.eval x = .slice (some ⟨W.heap.size, 0, none⟩) 1 1)
    (HO : Row f sz e W base v xs) (hbase : base ≤ W.heap.size) (hl : (xs.length + 1) * bytes ≤ 140737488355328)
    (h : ∀ v1 w1, Row f sz e w1 base v1 (xs ++ [p]) → Fr (OwnB v) W w1 → (v1.ownBlock = v.ownBlock ∨ ∃ b, v1.ownBlock = some b ∧ W.heap.size ≤ b) → wpList P ops Q rest (a.put o.dst v1) w1) :
    wpList P ops Q (o :: rest) a (W.alloc (.cells (f p).toArray e)) :=
  print_append_cells base hgd s x t e z sz bytes ho ht hinfo hz hs0 hb0 v xs.length (xs.flatMap f) (f p) hs hx (hn p) (h1 p) HO (Below.refl _ _) hbase hl
    (fun v1 w1 hr _ hg hat => h v1 w1 (by unfold Row; rw [List.length_append, List.flatMap_append]; simpa using hr) (Fr.of_own hg) hat)
end
end Go.Proofs.Ytlagakcpjmjdfaa
