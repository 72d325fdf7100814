import Derived.Test.YtlpjehmanodhpaaK2
set_option linter.unusedSimpArgs false
set_option linter.unusedVariables false
namespace Go.Proofs.Ytlpjehmanodhpaa
open Go.RowKit Go.Proofs.YtlpjehmanodhpaaW.PrintWords
/-- A literal '[]T{..}' of whole numbers. -/
theorem lit_R (k : IntKind) (e : TypeId) {base : Nat} {w1 : World} {g : Nat} (hg : w1.heap.size = g) (l : List Int) (h : base ≤ g) (hm : l.length ≤ 9223372036854775807) :
    Kd.R (Kd.int k) e (w1.alloc (.cells (l.map (Value.int k)).toArray e)) base (fun _ => True) (.slice (some ⟨g, 0, none⟩) l.length l.length) l := by
  subst hg
  have h2 := World.ownsRow_lit (base := base) (e := e) (size := 1) w1 (l.map (Value.int k)).toArray l.length h (by simpa [maxLen] using hm) (by simp)
  exact Kd.R_of_own (by simpa [encs] using h2) (fun _ _ => trivial)
theorem lit_C (k : IntKind) (e : TypeId) (w1 : World) (l : List Int) (hm : l.length ≤ 9223372036854775807) :
    Kd.C (Kd.int k) (w1.alloc (.cells (l.map (Value.int k)).toArray e)) (some ⟨w1.heap.size, 0, none⟩) l.length l := (Kd.R_reads' (lit_R k e (base := 0) rfl l (Nat.zero_le _) hm)).2.2
/-- Blocks from n on. -/
def Ge (n : Nat) : Nat → Prop := fun k => n ≤ k
theorem Fr.ge {S : Nat → Prop} {n : Nat} {w w1 w2 : World} (h : Fr S w w1) (k : Fr (Ge n) w1 w2) (hn : w.heap.size ≤ n) : Fr S w w2 := h.then_ k (fun j hj => .inr (Nat.le_trans hn hj))
theorem R_of_ge {α : Type} {d : Kd α} {e base n : Nat} {ok : Nat → Prop} {w w1 : World} {v : Value} {xs : List α} (h : d.R e w base ok v xs) (hf : Fr (Ge n) w w1) (hlt : ∀ k, v.ownBlock = some k → k < n) (hflat : ∀ {W W' : World} {ok1 ok2 : Nat → Prop} {x : α} {cs : List Value}, d.M W base ok1 x cs → d.M W' base ok2 x cs) : d.R e w1 base ok v xs := by
  obtain ⟨h0, inner, hown, hr⟩ := h
  exact ⟨h0, inner, own_move hown (fun k hk => hf.block k (own_lt hown k hk) (fun hg => by have h1 := hlt k hk; have h2 : n ≤ k := hg; omega)), hr.imp_ (fun _ _ hm => hflat hm)⟩
section
variable {P : Program} {ops : Array Oper} {rest : List Oper} {o : Oper} {a : Act} {Q : Exit → Act → World → Prop}
/-- append(v, ys...) of whole numbers, v the call's own. -/
theorem app_row {k : IntKind} {W : World} (base : Nat) {s x : Operand} (t e : TypeId) (bytes : Nat) (ht : P.underlying t = some (.slice e)) (hinfo : (P.info? e).map (fun i => (i.zero, i.size, i.bytes)) = some (some (.int k 0), 1, bytes)) (hb0 : 0 < bytes)
    (hgd : o.guard = none) (ho : o.op = .call { callee := .builtin .append, args := #[s, x], argTypes := #[t, t] })
    (v : Value) (xs ys : List Int) (A : Option Addr) (m c : Nat) (hs : a.eval s = v) (hx : a.eval x = .slice A m c)
    (HO : Kd.R (Kd.int k) e W base (fun _ => True) v xs) (HR : Kd.C (Kd.int k) W A m ys) (hbase : base ≤ W.heap.size) (hl : (xs.length + m) * bytes ≤ 140737488355328)
    (h : ∀ v1 w1, Kd.R (Kd.int k) e w1 base (fun _ => True) v1 (xs ++ ys) → Fr (Ge base) W w1 → wpList P ops Q rest (a.put o.dst v1) w1) :
    wpList P ops Q (o :: rest) a W :=
  Kd.R_append_row (Value.int k) 0 base hgd s x t e (.int k 0) bytes ho ht hinfo rfl hb0 v xs ys A m c (fun _ => True) hs hx (fun _ _ => trivial) HO HR (Below.refl _ _) hbase hl
    (fun v1 w1 h1 _ h3 _ => h v1 w1 h1 ((Fr.of_grown h3).mono (fun j hj => Kd.R_base HO j hj)))
end
/-- The first elements of a row of numbers that is read, at their addresses as the walk spells them. -/
theorem C_zero {k : IntKind} {w : World} {ad : Addr} {n : Nat} {x : Int} {xs : List Int} (h : (Kd.int k).C w (some ad) n (x :: xs)) : w.cell? ad = some (.int k x) := by
  obtain ⟨ad', e, hc⟩ := C_at h 0 (by simp)
  obtain rfl := Option.some.inj e
  simpa [Addr.add] using hc
theorem C_succ {k : IntKind} {w : World} {ad : Addr} {n : Nat} {xs : List Int} (h : (Kd.int k).C w (some ad) n xs) (i : Nat) (hi : i + 1 < xs.length) : w.cell? ⟨ad.block, ad.off + (i + 1), none⟩ = some (.int k xs[i + 1]) := by
  obtain ⟨ad', e, hc⟩ := C_at h (i + 1) hi
  obtain rfl := Option.some.inj e
  simpa [Addr.add] using hc
end Go.Proofs.Ytlpjehmanodhpaa
