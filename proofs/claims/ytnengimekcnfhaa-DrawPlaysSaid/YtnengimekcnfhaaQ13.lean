import Derived.Test.YtnengimekcnfhaaQ12
set_option linter.unusedSimpArgs false
set_option linter.unusedVariables false
namespace Go.Proofs.Ytnengimekcnfhaa
open Go.RowKit
/-! The plain law: what the program draws is what the document says, row by row. -/
theorem fm_congr {α β : Type} {f g : α → List β} {l : List α} (h : ∀ a ∈ l, f a = g a) : l.flatMap f = l.flatMap g := by
  induction l with
  | nil => rfl
  | cons a l ih =>
    rw [List.flatMap_cons, List.flatMap_cons, h a (List.mem_cons_self ..), ih (fun b hb => h b (List.mem_cons_of_mem _ hb))]
theorem range_clip {β : Type} (f : Nat → List β) (n a m : Nat) (h : a + m ≤ n) (h0 : ∀ i, i < n → (i < a ∨ a + m ≤ i) → f i = []) : (List.range n).flatMap f = (List.range m).flatMap fun i => f (a + i) := by
  obtain ⟨r, rfl⟩ : ∃ r, n = a + m + r := ⟨n - (a + m), by omega⟩
  rw [List.range_add, List.flatMap_append, List.range_add, List.flatMap_append]
  have e1 : (List.range a).flatMap f = [] := List.flatMap_eq_nil_iff.2 (fun i hi => h0 i (by have := List.mem_range.1 hi; omega) (.inl (List.mem_range.1 hi)))
  have e2 : ((List.range r).map (a + m + ·)).flatMap f = [] := List.flatMap_eq_nil_iff.2 (fun i hi => by
    obtain ⟨j, hj, rfl⟩ := List.mem_map.1 hi
    have := List.mem_range.1 hj
    exact h0 _ (by omega) (.inr (by omega)))
  rw [e1, e2, List.nil_append, List.append_nil, List.flatMap_map]
theorem plL_map {β : Type} (X Y : Int) (W H : Nat) (ψ : Int → Int → List β) : (plL X Y W H).flatMap (fun p => ψ p.1.1 p.1.2) = (List.range (H * W)).flatMap fun k => ψ (X + (k % W : Nat)) (Y + (k / W : Nat)) := by
  unfold plL
  rw [List.flatMap_map]
  have e : List.range (H * W) = (List.finRange (H * W)).map (fun k => k.1) := by
    apply List.ext_getElem
    · simp
    · intro i h1 h2
      simp
  rw [e, List.flatMap_map]
  rfl
theorem plL_flat {β : Type} (X Y : Int) (W H : Nat) (ψ : Int → Int → List β) : (plL X Y W H).flatMap (fun p => ψ p.1.1 p.1.2) = (List.range H).flatMap fun (y : Nat) => (List.range W).flatMap fun (x : Nat) => ψ (X + x) (Y + y) := by
  rw [plL_map]
  induction H with
  | zero => simp
  | succ H ih =>
    rw [Nat.add_mul, Nat.one_mul, List.range_add, List.flatMap_append, ih, List.range_succ, List.flatMap_append]
    congr 1
    rw [List.flatMap_map]
    simp only [List.flatMap_cons, List.flatMap_nil, List.append_nil]
    have hf : ∀ x ∈ List.range W, ψ (X + ((H * W + x) % W : Nat)) (Y + ((H * W + x) / W : Nat)) = ψ (X + x) (Y + H) := fun x hx => by
      have hxl := List.mem_range.1 hx
      have e1 : (H * W + x) % W = x := by rw [Nat.mul_comm, Nat.mul_add_mod, Nat.mod_eq_of_lt hxl]
      have e2 : (H * W + x) / W = H := by rw [Nat.mul_comm, Nat.mul_add_div (by omega), Nat.div_eq_of_lt hxl, Nat.add_zero]
      rw [e1, e2]
    exact fm_congr hf
/-- Nothing outside of a rectangle: the whole window, or that rectangle alone. -/
theorem clip2 {β : Type} (ψ : Int → Int → List β) (tw th ix iy iw ih : Nat) (hx : ix + iw ≤ tw) (hy : iy + ih ≤ th) (h0 : ∀ u v : Nat, u < tw → v < th → ¬ (ix ≤ u ∧ u < ix + iw ∧ iy ≤ v ∧ v < iy + ih) → ψ u v = []) :
    ((List.range th).flatMap fun (v : Nat) => (List.range tw).flatMap fun (u : Nat) => ψ u v) = (List.range ih).flatMap fun (y : Nat) => (List.range iw).flatMap fun (x : Nat) => ψ ((ix + x : Nat) : Int) ((iy + y : Nat) : Int) := by
  rw [range_clip (fun (v : Nat) => (List.range tw).flatMap fun (u : Nat) => ψ u v) th iy ih hy (fun v hv hn => List.flatMap_eq_nil_iff.2 (fun u hu => h0 u v (List.mem_range.1 hu) hv (by omega)))]
  refine fm_congr (fun y hyr => ?_)
  have hyl := List.mem_range.1 hyr
  exact range_clip (fun (u : Nat) => ψ u ((iy + y : Nat) : Int)) tw ix iw hx (fun u hu hn => h0 u (iy + y) hu (by omega) (by omega))
/-- A rectangle cut to a window: what it has. -/
theorem inW_has (t : Wn) (r : Rc) (ht : t.r.Right) (hr : r.Right) (u v : Int) : (inW t r).has u v ↔ (r.has u v ∧ 0 ≤ u ∧ u < t.w ∧ 0 ≤ v ∧ v < t.h) := by
  have hs : Rc.Right ⟨0, 0, t.w, t.h⟩ := ⟨⟨by show (-1073741824 : Int) ≤ 0; decide, by show (0 : Int) ≤ 1073741824; decide⟩, ⟨by show (-1073741824 : Int) ≤ 0; decide, by show (0 : Int) ≤ 1073741824; decide⟩, ht.w, ht.h, ht.w0, ht.h0⟩
  unfold inW Rc.both
  rw [if_pos ⟨hr, hs⟩]
  unfold ofR
  split
  · next h =>
    constructor
    · rintro ⟨⟨h1, _⟩, _⟩
      exact absurd h1 (by decide)
    · rintro ⟨⟨⟨a1, a2, a3⟩, ⟨a4, a5, a6⟩⟩, b1, b2, b3, b4⟩
      simp only at h
      omega
  · next h =>
    unfold Rc.has Within
    simp only at h ⊢
    constructor
    · rintro ⟨⟨a1, a2, a3⟩, ⟨a4, a5, a6⟩⟩
      refine ⟨⟨⟨?_, ?_, ?_⟩, ?_, ?_, ?_⟩, ?_, ?_, ?_, ?_⟩ <;> omega
    · rintro ⟨⟨⟨a1, a2, a3⟩, ⟨a4, a5, a6⟩⟩, b1, b2, b3, b4⟩
      refine ⟨⟨?_, ?_, ?_⟩, ?_, ?_, ?_⟩ <;> omega
/-- A walk over a rectangle that is cut is a walk over the window. -/
theorem walk_cut {β : Type} (t : Wn) (r : Rc) (ht : t.r.Right) (ψ : Int → Int → List β) (h0 : ∀ u v, ¬ (r.Right ∧ r.has u v) → ψ u v = []) :
    (plL (t.x + (inW t r).x) (t.y + (inW t r).y) (inW t r).w.toNat (inW t r).h.toNat).flatMap (fun p => ψ (p.1.1 - t.x) (p.1.2 - t.y)) = (List.range t.h.toNat).flatMap fun (v : Nat) => (List.range t.w.toNat).flatMap fun (u : Nat) => ψ u v := by
  have hw0 : 0 ≤ t.w := ht.w0
  have hh0 : 0 ≤ t.h := ht.h0
  have hp := plL_flat (t.x + (inW t r).x) (t.y + (inW t r).y) (inW t r).w.toNat (inW t r).h.toNat (fun a b => ψ (a - t.x) (b - t.y))
  rw [hp]
  clear hp
  obtain ⟨W, H, e1, e2, _, _, hc⟩ := inW_ok t r ht
  rcases hc with ⟨hz, hW, hH⟩ | ⟨hr, q1, q2, q3, q4, _⟩
  · rw [e1, e2, hW, hH]
    simp only [Int.toNat_natCast, List.range_zero, List.flatMap_nil]
    symm
    refine List.flatMap_eq_nil_iff.2 (fun v hv => List.flatMap_eq_nil_iff.2 (fun u hu => h0 u v ?_))
    rintro ⟨hr, hru⟩
    have := (inW_has t r ht hr u v).2 ⟨hru, by omega, by have := List.mem_range.1 hu; omega, by omega, by have := List.mem_range.1 hv; omega⟩
    rw [hz] at this
    exact absurd this.1.1 (by decide)
  · rw [e1, e2, Int.toNat_natCast, Int.toNat_natCast]
    obtain ⟨ix, hix⟩ : ∃ n : Nat, (inW t r).x = n := ⟨(inW t r).x.toNat, by omega⟩
    obtain ⟨iy, hiy⟩ : ∃ n : Nat, (inW t r).y = n := ⟨(inW t r).y.toNat, by omega⟩
    have hc2 := clip2 ψ t.w.toNat t.h.toNat ix iy W H (by omega) (by omega) (fun u v hu hv hn => h0 u v (fun h => hn (by
      obtain ⟨⟨a1, a2, a3⟩, ⟨a4, a5, a6⟩⟩ := (inW_has t r ht hr u v).2 ⟨h.2, by omega, by omega, by omega, by omega⟩
      omega)))
    rw [hc2, hix, hiy]
    refine fm_congr (fun y _ => fm_congr (fun x _ => ?_))
    congr 1 <;> omega
end Go.Proofs.Ytnengimekcnfhaa
