import Derived.Test.YtnengimekcnfhaaQ13
set_option linter.unusedSimpArgs false
set_option linter.unusedVariables false
namespace Go.Proofs.Ytnengimekcnfhaa
open Go.RowKit
theorem putsG_append (Wd : Nat) (cs : List Cl) (a b : List Wr) : putsG Wd cs (a ++ b) = putsG Wd (putsG Wd cs a) b := by unfold putsG; rw [List.foldl_append]
theorem foldl_puts {α : Type} (Wd : Nat) (φ : α → List Wr) (step : List Cl × List Wr × Int → α → List Cl × List Wr × Int) (hs : ∀ s p, step s p = (putsG Wd s.1 (φ p), s.2.1 ++ φ p, s.2.2 + ((φ p).length : Int))) :
    ∀ (ps : List α) (cs : List Cl) (ns : List Wr) (n : Int), ps.foldl step (cs, ns, n) = (putsG Wd cs (ps.flatMap φ), ns ++ ps.flatMap φ, n + ((ps.flatMap φ).length : Int))
  | [], cs, ns, n => by simp [putsG]
  | p :: ps, cs, ns, n => by
    rw [List.foldl_cons, hs, foldl_puts Wd φ step hs ps, List.flatMap_cons, putsG_append, List.append_assoc, List.length_append]
    congr 2
    show n + ((φ p).length : Int) + ((ps.flatMap φ).length : Int) = n + (((φ p).length + (ps.flatMap φ).length : Nat) : Int)
    omega
theorem foldC_puts {X Y : Int} {W H : Nat} (Wd : Nat) (xs : List Wn) (id ox : Int) (l cs : List Cl) (ns : List Wr) (ps : List (Pl X Y W H)) (L : List Wr)
    (hL : L = ps.flatMap (fun p => if ownerOf xs p.1.1 p.1.2 = id then [⟨p.1.1, p.1.2, l.getD (p.1.1 - ox).toNat Cl.zero⟩] else [])) : foldC Wd xs id ox l cs ns ps = (putsG Wd cs L, ns ++ L, (L.length : Int)) := by
  subst hL
  unfold foldC
  rw [foldl_puts Wd (fun p : Pl X Y W H => if ownerOf xs p.1.1 p.1.2 = id then [(⟨p.1.1, p.1.2, l.getD (p.1.1 - ox).toNat Cl.zero⟩ : Wr)] else []) _ (fun s p => by unfold stepC; split <;> simp [putsG])]
  simp
theorem foldF_puts {X Y : Int} {W H : Nat} (Wd : Nat) (xs : List Wn) (id : Int) (c : Cl) (cs : List Cl) (ns : List Wr) (ps : List (Pl X Y W H)) (L : List Wr)
    (hL : L = ps.flatMap (fun p => if ownerOf xs p.1.1 p.1.2 = id then [⟨p.1.1, p.1.2, c⟩] else [])) : foldF Wd xs id c cs ns ps = (putsG Wd cs L, ns ++ L, (L.length : Int)) := by
  subst hL
  unfold foldF
  rw [foldl_puts Wd (fun p : Pl X Y W H => if ownerOf xs p.1.1 p.1.2 = id then [(⟨p.1.1, p.1.2, c⟩ : Wr)] else []) _ (fun s p => by unfold stepF; split <;> simp [putsG])]
  simp
/-- A place of a rectangle that is cut is in the rectangle. -/
theorem pl_has (t : Wn) (r : Rc) (ht : t.r.Right) (p : Pl (t.x + (inW t r).x) (t.y + (inW t r).y) (inW t r).w.toNat (inW t r).h.toNat) : r.Right ∧ r.has (p.1.1 - t.x) (p.1.2 - t.y) := by
  obtain ⟨W, H, e1, e2, _, _, hc⟩ := inW_ok t r ht
  obtain ⟨⟨a, b⟩, h1, h2, h3, h4⟩ := p
  simp only at h1 h2 h3 h4 ⊢
  rcases hc with ⟨hz, hW, hH⟩ | ⟨hr, _⟩
  · rw [hz] at h1 h2
    have e3 : Rc.zero.x = 0 := rfl
    have e4 : Rc.zero.w.toNat = 0 := rfl
    rw [e4] at h2
    omega
  · refine ⟨hr, ((inW_has t r ht hr _ _).1 ?_).1⟩
    rw [e1, Int.toNat_natCast] at h2
    rw [e2, Int.toNat_natCast] at h4
    exact ⟨⟨by omega, by omega, by omega⟩, by omega, by omega, by omega⟩
/-- Two ways to go along a row. -/
theorem shift1 {β : Type} (g : Int → List β) (x : Int) (n tw : Nat) : ((List.range tw).flatMap fun (u : Nat) => if x ≤ u ∧ (u : Int) < x + n then g u else []) = (List.range n).flatMap fun (i : Nat) => if 0 ≤ x + i ∧ x + i < tw then g (x + i) else [] := by
  by_cases h : max x 0 < min (x + n) tw
  · obtain ⟨lo, hlo⟩ : ∃ k : Nat, max x 0 = k := ⟨(max x 0).toNat, by omega⟩
    obtain ⟨m, hm⟩ : ∃ k : Nat, min (x + n) tw - max x 0 = k := ⟨(min (x + n) tw - max x 0).toNat, by omega⟩
    obtain ⟨a, ha⟩ : ∃ k : Nat, max x 0 - x = k := ⟨(max x 0 - x).toNat, by omega⟩
    rw [range_clip _ tw lo m (by omega) (fun i hi hn => if_neg (by omega)), range_clip _ n a m (by omega) (fun i hi hn => if_neg (by omega))]
    refine fm_congr (fun i hi => ?_)
    have hil := List.mem_range.1 hi
    rw [if_pos (by omega), if_pos (by omega)]
    congr 1
    omega
  · rw [List.flatMap_eq_nil_iff.2 (fun u hu => if_neg (by have := List.mem_range.1 hu; omega)), List.flatMap_eq_nil_iff.2 (fun u hu => if_neg (by have := List.mem_range.1 hu; omega))]
section
variable {xs : List Wn} {t : Wn} {id : Int}
theorem own_in (hid : t.id = id) (u v : Nat) (hu : (u : Int) < t.w) (hv : (v : Int) < t.h) : Own xs t u v ↔ ownerOf xs (t.x + u) (t.y + v) = id := by
  unfold Own
  rw [hid]
  constructor
  · exact fun h => h.2.2.2.2
  · exact fun h => ⟨by omega, hu, by omega, hv, h⟩
/-- Fill. -/
theorem fill_ref (ht : FitsIn 10 10 t.r) (hid : t.id = id) (r : Rc) (hr : r.Right) (c : Cl) (cs : List Cl) (ns : List Wr) :
    foldF 10 xs id c cs ns (plL (t.x + (inW t r).x) (t.y + (inW t r).y) (inW t r).w.toNat (inW t r).h.toNat) = (putsG 10 cs (refF xs t r c t.h.toNat), ns ++ refF xs t r c t.h.toNat, ((refF xs t r c t.h.toNat).length : Int)) := by
  obtain ⟨g1, g2, g3, _⟩ : t.r.Right ∧ 0 < t.w ∧ 0 < t.h ∧ _ := ht
  refine foldF_puts 10 xs id c cs ns _ _ ?_
  have h1 := walk_cut t r g1 (fun u v => if (r.Right ∧ r.has u v) ∧ ownerOf xs (t.x + u) (t.y + v) = id then [(⟨t.x + u, t.y + v, c⟩ : Wr)] else []) (fun u v h => if_neg (fun hh => h hh.1))
  have h2 : (plL (t.x + (inW t r).x) (t.y + (inW t r).y) (inW t r).w.toNat (inW t r).h.toNat).flatMap (fun p => if ownerOf xs p.1.1 p.1.2 = id then [(⟨p.1.1, p.1.2, c⟩ : Wr)] else []) = _ := Eq.trans (fm_congr (fun p _ => by
    have hp := pl_has t r g1 p
    have e1 : t.x + (p.1.1 - t.x) = p.1.1 := by omega
    have e2 : t.y + (p.1.2 - t.y) = p.1.2 := by omega
    show _ = if (r.Right ∧ r.has (p.1.1 - t.x) (p.1.2 - t.y)) ∧ ownerOf xs (t.x + (p.1.1 - t.x)) (t.y + (p.1.2 - t.y)) = id then [(⟨t.x + (p.1.1 - t.x), t.y + (p.1.2 - t.y), c⟩ : Wr)] else []
    rw [e1, e2]
    by_cases ho : ownerOf xs p.1.1 p.1.2 = id
    · rw [if_pos ho, if_pos ⟨hp, ho⟩]
    · rw [if_neg ho, if_neg (fun h => ho h.2)])) h1
  rw [h2]
  unfold refF refR
  refine fm_congr (fun v hv => fm_congr (fun u hu => ?_))
  have hvl := List.mem_range.1 hv
  have hul := List.mem_range.1 hu
  have ho := own_in (xs := xs) hid u v (by omega) (by omega)
  by_cases h : r.has u v ∧ Own xs t u v
  · rw [if_pos h, if_pos ⟨⟨hr, h.1⟩, ho.1 h.2⟩]
  · rw [if_neg h, if_neg (fun hh => h ⟨hh.1.2, ho.2 hh.2⟩)]
/-- Copy. -/
theorem copy_ref (ht : FitsIn 10 10 t.r) (hid : t.id = id) (r : Rc) (hr : r.Right) (x y : Int) (cs : List Cl) :
    copyL 10 10 xs id t r x y cs (plL (t.x + (inW t r).x) (t.y + (inW t r).y) (inW t r).w.toNat (inW t r).h.toNat) = refK xs t r x y cs t.h.toNat := by
  obtain ⟨g1, g2, g3, _⟩ : t.r.Right ∧ 0 < t.w ∧ 0 < t.h ∧ _ := ht
  have h1 := walk_cut t r g1 (fun u v => if (r.Right ∧ r.has u v) ∧ ownerOf xs (t.x + u) (t.y + v) = id ∧ Own xs t (u - r.x + x) (v - r.y + y) then [(⟨t.x + (u - r.x + x), t.y + (v - r.y + y), atG 10 10 cs (t.x + u) (t.y + v)⟩ : Wr)] else []) (fun u v h => if_neg (fun hh => h hh.1))
  unfold copyL
  refine Eq.trans (fm_congr (fun p _ => ?_)) (h1.trans ?_)
  · have hp := pl_has t r g1 p
    have e1 : t.x + (p.1.1 - t.x) = p.1.1 := by omega
    have e2 : t.y + (p.1.2 - t.y) = p.1.2 := by omega
    have e3 : t.x + (p.1.1 - t.x - r.x + x) = p.1.1 - r.x + x := by omega
    have e4 : t.y + (p.1.2 - t.y - r.y + y) = p.1.2 - r.y + y := by omega
    show copyAt 10 10 xs id t r x y cs p.1 = if (r.Right ∧ r.has (p.1.1 - t.x) (p.1.2 - t.y)) ∧ ownerOf xs (t.x + (p.1.1 - t.x)) (t.y + (p.1.2 - t.y)) = id ∧ Own xs t (p.1.1 - t.x - r.x + x) (p.1.2 - t.y - r.y + y) then [(⟨t.x + (p.1.1 - t.x - r.x + x), t.y + (p.1.2 - t.y - r.y + y), atG 10 10 cs (t.x + (p.1.1 - t.x)) (t.y + (p.1.2 - t.y))⟩ : Wr)] else []
    rw [e1, e2, e3, e4]
    unfold copyAt
    have ho : Own xs t (p.1.1 - t.x - r.x + x) (p.1.2 - t.y - r.y + y) ↔ t.r.has (p.1.1 - r.x + x) (p.1.2 - r.y + y) ∧ ownerOf xs (p.1.1 - r.x + x) (p.1.2 - r.y + y) = id := by
      unfold Own
      rw [e3, e4, hid]
      show _ ↔ ((0 < t.w ∧ t.x ≤ p.1.1 - r.x + x ∧ p.1.1 - r.x + x - t.x < t.w) ∧ (0 < t.h ∧ t.y ≤ p.1.2 - r.y + y ∧ p.1.2 - r.y + y - t.y < t.h)) ∧ _
      constructor
      · rintro ⟨a1, a2, a3, a4, a5⟩
        exact ⟨⟨⟨g2, by omega, by omega⟩, g3, by omega, by omega⟩, a5⟩
      · rintro ⟨⟨⟨_, a1, a2⟩, _, a3, a4⟩, a5⟩
        exact ⟨by omega, by omega, by omega, by omega, a5⟩
    by_cases h : ownerOf xs p.1.1 p.1.2 = id ∧ t.r.has (p.1.1 - r.x + x) (p.1.2 - r.y + y) ∧ ownerOf xs (p.1.1 - r.x + x) (p.1.2 - r.y + y) = id
    · rw [if_pos h, if_pos ⟨hp, h.1, ho.2 h.2⟩]
    · rw [if_neg h, if_neg (fun hh => h ⟨hh.2.1, ho.1 hh.2.2⟩)]
  · unfold refK refKR
    refine fm_congr (fun v hv => fm_congr (fun u hu => ?_))
    have hvl := List.mem_range.1 hv
    have hul := List.mem_range.1 hu
    have ho := own_in (xs := xs) hid u v (by omega) (by omega)
    by_cases h : r.has u v ∧ Own xs t u v ∧ Own xs t (u - r.x + x) (v - r.y + y)
    · rw [if_pos h, if_pos ⟨⟨hr, h.1⟩, ho.1 h.2.1, h.2.2⟩]
    · rw [if_neg h, if_neg (fun hh => h ⟨hh.1.2, ho.2 hh.2.1, hh.2.2⟩)]
/-- Cells. -/
theorem cells_ref (ht : FitsIn 10 10 t.r) (hid : t.id = id) (x y : Int) (hx : Near x) (hy : Near y) (l : List Cl) (hll : l.length ≤ 1000) (cs : List Cl) (ns : List Wr) :
    foldC 10 xs id (t.x + x) l cs ns (plL (t.x + (inW t ⟨x, y, min (l.length : Int) 1073741824, 1⟩).x) (t.y + (inW t ⟨x, y, min (l.length : Int) 1073741824, 1⟩).y) (inW t ⟨x, y, min (l.length : Int) 1073741824, 1⟩).w.toNat (inW t ⟨x, y, min (l.length : Int) 1073741824, 1⟩).h.toNat) = (putsG 10 cs (refC xs t x y l l.length), ns ++ refC xs t x y l l.length, ((refC xs t x y l l.length).length : Int)) := by
  obtain ⟨g1, g2, g3, _⟩ : t.r.Right ∧ 0 < t.w ∧ 0 < t.h ∧ _ := ht
  have hm : min (l.length : Int) 1073741824 = l.length := by omega
  rw [hm]
  refine foldC_puts 10 xs id (t.x + x) l cs ns _ _ ?_
  have hr : Rc.Right ⟨x, y, l.length, 1⟩ := ⟨hx, hy, ⟨by show (-1073741824 : Int) ≤ (l.length : Int); omega, by show (l.length : Int) ≤ 1073741824; omega⟩, ⟨by show (-1073741824 : Int) ≤ 1; decide, by show (1 : Int) ≤ 1073741824; decide⟩, by show (0 : Int) ≤ (l.length : Int); omega, by show (0 : Int) ≤ 1; decide⟩
  have h1 := walk_cut t ⟨x, y, l.length, 1⟩ g1 (fun u v => if (Rc.Right ⟨x, y, l.length, 1⟩ ∧ Rc.has ⟨x, y, l.length, 1⟩ u v) ∧ ownerOf xs (t.x + u) (t.y + v) = id then [(⟨t.x + u, t.y + v, l.getD (u - x).toNat Cl.zero⟩ : Wr)] else []) (fun u v h => if_neg (fun hh => h hh.1))
  have h2 : (plL (t.x + (inW t ⟨x, y, l.length, 1⟩).x) (t.y + (inW t ⟨x, y, l.length, 1⟩).y) (inW t ⟨x, y, l.length, 1⟩).w.toNat (inW t ⟨x, y, l.length, 1⟩).h.toNat).flatMap (fun p => if ownerOf xs p.1.1 p.1.2 = id then [(⟨p.1.1, p.1.2, l.getD (p.1.1 - (t.x + x)).toNat Cl.zero⟩ : Wr)] else []) = _ := Eq.trans (fm_congr (fun p _ => by
    have hp := pl_has t ⟨x, y, l.length, 1⟩ g1 p
    have e1 : t.x + (p.1.1 - t.x) = p.1.1 := by omega
    have e2 : t.y + (p.1.2 - t.y) = p.1.2 := by omega
    have e3 : p.1.1 - t.x - x = p.1.1 - (t.x + x) := by omega
    show _ = if (Rc.Right ⟨x, y, l.length, 1⟩ ∧ Rc.has ⟨x, y, l.length, 1⟩ (p.1.1 - t.x) (p.1.2 - t.y)) ∧ ownerOf xs (t.x + (p.1.1 - t.x)) (t.y + (p.1.2 - t.y)) = id then [(⟨t.x + (p.1.1 - t.x), t.y + (p.1.2 - t.y), l.getD (p.1.1 - t.x - x).toNat Cl.zero⟩ : Wr)] else []
    rw [e1, e2, e3]
    by_cases ho : ownerOf xs p.1.1 p.1.2 = id
    · rw [if_pos ho, if_pos ⟨hp, ho⟩]
    · rw [if_neg ho, if_neg (fun h => ho h.2)])) h1
  rw [h2]
  -- one row alone
  have hrow : ∀ v : Nat, ((List.range t.w.toNat).flatMap fun (u : Nat) => if (Rc.Right ⟨x, y, l.length, 1⟩ ∧ Rc.has ⟨x, y, l.length, 1⟩ u v) ∧ ownerOf xs (t.x + u) (t.y + v) = id then [(⟨t.x + u, t.y + v, l.getD ((u : Int) - x).toNat Cl.zero⟩ : Wr)] else []) = if (v : Int) = y then ((List.range l.length).flatMap fun (i : Nat) => if 0 ≤ x + i ∧ x + i < (t.w.toNat : Int) then (if ownerOf xs (t.x + (x + i)) (t.y + v) = id then [(⟨t.x + (x + i), t.y + v, l.getD ((x + i) - x).toNat Cl.zero⟩ : Wr)] else []) else []) else [] := by
    intro v
    split
    · next hv =>
      rw [← shift1 (fun z => if ownerOf xs (t.x + z) (t.y + v) = id then [(⟨t.x + z, t.y + v, l.getD (z - x).toNat Cl.zero⟩ : Wr)] else []) x l.length t.w.toNat]
      refine fm_congr (fun u hu => ?_)
      have hh : Rc.has ⟨x, y, l.length, 1⟩ u v ↔ (x ≤ u ∧ (u : Int) < x + l.length) := by
        show ((0 < (l.length : Int) ∧ x ≤ (u : Int) ∧ (u : Int) - x < (l.length : Int)) ∧ (0 < (1 : Int) ∧ y ≤ (v : Int) ∧ (v : Int) - y < 1)) ↔ _
        omega
      by_cases ha : x ≤ (u : Int) ∧ (u : Int) < x + l.length
      · rw [if_pos ha]
        by_cases hb : ownerOf xs (t.x + u) (t.y + v) = id
        · rw [if_pos hb, if_pos ⟨⟨hr, hh.2 ha⟩, hb⟩]
        · rw [if_neg hb, if_neg (fun h => hb h.2)]
      · rw [if_neg ha, if_neg (fun h => ha (hh.1 h.1.2))]
    · next hv =>
      refine List.flatMap_eq_nil_iff.2 (fun u hu => if_neg (fun h => hv ?_))
      have h3 : (0 < (1 : Int) ∧ y ≤ (v : Int) ∧ (v : Int) - y < 1) := h.1.2.2
      omega
  rw [show ((List.range t.h.toNat).flatMap fun (v : Nat) => (List.range t.w.toNat).flatMap fun (u : Nat) => if (Rc.Right ⟨x, y, l.length, 1⟩ ∧ Rc.has ⟨x, y, l.length, 1⟩ u v) ∧ ownerOf xs (t.x + u) (t.y + v) = id then [(⟨t.x + u, t.y + v, l.getD ((u : Int) - x).toNat Cl.zero⟩ : Wr)] else []) = _ from fm_congr (fun v _ => hrow v)]
  unfold refC
  by_cases hyv : 0 ≤ y ∧ y < t.h
  · obtain ⟨yn, hyn⟩ : ∃ n : Nat, y = n := ⟨y.toNat, by omega⟩
    rw [range_clip _ t.h.toNat yn 1 (by omega) (fun i hi hn => if_neg (by omega))]
    simp only [List.range_one, List.flatMap_cons, List.flatMap_nil, List.append_nil, Nat.add_zero]
    rw [if_pos hyn.symm]
    refine fm_congr (fun i hi => ?_)
    have e1 : t.x + (x + i) = t.x + x + i := by omega
    have e2 : ((x + i) - x).toNat = i := by omega
    rw [e1, e2, ← hyn]
    have ho : Own xs t (x + i) y ↔ (0 ≤ x + i ∧ x + i < (t.w.toNat : Int)) ∧ ownerOf xs (t.x + x + i) (t.y + y) = id := by
      unfold Own
      rw [hid, e1]
      constructor
      · rintro ⟨a1, a2, a3, a4, a5⟩
        exact ⟨⟨a1, by omega⟩, a5⟩
      · rintro ⟨⟨a1, a2⟩, a5⟩
        exact ⟨a1, by omega, hyv.1, hyv.2, a5⟩
    by_cases ha : 0 ≤ x + i ∧ x + i < (t.w.toNat : Int)
    · rw [if_pos ha]
      by_cases hb : ownerOf xs (t.x + x + i) (t.y + y) = id
      · rw [if_pos hb, if_pos (ho.2 ⟨ha, hb⟩)]
      · rw [if_neg hb, if_neg (fun h => hb (ho.1 h).2)]
    · rw [if_neg ha, if_neg (fun h => ha (ho.1 h).1)]
  · exact Eq.trans (List.flatMap_eq_nil_iff.2 (fun i hi => if_neg (fun h => hyv ⟨h.2.2.1, h.2.2.2.1⟩))) (List.flatMap_eq_nil_iff.2 (fun v hv => if_neg (by have := List.mem_range.1 hv; omega))).symm
end
/-- A drawing of the program's writes what the document says. -/
theorem doS_ref (xs : List Wn) (d : Dr) (cs : List Cl) (ns : List Wr) (hF : ∀ q ∈ xs, FitsIn 10 10 q.r) (hll : d.l.length ≤ 1000) : doS 10 10 xs d cs ns = (putsG 10 cs (refL xs d cs), ns ++ refL xs d cs, ((refL xs d cs).length : Int)) := by
  unfold doS cellsS fillS copyS refL
  cases hg : getW xs d.id with
  | none =>
    have h9 : (cs, ns, (0 : Int)) = (putsG 10 cs [], ns ++ [], (([] : List Wr).length : Int)) := by simp [putsG]
    split
    · exact h9
    · split
      · exact h9
      · exact h9
  | some t =>
    have h9 : (cs, ns, (0 : Int)) = (putsG 10 cs [], ns ++ [], (([] : List Wr).length : Int)) := by simp [putsG]
    have ht := hF t (getW_mem hg)
    have hid := getW_id hg
    simp only
    by_cases h0 : d.do_ = 0
    · rw [if_pos h0, if_pos h0]
      unfold refCL
      by_cases h : Near d.x ∧ Near d.y
      · rw [if_pos h, if_pos h]
        exact cells_ref ht hid d.x d.y h.1 h.2 d.l hll cs ns
      · rw [if_neg h, if_neg h]
        exact h9
    · rw [if_neg h0, if_neg h0]
      by_cases h1 : d.do_ = 1
      · rw [if_pos h1, if_pos h1]
        unfold refFL
        by_cases h : d.r.Right
        · rw [if_pos h, if_pos h]
          exact fill_ref ht hid d.r h _ cs ns
        · rw [if_neg h, if_neg h]
          exact h9
      · rw [if_neg h1, if_neg h1]
        unfold refKL
        by_cases h : d.r.Right ∧ Near d.x ∧ Near d.y
        · rw [if_pos h, if_pos h, copy_ref ht hid d.r h.1 d.x d.y cs]
        · rw [if_neg h, if_neg h]
          exact h9
end Go.Proofs.Ytnengimekcnfhaa
