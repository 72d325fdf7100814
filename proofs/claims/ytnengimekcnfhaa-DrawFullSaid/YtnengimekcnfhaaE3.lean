import Derived.Test.YtnengimekcnfhaaD5
import Derived.Test.YtnengimekcnfhaaE1
set_option linter.unusedVariables false
namespace Go.Proofs.Ytnengimekcnfhaa
open Go.RowKit Go.Shelf Go.Proofs.YtnengimekcnfhaaW.PrintWords
theorem foldC_row (t : Wn) (ht : t.hid = false) (l cs : List Cl) (ns : List Wr) (ox X Y : Int) (Wc : Nat) (hX : 0 ≤ X) (hY : 0 ≤ Y) (hfit : Y.toNat * 10 + X.toNat + Wc ≤ cs.length) (hin : ∀ k : Nat, k < Wc → t.r.has (X + k) Y) (j : Nat) (hj : j ≤ Wc) :
    (foldC 10 [t] t.id ox l cs ns ((plL X Y Wc 1).take j)).2.2 = j ∧ (foldC 10 [t] t.id ox l cs ns ((plL X Y Wc 1).take j)).1.length = cs.length ∧ ∀ k : Nat, k < j → (foldC 10 [t] t.id ox l cs ns ((plL X Y Wc 1).take j)).1[Y.toNat * 10 + X.toNat + k]? = some (l.getD (X + k - ox).toNat Cl.zero) := by
  induction j with
  | zero => exact ⟨rfl, rfl, fun k hk => absurd hk (Nat.not_lt_zero k)⟩
  | succ j ih =>
    obtain ⟨h1, h2, h3⟩ := ih (by omega)
    obtain ⟨hk, e1, e2⟩ := plL_next X Y Wc 1 j 0 hj (by decide)
    have e1' : (plL X Y Wc 1).take (j + 1) = (plL X Y Wc 1).take j ++ [plF X Y Wc 1 ⟨0 * Wc + j, hk⟩] := by
      simpa only [Nat.zero_mul, Nat.zero_add] using e1
    rw [e1', foldC_snoc, e2]
    generalize foldC 10 [t] t.id ox l cs ns ((plL X Y Wc 1).take j) = s at *
    have hown : ownerOf [t] (X + (j : Int)) (Y + ((0 : Nat) : Int)) = t.id := by
      unfold ownerOf
      rw [if_pos ⟨ht, by rw [show Y + ((0 : Nat) : Int) = Y by omega]; exact hin j hj⟩]
    have hst : stepC 10 [t] t.id ox l s (X + (j : Int), Y + ((0 : Nat) : Int)) = (setG 10 s.1 (X + j) (Y + ((0 : Nat) : Int)) (l.getD (X + j - ox).toNat Cl.zero), s.2.1 ++ [⟨X + j, Y + ((0 : Nat) : Int), l.getD (X + j - ox).toNat Cl.zero⟩], s.2.2 + 1) := if_pos hown
    rw [hst]
    have hidx : (Y + ((0 : Nat) : Int)).toNat * 10 + (X + (j : Int)).toNat = Y.toNat * 10 + X.toNat + j := by omega
    refine ⟨by show s.2.2 + 1 = _; rw [h1]; omega, by show (setG _ _ _ _ _).length = _; unfold setG; rw [List.length_set]; exact h2, fun k hk' => ?_⟩
    show (setG _ _ _ _ _)[_]? = _
    unfold setG
    rw [hidx]
    by_cases hkj : k = j
    · subst hkj
      rw [List.getElem?_set_self (by omega)]
    · rw [List.getElem?_set_ne (by omega)]
      exact h3 k (by omega)
theorem foldC_all (t : Wn) (ht : t.hid = false) (l cs : List Cl) (ns : List Wr) (ox X Y : Int) (Wc : Nat) (hX : 0 ≤ X) (hY : 0 ≤ Y) (hfit : Y.toNat * 10 + X.toNat + Wc ≤ cs.length) (hin : ∀ k : Nat, k < Wc → t.r.has (X + k) Y) :
    (foldC 10 [t] t.id ox l cs ns (plL X Y Wc 1)).2.2 = Wc ∧ ∀ k : Nat, k < Wc → (foldC 10 [t] t.id ox l cs ns (plL X Y Wc 1)).1[Y.toNat * 10 + X.toNat + k]? = some (l.getD (X + k - ox).toNat Cl.zero) := by
  have h := foldC_row t ht l cs ns ox X Y Wc hX hY hfit hin Wc (Nat.le_refl _)
  rw [List.take_of_length_le (by rw [plL_len]; omega)] at h
  exact ⟨h.1, h.2.2⟩
/-- What of a row of cells is in a window. -/
theorem inW_row (t : Wn) (ht : t.r.Right) (x y : Int) (n : Nat) (hn : n ≤ 20) (hx : 0 ≤ x) (hx9 : x ≤ 9) (hy : 0 ≤ y) (hyh : y < t.h) (hyn : Near y) :
    inW t ⟨x, y, min (n : Int) 1073741824, 1⟩ = if min (x + n) t.w ≤ x then Rc.zero else ⟨x, y, min (x + n) t.w - x, 1⟩ := by
  have tw : t.w ≤ 1073741824 := ht.w.2
  have th : t.h ≤ 1073741824 := ht.h.2
  have tw0 : 0 ≤ t.w := ht.w0
  have th0 : 0 ≤ t.h := ht.h0
  have r1 : Rc.Right ⟨x, y, min (n : Int) 1073741824, 1⟩ := ⟨⟨by show _ ≤ x; omega, by show x ≤ _; omega⟩, hyn, ⟨by show _ ≤ min (n : Int) 1073741824; omega, by show min (n : Int) 1073741824 ≤ _; omega⟩, ⟨by show (-1073741824 : Int) ≤ 1; decide, by show (1 : Int) ≤ 1073741824; decide⟩, by show 0 ≤ min (n : Int) 1073741824; omega, by show (0 : Int) ≤ 1; decide⟩
  have r2 : Rc.Right ⟨0, 0, t.w, t.h⟩ := ⟨⟨by show (-1073741824 : Int) ≤ 0; decide, by show (0 : Int) ≤ 1073741824; decide⟩, ⟨by show (-1073741824 : Int) ≤ 0; decide, by show (0 : Int) ≤ 1073741824; decide⟩, ht.w, ht.h, tw0, th0⟩
  unfold inW Rc.both ofR
  rw [if_pos ⟨r1, r2⟩]
  simp only
  rw [show max x 0 = x by omega, show max y 0 = y by omega, show min (x + min (n : Int) 1073741824) (0 + t.w) = min (x + n) t.w by omega, show min (y + 1) (0 + t.h) = y + 1 by omega]
  by_cases h : min (x + n) t.w ≤ x
  · rw [if_pos (.inl h), if_pos h]
  · rw [if_neg (by omega), if_neg h, show y + 1 - y = 1 by omega]
end Go.Proofs.Ytnengimekcnfhaa
