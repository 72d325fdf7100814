import Derived.Test.YteaoafipjaffpaaF6
set_option linter.unusedSimpArgs false
set_option linter.unusedVariables false
/-! Of two that count, the one that counts more gets at most one cell less. -/
namespace Go.Proofs.Yteaoafipjaffpaa.FT
open Ieee Go.RowKit
theorem ord_lt {x y : Nat} (h : x < y) (hy : y ≤ infR) : FloatKind.f64.format.order x y = some .lt := by
  rw [f_order, isN_of (by omega), isN_of hy, sval_of (by omega), sval_of hy]
  have := val_lt h
  exact congrArg some (compare_lt (by omega))
theorem ord_gt {x y : Nat} (h : y < x) (hx : x ≤ infR) : FloatKind.f64.format.order x y = some .gt := by
  rw [f_order, isN_of hx, isN_of (by omega), sval_of hx, sval_of (by omega)]
  have := val_lt h
  exact congrArg some (compare_gt (by omega))
theorem ord_eq {x y : Nat} (h : x = y) (hx : x ≤ infR) : FloatKind.f64.format.order x y = some .eq := by
  subst h
  rw [f_order, isN_of hx]
  exact congrArg some (compare_eq rfl)
theorem getD_set {α : Type} (l : List α) (a j : Nat) (x d : α) (ha : a < l.length) : (l.set a x).getD j d = if j = a then x else l.getD j d := by
  rw [List.getD_eq_getElem?_getD, List.getD_eq_getElem?_getD, List.getElem?_set]
  by_cases h : a = j
  · subst h; simp [ha]
  · rw [if_neg h, if_neg (fun e => h e.symm)]
theorem getD_lt {α : Type} (l : List α) (j : Nat) (d : α) (h : j < l.length) : l.getD j d = l[j] := by
  rw [List.getD_eq_getElem?_getD, List.getElem?_eq_getElem h]; rfl
theorem getD_rep (m j : Nat) (b : Bool) : (List.replicate m b).getD j b = b := by
  rw [List.getD_eq_getElem?_getD, List.getElem?_replicate]
  split <;> rfl
/-- Each has got as much as the others, or one more. -/
theorem give_even (q : List Nat) (h0 : 0 < q.length) (m : Nat) (s : List Bool × List Nat) (h1 : s.1 = List.replicate q.length false) (h2 : s.2.length = q.length) :
    ∃ p, ∀ j, j < q.length → (give q m s).2.getD j 0 = s.2.getD j 0 + p + (if (give q m s).1.getD j false then 1 else 0) := by
  have hl1 : s.1.length = q.length := by rw [h1, List.length_replicate]
  induction m with
  | zero =>
    refine ⟨0, fun j hj => ?_⟩
    have e : (give q 0 s).1.getD j false = false := by
      show s.1.getD j false = false
      rw [h1]
      exact getD_rep _ _ _
    rw [e]
    rfl
  | succ m ih =>
    obtain ⟨p, hp⟩ := ih
    obtain ⟨l1, l2⟩ := give_len q m s
    obtain ⟨a, ha, hlt, hga⟩ := best_gotN q (give q m s).1 (by omega) h0
    have hn : nextN q (give q m s).1 = a := by unfold nextN; rw [ha]; rfl
    simp only [give, hn]
    have hgl := gotN_len q (give q m s).1
    -- ahead of the gift: the same with the row of who has got one as it is then
    have hq : ∃ p', ∀ j, j < q.length → (give q m s).2.getD j 0 = s.2.getD j 0 + p' + (if (gotN q (give q m s).1).getD j false then 1 else 0) := by
      by_cases hb : best q (give q m s).1 = none
      · refine ⟨p + 1, fun j hj => ?_⟩
        have hall := (bestTo_none q _ q.length).1 hb j hj
        have h3 := hp j hj
        rw [hall] at h3
        unfold gotN
        rw [if_pos hb, getD_rep, h3]
        simp
        omega
      · refine ⟨p, fun j hj => ?_⟩
        unfold gotN
        rw [if_neg hb]
        exact hp j hj
    obtain ⟨p', hp'⟩ := hq
    refine ⟨p', fun j hj => ?_⟩
    rw [getD_set _ _ _ _ _ (by omega), getD_set _ _ _ _ _ (by omega)]
    by_cases hja : j = a
    · subst hja
      rw [if_pos rfl, if_pos rfl, hp' j hj, hga]
      simp
    · rw [if_neg hja, if_neg hja]
      exact hp' j hj
theorem left_exact (n : Nat) (q : List Nat) (h : (q.map floorN).sum ≤ n) (k : Nat) (hk : k ≤ q.length) : leftTo n q k + ((q.take k).map floorN).sum = n := by
  induction k with
  | zero => simp [leftTo]
  | succ k ih =>
    have ih1 := ih (by omega)
    have hs : ((q.take (k + 1)).map floorN).sum = ((q.take k).map floorN).sum + floorN q[k] := by
      rw [List.take_succ_eq_append_getElem (by omega), List.map_append, List.sum_append]; simp
    have hle : ((q.take (k + 1)).map floorN).sum ≤ (q.map floorN).sum := by
      have e := List.take_append_drop (k + 1) q
      have : (q.map floorN).sum = ((q.take (k + 1)).map floorN).sum + ((q.drop (k + 1)).map floorN).sum := by
        rw [← List.sum_append, ← List.map_append, e]
      omega
    simp only [leftTo]
    rw [getD_lt q k 0 (by omega)]
    omega
theorem out_exact (n : Nat) (q : List Nat) (h : (q.map floorN).sum ≤ n) (k : Nat) (hk : k < q.length) : (outTo n q q.length).getD k 0 = floorN q[k] := by
  have h1 := left_exact n q h k (by omega)
  have h2 := left_exact n q h (k + 1) (by omega)
  have hs : ((q.take (k + 1)).map floorN).sum = ((q.take k).map floorN).sum + floorN q[k] := by
    rw [List.take_succ_eq_append_getElem (by omega), List.map_append, List.sum_append]; simp
  rw [getD_lt _ _ _ (by rw [outTo_len]; exact hk)]
  simp only [outTo, List.getElem_map, List.getElem_range]
  rw [getD_lt q k 0 hk]
  omega
theorem quota_mono {n s x y : Nat} (hn : n ≤ 512) (hx : y ≤ ONE) (hs : ONE ≤ s) (hs2 : s < infR) (h : x ≤ y) : quota n s x ≤ quota n s y := by
  obtain ⟨a1, a2⟩ := ofN_exact n (by omega)
  have ho := one_lt
  have hvs : 2 ^ tt ≤ val s := by rw [← val_one]; exact val_le hs
  have hv : ∀ z, z ≤ ONE → val z ≤ 2 ^ tt := fun z hz => by rw [← val_one]; exact val_le hz
  have hs0 : 0 < val s := by have := Nat.two_pow_pos tt; omega
  obtain ⟨_, m2, m3⟩ := mul_is (a := ofN n) (b := x) (c := ofN n) a1 (by omega) a1 (Nat.mul_le_mul_left _ (hv x (by omega)))
  obtain ⟨_, m5, m6⟩ := mul_is (a := ofN n) (b := y) (c := ofN n) a1 (by omega) a1 (Nat.mul_le_mul_left _ (hv y hx))
  have hm := m3.mono m6 (Nat.two_pow_pos _) (Nat.two_pow_pos _) (Nat.mul_le_mul_right _ (Nat.mul_le_mul_left _ (val_le h)))
  obtain ⟨_, _, d3⟩ := div_is (a := fmul (ofN n) x) (b := s) (c := ofN n) (by omega) hs2 (Nat.lt_of_lt_of_le (by decide) hs) a1 (Nat.mul_le_mul (val_le m2) hvs)
  obtain ⟨_, _, d6⟩ := div_is (a := fmul (ofN n) y) (b := s) (c := ofN n) (by omega) hs2 (Nat.lt_of_lt_of_le (by decide) hs) a1 (Nat.mul_le_mul (val_le m5) hvs)
  exact d3.mono d6 hs0 hs0 (Nat.mul_le_mul_right _ (Nat.mul_le_mul_right _ (val_le hm)))
theorem shares_more (n : Nat) (w : List Nat) (hW : Ws w) (h1 : 1 ≤ w.length) (h2 : w.length ≤ 64) (hn : n ≤ 512) (i k : Nat) (hi : i < w.length) (hk : k < w.length) (h : (tgL w).getD k 0 ≤ (tgL w).getD i 0) :
    (sharesL n w).getD k 0 ≤ (sharesL n w).getD i 0 + 1 := by
  have hne : w ≠ [] := by intro h; subst h; simp at h1
  have hT := tgL_ok hW hne
  have htl := tgL_len w
  obtain ⟨_, hs1, hs2⟩ := quotas_ok hn hT (by omega)
  have hfl := floors_le hn hT (by omega)
  have hql := quotasL_len n (tgL w)
  rw [htl] at hql
  rw [getD_lt _ _ _ (by omega), getD_lt _ _ _ (by omega)] at h
  have hq : (quotasL n (tgL w)).getD k 0 ≤ (quotasL n (tgL w)).getD i 0 := by
    rw [getD_lt _ _ _ (by omega), getD_lt _ _ _ (by omega)]
    unfold quotasL
    rw [List.getElem_map, List.getElem_map]
    exact quota_mono hn (hT.le _ (List.getElem_mem _)) hs1 hs2 h
  unfold sharesL sharesQ
  clear h
  generalize quotasL n (tgL w) = q at *
  rw [getD_lt _ _ _ (by omega), getD_lt _ _ _ (by omega)] at hq
  have hf : floorN (q[k]'(by omega)) ≤ floorN (q[i]'(by omega)) := Nat.div_le_div_right (val_le hq)
  obtain ⟨p, hp⟩ := give_even q (by omega) (leftTo n q q.length) (List.replicate q.length false, outTo n q q.length) rfl (outTo_len _ _ _)
  have e1 := hp k (by omega)
  have e2 := hp i (by omega)
  simp only [] at e1 e2
  rw [out_exact n q hfl k (by omega)] at e1
  rw [out_exact n q hfl i (by omega)] at e2
  rw [e1, e2]
  split <;> split <;> omega
end Go.Proofs.Yteaoafipjaffpaa.FT
