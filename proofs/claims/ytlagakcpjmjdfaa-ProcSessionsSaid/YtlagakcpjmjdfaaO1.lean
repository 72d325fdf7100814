import Derived.Test.YtlagakcpjmjdfaaB2
set_option linter.unusedSimpArgs false
set_option linter.unusedVariables false
set_option maxRecDepth 20000
namespace Go.Proofs.Ytlagakcpjmjdfaa
open Go.RowKit
/-! The groups of a table, rising: what the document's count from 1 on meets. -/
theorem strict_ext : ∀ (a b : List Int), a.Pairwise (· < ·) → b.Pairwise (· < ·) → (∀ x, x ∈ a ↔ x ∈ b) → a = b
  | [], [], _, _, _ => rfl
  | [], y :: b, _, _, h => absurd ((h y).2 (List.mem_cons_self ..)) (by simp)
  | x :: a, [], _, _, h => absurd ((h x).1 (List.mem_cons_self ..)) (by simp)
  | x :: a, y :: b, ha, hb, h => by
    obtain ⟨ha1, ha2⟩ := List.pairwise_cons.1 ha
    obtain ⟨hb1, hb2⟩ := List.pairwise_cons.1 hb
    have hxy : x = y := by
      rcases List.mem_cons.1 ((h x).1 (List.mem_cons_self ..)) with e | e
      · exact e
      · rcases List.mem_cons.1 ((h y).2 (List.mem_cons_self ..)) with e2 | e2
        · exact e2.symm
        · have := hb1 x e
          have := ha1 y e2
          omega
    subst hxy
    congr 1
    refine strict_ext a b ha2 hb2 fun z => ?_
    have hz := h z
    rw [List.mem_cons, List.mem_cons] at hz
    constructor
    · intro hm
      have := ha1 z hm
      exact (hz.1 (.inr hm)).resolve_left (by omega)
    · intro hm
      have := hb1 z hm
      exact (hz.2 (.inr hm)).resolve_left (by omega)
/-- What compact keeps of a rising list: rising strictly, with the same members. -/
theorem compact_rise (d : Array Int) (hd : ∀ i j, i ≤ j → j < d.size → d[i]! ≤ d[j]!) : ∀ m, m ≤ d.size → (Lib.compactUpTo d m).Pairwise (· < ·) ∧ (∀ x, x ∈ Lib.compactUpTo d m ↔ ∃ j, j < m ∧ d[j]! = x) := by
  intro m
  induction m with
  | zero =>
    intro _
    have e : Lib.compactUpTo d 0 = [] := rfl
    rw [e]
    exact ⟨List.Pairwise.nil, fun x => by simp⟩
  | succ m ih =>
    intro hm
    obtain ⟨h1, h2⟩ := ih (by omega)
    rw [Lib.compactUpTo_succ]
    by_cases hk : Lib.keeps d m = true
    · rw [if_pos hk]
      refine ⟨?_, fun x => ?_⟩
      · rw [List.pairwise_append]
        refine ⟨h1, List.pairwise_singleton _ _, fun a ha b hb => ?_⟩
        rw [List.mem_singleton] at hb
        subst hb
        obtain ⟨j, hj, rfl⟩ := (h2 a).1 ha
        have hne : d[m]! ≠ d[m - 1]! := fun e => by
          rw [Lib.keeps_neg (by omega) e] at hk
          cases hk
        have a1 := hd j (m - 1) (by omega) (by omega)
        have a2 := hd (m - 1) m (by omega) (by omega)
        omega
      · rw [List.mem_append, h2, List.mem_singleton]
        constructor
        · rintro (⟨j, hj, e⟩ | e)
          · exact ⟨j, by omega, e⟩
          · exact ⟨m, by omega, e.symm⟩
        · rintro ⟨j, hj, e⟩
          by_cases hjm : j < m
          · exact .inl ⟨j, hjm, e⟩
          · obtain rfl : j = m := by omega
            exact .inr e.symm
    · rw [if_neg hk, List.append_nil]
      refine ⟨h1, fun x => ?_⟩
      rw [h2]
      constructor
      · rintro ⟨j, hj, e⟩
        exact ⟨j, by omega, e⟩
      · rintro ⟨j, hj, e⟩
        by_cases hjm : j < m
        · exact ⟨j, hjm, e⟩
        · obtain rfl : j = m := by omega
          have h0 : 0 < j := by
            rcases Nat.eq_zero_or_pos j with rfl | h
            · exact absurd (Lib.keeps_lt_one d 0 (by omega)) hk
            · exact h
          have he : d[j]! = d[j - 1]! := Decidable.byContradiction fun hne => hk (Lib.keeps_pos hne)
          exact ⟨j - 1, by omega, by rw [← he, e]⟩
theorem srt_rise (l : List Int) : (srt l).Pairwise (· ≤ ·) := by
  have h := List.pairwise_mergeSort (le := fun x y : Int => decide (x ≤ y)) (fun a b c h1 h2 => by simp at *; omega) (fun a b => by simp; omega) l
  exact h.imp (fun h => by simpa using h)
theorem grps_spec (l : List Pr) : (grps l).Pairwise (· < ·) ∧ ∀ g, g ∈ grps l ↔ ∃ p ∈ l, p.grp = g := by
  have hr := srt_rise (l.map (·.grp))
  generalize hz : srt (l.map (·.grp)) = zs at hr
  have hge : ∀ k (hk : k < zs.length), zs.toArray[k]! = zs[k] := fun k hk => by
    rw [getElem!_pos zs.toArray k (by simpa using hk)]
    simp
  have h := compact_rise zs.toArray (fun i j hij hj => by
    have hj2 : j < zs.length := by simpa using hj
    rw [hge i (by omega), hge j hj2]
    rcases Nat.eq_or_lt_of_le hij with rfl | hlt
    · exact Int.le_refl _
    · exact List.pairwise_iff_getElem.1 hr i j (by omega) hj2 hlt) zs.length (by simp)
  have hg : grps l = Lib.compactUpTo zs.toArray zs.length := by rw [← hz]; rfl
  rw [hg]
  refine ⟨h.1, fun g => ?_⟩
  have h2 := h.2 g
  refine h2.trans ?_
  constructor
  · rintro ⟨j, hj, e⟩
    rw [hge j hj] at e
    have hm : g ∈ srt (l.map (·.grp)) := by
      rw [hz, ← e]
      exact List.getElem_mem _
    unfold srt at hm
    rw [List.mem_mergeSort, List.mem_map] at hm
    exact hm
  · rintro ⟨p, hp, e⟩
    have hm : g ∈ srt (l.map (·.grp)) := by
      unfold srt
      rw [List.mem_mergeSort, List.mem_map]
      exact ⟨p, hp, e⟩
    rw [hz] at hm
    obtain ⟨j, hj, e2⟩ := List.getElem_of_mem hm
    exact ⟨j, hj, by rw [hge j hj]; exact e2⟩
theorem hasG_iff (l : List Pr) (g : Int) : hasG l g 0 = true ↔ ∃ p ∈ l, p.grp = g := by
  unfold hasG inGrp
  rw [List.any_eq_true]
  simp
theorem orphG_has {l : List Pr} {g : Int} (h : orphG l g = true) : hasG l g 0 = true := by
  unfold orphG at h
  rw [Bool.and_eq_true] at h
  exact h.1
/-- The numbers from 1 below n. -/
def upto (n : Nat) : List Int := (List.range n).map fun (k : Nat) => (k : Int) + 1
theorem upto_rise (n : Nat) : (upto n).Pairwise (· < ·) := by
  unfold upto
  rw [List.pairwise_map]
  exact List.pairwise_lt_range.imp (fun h => by omega)
theorem upto_mem (n : Nat) (g : Int) : g ∈ upto n ↔ 1 ≤ g ∧ g < n + 1 := by
  unfold upto
  rw [List.mem_map]
  constructor
  · rintro ⟨k, hk, rfl⟩
    rw [List.mem_range] at hk
    omega
  · rintro ⟨h1, h2⟩
    exact ⟨(g - 1).toNat, by rw [List.mem_range]; omega, by omega⟩
theorem upto_succ (n : Nat) : upto (n + 1) = upto n ++ [(n : Int) + 1] := by
  unfold upto
  rw [List.range_succ, List.map_append]
  rfl
def newR (l0 l1 : List Pr) (g : Int) : List (Int × Int) := if (orphG l1 g && !orphG l0 g) = true then [(g, 4), (g, 5)] else []
theorem newR_len (l0 l1 : List Pr) (g : Int) : (newR l0 l1 g).length ≤ 2 := by unfold newR; split <;> simp
theorem newR_none {l0 l1 : List Pr} {g : Int} (h : ¬ ∃ p ∈ l1, p.grp = g) : newR l0 l1 g = [] := by
  unfold newR
  rw [if_neg]
  intro h2
  rw [Bool.and_eq_true] at h2
  exact h ((hasG_iff _ _).1 (orphG_has h2.1))
theorem newR_newO (l0 l1 : List Pr) (g : Int) : newO (wasF l0) l1 g = newR l0 l1 g := by
  unfold newO newR wasF
  cases h0 : orphG l0 g
  · simp
  · have hm : g ∈ grps l0 := (grps_spec l0).2 g |>.2 ((hasG_iff _ _).1 (orphG_has h0))
    rw [decide_eq_true hm]
    simp
theorem flatMap_filter {α β : Type} (q : α → Bool) (f : α → List β) : ∀ l : List α, (∀ x ∈ l, q x = false → f x = []) → l.flatMap f = (l.filter q).flatMap f
  | [], _ => rfl
  | a :: l, h => by
    have ih := flatMap_filter q f l (fun x hx => h x (List.mem_cons_of_mem _ hx))
    cases hq : q a
    · rw [List.flatMap_cons, h a (List.mem_cons_self ..) hq, List.nil_append, ih, List.filter_cons_of_neg (by simp [hq])]
    · rw [List.flatMap_cons, ih, List.filter_cons_of_pos hq, List.flatMap_cons]
/-- All groups in turn, or all numbers: the same signals. -/
theorem sigs_same (l0 l1 : List Pr) (n : Nat) (h : ∀ p ∈ l1, 1 ≤ p.grp ∧ p.grp < n + 1) : (grps l1).flatMap (newO (wasF l0) l1) = (upto n).flatMap (newR l0 l1) := by
  have e1 : newO (wasF l0) l1 = newR l0 l1 := funext fun g => newR_newO l0 l1 g
  rw [e1, flatMap_filter (fun g => hasG l1 g 0) (newR l0 l1) (upto n) (fun g _ hg => newR_none fun he => by rw [(hasG_iff _ _).2 he] at hg; cases hg)]
  congr 1
  obtain ⟨h1, h2⟩ := grps_spec l1
  refine strict_ext _ _ h1 ((upto_rise n).filter _) fun g => ?_
  rw [h2, List.mem_filter, hasG_iff, upto_mem]
  constructor
  · rintro ⟨p, hp, rfl⟩
    exact ⟨h p hp, p, hp, rfl⟩
  · exact fun h => h.2
end Go.Proofs.Ytlagakcpjmjdfaa
