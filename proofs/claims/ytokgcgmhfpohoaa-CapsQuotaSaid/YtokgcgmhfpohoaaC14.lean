import Derived.Test.YtokgcgmhfpohoaaC13
set_option linter.unusedSimpArgs false
set_option linter.unusedVariables false
namespace Go.Proofs.Ytokgcgmhfpohoaa
/-! A table in which names were minted only: (env, obj) each, in order. -/
def mk3 (u : Int × Int) : Slot := ⟨1, u.1, 3, u.2, 7, -1, true⟩
def mtab (us : List (Int × Int)) : List Slot := us.map mk3 ++ List.replicate (12 - us.length) freshS
def cnt3 (e : Int) (us : List (Int × Int)) : Nat := us.countP fun u => decide (u.1 = e)
section
variable {us : List (Int × Int)}
theorem mtab_len (h : us.length ≤ 12) : (mtab us).length = 12 := by simp [mtab]; omega
theorem mtab_lt (k : Nat) (hk : k < us.length) (h : k < (mtab us).length) : (mtab us)[k] = mk3 us[k] := by
  have e : ∀ (h' : k < (us.map mk3 ++ List.replicate (12 - us.length) freshS).length), (us.map mk3 ++ List.replicate (12 - us.length) freshS)[k] = mk3 us[k] := by
    intro h'
    rw [List.getElem_append_left (by simpa using hk)]
    simp
  exact e h
theorem mtab_ge (k : Nat) (hk : us.length ≤ k) (h : k < (mtab us).length) : (mtab us)[k] = freshS := by
  have e : ∀ (h' : k < (us.map mk3 ++ List.replicate (12 - us.length) freshS).length), (us.map mk3 ++ List.replicate (12 - us.length) freshS)[k] = freshS := by
    intro h'
    rw [List.getElem_append_right (by simpa using hk)]
    simp
  exact e h
theorem mtab_cnt (e : Int) : cntEnv e (mtab us) = cnt3 e us := by
  unfold cntEnv mtab cnt3
  rw [List.countP_append, List.countP_replicate, List.countP_map]
  simp [freshS]
  rfl
theorem mtab_gok : GenOk (mtab us) := by
  intro k hk hu
  by_cases h : k < us.length
  · rw [mtab_lt k h hk]; simp [mk3]
  · rw [mtab_ge k (by omega) hk] at hu; cases hu
theorem mtab_free (h : us.length < 12) : (mtab us).findIdx? (fun s => !s.used) = some us.length := by
  rw [List.findIdx?_eq_some_iff_getElem]
  refine ⟨by rw [mtab_len (by omega)]; exact h, ?_, ?_⟩
  · rw [mtab_ge _ (Nat.le_refl _)]; rfl
  · intro j hj
    rw [mtab_lt j hj]; simp [mk3]
theorem mtab_full (h : us.length = 12) : (mtab us).findIdx? (fun s => !s.used) = none := by
  rw [List.findIdx?_eq_none_iff]
  intro x hx
  obtain ⟨k, hk, rfl⟩ := List.getElem_of_mem hx
  rw [mtab_len (by omega)] at hk
  rw [mtab_lt k (by omega)]; simp [mk3]
theorem mtab_set (h : us.length < 12) (u : Int × Int) : (mtab us).set us.length (mk3 u) = mtab (us ++ [u]) := by
  unfold mtab
  rw [List.set_append_right _ _ (by simp), show 12 - us.length = (12 - (us.length + 1)) + 1 from by omega, List.replicate_succ]
  simp
/-- What minting comes to: a refusal, or a name more. -/
theorem mint3 (h : us.length ≤ 12) (e o : Int) (he : 0 ≤ e) (ho : 0 ≤ o) :
    ((∃ er, er ≠ 0 ∧ mintT 4 (mtab us) e 3 o 7 = ⟨mtab us, 0, 0, er⟩) ∨ (us.length < 12 ∧ cnt3 e us < 4 ∧ mintT 4 (mtab us) e 3 o 7 = ⟨mtab (us ++ [(e, o)]), us.length, 1, 0⟩)) := by
  unfold mintT
  rw [if_neg (by rw [show okR 7 = true from by decide]; simp; omega)]
  unfold addT
  simp only [mtab_cnt]
  by_cases hq : (4 : Int) ≤ cnt3 e us
  · rw [if_pos hq]; exact .inl ⟨10, by decide, rfl⟩
  · rw [if_neg hq]
    by_cases h12 : us.length = 12
    · rw [mtab_full h12]; exact .inl ⟨3, by decide, rfl⟩
    · refine .inr ⟨by omega, by omega, ?_⟩
      have hg : (mtab us)[us.length]? = some freshS := by rw [List.getElem?_eq_getElem (by rw [mtab_len h]; omega), mtab_ge _ (Nat.le_refl _)]
      simp only [mtab_free (by omega : us.length < 12), hg, Option.map_some, Option.getD_some]
      rw [show (freshS.gen) = 1 from rfl]
      have := mtab_set (us := us) (by omega) (e, o)
      unfold mk3 at this
      rw [this]
theorem cnt3_snoc (e : Int) (u : Int × Int) : cnt3 e (us ++ [u]) = cnt3 e us + if u.1 = e then 1 else 0 := by
  unfold cnt3
  rw [List.countP_append, List.countP_singleton]
  simp
/-- Five counts make up the whole. -/
theorem cnt3_sum (us : List (Int × Int)) (h : ∀ u ∈ us, 0 ≤ u.1 ∧ u.1 < 5) : cnt3 0 us + cnt3 1 us + cnt3 2 us + cnt3 3 us + cnt3 4 us = us.length := by
  induction us with
  | nil => rfl
  | cons u us ih =>
    have h1 := ih (fun x hx => h x (List.mem_cons_of_mem _ hx))
    have h2 := h u List.mem_cons_self
    unfold cnt3 at *
    simp only [List.countP_cons, List.length_cons, decide_eq_true_eq]
    rcases (show u.1 = 0 ∨ u.1 = 1 ∨ u.1 = 2 ∨ u.1 = 3 ∨ u.1 = 4 from by omega) with e | e | e | e | e <;> simp [e] <;> omega
/-- Nobody stands below anybody. -/
theorem mtab_noreach (i j : Nat) : ¬ Reach (mtab us) i j := by
  intro h
  obtain ⟨m, hc, _⟩ := h.first
  obtain ⟨hm, h1, h2⟩ := hc
  by_cases hl : m < us.length
  · rw [mtab_lt m hl] at h2
    simp [mk3] at h2
    try omega
  · rw [mtab_ge m (by omega)] at h1; cases h1
theorem mtab_killed (h : us.length ≤ 12) (e : Int) {l' : List Slot} (hf : FreeTo (Killed (mtab us) e (mtab us).length) (mtab us) l') :
    (∀ k (hk : k < us.length), us[k].1 = e → findS l' k 1 = none) ∧ (∀ k (hk : k < us.length), us[k].1 ≠ e → findS l' k 1 = some (mk3 us[k])) ∧ cntEnv e l' = 0 ∧ (cntU (mtab us) : Int) - cntU l' = cnt3 e us := by
  have hlen : (mtab us).length = 12 := mtab_len h
  have hl' : l'.length = 12 := by rw [hf.len, hlen]
  have hK : ∀ k (hk : k < us.length), Killed (mtab us) e (mtab us).length k ↔ us[k].1 = e := by
    intro k hk
    constructor
    · rintro ⟨m, hm, ⟨hm2, h1, h2⟩, rfl | hr⟩
      · rw [mtab_lt k hk] at h2; exact h2
      · exact absurd hr (mtab_noreach _ _)
    · intro hu
      exact ⟨k, by rw [hlen]; omega, ⟨by rw [hlen]; omega, by rw [mtab_lt k hk]; rfl, by rw [mtab_lt k hk]; exact hu⟩, .inl rfl⟩
  have hK2 : ∀ k (hk : k < (mtab us).length), us.length ≤ k → ¬ Killed (mtab us) e (mtab us).length k := by
    rintro k hk hge ⟨m, hm, ⟨hm2, h1, h2⟩, rfl | hr⟩
    · rw [mtab_ge k hge] at h1; cases h1
    · exact absurd hr (mtab_noreach _ _)
  refine ⟨fun k hk hu => ?_, fun k hk hu => ?_, ?_, ?_⟩
  · unfold findS
    rw [if_pos (by omega), Int.toNat_natCast, List.getElem?_eq_getElem (by omega), hf.yes k (by omega) ((hK k hk).2 hu)]
    simp [Option.filter, freed]
  · unfold findS
    rw [if_pos (by omega), Int.toNat_natCast, List.getElem?_eq_getElem (by omega), hf.no k (by omega) (fun hh => hu ((hK k hk).1 hh)), mtab_lt k hk]
    simp [Option.filter, mk3]
  · unfold cntEnv
    rw [List.countP_eq_zero]
    intro s hs
    obtain ⟨k, hk, rfl⟩ := List.getElem_of_mem hs
    by_cases hku : k < us.length
    · by_cases he : us[k].1 = e
      · rw [hf.yes k (by omega) ((hK k hku).2 he)]; simp [freed]
      · rw [hf.no k (by omega) (fun hh => he ((hK k hku).1 hh)), mtab_lt k hku]; simp [mk3, he]
    · rw [hf.no k (by omega) (hK2 k (by omega) (by omega)), mtab_ge k (by omega)]; simp [freshS]
  · have e1 : l' = us.map (fun u => if u.1 = e then freed (mk3 u) else mk3 u) ++ List.replicate (12 - us.length) freshS := by
      apply List.ext_getElem
      · simp [hl']; omega
      · intro k h1 h2
        by_cases hku : k < us.length
        · rw [List.getElem_append_left (by simpa using hku), List.getElem_map]
          by_cases he : us[k].1 = e
          · rw [hf.yes k (by omega) ((hK k hku).2 he), if_pos he, mtab_lt k hku]
          · rw [hf.no k (by omega) (fun hh => he ((hK k hku).1 hh)), if_neg he, mtab_lt k hku]
        · rw [List.getElem_append_right (by simpa using Nat.le_of_not_lt hku), hf.no k (by omega) (hK2 k (by omega) (by omega)), mtab_ge k (by omega)]
          simp
    have hc : ∀ us : List (Int × Int), (us.map mk3).countP (fun s => s.used) = (us.map (fun u => if u.1 = e then freed (mk3 u) else mk3 u)).countP (fun s => s.used) + us.countP fun u => decide (u.1 = e) := by
      intro us
      induction us with
      | nil => rfl
      | cons u us ih =>
        simp only [List.map_cons, List.countP_cons, ih]
        by_cases he : u.1 = e
        · simp [he, mk3, freed]; omega
        · simp [he, mk3, freed]; omega
    rw [e1]
    unfold cntU mtab cnt3
    rw [List.countP_append, List.countP_append, hc us]
    omega
end
end Go.Proofs.Ytokgcgmhfpohoaa
