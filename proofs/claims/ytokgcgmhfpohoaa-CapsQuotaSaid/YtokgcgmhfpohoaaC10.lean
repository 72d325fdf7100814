import Derived.Test.YtokgcgmhfpohoaaC9
set_option linter.unusedSimpArgs false
set_option linter.unusedVariables false
namespace Go.Proofs.Ytokgcgmhfpohoaa
/-! A chain: a first one, and each shared by the one before it. -/
def chainAt (kind obj first : Int) (rs : List Int) (k : Nat) : Slot :=
  if k = 0 then ⟨1, 0, kind, obj, first, -1, true⟩ else if k ≤ rs.length then ⟨1, k, kind, obj, rs.getD (k - 1) 0, (k : Int) - 1, true⟩ else freshS
def chain (N : Nat) (kind obj first : Int) (rs : List Int) : List Slot := (List.range N).map (chainAt kind obj first rs)
section
variable {N : Nat} {kind obj first : Int} {rs : List Int}
theorem chain_len : (chain N kind obj first rs).length = N := by simp [chain]
theorem chain_get (k : Nat) (hk : k < (chain N kind obj first rs).length) : (chain N kind obj first rs)[k] = chainAt kind obj first rs k := by simp [chain]
theorem chain_used (k : Nat) : (chainAt kind obj first rs k).used = decide (k ≤ rs.length) := by
  unfold chainAt
  split
  · rename_i h; simp [h]
  · split
    · rename_i h; simp [h]
    · rename_i h; simp [h, freshS]
theorem chain_gen (k : Nat) : (chainAt kind obj first rs k).gen = 1 := by
  unfold chainAt freshS
  split
  · rfl
  · split <;> rfl
theorem chain_env {k : Nat} (h : k ≤ rs.length) : (chainAt kind obj first rs k).env = k := by
  unfold chainAt
  split
  · rename_i h; rw [h]; rfl
  · rfl
theorem chain_of {k : Nat} (h : k ≤ rs.length) : (chainAt kind obj first rs k).of = (k : Int) - 1 := by
  unfold chainAt
  split
  · rename_i h; rw [h]; rfl
  · rfl
theorem chain_kind {k : Nat} (h : k ≤ rs.length) : (chainAt kind obj first rs k).kind = kind := by
  unfold chainAt
  split <;> rfl
theorem chain_obj {k : Nat} (h : k ≤ rs.length) : (chainAt kind obj first rs k).obj = obj := by
  unfold chainAt
  split <;> rfl
theorem chain_rights {k : Nat} (h : k ≤ rs.length) : (chainAt kind obj first rs k).rights = (first :: rs).getD k 0 := by
  unfold chainAt
  split
  · rename_i h; simp [h]
  · rename_i h1
    obtain ⟨m, rfl⟩ := Nat.exists_eq_succ_of_ne_zero h1
    simp
theorem chain_gok : GenOk (chain N kind obj first rs) := by
  intro k hk hu
  rw [chain_get, chain_gen]
  omega
theorem chain_child (a b : Nat) : child (chain N kind obj first rs) a b ↔ b < N ∧ b ≤ rs.length ∧ b = a + 1 := by
  constructor
  · rintro ⟨hb, h1, h2⟩
    rw [chain_get] at h1 h2
    rw [chain_used] at h1
    simp at h1
    rw [chain_of h1] at h2
    rw [chain_len] at hb
    exact ⟨hb, h1, by omega⟩
  · rintro ⟨hb, h1, rfl⟩
    refine ⟨by rw [chain_len]; exact hb, ?_, ?_⟩
    · rw [chain_get, chain_used]; simpa using h1
    · rw [chain_get, chain_of h1]; omega
theorem chain_reach (hN : rs.length < N) (k : Nat) : Reach (chain N kind obj first rs) 0 k ↔ 1 ≤ k ∧ k ≤ rs.length := by
  constructor
  · intro h
    induction h with
    | base c => have := (chain_child _ _).1 c; omega
    | step _ c ih => have := (chain_child _ _).1 c; omega
  · rintro ⟨h1, h2⟩
    induction k with
    | zero => omega
    | succ k ih =>
      by_cases h0 : k = 0
      · subst h0; exact .base ((chain_child _ _).2 ⟨by omega, h2, rfl⟩)
      · exact .step (ih (by omega) (by omega)) ((chain_child _ _).2 ⟨by omega, h2, rfl⟩)
theorem countP_range (N m : Nat) : (List.range N).countP (fun k => decide (k ≤ m)) = min N (m + 1) := by
  induction N with
  | zero => simp
  | succ N ih =>
    rw [List.range_succ, List.countP_append, ih, List.countP_singleton]
    by_cases h : N ≤ m
    · simp [h]; omega
    · simp [h]; omega
theorem chain_cnt (hN : rs.length < N) : cntU (chain N kind obj first rs) = rs.length + 1 := by
  unfold cntU chain
  rw [List.countP_map]
  have : ((fun s : Slot => s.used) ∘ chainAt kind obj first rs) = fun k => decide (k ≤ rs.length) := by funext k; exact chain_used k
  rw [this, countP_range]
  omega
theorem chain_env_none (e : Int) (he : (rs.length : Int) < e) : cntEnv e (chain N kind obj first rs) = 0 := by
  unfold cntEnv
  rw [List.countP_eq_zero]
  intro s hs
  obtain ⟨k, hk, rfl⟩ := List.getElem_of_mem hs
  rw [chain_get, chain_used]
  simp
  intro h
  rw [chain_env h]
  omega
theorem chain_snoc (r : Int) (x : Slot) (hx : x = ⟨1, rs.length + 1, kind, obj, r, rs.length, true⟩) : (chain N kind obj first rs).set (rs.length + 1) x = chain N kind obj first (rs ++ [r]) := by
  apply List.ext_getElem
  · simp [chain]
  · intro k h1 h2
    rw [chain_get]
    by_cases hk : rs.length + 1 = k
    · subst hk
      rw [List.getElem_set_self, hx]
      unfold chainAt
      rw [if_neg (by omega), if_pos (by simp)]
      simp
    · rw [List.getElem_set_ne hk, chain_get]
      unfold chainAt
      split
      · rfl
      · rename_i h0
        by_cases hk2 : k ≤ rs.length
        · rw [if_pos hk2, if_pos (by simp; omega)]
          have : (rs ++ [r]).getD (k - 1) 0 = rs.getD (k - 1) 0 := by
            simp only [List.getD_eq_getElem?_getD]
            rw [List.getElem?_append_left (by omega)]
          rw [this]
        · rw [if_neg hk2, if_neg (by simp; omega)]
theorem chain_free (hN : rs.length + 1 < N) : (chain N kind obj first rs).findIdx? (fun s => !s.used) = some (rs.length + 1) := by
  rw [List.findIdx?_eq_some_iff_getElem]
  refine ⟨by rw [chain_len]; exact hN, ?_, ?_⟩
  · rw [chain_get, chain_used]; simp
  · intro j hj
    rw [chain_get, chain_used]; simp; omega
theorem mint_chain (hN : 0 < N) {q : Int} (hq : 1 ≤ q) (hk : 1 ≤ kind) (hk3 : kind ≤ 3) (ho : 0 ≤ obj) (hf : okR first = true) : mintT q (fresh N) 0 kind obj first = ⟨chain N kind obj first [], 0, 1, 0⟩ := by
  unfold mintT
  rw [if_neg (by rw [hf]; simp; omega)]
  unfold addT
  have h0 : cntEnv 0 (fresh N) = 0 := by
    unfold cntEnv
    rw [List.countP_eq_zero]
    intro s hs
    rw [fresh, List.mem_replicate] at hs
    rw [hs.2]; simp [freshS]
  have h1 : (fresh N).findIdx? (fun s => !s.used) = some 0 := by
    rw [List.findIdx?_eq_some_iff_getElem]
    refine ⟨by simpa [fresh] using hN, ?_, fun j hj => by omega⟩
    simp [fresh, freshS]
  have h2 : (fresh N)[0]? = some freshS := by simp [fresh, hN]
  simp only [h0, h1, h2]
  rw [if_neg (by omega)]
  have h3 : (fresh N).set 0 ⟨1, 0, kind, obj, first, -1, true⟩ = chain N kind obj first [] := by
    apply List.ext_getElem
    · simp [fresh, chain]
    · intro k h1 h2
      rw [chain_get]
      unfold chainAt
      cases k with
      | zero => simp
      | succ k => simp [fresh]
  simp [freshS, h3]
/-- The next one of a chain: refused, or a link more. -/
theorem share_chain (hN : rs.length + 1 < N) {q : Int} (hq : 1 ≤ q) (r : Int) :
    (∃ e, e ≠ 0 ∧ shareT q (chain N kind obj first rs) rs.length rs.length 1 ((rs.length : Int) + 1) r = ⟨chain N kind obj first rs, 0, 0, e⟩) ∨
    (shareT q (chain N kind obj first rs) rs.length rs.length 1 ((rs.length : Int) + 1) r = ⟨chain N kind obj first (rs ++ [r]), (rs.length : Int) + 1, 1, 0⟩ ∧ hasB ((first :: rs).getD rs.length 0) r = true ∧ okR r = true) := by
  have hf : findS (chain N kind obj first rs) rs.length 1 = some (chainAt kind obj first rs rs.length) := by
    unfold findS
    rw [if_pos (by omega), Int.toNat_natCast, List.getElem?_eq_getElem (by rw [chain_len]; omega), chain_get]
    simp [Option.filter, chain_used, chain_gen]
  unfold shareT
  rw [hf]
  simp only [chain_rights (Nat.le_refl rs.length), chain_env (Nat.le_refl rs.length), chain_kind (Nat.le_refl rs.length), chain_obj (Nat.le_refl rs.length)]
  split
  · exact .inl ⟨8, by decide, rfl⟩
  · split
    · exact .inl ⟨1, by decide, rfl⟩
    · split
      · exact .inl ⟨8, by decide, rfl⟩
      · rename_i h1 h2 h3
        refine .inr ⟨?_, by simpa using h3, ?_⟩
        · unfold addT
          have he0 := chain_env_none (N := N) (kind := kind) (obj := obj) (first := first) (rs := rs) ((rs.length : Int) + 1) (by omega)
          simp only [he0, chain_free hN]
          rw [if_neg (by omega)]
          have hg : (chain N kind obj first rs)[rs.length + 1]? = some (chainAt kind obj first rs (rs.length + 1)) := by rw [List.getElem?_eq_getElem (by rw [chain_len]; omega), chain_get]
          simp only [hg, Option.map_some, Option.getD_some, chain_gen]
          rw [chain_snoc r _ rfl]
          simp
        · cases h : okR r
          · exact absurd (.inr h) h2
          · rfl
/-- The first one's rest is let go. -/
theorem revoke_chain (hN : rs.length < N) {l' : List Slot} (h : FreeTo (Reach (chain N kind obj first rs) 0) (chain N kind obj first rs) l') :
    (cntU (chain N kind obj first rs) : Int) - cntU l' = rs.length ∧ (∀ k, 1 ≤ k → k ≤ rs.length → findS l' k 1 = none) ∧ findS l' 0 1 = some ⟨1, 0, kind, obj, first, -1, true⟩ := by
  have h0 : ∀ (hk : 0 < l'.length), l'[0] = ⟨1, 0, kind, obj, first, -1, true⟩ := by
    intro hk
    have h1 := h.no 0 (by rw [chain_len]; omega) (fun hr => by have := (chain_reach hN 0).1 hr; omega)
    rw [chain_get] at h1
    exact h1
  have hl : l'.length = N := by rw [h.len, chain_len]
  refine ⟨?_, ?_, ?_⟩
  · rw [chain_cnt hN]
    have h2 : ∀ k (hk : k < l'.length), l'[k].used = decide (k ≤ 0) := by
      intro k hk
      have hk' : k < (chain N kind obj first rs).length := by rw [← h.len]; exact hk
      by_cases hr : Reach (chain N kind obj first rs) 0 k
      · have := (chain_reach hN k).1 hr
        rw [h.yes k hk' hr]
        simp [freed]; omega
      · have h3 : ¬ (1 ≤ k ∧ k ≤ rs.length) := fun hh => hr ((chain_reach hN k).2 hh)
        rw [h.no k hk' hr, chain_get, chain_used]
        by_cases hk0 : k = 0
        · simp [hk0]
        · simp [hk0]; omega
    have h4 : cntU l' = 1 := by
      have e : (l'.map fun s => s.used) = (List.range N).map (fun k => decide (k ≤ 0)) := by
        apply List.ext_getElem
        · simp [hl]
        · intro k h5 h6
          simp only [List.getElem_map, List.getElem_range]
          exact h2 k (by simpa using h5)
      have e2 : cntU l' = (l'.map (fun s => s.used)).countP id := by rw [List.countP_map]; rfl
      rw [e2, e, List.countP_map]
      have : (id ∘ fun k : Nat => decide (k ≤ 0)) = fun k => decide (k ≤ 0) := rfl
      rw [this, countP_range]
      omega
    rw [h4]; omega
  · intro k h1 h2
    have hk' : k < (chain N kind obj first rs).length := by rw [chain_len]; omega
    have := h.yes k hk' ((chain_reach hN k).2 ⟨h1, h2⟩)
    unfold findS
    rw [if_pos (by omega), Int.toNat_natCast, List.getElem?_eq_getElem (by rw [hl]; omega), this]
    simp [Option.filter, freed]
  · unfold findS
    rw [if_pos (by omega)]
    have : l'[(0 : Int).toNat]? = some ⟨1, 0, kind, obj, first, -1, true⟩ := by
      show l'[0]? = _
      rw [List.getElem?_eq_getElem (by rw [hl]; omega), h0]
    rw [this]
    simp [Option.filter]
end
end Go.Proofs.Ytokgcgmhfpohoaa
