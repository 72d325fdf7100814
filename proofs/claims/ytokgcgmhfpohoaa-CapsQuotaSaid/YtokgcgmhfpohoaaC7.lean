import Derived.Test.YtokgcgmhfpohoaaC5
set_option linter.unusedSimpArgs false
set_option linter.unusedVariables false
namespace Go.Proofs.Ytokgcgmhfpohoaa
/-! What letting a slot go comes to: it, and all that stands below it. -/
def cntU (l : List Slot) : Nat := l.countP fun s => s.used
def freed (x : Slot) : Slot := ⟨x.gen + 1, 0, 0, 0, 0, -1, false⟩
def child (l : List Slot) (i k : Nat) : Prop := ∃ h : k < l.length, l[k].used = true ∧ l[k].of = i
inductive Reach (l : List Slot) (i : Nat) : Nat → Prop where
  | base {k : Nat} (h : child l i k) : Reach l i k
  | step {j k : Nat} (h : Reach l i j) (c : child l j k) : Reach l i k
theorem Reach.trans {l : List Slot} {i j k : Nat} (h : Reach l i j) (h2 : Reach l j k) : Reach l i k := by
  induction h2 with
  | base c => exact .step h c
  | step _ c ih => exact .step ih c
theorem Reach.first {l : List Slot} {i k : Nat} (h : Reach l i k) : ∃ m, child l i m ∧ (k = m ∨ Reach l m k) := by
  induction h with
  | base c => exact ⟨_, c, .inl rfl⟩
  | step _ c ih =>
    obtain ⟨m, hm, h⟩ := ih
    refine ⟨m, hm, .inr ?_⟩
    rcases h with rfl | h
    · exact .base c
    · exact .step h c
theorem Reach.used {l : List Slot} {i k : Nat} (h : Reach l i k) : ∃ h : k < l.length, l[k].used = true := by
  cases h with
  | base c => exact ⟨c.1, c.2.1⟩
  | step _ c => exact ⟨c.1, c.2.1⟩
structure FreeTo (D : Nat → Prop) (l l' : List Slot) : Prop where
  len : l'.length = l.length
  yes : ∀ k (h : k < l.length), D k → l'[k]'(by rw [len]; exact h) = freed l[k]
  no : ∀ k (h : k < l.length), ¬ D k → l'[k]'(by rw [len]; exact h) = l[k]
theorem FreeTo.refl {D : Nat → Prop} (l : List Slot) (h : ∀ k, k < l.length → ¬ D k) : FreeTo D l l := ⟨rfl, fun k hk hd => absurd hd (h k hk), fun _ _ _ => rfl⟩
theorem FreeTo.congr {D D' : Nat → Prop} {l l' : List Slot} (h : FreeTo D l l') (e : ∀ k, k < l.length → (D k ↔ D' k)) : FreeTo D' l l' :=
  ⟨h.len, fun k hk hd => h.yes k hk ((e k hk).2 hd), fun k hk hd => h.no k hk (fun h2 => hd ((e k hk).1 h2))⟩
theorem FreeTo.then_ {D E : Nat → Prop} {l l1 l2 : List Slot} (h : FreeTo D l l1) (k : FreeTo E l1 l2) (hd : ∀ k, D k → ¬ E k) : FreeTo (fun k => D k ∨ E k) l l2 := by
  refine ⟨k.len.trans h.len, fun j hj hde => ?_, fun j hj hde => ?_⟩
  · have hj1 : j < l1.length := by rw [h.len]; exact hj
    by_cases hD : D j
    · rw [k.no j hj1 (hd j hD), h.yes j hj hD]
    · rw [k.yes j hj1 (hde.resolve_left hD), h.no j hj hD]
  · have hj1 : j < l1.length := by rw [h.len]; exact hj
    rw [k.no j hj1 (fun h2 => hde (.inr h2)), h.no j hj (fun h2 => hde (.inl h2))]
theorem FreeTo.child_iff {D : Nat → Prop} {l l' : List Slot} (h : FreeTo D l l') (i k : Nat) : child l' i k ↔ child l i k ∧ ¬ D k := by
  constructor
  · rintro ⟨hk, h1, h2⟩
    have hk' : k < l.length := by rw [← h.len]; exact hk
    by_cases hD : D k
    · rw [h.yes k hk' hD] at h1
      cases h1
    · rw [h.no k hk' hD] at h1 h2
      exact ⟨⟨hk', h1, h2⟩, hD⟩
  · rintro ⟨⟨hk, h1, h2⟩, hD⟩
    refine ⟨by rw [h.len]; exact hk, ?_, ?_⟩
    · rw [h.no k hk hD]; exact h1
    · rw [h.no k hk hD]; exact h2
/-- Below a slot, once a set that is shut has gone. -/
theorem reach_after {S : Nat → Prop} {l l' : List Slot} (h : FreeTo S l l') (hs : ∀ a b, S a → child l a b → S b) (k j : Nat) : S j ∨ Reach l' k j ↔ S j ∨ (Reach l k j) ∧ (S k → S j) := by
  constructor
  · rintro (hj | hr)
    · exact .inl hj
    · refine .inr ⟨?_, ?_⟩
      · induction hr with
        | base c => exact .base ((h.child_iff _ _).1 c).1
        | step _ c ih => exact .step ih ((h.child_iff _ _).1 c).1
      · intro hk
        exfalso
        have : ∀ m, Reach l' k m → False := by
          intro m hm
          induction hm with
          | base c =>
            have := (h.child_iff _ _).1 c
            exact this.2 (hs _ _ hk this.1)
          | step _ _ ih => exact ih
        exact this j hr
  · rintro (hj | ⟨hr, hk⟩)
    · exact .inl hj
    · by_cases hS : S k
      · exact .inl (hk hS)
      · clear hk
        induction hr with
        | @base m c =>
          by_cases hm : S m
          · exact .inl hm
          · exact .inr (.base ((h.child_iff _ _).2 ⟨c, hm⟩))
        | @step a m _ c ih =>
          by_cases hm : S m
          · exact .inl hm
          · rcases ih with ha | ha
            · exact absurd (hs _ _ ha c) hm
            · exact .inr (.step ha ((h.child_iff _ _).2 ⟨c, hm⟩))
def unuse (x : Slot) : Slot := ⟨x.gen, x.env, x.kind, x.obj, x.rights, x.of, false⟩
theorem child_unuse (l : List Slot) (i : Nat) (hi : i < l.length) (a b : Nat) : child (l.set i (unuse l[i])) a b ↔ child l a b ∧ b ≠ i := by
  constructor
  · rintro ⟨hb, h1, h2⟩
    rw [List.length_set] at hb
    by_cases he : i = b
    · subst he
      rw [List.getElem_set_self] at h1
      cases h1
    · rw [List.getElem_set_ne he] at h1 h2
      exact ⟨⟨hb, h1, h2⟩, fun e => he e.symm⟩
  · rintro ⟨⟨hb, h1, h2⟩, hne⟩
    refine ⟨by rw [List.length_set]; exact hb, ?_, ?_⟩
    · rw [List.getElem_set_ne (fun e => hne e.symm)]; exact h1
    · rw [List.getElem_set_ne (fun e => hne e.symm)]; exact h2
theorem reach_unuse (l : List Slot) (i : Nat) (hi : i < l.length) (j : Nat) : (j = i ∨ Reach (l.set i (unuse l[i])) i j) ↔ (j = i ∨ Reach l i j) := by
  constructor
  · rintro (h | h)
    · exact .inl h
    · refine .inr ?_
      induction h with
      | base c => exact .base ((child_unuse l i hi _ _).1 c).1
      | step _ c ih => exact .step ih ((child_unuse l i hi _ _).1 c).1
  · rintro (h | h)
    · exact .inl h
    · induction h with
      | @base m c =>
        by_cases he : m = i
        · exact .inl he
        · exact .inr (.base ((child_unuse l i hi _ _).2 ⟨c, he⟩))
      | @step a m _ c ih =>
        by_cases he : m = i
        · exact .inl he
        · rcases ih with rfl | ih
          · exact .inr (.base ((child_unuse l _ hi _ _).2 ⟨c, he⟩))
          · exact .inr (.step ih ((child_unuse l i hi _ _).2 ⟨c, he⟩))
theorem reach_unuse_ne (l : List Slot) (i : Nat) (hi : i < l.length) (j : Nat) (h : Reach (l.set i (unuse l[i])) i j) : j ≠ i := by
  rintro rfl
  obtain ⟨h1, h2⟩ := h.used
  rw [List.getElem_set_self] at h2
  cases h2
/-- What 'free' comes to, out of what 'below' does. -/
theorem free_of_below {l l2 : List Slot} {i : Nat} (hi : i < l.length) (h : FreeTo (Reach (l.set i (unuse l[i])) i) (l.set i (unuse l[i])) l2) : FreeTo (fun k => k = i ∨ Reach l i k) l (l2.set i (freed l[i])) := by
  have hlen : l2.length = l.length := by rw [h.len, List.length_set]
  refine FreeTo.congr (D := fun k => k = i ∨ Reach (l.set i (unuse l[i])) i k) ⟨by rw [List.length_set, hlen], fun k hk hd => ?_, fun k hk hd => ?_⟩ (fun k _ => reach_unuse l i hi k)
  · by_cases he : i = k
    · subst he; rw [List.getElem_set_self]
    · rw [List.getElem_set_ne he, h.yes k (by rw [List.length_set]; exact hk) (hd.resolve_left (fun e => he e.symm)), List.getElem_set_ne he]
  · have he : i ≠ k := fun e => hd (.inl e.symm)
    rw [List.getElem_set_ne he, h.no k (by rw [List.length_set]; exact hk) (fun h2 => hd (.inr h2)), List.getElem_set_ne he]
/-- What has gone of what stands below i, when slots below k have been looked at. -/
def Gone (l : List Slot) (i k : Nat) : Nat → Prop := fun j => ∃ m, m < k ∧ child l i m ∧ (j = m ∨ Reach l m j)
theorem gone_shut (l : List Slot) (i k a b : Nat) (h : Gone l i k a) (c : child l a b) : Gone l i k b := by
  obtain ⟨m, hm, hc, h⟩ := h
  refine ⟨m, hm, hc, .inr ?_⟩
  rcases h with rfl | h
  · exact .base c
  · exact .step h c
theorem gone_zero (l : List Slot) (i j : Nat) : ¬ Gone l i 0 j := by rintro ⟨m, hm, _⟩; omega
theorem gone_all (l : List Slot) (i j : Nat) : Gone l i l.length j ↔ Reach l i j := by
  constructor
  · rintro ⟨m, hm, hc, rfl | h⟩
    · exact .base hc
    · exact Reach.trans (.base hc) h
  · intro h
    obtain ⟨m, hc, h⟩ := h.first
    exact ⟨m, hc.1, hc, h⟩
theorem gone_skip {l l' : List Slot} {i k : Nat} (h : FreeTo (Gone l i k) l l') (hc : ¬ child l' i k) : FreeTo (Gone l i (k + 1)) l l' := by
  refine h.congr (fun j _ => ⟨fun ⟨m, hm, hx⟩ => ⟨m, by omega, hx⟩, ?_⟩)
  rintro ⟨m, hm, hcm, hj⟩
  rcases Nat.lt_or_ge m k with h1 | h1
  · exact ⟨m, h1, hcm, hj⟩
  · obtain rfl : m = k := by omega
    have hg : Gone l i m m := by
      by_cases hg : Gone l i m m
      · exact hg
      · exact absurd ((h.child_iff _ _).2 ⟨hcm, hg⟩) hc
    obtain ⟨m', hm', hc', h'⟩ := hg
    refine ⟨m', hm', hc', ?_⟩
    rcases hj with rfl | hj
    · exact h'
    · rcases h' with rfl | h'
      · exact .inr hj
      · exact .inr (h'.trans hj)
theorem gone_take {l l1 l2 : List Slot} {i k : Nat} (h : FreeTo (Gone l i k) l l1) (hc : child l1 i k) (h2 : FreeTo (fun j => j = k ∨ Reach l1 k j) l1 l2) : FreeTo (Gone l i (k + 1)) l l2 := by
  have hck := (h.child_iff _ _).1 hc
  refine (h.then_ h2 ?_).congr (fun j _ => ?_)
  · rintro j hj (rfl | hr)
    · exact hck.2 hj
    · obtain ⟨hjl, hu⟩ := hr.used
      have hj' : j < l.length := by rw [← h.len]; exact hjl
      rw [h.yes j hj' hj] at hu
      cases hu
  · have ha := reach_after h (gone_shut l i k) k j
    constructor
    · rintro (⟨m, hm, hx⟩ | rfl | hr)
      · exact ⟨m, by omega, hx⟩
      · exact ⟨j, by omega, hck.1, .inl rfl⟩
      · rcases ha.1 (.inr hr) with ⟨m, hm, hx⟩ | ⟨hr, _⟩
        · exact ⟨m, by omega, hx⟩
        · exact ⟨k, by omega, hck.1, .inr hr⟩
    · rintro ⟨m, hm, hcm, hj⟩
      rcases Nat.lt_or_ge m k with h1 | h1
      · exact .inl ⟨m, h1, hcm, hj⟩
      · obtain rfl : m = k := by omega
        rcases hj with rfl | hj
        · exact .inr (.inl rfl)
        · rcases ha.2 (.inr ⟨hj, fun h => absurd h hck.2⟩) with h3 | h3
          · exact .inl h3
          · exact .inr (.inr h3)
/-! How many are used. -/
theorem cntU_set (l : List Slot) (i : Nat) (hi : i < l.length) (x : Slot) : cntU (l.set i x) + (if l[i].used then 1 else 0) = cntU l + (if x.used then 1 else 0) := by
  induction l generalizing i with
  | nil => simp at hi
  | cons y l ih =>
    cases i with
    | zero =>
      simp only [List.set_cons_zero, cntU, List.countP_cons, List.getElem_cons_zero]
      omega
    | succ i =>
      have := ih i (by simpa using hi)
      simp only [List.set_cons_succ, cntU, List.countP_cons, List.getElem_cons_succ] at *
      omega
theorem cntU_pos {l : List Slot} {i : Nat} (hi : i < l.length) (hu : l[i].used = true) : 1 ≤ cntU l := by
  have := List.countP_pos_iff.2 ⟨l[i], List.getElem_mem hi, hu⟩
  exact this
theorem cntU_le_len (l : List Slot) : cntU l ≤ l.length := List.countP_le_length
def GenOk (l : List Slot) : Prop := ∀ k (h : k < l.length), l[k].used = true → 0 ≤ l[k].gen ∧ l[k].gen ≤ 4611686018427387904
theorem GenOk.free {D : Nat → Prop} {l l' : List Slot} (h : GenOk l) (hf : FreeTo D l l') : GenOk l' := by
  intro k hk hu
  have hk' : k < l.length := by rw [← hf.len]; exact hk
  by_cases hD : D k
  · rw [hf.yes k hk' hD] at hu; cases hu
  · rw [hf.no k hk' hD] at hu ⊢; exact h k hk' hu
theorem GenOk.set {l : List Slot} (h : GenOk l) (i : Nat) (x : Slot) (hx : x.used = false) : GenOk (l.set i x) := by
  intro k hk hu
  rw [List.length_set] at hk
  by_cases he : i = k
  · subst he; rw [List.getElem_set_self, hx] at hu; cases hu
  · rw [List.getElem_set_ne he] at hu ⊢; exact h k hk hu
end Go.Proofs.Ytokgcgmhfpohoaa
