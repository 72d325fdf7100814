import Derived.Test.YtlpjehmanodhpaaU4
set_option linter.unusedSimpArgs false
set_option linter.unusedVariables false
namespace Go.Proofs.Ytlpjehmanodhpaa
/-! The document's answer, plainly: what stands at the head of bytes. -/
def fitsAll (a : Int) : List Int → Bool
  | [] => true
  | x :: r => decide (lo a ≤ x ∧ x ≤ hi a) && r.all fun y => decide (128 ≤ y ∧ y ≤ 191)
def beginsL : List Int → Bool
  | [] => false
  | a :: t => firstOk a && (decide ((t.length : Int) + 1 ≤ need a) && fitsAll a t)
def cntF (l : List Int) : Nat → Nat → Nat
  | 0, n => n
  | f + 1, n => if n < l.length ∧ beginsL (l.take (n + 1)) = true then cntF l f (n + 1) else n
def cnt (l : List Int) : Nat := cntF l 4 0
def formV (l : List Int) (n : Nat) : Int := val (l.take n)
def dec1 (l : List Int) : Int × Nat :=
  match l with
  | [] => (0, 1)
  | c :: _ => if c < 128 then (c, 1) else if cnt l = 0 then (65533, 1) else if (cnt l : Int) = need c then (formV l (cnt l), cnt l) else (65533, cnt l)
def allF : Nat → List Int → List Int
  | 0, _ => []
  | _ + 1, [] => []
  | f + 1, c :: l => (dec1 (c :: l)).1 :: allF f ((c :: l).drop (dec1 (c :: l)).2)
def waitF : Nat → List Int → Nat
  | 0, _ => 0
  | _ + 1, [] => 0
  | f + 1, c :: l => if (dec1 (c :: l)).2 = (c :: l).length ∧ (dec1 (c :: l)).1 = 65533 ∧ beginsL (c :: l) = true ∧ ((c :: l).length : Int) < need c then (c :: l).length else waitF f ((c :: l).drop (dec1 (c :: l)).2)
theorem cntF_eq (l : List Int) (n : Nat) (h1 : ∀ i, i < n → i < l.length ∧ beginsL (l.take (i + 1)) = true) (h2 : n = 4 ∨ ¬ (n < l.length ∧ beginsL (l.take (n + 1)) = true)) :
    ∀ f m, m ≤ n → m + f = 4 → cntF l f m = n := by
  intro f
  induction f with
  | zero => intro m hm hf; show m = n; have : n ≤ 4 := by
              rcases h2 with h2 | h2
              · omega
              · rcases Nat.lt_or_ge 4 n with h | h
                · exfalso
                  have h3 := h1 4 h
                  have : (l.take 5).length = 5 := by rw [List.length_take]; omega
                  cases hl : l.take 5 with
                  | nil => rw [hl] at this; simp at this
                  | cons a t =>
                    rw [hl] at this
                    have h4 := h3.2
                    rw [hl] at h4
                    simp only [beginsL, Bool.and_eq_true, decide_eq_true_eq] at h4
                    have := need_bd a
                    simp only [List.length_cons] at *
                    omega
                · exact h
            omega
  | succ f ih =>
    intro m hm hf
    unfold cntF
    rcases Nat.lt_or_ge m n with h | h
    · rw [if_pos (h1 m h)]; exact ih (m + 1) h (by omega)
    · obtain rfl : m = n := by omega
      rw [if_neg]
      rcases h2 with h2 | h2
      · omega
      · exact h2
theorem beginsL_pre {a : Int} {t : List Int} (h : beginsL (a :: t) = true) (i : Nat) : beginsL (a :: t.take i) = true := by
  simp only [beginsL, Bool.and_eq_true, decide_eq_true_eq] at *
  refine ⟨h.1, ?_, ?_⟩
  · rw [List.length_take]; omega
  · cases t with
    | nil => simp [fitsAll]
    | cons x r =>
      cases i with
      | zero => simp [fitsAll]
      | succ i =>
        have h2 := h.2.2
        simp only [fitsAll, List.take_succ_cons, Bool.and_eq_true, List.all_eq_true] at *
        exact ⟨h2.1, fun y hy => h2.2 y (List.mem_of_mem_take hy)⟩
theorem beginsL_snoc (a : Int) (t : List Int) (c : Int) (h : beginsL (a :: t) = true) : beginsL (a :: t ++ [c]) = (decide ((t.length : Int) + 2 ≤ need a) && fits a t c) := by
  simp only [beginsL, Bool.and_eq_true, decide_eq_true_eq, List.cons_append, List.length_append, List.length_singleton] at *
  rw [h.1, Bool.true_and]
  have e : decide (((t.length + 1 : Nat) : Int) + 1 ≤ need a) = decide ((t.length : Int) + 2 ≤ need a) := decide_eq_decide.2 (by omega)
  rw [e]
  congr 1
  cases t with
  | nil => simp [fitsAll, fits]
  | cons x r =>
    have h2 := h.2.2
    simp only [fitsAll, Bool.and_eq_true] at h2
    simp only [fitsAll, List.cons_append, List.all_append, h2.1, h2.2, Bool.true_and, fits]
    simp
/-- Bytes that wait. -/
def Pend (p : List Int) : Prop := p = [] ∨ (beginsL p = true ∧ ((p.length : Int) < need (p.headD 0)))
theorem cnt_more (a : Int) (t : List Int) (r : List Int) (h : beginsL (a :: t) = true) (hr : ∀ c r', r = c :: r' → beginsL (a :: t ++ [c]) = false) : cnt (a :: t ++ r) = t.length + 1 := by
  have hb : ∀ i, i < t.length + 1 → i < (a :: t ++ r).length ∧ beginsL ((a :: t ++ r).take (i + 1)) = true := by
    intro i hi
    refine ⟨by simp; omega, ?_⟩
    rw [List.take_append_of_le_length (by simp; omega), List.take_succ_cons]
    exact beginsL_pre h i
  refine cntF_eq _ (t.length + 1) hb (.inr ?_) 4 0 (by omega) rfl
  rintro ⟨h1, h2⟩
  cases r with
  | nil => simp at h1
  | cons c r' =>
    have h3 := hr c r' rfl
    rw [List.append_cons, List.take_append_of_le_length (by simp), List.take_of_length_le (by simp)] at h2
    rw [h3] at h2
    cases h2
theorem cnt_none (c : Int) (l : List Int) (h : firstOk c = false) : cnt (c :: l) = 0 := by
  refine cntF_eq _ 0 (fun i hi => by omega) (.inr ?_) 4 0 (by omega) rfl
  rintro ⟨_, h2⟩
  simp [beginsL, h] at h2
theorem dec1_low (c : Int) (l : List Int) (h : c < 128) : dec1 (c :: l) = (c, 1) := by simp [dec1, h]
theorem dec1_none (c : Int) (l : List Int) (h : ¬ c < 128) (hf : firstOk c = false) : dec1 (c :: l) = (65533, 1) := by simp [dec1, h, cnt_none c l hf]
theorem firstOk_of {a : Int} {t : List Int} (h : beginsL (a :: t) = true) : firstOk a = true ∧ ¬ a < 128 := by
  simp only [beginsL, Bool.and_eq_true] at h
  refine ⟨h.1, ?_⟩
  have := of_decide_eq_true h.1
  omega
theorem dec1_part (a : Int) (t : List Int) (r : List Int) (h : beginsL (a :: t) = true) (hn : (t.length : Int) + 1 < need a) (hr : ∀ c r', r = c :: r' → fits a t c = false) : dec1 (a :: t ++ r) = (65533, t.length + 1) := by
  have hc := cnt_more a t r h (fun c r' e => by rw [beginsL_snoc a t c h, hr c r' e, Bool.and_false])
  have hf := (firstOk_of h).2
  rw [List.cons_append] at *
  simp only [dec1, hc, if_neg hf]
  rw [if_neg (by omega), if_neg (by omega)]
theorem dec1_full (a : Int) (t : List Int) (c : Int) (r : List Int) (h : beginsL (a :: t) = true) (hn : (t.length : Int) + 2 = need a) (hc : fits a t c = true) : dec1 (a :: t ++ c :: r) = (val (a :: t ++ [c]), t.length + 2) := by
  have h2 : beginsL (a :: (t ++ [c])) = true := by
    have := beginsL_snoc a t c h
    rw [hc, decide_eq_true (by omega)] at this
    exact this
  have hc2 := cnt_more a (t ++ [c]) r h2 (fun x r' e => by
    rw [beginsL_snoc a (t ++ [c]) x h2, decide_eq_false (by simp; omega), Bool.false_and])
  have hf := (firstOk_of h).2
  have e : a :: t ++ c :: r = a :: (t ++ [c]) ++ r := by simp
  rw [e]
  rw [List.cons_append] at *
  simp only [dec1, hc2, if_neg hf]
  rw [if_neg (by simp), if_pos (by simp; omega)]
  have e2 : (t ++ c :: r).take (t.length + 1) = t ++ [c] := by
    rw [List.append_cons]
    exact List.take_left' (by simp)
  simp [formV, e2]
theorem prun_acc (l : List Int) : ∀ (p o : List Int), prun (p, o) l = ((prun (p, []) l).1, o ++ (prun (p, []) l).2) := by
  induction l with
  | nil => intro p o; simp [prun]
  | cons c l ih =>
    intro p o
    simp only [prun]
    rw [ih _ (o ++ _), ih _ ([] ++ _)]
    simp
theorem run_all (l : List Int) : ∀ (p : List Int) (f : Nat), Pend p → (p ++ l).length ≤ f →
    allF f (p ++ l) = (prun (p, []) l).2 ++ pflush (prun (p, []) l).1 ∧ waitF f (p ++ l) = (prun (p, []) l).1.length := by
  induction l with
  | nil =>
    intro p f hp hf
    rcases hp with rfl | ⟨hb, hn⟩
    · cases f <;> simp [allF, waitF, prun, pflush]
    · cases p with
      | nil => simp [beginsL] at hb
      | cons a t =>
        have hn' : (t.length : Int) + 1 < need a := by simpa using hn
        have hd := dec1_part a t [] hb hn' (fun _ _ e => by cases e)
        rw [List.append_nil] at hd hf ⊢
        obtain ⟨g, rfl⟩ : ∃ g, f = g + 1 := ⟨f - 1, by simp at hf; omega⟩
        simp only [allF, waitF, hd, prun, pflush]
        rw [if_pos ⟨by simp, by first | rfl | trivial, hb, by simpa using hn⟩]
        refine ⟨?_, rfl⟩
        rw [List.drop_of_length_le (by simp)]
        cases g <;> simp [allF]
  | cons c l ih =>
    have h0 : ∀ f, (c :: l).length ≤ f → allF f (c :: l) = (prun ((pbegin c), beginR c) l).2 ++ pflush (prun ((pbegin c), beginR c) l).1 ∧ waitF f (c :: l) = (prun (pbegin c, beginR c) l).1.length := by
      intro f hf
      obtain ⟨g, rfl⟩ : ∃ g, f = g + 1 := ⟨f - 1, by simp at hf; omega⟩
      rw [prun_acc]
      by_cases h1 : c < 128
      · have hk : firstOk c = false := decide_eq_false (by omega)
        have hd := dec1_low c l h1
        have hi := ih [] g (.inl rfl) (by simpa using hf)
        simp only [List.nil_append] at hi
        simp only [allF, waitF, hd, pbegin, beginR, hk, if_pos h1, List.drop_succ_cons, List.drop_zero, Bool.false_eq_true, if_false]
        rw [if_neg (by rintro ⟨_, h, _⟩ <;> omega)]
        simpa [hi.1] using hi.2
      · by_cases h2 : firstOk c = true
        · have hb : beginsL [c] = true := by
            have := need_bd c
            simp [beginsL, h2, fitsAll]; omega
          have hi := ih [c] (g + 1) (.inr ⟨hb, by have := need_bd c; simp; omega⟩) (by simpa using hf)
          simp only [pbegin, beginR, h2, if_neg h1, if_true, List.nil_append]
          exact hi
        · have hk : firstOk c = false := by simpa using h2
          have hd := dec1_none c l h1 hk
          have hi := ih [] g (.inl rfl) (by simpa using hf)
          simp only [List.nil_append] at hi
          simp only [allF, waitF, hd, pbegin, beginR, hk, if_neg h1, List.drop_succ_cons, List.drop_zero, Bool.false_eq_true, if_false]
          rw [if_neg (by rintro ⟨_, _, h, _⟩; simp [beginsL, hk] at h)]
          simpa [hi.1] using hi.2
    intro p f hp hf
    rcases hp with rfl | ⟨hb, hn⟩
    · exact h0 f hf
    · cases p with
      | nil => simp [beginsL] at hb
      | cons a t =>
        have hn' : (t.length : Int) + 1 < need a := by simpa using hn
        by_cases hfit : fits a t c = true
        · by_cases hfull : (t.length : Int) + 2 = need a
          · have hd := dec1_full a t c l hb hfull hfit
            obtain ⟨g, rfl⟩ : ∃ g, f = g + 1 := ⟨f - 1, by simp at hf; omega⟩
            have hi := ih [] g (.inl rfl) (by simp at hf ⊢; omega)
            simp only [List.nil_append] at hi
            have e : (a :: (t ++ c :: l)).drop (t.length + 2) = l := by
              rw [List.append_cons, ← List.cons_append]
              exact List.drop_left' (by simp)
            rw [List.cons_append] at hd ⊢
            simp only [allF, waitF, hd, e]
            have hs : pstep (a :: t) c = ([], [val (a :: t ++ [c])]) := by simp [pstep, hfit, hfull]
            have hr : prun (a :: t, []) (c :: l) = prun ([], [val (a :: t ++ [c])]) l := by simp only [prun, hs, List.nil_append]
            rw [hr, prun_acc, if_neg (by rintro ⟨h1, _, _, h2⟩; simp at h1 h2; omega)]
            simpa [hi.1] using hi.2
          · have hs : pstep (a :: t) c = (a :: t ++ [c], []) := by simp [pstep, hfit, hfull]
            have hr : prun (a :: t, []) (c :: l) = prun (a :: t ++ [c], []) l := by simp only [prun, hs, List.append_nil]
            have hb2 := beginsL_snoc a t c hb
            rw [hfit, decide_eq_true (by omega)] at hb2
            have hi := ih (a :: t ++ [c]) f (.inr ⟨hb2, by simp; omega⟩) (by simpa using hf)
            rw [hr, List.append_cons]
            exact hi
        · have hfit' : fits a t c = false := by simpa using hfit
          have hd := dec1_part a t (c :: l) hb hn' (fun x r' e => by injection e with e1; rw [← e1]; exact hfit')
          obtain ⟨g, rfl⟩ : ∃ g, f = g + 1 := ⟨f - 1, by simp at hf; omega⟩
          have hi := h0 g (by simp at hf ⊢; omega)
          have e : (a :: (t ++ c :: l)).drop (t.length + 1) = c :: l := by
            rw [← List.cons_append]
            exact List.drop_left' (by simp)
          have hs : pstep (a :: t) c = (pbegin c, 65533 :: beginR c) := by simp [pstep, hfit']
          have hr : prun (a :: t, []) (c :: l) = prun (pbegin c, 65533 :: beginR c) l := by simp only [prun, hs, List.nil_append]
          rw [List.cons_append] at hd ⊢
          simp only [allF, waitF, hd, e]
          rw [prun_acc] at hi
          rw [hr, prun_acc, if_neg (by rintro ⟨h1, _⟩; simp at h1 <;> omega)]
          simpa [hi.1] using hi.2
theorem all_eq (l : List Int) (f : Nat) (hf : l.length ≤ f) : allF f l = pall l := (run_all l [] f (.inl rfl) hf).1
theorem wait_eq (l : List Int) (f : Nat) (hf : l.length ≤ f) : waitF f l = (prun ([], []) l).1.length := (run_all l [] f (.inl rfl) hf).2
end Go.Proofs.Ytlpjehmanodhpaa
