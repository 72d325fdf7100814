import Derived.Test.YtnengimekcnfhaaDoorU1
import Derived.StillTailTactics
set_option linter.unusedSimpArgs false
set_option linter.unusedVariables false
namespace Go.Proofs.YtnengimekcnfhaaDoor
/-! The document's answer, plainly: what stands at the head of bytes. -/
def fitsAll (a : Int) : List Int → Bool
  | [] => true
  | x :: r => decide (lo a ≤ x ∧ x ≤ hi a) && r.all fun y => decide (128 ≤ y ∧ y ≤ 191)
def beginsL : List Int → Bool
  | [] => false
  | a :: t => firstOk a && (decide ((t.length : Int) + 1 ≤ need a) && fitsAll a t)
def cntF (l : List Int) : Nat → Nat → Nat
  | 0, n => n
  | f + 1, n => if n < l.length ∧ beginsL (l.take (n + 1)) = true then cntF l f (n + 1) else n
def cnt (l : List Int) : Nat := cntF l 4 0
def formV (l : List Int) (n : Nat) : Int := val (l.take n)
def dec1 (l : List Int) : Int × Nat :=
  match l with
  | [] => (0, 1)
  | c :: _ => if c < 128 then (c, 1) else if cnt l = 0 then (65533, 1) else if (cnt l : Int) = need c then (formV l (cnt l), cnt l) else (65533, cnt l)
def allF : Nat → List Int → List Int
  | 0, _ => []
  | _ + 1, [] => []
  | f + 1, c :: l => (dec1 (c :: l)).1 :: allF f ((c :: l).drop (dec1 (c :: l)).2)
def waitF : Nat → List Int → Nat
  | 0, _ => 0
  | _ + 1, [] => 0
  | f + 1, c :: l => if (dec1 (c :: l)).2 = (c :: l).length ∧ (dec1 (c :: l)).1 = 65533 ∧ beginsL (c :: l) = true ∧ ((c :: l).length : Int) < need c then (c :: l).length else waitF f ((c :: l).drop (dec1 (c :: l)).2)
theorem cntF_eq (l : List Int) (n : Nat) (h1 : ∀ i, i < n → i < l.length ∧ beginsL (l.take (i + 1)) = true) (h2 : n = 4 ∨ ¬ (n < l.length ∧ beginsL (l.take (n + 1)) = true)) :
    ∀ f m, m ≤ n → m + f = 4 → cntF l f m = n := by
  intro f
  induction f with
  | zero => intro m hm hf; show m = n; have : n ≤ 4 := by
              rcases h2 with h2 | h2
              · omega
              · rcases Nat.lt_or_ge 4 n with h | h
                · exfalso
                  have h3 := h1 4 h
                  have : (l.take 5).length = 5 := by rw [List.length_take]; omega
                  cases hl : l.take 5 with
                  | nil => rw [hl] at this; simp at this
                  | cons a t =>
                    rw [hl] at this
                    have h4 := h3.2
                    rw [hl] at h4
                    simp only [beginsL, Bool.and_eq_true, decide_eq_true_eq] at h4
                    have := need_bd a
                    simp only [List.length_cons] at *
                    omega
                · exact h
            omega
  | succ f ih =>
    intro m hm hf
    unfold cntF
    rcases Nat.lt_or_ge m n with h | h
    · rw [if_pos (h1 m h)]; exact ih (m + 1) h (by omega)
    · obtain rfl : m = n := by omega
      rw [if_neg]
      rcases h2 with h2 | h2
      · omega
      · exact h2
theorem beginsL_pre {a : Int} {t : List Int} (h : beginsL (a :: t) = true) (i : Nat) : beginsL (a :: t.take i) = true := by
  simp only [beginsL, Bool.and_eq_true, decide_eq_true_eq] at *
  refine ⟨h.1, ?_, ?_⟩
  · rw [List.length_take]; omega
  · cases t with
    | nil => simp [fitsAll]
    | cons x r =>
      cases i with
      | zero => simp [fitsAll]
      | succ i =>
        have h2 := h.2.2
        simp only [fitsAll, List.take_succ_cons, Bool.and_eq_true, List.all_eq_true] at *
        exact ⟨h2.1, fun y hy => h2.2 y (List.mem_of_mem_take hy)⟩
theorem beginsL_snoc (a : Int) (t : List Int) (c : Int) (h : beginsL (a :: t) = true) : beginsL (a :: t ++ [c]) = (decide ((t.length : Int) + 2 ≤ need a) && fits a t c) := by
  simp only [beginsL, Bool.and_eq_true, decide_eq_true_eq, List.cons_append, List.length_append, List.length_singleton] at *
  rw [h.1, Bool.true_and]
  have e : decide (((t.length + 1 : Nat) : Int) + 1 ≤ need a) = decide ((t.length : Int) + 2 ≤ need a) := decide_eq_decide.2 (by omega)
  rw [e]
  congr 1
  cases t with
  | nil => simp [fitsAll, fits]
  | cons x r =>
    have h2 := h.2.2
    simp only [fitsAll, Bool.and_eq_true] at h2
    simp only [fitsAll, List.cons_append, List.all_append, h2.1, h2.2, Bool.true_and, fits]
    simp
/-- Bytes that wait. -/
def Pend (p : List Int) : Prop := p = [] ∨ (beginsL p = true ∧ ((p.length : Int) < need (p.headD 0)))
theorem cnt_more (a : Int) (t : List Int) (r : List Int) (h : beginsL (a :: t) = true) (hr : ∀ c r', r = c :: r' → beginsL (a :: t ++ [c]) = false) : cnt (a :: t ++ r) = t.length + 1 := by
  have hb : ∀ i, i < t.length + 1 → i < (a :: t ++ r).length ∧ beginsL ((a :: t ++ r).take (i + 1)) = true := by
    intro i hi
    refine ⟨by simp; omega, ?_⟩
    rw [List.take_append_of_le_length (by simp; omega), List.take_succ_cons]
    exact beginsL_pre h i
  refine cntF_eq _ (t.length + 1) hb (.inr ?_) 4 0 (by omega) rfl
  rintro ⟨h1, h2⟩
  cases r with
  | nil => simp at h1
  | cons c r' =>
    have h3 := hr c r' rfl
    rw [List.append_cons, List.take_append_of_le_length (by simp), List.take_of_length_le (by simp)] at h2
    rw [h3] at h2
    cases h2
theorem cnt_none (c : Int) (l : List Int) (h : firstOk c = false) : cnt (c :: l) = 0 := by
  refine cntF_eq _ 0 (fun i hi => by omega) (.inr ?_) 4 0 (by omega) rfl
  rintro ⟨_, h2⟩
  simp [beginsL, h] at h2
theorem dec1_low (c : Int) (l : List Int) (h : c < 128) : dec1 (c :: l) = (c, 1) := by simp [dec1, h]
theorem dec1_none (c : Int) (l : List Int) (h : ¬ c < 128) (hf : firstOk c = false) : dec1 (c :: l) = (65533, 1) := by simp [dec1, h, cnt_none c l hf]
theorem firstOk_of {a : Int} {t : List Int} (h : beginsL (a :: t) = true) : firstOk a = true ∧ ¬ a < 128 := by
  simp only [beginsL, Bool.and_eq_true] at h
  refine ⟨h.1, ?_⟩
  have := of_decide_eq_true h.1
  omega
theorem dec1_part (a : Int) (t : List Int) (r : List Int) (h : beginsL (a :: t) = true) (hn : (t.length : Int) + 1 < need a) (hr : ∀ c r', r = c :: r' → fits a t c = false) : dec1 (a :: t ++ r) = (65533, t.length + 1) := by
  have hc := cnt_more a t r h (fun c r' e => by rw [beginsL_snoc a t c h, hr c r' e, Bool.and_false])
  have hf := (firstOk_of h).2
  rw [List.cons_append] at *
  simp only [dec1, hc, if_neg hf]
  rw [if_neg (by omega), if_neg (by omega)]
theorem dec1_full (a : Int) (t : List Int) (c : Int) (r : List Int) (h : beginsL (a :: t) = true) (hn : (t.length : Int) + 2 = need a) (hc : fits a t c = true) : dec1 (a :: t ++ c :: r) = (val (a :: t ++ [c]), t.length + 2) := by
  have h2 : beginsL (a :: (t ++ [c])) = true := by
    have := beginsL_snoc a t c h
    rw [hc, decide_eq_true (by omega)] at this
    exact this
  have hc2 := cnt_more a (t ++ [c]) r h2 (fun x r' e => by
    rw [beginsL_snoc a (t ++ [c]) x h2, decide_eq_false (by simp; omega), Bool.false_and])
  have hf := (firstOk_of h).2
  have e : a :: t ++ c :: r = a :: (t ++ [c]) ++ r := by simp
  rw [e]
  rw [List.cons_append] at *
  simp only [dec1, hc2, if_neg hf]
  rw [if_neg (by simp), if_pos (by simp; omega)]
  have e2 : (t ++ c :: r).take (t.length + 1) = t ++ [c] := by
    rw [List.append_cons]
    exact List.take_left' (by simp)
  simp [formV, e2]
theorem prun_acc (l : List Int) : ∀ (p o : List Int), prun (p, o) l = ((prun (p, []) l).1, o ++ (prun (p, []) l).2) := by
  induction l with
  | nil => intro p o; simp [prun]
  | cons c l ih =>
    intro p o
    simp only [prun]
    rw [ih _ (o ++ _), ih _ ([] ++ _)]
    simp
theorem run_all (l : List Int) : ∀ (p : List Int) (f : Nat), Pend p → (p ++ l).length ≤ f →
    allF f (p ++ l) = (prun (p, []) l).2 ++ pflush (prun (p, []) l).1 ∧ waitF f (p ++ l) = (prun (p, []) l).1.length := by
  induction l with
  | nil =>
    intro p f hp hf
    rcases hp with rfl | ⟨hb, hn⟩
    · cases f <;> simp [allF, waitF, prun, pflush]
    · cases p with
      | nil => simp [beginsL] at hb
      | cons a t =>
        have hn' : (t.length : Int) + 1 < need a := by simpa using hn
        have hd := dec1_part a t [] hb hn' (fun _ _ e => by cases e)
        rw [List.append_nil] at hd hf ⊢
        obtain ⟨g, rfl⟩ : ∃ g, f = g + 1 := ⟨f - 1, by simp at hf; omega⟩
        simp only [allF, waitF, hd, prun, pflush]
        rw [if_pos ⟨by simp, by first | rfl | trivial, hb, by simpa using hn⟩]
        refine ⟨?_, rfl⟩
        rw [List.drop_of_length_le (by simp)]
        cases g <;> simp [allF]
  | cons c l ih =>
    have h0 : ∀ f, (c :: l).length ≤ f → allF f (c :: l) = (prun ((pbegin c), beginR c) l).2 ++ pflush (prun ((pbegin c), beginR c) l).1 ∧ waitF f (c :: l) = (prun (pbegin c, beginR c) l).1.length := by
      intro f hf
      obtain ⟨g, rfl⟩ : ∃ g, f = g + 1 := ⟨f - 1, by simp at hf; omega⟩
      rw [prun_acc]
      by_cases h1 : c < 128
      · have hk : firstOk c = false := decide_eq_false (by omega)
        have hd := dec1_low c l h1
        have hi := ih [] g (.inl rfl) (by simpa using hf)
        simp only [List.nil_append] at hi
        simp only [allF, waitF, hd, pbegin, beginR, hk, if_pos h1, List.drop_succ_cons, List.drop_zero, Bool.false_eq_true, if_false]
        rw [if_neg (by rintro ⟨_, h, _⟩ <;> omega)]
        simpa [hi.1] using hi.2
      · by_cases h2 : firstOk c = true
        · have hb : beginsL [c] = true := by
            have := need_bd c
            simp [beginsL, h2, fitsAll]; omega
          have hi := ih [c] (g + 1) (.inr ⟨hb, by have := need_bd c; simp; omega⟩) (by simpa using hf)
          simp only [pbegin, beginR, h2, if_neg h1, if_true, List.nil_append]
          exact hi
        · have hk : firstOk c = false := by simpa using h2
          have hd := dec1_none c l h1 hk
          have hi := ih [] g (.inl rfl) (by simpa using hf)
          simp only [List.nil_append] at hi
          simp only [allF, waitF, hd, pbegin, beginR, hk, if_neg h1, List.drop_succ_cons, List.drop_zero, Bool.false_eq_true, if_false]
          rw [if_neg (by rintro ⟨_, _, h, _⟩; simp [beginsL, hk] at h)]
          simpa [hi.1] using hi.2
    intro p f hp hf
    rcases hp with rfl | ⟨hb, hn⟩
    · exact h0 f hf
    · cases p with
      | nil => simp [beginsL] at hb
      | cons a t =>
        have hn' : (t.length : Int) + 1 < need a := by simpa using hn
        by_cases hfit : fits a t c = true
        · by_cases hfull : (t.length : Int) + 2 = need a
          · have hd := dec1_full a t c l hb hfull hfit
            obtain ⟨g, rfl⟩ : ∃ g, f = g + 1 := ⟨f - 1, by simp at hf; omega⟩
            have hi := ih [] g (.inl rfl) (by simp at hf ⊢; omega)
            simp only [List.nil_append] at hi
            have e : (a :: (t ++ c :: l)).drop (t.length + 2) = l := by
              rw [List.append_cons, ← List.cons_append]
              exact List.drop_left' (by simp)
            rw [List.cons_append] at hd ⊢
            simp only [allF, waitF, hd, e]
            have hs : pstep (a :: t) c = ([], [val (a :: t ++ [c])]) := by simp [pstep, hfit, hfull]
            have hr : prun (a :: t, []) (c :: l) = prun ([], [val (a :: t ++ [c])]) l := by simp only [prun, hs, List.nil_append]
            rw [hr, prun_acc, if_neg (by rintro ⟨h1, _, _, h2⟩; simp at h1 h2; omega)]
            simpa [hi.1] using hi.2
          · have hs : pstep (a :: t) c = (a :: t ++ [c], []) := by simp [pstep, hfit, hfull]
            have hr : prun (a :: t, []) (c :: l) = prun (a :: t ++ [c], []) l := by simp only [prun, hs, List.append_nil]
            have hb2 := beginsL_snoc a t c hb
            rw [hfit, decide_eq_true (by omega)] at hb2
            have hi := ih (a :: t ++ [c]) f (.inr ⟨hb2, by simp; omega⟩) (by simpa using hf)
            rw [hr, List.append_cons]
            exact hi
        · have hfit' : fits a t c = false := by simpa using hfit
          have hd := dec1_part a t (c :: l) hb hn' (fun x r' e => by injection e with e1; rw [← e1]; exact hfit')
          obtain ⟨g, rfl⟩ : ∃ g, f = g + 1 := ⟨f - 1, by simp at hf; omega⟩
          have hi := h0 g (by simp at hf ⊢; omega)
          have e : (a :: (t ++ c :: l)).drop (t.length + 1) = c :: l := by
            rw [← List.cons_append]
            exact List.drop_left' (by simp)
          have hs : pstep (a :: t) c = (pbegin c, 65533 :: beginR c) := by simp [pstep, hfit']
          have hr : prun (a :: t, []) (c :: l) = prun (pbegin c, 65533 :: beginR c) l := by simp only [prun, hs, List.nil_append]
          rw [List.cons_append] at hd ⊢
          simp only [allF, waitF, hd, e]
          rw [prun_acc] at hi
          rw [hr, prun_acc, if_neg (by rintro ⟨h1, _⟩; simp at h1 <;> omega)]
          simpa [hi.1] using hi.2
theorem all_eq (l : List Int) (f : Nat) (hf : l.length ≤ f) : allF f l = pall l := (run_all l [] f (.inl rfl) hf).1
theorem wait_eq (l : List Int) (f : Nat) (hf : l.length ≤ f) : waitF f l = (prun ([], []) l).1.length := (run_all l [] f (.inl rfl) hf).2
end Go.Proofs.YtnengimekcnfhaaDoor
set_option linter.unusedSimpArgs false
set_option linter.unusedVariables false
namespace Go.Proofs.YtnengimekcnfhaaDoor
open Go.RowKit Go.Proofs.YtnengimekcnfhaaDoorW.PrintWords
theorem fitsAll_snoc (a : Int) (t : List Int) (c : Int) : fitsAll a (t ++ [c]) = (fitsAll a t && fits a t c) := by
  cases t with
  | nil => simp [fitsAll, fits]
  | cons x r => simp [fitsAll, fits, List.all_append, Bool.and_assoc]
theorem fitsAll_pre (a : Int) (t r : List Int) (h : fitsAll a t = false) : fitsAll a (t ++ r) = false := by
  cases t with
  | nil => simp [fitsAll] at h
  | cons x q =>
    simp only [fitsAll, List.cons_append, List.all_append] at *
    rcases Bool.and_eq_false_iff.1 h with h | h
    · rw [h, Bool.false_and]
    · rw [h, Bool.false_and, Bool.and_false]
set_option maxHeartbeats 2000000 in
theorem begins_any (w : World) (A : Option Addr) (cap : Nat) (a : Int) (t : List Int) (n : Nat) (hn : n = t.length + 1) (hC : Kd.C (Kd.int .u8) w A n (a :: t)) (hr : ∀ x ∈ a :: t, 0 ≤ x ∧ x ≤ 255) (hl : t.length ≤ 1000000000000) :
    Calls Tryd.prog 48 #[.slice A n cap] w fun e w' => e = .returned (.bool (beginsL (a :: t))) ∧ w' = w := by
  obtain ⟨ad, e, hc0⟩ := C_at hC 0 (by simp)
  subst e
  have ha := hr a (by simp)
  have hca : w.cell? ad = some (.int .u8 a) := by simpa [Addr.add] using hc0
  simp only [List.getElem_cons_zero] at hc0
  by_cases h1 : firstOk a = true
  · have h1' := of_decide_eq_true h1
    by_cases h2 : ((t.length : Int) + 1 ≤ need a)
    · rcases (show (a < 224 ∧ need a = 2) ∨ (224 ≤ a ∧ a < 240 ∧ need a = 3) ∨ (240 ≤ a ∧ need a = 4) from by unfold need; split <;> (try split) <;> omega) with ⟨h, hna⟩ | ⟨h, h', hna⟩ | ⟨h, hna⟩
      all_goals
        rw [hna] at h2
        have HN := hid hna
        clear hna
        have hn2 : (n : Int) ≤ 4 := by omega
        have HNN := hid hn
        have hn1 : (t.length : Int) + 1 = n := by omega
        clear hn
        go_enter Tryd.func48, Tryd.ntmps48
        go_wp2
        go_loop [5] (fun v5 => ∃ k : Nat, 1 ≤ k ∧ k ≤ n ∧ v5 = .int .i64 k ∧ Aside0 (fitsAll a (t.take (k - 1)) = true)) (fun v5 => n - (intOf v5).toNat)
        case atStart => exact ⟨1, by omega, by omega, rfl, ⟨by simp [fitsAll]⟩⟩
        case round =>
          obtain ⟨k, hk0, hk, rfl, hfa⟩ := hrel
          by_cases hlt : k < n
          · obtain ⟨ad', e, hcell⟩ := C_at hC k (by simp; omega)
            obtain rfl : ad = ad' := by injection e
            have hkt : k - 1 < t.length := by omega
            have hx : (a :: t)[k]'(by simp; omega) = t[k - 1] := by
              obtain ⟨j, rfl⟩ : ∃ j, k = j + 1 := ⟨k - 1, by omega⟩
              rfl
            rw [hx] at hcell
            have HT := hid (List.take_succ_eq_append_getElem hkt)
            have hrx := hr t[k - 1] (List.mem_cons_of_mem _ (List.getElem_mem hkt))
            generalize hxx : t[k - 1] = x at *
            clear hx hxx e
            have hfs := fitsAll_snoc a (t.take (k - 1)) x
            rw [hfa.out, ← HT.out, show k - 1 + 1 = k from by omega] at hfs
            have hfs : Hid (fitsAll a (t.take k) = (true && fits a (t.take (k - 1)) x)) := hfs
            have HTD := hid (List.take_append_drop k t)
            by_cases hk1 : k = 1
            · have hk2 : ((k : Int) == 1) = true := by simp; omega
              have HY : Hid (t.take (k - 1) = []) := by rw [hk1]; rfl
              clear hk1
              go_wp2
              all_goals
                simp only [beq_iff_eq, beq_eq_false_iff_ne, ne_eq] at *
                first
                | (go_round
                   case rel => exact ⟨k + 1, by omega, by omega, by go_num, ⟨by
                    show fitsAll a (t.take k) = true
                    rw [hfs.out, HY.out]; simp only [fits, lo, hi, Bool.true_and]; apply decide_eq_true; (repeat' split) <;> omega⟩⟩
                   case measure => simp [intOf]; omega)
                | (go_ret
                   refine ⟨?_, rfl⟩
                   have h9 : fitsAll a (t.take k) = false := by
                    rw [hfs.out, HY.out]; simp only [fits, lo, hi, Bool.true_and]; apply decide_eq_false; (repeat' split) <;> omega
                   have h10 := fitsAll_pre a _ (t.drop k) h9
                   rw [HTD.out] at h10
                   have hB : beginsL (a :: t) = false := by simp only [beginsL, h10, Bool.and_false]
                   rw [hB]
                   rfl)
            · have hk2 : ((k : Int) == 1) = false := by simp; omega
              have hne : t.take (k - 1) ≠ [] := by
                intro e
                have := congrArg List.length e
                rw [List.length_take, List.length_nil] at this
                omega
              obtain ⟨y, q, hyq⟩ := List.exists_cons_of_ne_nil hne
              have HY := hid hyq
              clear hyq hne
              go_wp2
              all_goals
                simp only [beq_iff_eq, beq_eq_false_iff_ne, ne_eq] at *
                first
                | (go_round
                   case rel => exact ⟨k + 1, by omega, by omega, by go_num, ⟨by
                    show fitsAll a (t.take k) = true
                    rw [hfs.out, HY.out]; simp only [fits, Bool.true_and]; apply decide_eq_true; omega⟩⟩
                   case measure => simp [intOf]; omega)
                | (go_ret
                   refine ⟨?_, rfl⟩
                   have h9 : fitsAll a (t.take k) = false := by
                    rw [hfs.out, HY.out]; simp only [fits, Bool.true_and]; apply decide_eq_false; omega
                   have h10 := fitsAll_pre a _ (t.drop k) h9
                   rw [HTD.out] at h10
                   have hB : beginsL (a :: t) = false := by simp only [beginsL, h10, Bool.and_false]
                   rw [hB]
                   rfl)
          · obtain rfl : k = n := by omega
            go_wp2
            go_ret
            refine ⟨?_, rfl⟩
            have h9 := hfa.out
            rw [List.take_of_length_le (by omega)] at h9
            have hB : beginsL (a :: t) = true := by
              simp only [beginsL, h1, h9, HN.out, Bool.and_true, Bool.true_and]
              exact decide_eq_true h2
            rw [hB]
            rfl
    · have hb : beginsL (a :: t) = false := by simp only [beginsL, decide_eq_false h2, Bool.false_and, Bool.and_false]
      rw [hb]
      rcases (show (a < 224 ∧ need a = 2) ∨ (224 ≤ a ∧ a < 240 ∧ need a = 3) ∨ (240 ≤ a ∧ need a = 4) from by unfold need; split <;> (try split) <;> omega) with ⟨h, hna⟩ | ⟨h, h', hna⟩ | ⟨h, hna⟩
      all_goals
        rw [hna] at h2
        clear hna
        have hn2 : ¬ ((n : Int) ≤ 4) ∨ True := .inr trivial
        have hn3 : (n : Int) = t.length + 1 := by omega
        have h3 : (t.length : Int) + 1 = n := by omega
        rw [h3] at h2
        clear hn h3 hn3 hn2
        go_enter Tryd.func48, Tryd.ntmps48
        go_wp2
        go_ret
        exact ⟨rfl, rfl⟩
  · have hb : beginsL (a :: t) = false := by simp only [beginsL, Bool.eq_false_iff.2 h1, Bool.false_and]
    have h1' := of_decide_eq_false (Bool.eq_false_iff.2 h1)
    have h1' : a < 194 ∨ (¬ a < 194 ∧ 244 < a) := by omega
    rw [hb]
    clear h1
    rcases h1' with h | ⟨h, h'⟩
    all_goals
      go_enter Tryd.func48, Tryd.ntmps48
      go_wp2
      go_ret
      exact ⟨rfl, rfl⟩
end Go.Proofs.YtnengimekcnfhaaDoor
set_option linter.unusedSimpArgs false
set_option linter.unusedVariables false
namespace Go.Proofs.YtnengimekcnfhaaDoor
open Go.RowKit Go.Proofs.YtnengimekcnfhaaDoorW.PrintWords
theorem info_u8 : (Tryd.prog.info? 5).map (fun i => (i.zero, i.size, i.bytes)) = some (some (.int .u8 0), 1, 1) := by kernel_rfl
theorem drop_take_at {l : List Int} {p m : Nat} : (l.take (p + m)).drop p = (l.drop p).take m := by
  rw [List.drop_take]; congr 1; omega
theorem elem_drop {l L : List Int} {p : Nat} (hL : l.drop p = L) (j : Nat) (hj : j < L.length) : ∃ h : p + j < l.length, l[p + j] = L[j] := by
  subst hL
  rw [List.length_drop] at hj
  exact ⟨by omega, by simp⟩
theorem add_pos (ad : Addr) {n : Nat} (h : n ≠ 0) : ad.add n = ⟨ad.block, ad.off + n, none⟩ := by simp [Addr.add, h]
theorem dec1_of (c : Int) (r : List Int) (h : ¬ c < 128) (n : Nat) (hn : cnt (c :: r) = n) : dec1 (c :: r) = if n = 0 then (65533, 1) else if (n : Int) = need c then (formV (c :: r) n, n) else (65533, n) := by
  simp only [dec1, if_neg h, hn]
theorem At_cases (c : Int) (r : List Int) (n : Nat) (h1 : n = 0 ∨ beginsL ((c :: r).take n) = true) (hn : cnt (c :: r) = n) (hlow : ¬ c < 128) (hn4 : n ≤ 4) (hnr : n ≤ r.length + 1) :
    (n = 0 ∧ dec1 (c :: r) = (65533, 1)) ∨
    (n = 2 ∧ c < 224 ∧ ∃ x r', r = x :: r' ∧ dec1 (c :: r) = (c % 32 * 64 + x % 64, 2)) ∨
    (n = 3 ∧ 224 ≤ c ∧ c < 240 ∧ ∃ x y r', r = x :: y :: r' ∧ dec1 (c :: r) = (c % 16 * 4096 + x % 64 * 64 + y % 64, 3)) ∨
    (n = 4 ∧ 240 ≤ c ∧ ∃ x y z r', r = x :: y :: z :: r' ∧ dec1 (c :: r) = (c % 8 * 262144 + x % 64 * 4096 + y % 64 * 64 + z % 64, 4)) ∨
    (n = 1 ∧ dec1 (c :: r) = (65533, 1)) ∨ (n = 2 ∧ 224 ≤ c ∧ dec1 (c :: r) = (65533, 2)) ∨ (n = 3 ∧ 240 ≤ c ∧ dec1 (c :: r) = (65533, 3)) := by
  have hd := dec1_of c r hlow n hn
  rcases h1 with rfl | h1
  · exact .inl ⟨rfl, by simpa using hd⟩
  · rcases Nat.eq_zero_or_pos n with rfl | hpos
    · exact .inl ⟨rfl, by simpa using hd⟩
    obtain ⟨m, rfl⟩ : ∃ m, n = m + 1 := ⟨n - 1, by omega⟩
    rw [List.take_succ_cons] at h1
    simp only [beginsL, Bool.and_eq_true, decide_eq_true_eq, List.length_take] at h1
    have h2 := of_decide_eq_true h1.1
    have h3 := h1.2.1
    have hneed : (c < 224 ∧ need c = 2) ∨ (224 ≤ c ∧ c < 240 ∧ need c = 3) ∨ (240 ≤ c ∧ need c = 4) := by unfold need; split <;> (try split) <;> omega
    rw [if_neg (by omega)] at hd
    by_cases hfull : ((m + 1 : Nat) : Int) = need c
    · rw [if_pos hfull] at hd
      rcases hneed with ⟨ha, hb⟩ | ⟨ha, ha', hb⟩ | ⟨ha, hb⟩
      · obtain rfl : m = 1 := by omega
        match r, hnr with
        | x :: r', _ => exact .inr (.inl ⟨rfl, ha, x, r', rfl, by rw [hd]; simp [formV, val, lead, ha]⟩)
      · obtain rfl : m = 2 := by omega
        match r, hnr with
        | x :: y :: r', _ =>
          refine .inr (.inr (.inl ⟨rfl, ha, ha', x, y, r', rfl, ?_⟩))
          rw [hd]
          simp only [formV, val, lead, List.take_succ_cons, List.take_zero, List.foldl_cons, List.foldl_nil]
          rw [if_neg (by omega), if_pos ha']
          exact Prod.ext (by show (_ : Int) = _; omega) rfl
      · obtain rfl : m = 3 := by omega
        match r, hnr with
        | x :: y :: z :: r', _ =>
          refine .inr (.inr (.inr (.inl ⟨rfl, ha, x, y, z, r', rfl, ?_⟩)))
          rw [hd]
          simp only [formV, val, lead, List.take_succ_cons, List.take_zero, List.foldl_cons, List.foldl_nil]
          rw [if_neg (by omega), if_neg (by omega)]
          exact Prod.ext (by show (_ : Int) = _; omega) rfl
    · rw [if_neg hfull] at hd
      rcases (show m = 0 ∨ (m = 1 ∧ 224 ≤ c) ∨ (m = 2 ∧ 240 ≤ c) from by omega) with rfl | ⟨rfl, h⟩ | ⟨rfl, h⟩
      · exact .inr (.inr (.inr (.inr (.inl ⟨rfl, hd⟩))))
      · exact .inr (.inr (.inr (.inr (.inr (.inl ⟨rfl, h, hd⟩)))))
      · exact .inr (.inr (.inr (.inr (.inr (.inr ⟨rfl, h, hd⟩)))))
set_option maxHeartbeats 8000000 in
set_option maxRecDepth 100000 in
theorem At_any (w : World) (A : Option Addr) (cap : Nat) (l : List Int) (p : Nat) (c : Int) (r : List Int) (hL : l.drop p = c :: r) (hC : Kd.C (Kd.int .u8) w A l.length l) (hcap : l.length ≤ cap) (hr : ∀ x ∈ l, 0 ≤ x ∧ x ≤ 255) (hl : l.length ≤ 1000000000000) :
    Calls Tryd.prog 31 #[.slice A l.length cap, .int .i64 p] w fun e w' => e = .returned (.agg #[.int .i64 (dec1 (c :: r)).1, .int .i64 (dec1 (c :: r)).2]) ∧ Fr NoB w w' := by
  have hlen : l.length = p + (r.length + 1) := by
    have := congrArg List.length hL
    rw [List.length_drop, List.length_cons] at this
    omega
  have helem : ∀ j (hj : j < (c :: r).length), ∃ ad, A = some ad ∧ (∀ o, (w.alloc o).cell? (ad.add (p + j)) = some (.int .u8 ((c :: r)[j]))) ∧ 0 ≤ (c :: r)[j] ∧ (c :: r)[j] ≤ 255 := by
    intro j hj
    obtain ⟨h1, h2⟩ := elem_drop hL j hj
    obtain ⟨ad, e, hc⟩ := C_at hC (p + j) h1
    rw [h2] at hc
    exact ⟨ad, e, fun o => pw_cell_below (below_alloc (Below.refl _ _) o) hc, by rw [← h2]; exact hr _ (List.getElem_mem h1)⟩
  obtain ⟨ad, e, hc0, hc1, hc2⟩ := helem 0 (by simp)
  subst e
  simp only [List.getElem_cons_zero, Nat.add_zero] at hc0 hc1 hc2
  by_cases hlow : c < 128
  · have HD : Hid (dec1 (c :: r) = (c, 1)) := dec1_low c r hlow
    clear helem hL
    have hL := hid hlen
    have hp : (p : Int) < l.length := by omega
    go_enter Tryd.func31, Tryd.ntmps31
    go_wp2
    exact bodyPost_ret (v := .agg #[.int .i64 c, .int .i64 1]) (by simp [results, Tryd.results31, go_sem]) rfl ⟨by rw [HD.out]; rfl, by repeat (first | with_reducible exact Fr.refl _ _ | with_reducible refine Fr.alloc ?_ _ | with_reducible refine Fr.drew ?_)⟩
  · have hp : (p : Int) < l.length := by omega
    have HL := hid hL
    have HLen := hid hlen
    clear hL hlen
    go_enter Tryd.func31, Tryd.ntmps31
    go_wp2
    go_loop [5] (fun v5 => ∃ n : Nat, n ≤ 4 ∧ n ≤ r.length + 1 ∧ v5 = .int .i64 n ∧ Aside0 (cntF (c :: r) (4 - n) n = cnt (c :: r) ∧ (n = 0 ∨ beginsL ((c :: r).take n) = true))) (fun v5 => 4 - (intOf v5).toNat)
    case atStart => exact ⟨0, by omega, by omega, rfl, ⟨rfl, .inl rfl⟩⟩
    case round =>
      obtain ⟨n, hn4, hnr, rfl, ⟨hcn, hbn⟩⟩ := hrel
      by_cases hgo : n < r.length + 1 ∧ n < 4
      · obtain ⟨hg1, hg2⟩ := hgo
        have hpn : (p : Int) + n < l.length := by rw [HLen.out]; omega
        obtain ⟨A', hcut, hA', hC'⟩ := cut_int (P := Tryd.prog) (k := .u8) 48 5 _ _ Tryd.underlying48 info_u8 (some ad) cap l (p : Int) ((p : Int) + n + 1) (by omega) (by omega) (by omega) hcap
        have e1 : (l.take ((p : Int) + n + 1).toNat).drop (p : Int).toNat = c :: r.take n := by
          rw [show ((p : Int) + n + 1).toNat = p + (n + 1) from by omega, Int.toNat_natCast, drop_take_at, HL.out, List.take_succ_cons]
        rw [e1] at hcut hA' hC'
        obtain ⟨m, hm⟩ : ∃ m, m = (c :: r.take n).length := ⟨_, rfl⟩
        obtain ⟨cap', hcap'⟩ : ∃ x, x = cap - (p : Int).toNat := ⟨_, rfl⟩
        rw [← hm, ← hcap'] at hcut hC'
        rw [← hm] at hA'
        have hCw : Kd.C (Kd.int .u8) (w.alloc (.cells #[.int .i64 0, .int .i64 0] 82)) A' m (c :: r.take n) := hA' _ (Kd.C_alloc hC _)
        have hrr : ∀ x ∈ c :: r.take n, 0 ≤ x ∧ x ≤ 255 := by
          intro x hx
          refine hr x (List.mem_of_mem_drop (i := p) ?_)
          rw [HL.out]
          rcases List.mem_cons.1 hx with rfl | hx
          · exact List.mem_cons_self
          · exact List.mem_cons_of_mem _ (List.mem_of_mem_take hx)
        have hlt : (r.take n).length ≤ 1000000000000 := by rw [List.length_take]; omega
        have hm' : m = (r.take n).length + 1 := hm
        have HM := hid hm'
        clear hA' e1 hm hm' hcap' hC'
        have HBN := hid hbn
        have HCN := hid hcn
        clear hbn hcn
        have HE := hid helem
        clear helem
        by_cases hB : beginsL (c :: r.take n) = true
        · have HB := hid hB
          clear hB HE
          go_wp2_with fail
          refine (begins_any _ A' cap' c (r.take n) m HM.out hCw hrr hlt).mono ?_
          rintro e w' ⟨rfl, rfl⟩
          rw [HB.out]
          go_wp2
          go_round
          case rel =>
            refine ⟨n + 1, by omega, by omega, by go_num, ⟨?_, .inr ?_⟩⟩
            · rw [← HCN.out]
              rw [show 4 - n = (4 - (n + 1)) + 1 from by omega]
              conv => rhs; unfold cntF
              rw [if_pos ⟨by simp; omega, by rw [List.take_succ_cons]; exact HB.out⟩]
            · rw [List.take_succ_cons]; exact HB.out
          case measure => simp [intOf]; omega
        · have HB : Hid (beginsL (c :: r.take n) = false) := Bool.eq_false_iff.2 hB
          have hcnt : cnt (c :: r) = n := by
            rw [← HCN.out, show 4 - n = (3 - n) + 1 from by omega]
            unfold cntF
            rw [if_neg (by rw [List.take_succ_cons, HB.out]; simp)]
          clear hB
          rcases At_cases c r n HBN.out hcnt (by omega) hn4 hnr with ⟨hn, hD⟩ | ⟨hn, hc3, x, r', hx, hD⟩ | ⟨hn, hc3, hc4, x, y, r', hx, hD⟩ | ⟨hn, hc3, x, y, z, r', hx, hD⟩ | ⟨hn, hD⟩ | ⟨hn, hc3, hD⟩ | ⟨hn, hc3, hD⟩
          all_goals
            have HD := hid hD
            clear hD hcnt
          · have hq0 : ((n : Int) == 0) = true := by rw [hn]; rfl
            have hq2 : ((n : Int) == 2) = false := by rw [hn]; rfl
            have hq3 : ((n : Int) == 3) = false := by rw [hn]; rfl
            have hq4 : ((n : Int) == 4) = false := by rw [hn]; rfl
            have HN := hid hn
            clear hn HE
            go_wp2_with fail
            refine (begins_any _ A' cap' c (r.take n) m HM.out hCw hrr hlt).mono ?_
            rintro e w' ⟨rfl, rfl⟩
            rw [HB.out]
            go_wp2
            exact bodyPost_ret (v := .agg #[.int .i64 (dec1 (c :: r)).1, .int .i64 (dec1 (c :: r)).2]) (by rw [HD.out]; simp [results, Tryd.results31, go_sem]; try (have := HN.out; omega)) rfl ⟨rfl, by repeat (first | with_reducible exact Fr.refl _ _ | with_reducible refine Fr.alloc ?_ _ | with_reducible refine Fr.drew ?_)⟩
          · have hq0 : ((n : Int) == 0) = false := by rw [hn]; rfl
            have hq2 : ((n : Int) == 2) = true := by rw [hn]; rfl
            have hq3 : ((n : Int) == 3) = false := by rw [hn]; rfl
            have hq4 : ((n : Int) == 4) = false := by rw [hn]; rfl
            obtain ⟨ad0, e0, hx0, hy0, hz0⟩ := HE.out 1 (by rw [hx]; simp)
            obtain rfl := Option.some.inj e0
            simp only [hx, List.getElem_cons_succ, List.getElem_cons_zero] at hx0 hy0 hz0
            simp only [add_pos ad (show p + 1 ≠ 0 from by omega)] at hx0
            have hq10 : (p : Int) + 1 < l.length := by rw [HLen.out, hx]; simp; omega
            have HN := hid hn
            clear hn HE e0 hx
            go_wp2_with fail
            refine (begins_any _ A' cap' c (r.take n) m HM.out hCw hrr hlt).mono ?_
            rintro e w' ⟨rfl, rfl⟩
            rw [HB.out]
            go_wp2
            exact bodyPost_ret (v := .agg #[.int .i64 (dec1 (c :: r)).1, .int .i64 (dec1 (c :: r)).2]) (by rw [HD.out]; simp [results, Tryd.results31, go_sem]; try (have := HN.out; omega)) rfl ⟨rfl, by repeat (first | with_reducible exact Fr.refl _ _ | with_reducible refine Fr.alloc ?_ _ | with_reducible refine Fr.drew ?_)⟩
          · have hq0 : ((n : Int) == 0) = false := by rw [hn]; rfl
            have hq2 : ((n : Int) == 2) = false := by rw [hn]; rfl
            have hq3 : ((n : Int) == 3) = true := by rw [hn]; rfl
            have hq4 : ((n : Int) == 4) = false := by rw [hn]; rfl
            obtain ⟨ad0, e0, hx0, hy0, hz0⟩ := HE.out 1 (by rw [hx]; simp)
            obtain rfl := Option.some.inj e0
            obtain ⟨ad1, e1, hx1, hy1, hz1⟩ := HE.out 2 (by rw [hx]; simp)
            obtain rfl := Option.some.inj e1
            simp only [hx, List.getElem_cons_succ, List.getElem_cons_zero] at hx0 hy0 hz0 hx1 hy1 hz1
            simp only [add_pos ad (show p + 1 ≠ 0 from by omega)] at hx0
            simp only [add_pos ad (show p + 2 ≠ 0 from by omega)] at hx1
            have hq10 : (p : Int) + 1 < l.length := by rw [HLen.out, hx]; simp; omega
            have hq11 : (p : Int) + 2 < l.length := by rw [HLen.out, hx]; simp; omega
            have HN := hid hn
            clear hn HE e0 e1 hx
            go_wp2_with fail
            refine (begins_any _ A' cap' c (r.take n) m HM.out hCw hrr hlt).mono ?_
            rintro e w' ⟨rfl, rfl⟩
            rw [HB.out]
            go_wp2
            have hw0 : IntKind.i64.wrap ((p : Int) + 1) = (p : Int) + 1 := IntWalk.i64_in _ (by omega)
            have hv0 : (0 : Int) ≤ (p : Int) + 1 := by omega
            have ht0 : ((p : Int) + 1).toNat = p + 1 := by omega
            have hw1 : IntKind.i64.wrap ((p : Int) + 2) = (p : Int) + 2 := IntWalk.i64_in _ (by omega)
            have hv1 : (0 : Int) ≤ (p : Int) + 2 := by omega
            have ht1 : ((p : Int) + 2).toNat = p + 2 := by omega
            have hm : c.tmod 16 = c % 16 := Int.tmod_eq_emod_of_nonneg hc1
            have hm0 : x.tmod 64 = x % 64 := Int.tmod_eq_emod_of_nonneg hy0
            have hm1 : y.tmod 64 = y % 64 := Int.tmod_eq_emod_of_nonneg hy1
            have hs0 : IntKind.i64.wrap (c % 16 * 4096) = c % 16 * 4096 := IntWalk.i64_in _ (by omega)
            have hp0 : IntKind.i64.wrap (x % 64 * 64) = x % 64 * 64 := IntWalk.i64_in _ (by omega)
            have hs1 : IntKind.i64.wrap (c % 16 * 4096 + x % 64 * 64) = c % 16 * 4096 + x % 64 * 64 := IntWalk.i64_in _ (by omega)
            have hs2 : IntKind.i64.wrap (c % 16 * 4096 + x % 64 * 64 + y % 64) = c % 16 * 4096 + x % 64 * 64 + y % 64 := IntWalk.i64_in _ (by omega)
            refine wp_region_still_tail 21 (by kernel_rfl) (by kernel_rfl) ?_
            change wpStill _ _ (World.drew _) _ _ _
            simp only [List.take_succ_cons, List.take_zero, List.drop_succ_cons, List.drop_zero]
            repeat still_step
            refine wpStill_nil ?_
            change wpList _ _ _ _ _ (World.drew _)
            go_wp2
            exact bodyPost_ret (v := .agg #[.int .i64 (dec1 (c :: r)).1, .int .i64 (dec1 (c :: r)).2]) (by rw [HD.out]; simp [results, Tryd.results31, go_sem]; try (have := HN.out; omega)) rfl ⟨rfl, by repeat (first | with_reducible exact Fr.refl _ _ | with_reducible refine Fr.alloc ?_ _ | with_reducible refine Fr.drew ?_)⟩
          · have hq0 : ((n : Int) == 0) = false := by rw [hn]; rfl
            have hq2 : ((n : Int) == 2) = false := by rw [hn]; rfl
            have hq3 : ((n : Int) == 3) = false := by rw [hn]; rfl
            have hq4 : ((n : Int) == 4) = true := by rw [hn]; rfl
            obtain ⟨ad0, e0, hx0, hy0, hz0⟩ := HE.out 1 (by rw [hx]; simp)
            obtain rfl := Option.some.inj e0
            obtain ⟨ad1, e1, hx1, hy1, hz1⟩ := HE.out 2 (by rw [hx]; simp)
            obtain rfl := Option.some.inj e1
            obtain ⟨ad2, e2, hx2, hy2, hz2⟩ := HE.out 3 (by rw [hx]; simp)
            obtain rfl := Option.some.inj e2
            simp only [hx, List.getElem_cons_succ, List.getElem_cons_zero] at hx0 hy0 hz0 hx1 hy1 hz1 hx2 hy2 hz2
            simp only [add_pos ad (show p + 1 ≠ 0 from by omega)] at hx0
            simp only [add_pos ad (show p + 2 ≠ 0 from by omega)] at hx1
            simp only [add_pos ad (show p + 3 ≠ 0 from by omega)] at hx2
            have hq10 : (p : Int) + 1 < l.length := by rw [HLen.out, hx]; simp; omega
            have hq11 : (p : Int) + 2 < l.length := by rw [HLen.out, hx]; simp; omega
            have hq12 : (p : Int) + 3 < l.length := by rw [HLen.out, hx]; simp; omega
            have HN := hid hn
            clear hn HE e0 e1 e2 hx
            go_wp2_with fail
            refine (begins_any _ A' cap' c (r.take n) m HM.out hCw hrr hlt).mono ?_
            rintro e w' ⟨rfl, rfl⟩
            rw [HB.out]
            go_wp2
            have hw0 : IntKind.i64.wrap ((p : Int) + 1) = (p : Int) + 1 := IntWalk.i64_in _ (by omega)
            have hv0 : (0 : Int) ≤ (p : Int) + 1 := by omega
            have ht0 : ((p : Int) + 1).toNat = p + 1 := by omega
            have hw1 : IntKind.i64.wrap ((p : Int) + 2) = (p : Int) + 2 := IntWalk.i64_in _ (by omega)
            have hv1 : (0 : Int) ≤ (p : Int) + 2 := by omega
            have ht1 : ((p : Int) + 2).toNat = p + 2 := by omega
            have hw2 : IntKind.i64.wrap ((p : Int) + 3) = (p : Int) + 3 := IntWalk.i64_in _ (by omega)
            have hv2 : (0 : Int) ≤ (p : Int) + 3 := by omega
            have ht2 : ((p : Int) + 3).toNat = p + 3 := by omega
            have hm : c.tmod 8 = c % 8 := Int.tmod_eq_emod_of_nonneg hc1
            have hm0 : x.tmod 64 = x % 64 := Int.tmod_eq_emod_of_nonneg hy0
            have hm1 : y.tmod 64 = y % 64 := Int.tmod_eq_emod_of_nonneg hy1
            have hm2 : z.tmod 64 = z % 64 := Int.tmod_eq_emod_of_nonneg hy2
            have hs0 : IntKind.i64.wrap (c % 8 * 262144) = c % 8 * 262144 := IntWalk.i64_in _ (by omega)
            have hp0 : IntKind.i64.wrap (x % 64 * 4096) = x % 64 * 4096 := IntWalk.i64_in _ (by omega)
            have hs1 : IntKind.i64.wrap (c % 8 * 262144 + x % 64 * 4096) = c % 8 * 262144 + x % 64 * 4096 := IntWalk.i64_in _ (by omega)
            have hp1 : IntKind.i64.wrap (y % 64 * 64) = y % 64 * 64 := IntWalk.i64_in _ (by omega)
            have hs2 : IntKind.i64.wrap (c % 8 * 262144 + x % 64 * 4096 + y % 64 * 64) = c % 8 * 262144 + x % 64 * 4096 + y % 64 * 64 := IntWalk.i64_in _ (by omega)
            have hs3 : IntKind.i64.wrap (c % 8 * 262144 + x % 64 * 4096 + y % 64 * 64 + z % 64) = c % 8 * 262144 + x % 64 * 4096 + y % 64 * 64 + z % 64 := IntWalk.i64_in _ (by omega)
            refine wp_region_still_tail 30 (by kernel_rfl) (by kernel_rfl) ?_
            change wpStill _ _ (World.drew _) _ _ _
            simp only [List.take_succ_cons, List.take_zero, List.drop_succ_cons, List.drop_zero]
            repeat still_step
            refine wpStill_nil ?_
            change wpList _ _ _ _ _ (World.drew _)
            go_wp2
            exact bodyPost_ret (v := .agg #[.int .i64 (dec1 (c :: r)).1, .int .i64 (dec1 (c :: r)).2]) (by rw [HD.out]; simp [results, Tryd.results31, go_sem]; try (have := HN.out; omega)) rfl ⟨rfl, by repeat (first | with_reducible exact Fr.refl _ _ | with_reducible refine Fr.alloc ?_ _ | with_reducible refine Fr.drew ?_)⟩
          · have hq0 : ((n : Int) == 0) = false := by rw [hn]; rfl
            have hq2 : ((n : Int) == 2) = false := by rw [hn]; rfl
            have hq3 : ((n : Int) == 3) = false := by rw [hn]; rfl
            have hq4 : ((n : Int) == 4) = false := by rw [hn]; rfl
            have HN := hid hn
            clear hn HE
            go_wp2_with fail
            refine (begins_any _ A' cap' c (r.take n) m HM.out hCw hrr hlt).mono ?_
            rintro e w' ⟨rfl, rfl⟩
            rw [HB.out]
            go_wp2
            exact bodyPost_ret (v := .agg #[.int .i64 (dec1 (c :: r)).1, .int .i64 (dec1 (c :: r)).2]) (by rw [HD.out]; simp [results, Tryd.results31, go_sem]; try (have := HN.out; omega)) rfl ⟨rfl, by repeat (first | with_reducible exact Fr.refl _ _ | with_reducible refine Fr.alloc ?_ _ | with_reducible refine Fr.drew ?_)⟩
          · have hq0 : ((n : Int) == 0) = false := by rw [hn]; rfl
            have hq2 : ((n : Int) == 2) = true := by rw [hn]; rfl
            have hq3 : ((n : Int) == 3) = false := by rw [hn]; rfl
            have hq4 : ((n : Int) == 4) = false := by rw [hn]; rfl
            have HN := hid hn
            clear hn HE
            go_wp2_with fail
            refine (begins_any _ A' cap' c (r.take n) m HM.out hCw hrr hlt).mono ?_
            rintro e w' ⟨rfl, rfl⟩
            rw [HB.out]
            go_wp2
            exact bodyPost_ret (v := .agg #[.int .i64 (dec1 (c :: r)).1, .int .i64 (dec1 (c :: r)).2]) (by rw [HD.out]; simp [results, Tryd.results31, go_sem]; try (have := HN.out; omega)) rfl ⟨rfl, by repeat (first | with_reducible exact Fr.refl _ _ | with_reducible refine Fr.alloc ?_ _ | with_reducible refine Fr.drew ?_)⟩
          · have hq0 : ((n : Int) == 0) = false := by rw [hn]; rfl
            have hq2 : ((n : Int) == 2) = false := by rw [hn]; rfl
            have hq3 : ((n : Int) == 3) = true := by rw [hn]; rfl
            have hq4 : ((n : Int) == 4) = false := by rw [hn]; rfl
            have HN := hid hn
            clear hn HE
            go_wp2_with fail
            refine (begins_any _ A' cap' c (r.take n) m HM.out hCw hrr hlt).mono ?_
            rintro e w' ⟨rfl, rfl⟩
            rw [HB.out]
            go_wp2
            exact bodyPost_ret (v := .agg #[.int .i64 (dec1 (c :: r)).1, .int .i64 (dec1 (c :: r)).2]) (by rw [HD.out]; simp [results, Tryd.results31, go_sem]; try (have := HN.out; omega)) rfl ⟨rfl, by repeat (first | with_reducible exact Fr.refl _ _ | with_reducible refine Fr.alloc ?_ _ | with_reducible refine Fr.drew ?_)⟩
      · have hcnt : cnt (c :: r) = n := by
          rw [← hcn]
          rcases Nat.lt_or_ge n 4 with h4 | h4
          · rw [show 4 - n = (3 - n) + 1 from by omega]
            unfold cntF
            rw [if_neg (by simp; omega)]
          · obtain rfl : n = 4 := by omega
            rfl
        have HBN := hid hbn
        have HE := hid helem
        clear hbn helem hcn
        by_cases hpn : (p : Int) + n < l.length
        · have hn4' : n = 4 := by
            rw [HLen.out] at hpn; omega
          have hq4 : ¬ ((n : Int) < 4) := by omega
          rcases At_cases c r n HBN.out hcnt (by omega) hn4 hnr with ⟨hn, hD⟩ | ⟨hn, hc3, x, r', hx, hD⟩ | ⟨hn, hc3, hc4, x, y, r', hx, hD⟩ | ⟨hn, hc3, x, y, z, r', hx, hD⟩ | ⟨hn, hD⟩ | ⟨hn, hc3, hD⟩ | ⟨hn, hc3, hD⟩
          all_goals
            have HD := hid hD
            clear hD hcnt
          · exact absurd (hn.symm.trans hn4') (by decide)
          · exact absurd (hn.symm.trans hn4') (by decide)
          · exact absurd (hn.symm.trans hn4') (by decide)
          · have hq0 : ((n : Int) == 0) = false := by rw [hn]; rfl
            have hq2 : ((n : Int) == 2) = false := by rw [hn]; rfl
            have hq3 : ((n : Int) == 3) = false := by rw [hn]; rfl
            have hq4 : ((n : Int) == 4) = true := by rw [hn]; rfl
            obtain ⟨ad0, e0, hx0, hy0, hz0⟩ := HE.out 1 (by rw [hx]; simp)
            obtain rfl := Option.some.inj e0
            obtain ⟨ad1, e1, hx1, hy1, hz1⟩ := HE.out 2 (by rw [hx]; simp)
            obtain rfl := Option.some.inj e1
            obtain ⟨ad2, e2, hx2, hy2, hz2⟩ := HE.out 3 (by rw [hx]; simp)
            obtain rfl := Option.some.inj e2
            simp only [hx, List.getElem_cons_succ, List.getElem_cons_zero] at hx0 hy0 hz0 hx1 hy1 hz1 hx2 hy2 hz2
            simp only [add_pos ad (show p + 1 ≠ 0 from by omega)] at hx0
            simp only [add_pos ad (show p + 2 ≠ 0 from by omega)] at hx1
            simp only [add_pos ad (show p + 3 ≠ 0 from by omega)] at hx2
            have hq10 : (p : Int) + 1 < l.length := by rw [HLen.out, hx]; simp; omega
            have hq11 : (p : Int) + 2 < l.length := by rw [HLen.out, hx]; simp; omega
            have hq12 : (p : Int) + 3 < l.length := by rw [HLen.out, hx]; simp; omega
            have HN := hid hn
            clear hn HE e0 e1 e2 hx
            go_wp2
            have hw0 : IntKind.i64.wrap ((p : Int) + 1) = (p : Int) + 1 := IntWalk.i64_in _ (by omega)
            have hv0 : (0 : Int) ≤ (p : Int) + 1 := by omega
            have ht0 : ((p : Int) + 1).toNat = p + 1 := by omega
            have hw1 : IntKind.i64.wrap ((p : Int) + 2) = (p : Int) + 2 := IntWalk.i64_in _ (by omega)
            have hv1 : (0 : Int) ≤ (p : Int) + 2 := by omega
            have ht1 : ((p : Int) + 2).toNat = p + 2 := by omega
            have hw2 : IntKind.i64.wrap ((p : Int) + 3) = (p : Int) + 3 := IntWalk.i64_in _ (by omega)
            have hv2 : (0 : Int) ≤ (p : Int) + 3 := by omega
            have ht2 : ((p : Int) + 3).toNat = p + 3 := by omega
            have hm : c.tmod 8 = c % 8 := Int.tmod_eq_emod_of_nonneg hc1
            have hm0 : x.tmod 64 = x % 64 := Int.tmod_eq_emod_of_nonneg hy0
            have hm1 : y.tmod 64 = y % 64 := Int.tmod_eq_emod_of_nonneg hy1
            have hm2 : z.tmod 64 = z % 64 := Int.tmod_eq_emod_of_nonneg hy2
            have hs0 : IntKind.i64.wrap (c % 8 * 262144) = c % 8 * 262144 := IntWalk.i64_in _ (by omega)
            have hp0 : IntKind.i64.wrap (x % 64 * 4096) = x % 64 * 4096 := IntWalk.i64_in _ (by omega)
            have hs1 : IntKind.i64.wrap (c % 8 * 262144 + x % 64 * 4096) = c % 8 * 262144 + x % 64 * 4096 := IntWalk.i64_in _ (by omega)
            have hp1 : IntKind.i64.wrap (y % 64 * 64) = y % 64 * 64 := IntWalk.i64_in _ (by omega)
            have hs2 : IntKind.i64.wrap (c % 8 * 262144 + x % 64 * 4096 + y % 64 * 64) = c % 8 * 262144 + x % 64 * 4096 + y % 64 * 64 := IntWalk.i64_in _ (by omega)
            have hs3 : IntKind.i64.wrap (c % 8 * 262144 + x % 64 * 4096 + y % 64 * 64 + z % 64) = c % 8 * 262144 + x % 64 * 4096 + y % 64 * 64 + z % 64 := IntWalk.i64_in _ (by omega)
            refine wp_region_still_tail 30 (by kernel_rfl) (by kernel_rfl) ?_
            change wpStill _ _ (World.drew _) _ _ _
            simp only [List.take_succ_cons, List.take_zero, List.drop_succ_cons, List.drop_zero]
            repeat still_step
            refine wpStill_nil ?_
            change wpList _ _ _ _ _ (World.drew _)
            go_wp2
            exact bodyPost_ret (v := .agg #[.int .i64 (dec1 (c :: r)).1, .int .i64 (dec1 (c :: r)).2]) (by rw [HD.out]; simp [results, Tryd.results31, go_sem]; try (have := HN.out; omega)) rfl ⟨rfl, by repeat (first | with_reducible exact Fr.refl _ _ | with_reducible refine Fr.alloc ?_ _ | with_reducible refine Fr.drew ?_)⟩
          · exact absurd (hn.symm.trans hn4') (by decide)
          · exact absurd (hn.symm.trans hn4') (by decide)
          · exact absurd (hn.symm.trans hn4') (by decide)
        · have hpn' : ¬ ((p : Int) + n < l.length) := hpn
          clear hgo
          rcases At_cases c r n HBN.out hcnt (by omega) hn4 hnr with ⟨hn, hD⟩ | ⟨hn, hc3, x, r', hx, hD⟩ | ⟨hn, hc3, hc4, x, y, r', hx, hD⟩ | ⟨hn, hc3, x, y, z, r', hx, hD⟩ | ⟨hn, hD⟩ | ⟨hn, hc3, hD⟩ | ⟨hn, hc3, hD⟩
          all_goals
            have HD := hid hD
            clear hD hcnt
          · have hq0 : ((n : Int) == 0) = true := by rw [hn]; rfl
            have hq2 : ((n : Int) == 2) = false := by rw [hn]; rfl
            have hq3 : ((n : Int) == 3) = false := by rw [hn]; rfl
            have hq4 : ((n : Int) == 4) = false := by rw [hn]; rfl
            have HN := hid hn
            clear hn HE
            go_wp2
            exact bodyPost_ret (v := .agg #[.int .i64 (dec1 (c :: r)).1, .int .i64 (dec1 (c :: r)).2]) (by rw [HD.out]; simp [results, Tryd.results31, go_sem]; try (have := HN.out; omega)) rfl ⟨rfl, by repeat (first | with_reducible exact Fr.refl _ _ | with_reducible refine Fr.alloc ?_ _ | with_reducible refine Fr.drew ?_)⟩
          · have hq0 : ((n : Int) == 0) = false := by rw [hn]; rfl
            have hq2 : ((n : Int) == 2) = true := by rw [hn]; rfl
            have hq3 : ((n : Int) == 3) = false := by rw [hn]; rfl
            have hq4 : ((n : Int) == 4) = false := by rw [hn]; rfl
            obtain ⟨ad0, e0, hx0, hy0, hz0⟩ := HE.out 1 (by rw [hx]; simp)
            obtain rfl := Option.some.inj e0
            simp only [hx, List.getElem_cons_succ, List.getElem_cons_zero] at hx0 hy0 hz0
            simp only [add_pos ad (show p + 1 ≠ 0 from by omega)] at hx0
            have hq10 : (p : Int) + 1 < l.length := by rw [HLen.out, hx]; simp; omega
            have HN := hid hn
            clear hn HE e0 hx
            go_wp2
            exact bodyPost_ret (v := .agg #[.int .i64 (dec1 (c :: r)).1, .int .i64 (dec1 (c :: r)).2]) (by rw [HD.out]; simp [results, Tryd.results31, go_sem]; try (have := HN.out; omega)) rfl ⟨rfl, by repeat (first | with_reducible exact Fr.refl _ _ | with_reducible refine Fr.alloc ?_ _ | with_reducible refine Fr.drew ?_)⟩
          · have hq0 : ((n : Int) == 0) = false := by rw [hn]; rfl
            have hq2 : ((n : Int) == 2) = false := by rw [hn]; rfl
            have hq3 : ((n : Int) == 3) = true := by rw [hn]; rfl
            have hq4 : ((n : Int) == 4) = false := by rw [hn]; rfl
            obtain ⟨ad0, e0, hx0, hy0, hz0⟩ := HE.out 1 (by rw [hx]; simp)
            obtain rfl := Option.some.inj e0
            obtain ⟨ad1, e1, hx1, hy1, hz1⟩ := HE.out 2 (by rw [hx]; simp)
            obtain rfl := Option.some.inj e1
            simp only [hx, List.getElem_cons_succ, List.getElem_cons_zero] at hx0 hy0 hz0 hx1 hy1 hz1
            simp only [add_pos ad (show p + 1 ≠ 0 from by omega)] at hx0
            simp only [add_pos ad (show p + 2 ≠ 0 from by omega)] at hx1
            have hq10 : (p : Int) + 1 < l.length := by rw [HLen.out, hx]; simp; omega
            have hq11 : (p : Int) + 2 < l.length := by rw [HLen.out, hx]; simp; omega
            have HN := hid hn
            clear hn HE e0 e1 hx
            go_wp2
            have hw0 : IntKind.i64.wrap ((p : Int) + 1) = (p : Int) + 1 := IntWalk.i64_in _ (by omega)
            have hv0 : (0 : Int) ≤ (p : Int) + 1 := by omega
            have ht0 : ((p : Int) + 1).toNat = p + 1 := by omega
            have hw1 : IntKind.i64.wrap ((p : Int) + 2) = (p : Int) + 2 := IntWalk.i64_in _ (by omega)
            have hv1 : (0 : Int) ≤ (p : Int) + 2 := by omega
            have ht1 : ((p : Int) + 2).toNat = p + 2 := by omega
            have hm : c.tmod 16 = c % 16 := Int.tmod_eq_emod_of_nonneg hc1
            have hm0 : x.tmod 64 = x % 64 := Int.tmod_eq_emod_of_nonneg hy0
            have hm1 : y.tmod 64 = y % 64 := Int.tmod_eq_emod_of_nonneg hy1
            have hs0 : IntKind.i64.wrap (c % 16 * 4096) = c % 16 * 4096 := IntWalk.i64_in _ (by omega)
            have hp0 : IntKind.i64.wrap (x % 64 * 64) = x % 64 * 64 := IntWalk.i64_in _ (by omega)
            have hs1 : IntKind.i64.wrap (c % 16 * 4096 + x % 64 * 64) = c % 16 * 4096 + x % 64 * 64 := IntWalk.i64_in _ (by omega)
            have hs2 : IntKind.i64.wrap (c % 16 * 4096 + x % 64 * 64 + y % 64) = c % 16 * 4096 + x % 64 * 64 + y % 64 := IntWalk.i64_in _ (by omega)
            refine wp_region_still_tail 21 (by kernel_rfl) (by kernel_rfl) ?_
            change wpStill _ _ (World.drew _) _ _ _
            simp only [List.take_succ_cons, List.take_zero, List.drop_succ_cons, List.drop_zero]
            repeat still_step
            refine wpStill_nil ?_
            change wpList _ _ _ _ _ (World.drew _)
            go_wp2
            exact bodyPost_ret (v := .agg #[.int .i64 (dec1 (c :: r)).1, .int .i64 (dec1 (c :: r)).2]) (by rw [HD.out]; simp [results, Tryd.results31, go_sem]; try (have := HN.out; omega)) rfl ⟨rfl, by repeat (first | with_reducible exact Fr.refl _ _ | with_reducible refine Fr.alloc ?_ _ | with_reducible refine Fr.drew ?_)⟩
          · have hq0 : ((n : Int) == 0) = false := by rw [hn]; rfl
            have hq2 : ((n : Int) == 2) = false := by rw [hn]; rfl
            have hq3 : ((n : Int) == 3) = false := by rw [hn]; rfl
            have hq4 : ((n : Int) == 4) = true := by rw [hn]; rfl
            obtain ⟨ad0, e0, hx0, hy0, hz0⟩ := HE.out 1 (by rw [hx]; simp)
            obtain rfl := Option.some.inj e0
            obtain ⟨ad1, e1, hx1, hy1, hz1⟩ := HE.out 2 (by rw [hx]; simp)
            obtain rfl := Option.some.inj e1
            obtain ⟨ad2, e2, hx2, hy2, hz2⟩ := HE.out 3 (by rw [hx]; simp)
            obtain rfl := Option.some.inj e2
            simp only [hx, List.getElem_cons_succ, List.getElem_cons_zero] at hx0 hy0 hz0 hx1 hy1 hz1 hx2 hy2 hz2
            simp only [add_pos ad (show p + 1 ≠ 0 from by omega)] at hx0
            simp only [add_pos ad (show p + 2 ≠ 0 from by omega)] at hx1
            simp only [add_pos ad (show p + 3 ≠ 0 from by omega)] at hx2
            have hq10 : (p : Int) + 1 < l.length := by rw [HLen.out, hx]; simp; omega
            have hq11 : (p : Int) + 2 < l.length := by rw [HLen.out, hx]; simp; omega
            have hq12 : (p : Int) + 3 < l.length := by rw [HLen.out, hx]; simp; omega
            have HN := hid hn
            clear hn HE e0 e1 e2 hx
            go_wp2
            have hw0 : IntKind.i64.wrap ((p : Int) + 1) = (p : Int) + 1 := IntWalk.i64_in _ (by omega)
            have hv0 : (0 : Int) ≤ (p : Int) + 1 := by omega
            have ht0 : ((p : Int) + 1).toNat = p + 1 := by omega
            have hw1 : IntKind.i64.wrap ((p : Int) + 2) = (p : Int) + 2 := IntWalk.i64_in _ (by omega)
            have hv1 : (0 : Int) ≤ (p : Int) + 2 := by omega
            have ht1 : ((p : Int) + 2).toNat = p + 2 := by omega
            have hw2 : IntKind.i64.wrap ((p : Int) + 3) = (p : Int) + 3 := IntWalk.i64_in _ (by omega)
            have hv2 : (0 : Int) ≤ (p : Int) + 3 := by omega
            have ht2 : ((p : Int) + 3).toNat = p + 3 := by omega
            have hm : c.tmod 8 = c % 8 := Int.tmod_eq_emod_of_nonneg hc1
            have hm0 : x.tmod 64 = x % 64 := Int.tmod_eq_emod_of_nonneg hy0
            have hm1 : y.tmod 64 = y % 64 := Int.tmod_eq_emod_of_nonneg hy1
            have hm2 : z.tmod 64 = z % 64 := Int.tmod_eq_emod_of_nonneg hy2
            have hs0 : IntKind.i64.wrap (c % 8 * 262144) = c % 8 * 262144 := IntWalk.i64_in _ (by omega)
            have hp0 : IntKind.i64.wrap (x % 64 * 4096) = x % 64 * 4096 := IntWalk.i64_in _ (by omega)
            have hs1 : IntKind.i64.wrap (c % 8 * 262144 + x % 64 * 4096) = c % 8 * 262144 + x % 64 * 4096 := IntWalk.i64_in _ (by omega)
            have hp1 : IntKind.i64.wrap (y % 64 * 64) = y % 64 * 64 := IntWalk.i64_in _ (by omega)
            have hs2 : IntKind.i64.wrap (c % 8 * 262144 + x % 64 * 4096 + y % 64 * 64) = c % 8 * 262144 + x % 64 * 4096 + y % 64 * 64 := IntWalk.i64_in _ (by omega)
            have hs3 : IntKind.i64.wrap (c % 8 * 262144 + x % 64 * 4096 + y % 64 * 64 + z % 64) = c % 8 * 262144 + x % 64 * 4096 + y % 64 * 64 + z % 64 := IntWalk.i64_in _ (by omega)
            refine wp_region_still_tail 30 (by kernel_rfl) (by kernel_rfl) ?_
            change wpStill _ _ (World.drew _) _ _ _
            simp only [List.take_succ_cons, List.take_zero, List.drop_succ_cons, List.drop_zero]
            repeat still_step
            refine wpStill_nil ?_
            change wpList _ _ _ _ _ (World.drew _)
            go_wp2
            exact bodyPost_ret (v := .agg #[.int .i64 (dec1 (c :: r)).1, .int .i64 (dec1 (c :: r)).2]) (by rw [HD.out]; simp [results, Tryd.results31, go_sem]; try (have := HN.out; omega)) rfl ⟨rfl, by repeat (first | with_reducible exact Fr.refl _ _ | with_reducible refine Fr.alloc ?_ _ | with_reducible refine Fr.drew ?_)⟩
          · have hq0 : ((n : Int) == 0) = false := by rw [hn]; rfl
            have hq2 : ((n : Int) == 2) = false := by rw [hn]; rfl
            have hq3 : ((n : Int) == 3) = false := by rw [hn]; rfl
            have hq4 : ((n : Int) == 4) = false := by rw [hn]; rfl
            have HN := hid hn
            clear hn HE
            go_wp2
            exact bodyPost_ret (v := .agg #[.int .i64 (dec1 (c :: r)).1, .int .i64 (dec1 (c :: r)).2]) (by rw [HD.out]; simp [results, Tryd.results31, go_sem]; try (have := HN.out; omega)) rfl ⟨rfl, by repeat (first | with_reducible exact Fr.refl _ _ | with_reducible refine Fr.alloc ?_ _ | with_reducible refine Fr.drew ?_)⟩
          · have hq0 : ((n : Int) == 0) = false := by rw [hn]; rfl
            have hq2 : ((n : Int) == 2) = true := by rw [hn]; rfl
            have hq3 : ((n : Int) == 3) = false := by rw [hn]; rfl
            have hq4 : ((n : Int) == 4) = false := by rw [hn]; rfl
            have HN := hid hn
            clear hn HE
            go_wp2
            exact bodyPost_ret (v := .agg #[.int .i64 (dec1 (c :: r)).1, .int .i64 (dec1 (c :: r)).2]) (by rw [HD.out]; simp [results, Tryd.results31, go_sem]; try (have := HN.out; omega)) rfl ⟨rfl, by repeat (first | with_reducible exact Fr.refl _ _ | with_reducible refine Fr.alloc ?_ _ | with_reducible refine Fr.drew ?_)⟩
          · have hq0 : ((n : Int) == 0) = false := by rw [hn]; rfl
            have hq2 : ((n : Int) == 2) = false := by rw [hn]; rfl
            have hq3 : ((n : Int) == 3) = true := by rw [hn]; rfl
            have hq4 : ((n : Int) == 4) = false := by rw [hn]; rfl
            have HN := hid hn
            clear hn HE
            go_wp2
            exact bodyPost_ret (v := .agg #[.int .i64 (dec1 (c :: r)).1, .int .i64 (dec1 (c :: r)).2]) (by rw [HD.out]; simp [results, Tryd.results31, go_sem]; try (have := HN.out; omega)) rfl ⟨rfl, by repeat (first | with_reducible exact Fr.refl _ _ | with_reducible refine Fr.alloc ?_ _ | with_reducible refine Fr.drew ?_)⟩
end Go.Proofs.YtnengimekcnfhaaDoor
set_option linter.unusedSimpArgs false
set_option linter.unusedVariables false
namespace Go.Proofs.YtnengimekcnfhaaDoor
open Go.RowKit Go.Proofs.YtnengimekcnfhaaDoorW.PrintWords
theorem cntF_le (l : List Int) : ∀ f m, m ≤ cntF l f m ∧ cntF l f m ≤ m + f := by
  intro f
  induction f with
  | zero => intro m; exact ⟨Nat.le_refl _, Nat.le_refl _⟩
  | succ f ih =>
    intro m
    unfold cntF
    split
    · have := ih (m + 1); omega
    · omega
theorem cnt_len (l : List Int) : ∀ f m, m ≤ l.length → cntF l f m ≤ l.length := by
  intro f
  induction f with
  | zero => intro m h; exact h
  | succ f ih =>
    intro m h
    unfold cntF
    split
    · rename_i h2; exact ih (m + 1) (by omega)
    · exact h
theorem dec1_N (c : Int) (r : List Int) : 1 ≤ (dec1 (c :: r)).2 ∧ (dec1 (c :: r)).2 ≤ 4 ∧ (dec1 (c :: r)).2 ≤ r.length + 1 := by
  have h1 := cntF_le (c :: r) 4 0
  have h2 := cnt_len (c :: r) 4 0 (Nat.zero_le _)
  have e : cntF (c :: r) 4 0 = cnt (c :: r) := rfl
  rw [e] at h1 h2
  rw [List.length_cons] at h2
  unfold dec1
  dsimp only
  split
  · simp
  · split
    · simp
    · split <;> (dsimp only; omega)
theorem dec1_V (c : Int) (r : List Int) (hc : 0 ≤ c) : 0 ≤ (dec1 (c :: r)).1 ∧ (dec1 (c :: r)).1 ≤ 8388608 := by
  have h1 := cntF_le (c :: r) 4 0
  have e : cntF (c :: r) 4 0 = cnt (c :: r) := rfl
  rw [e] at h1
  unfold dec1
  dsimp only
  split
  · dsimp only; omega
  · split
    · simp
    · split
      · dsimp only [formV]
        obtain ⟨m, hm⟩ : ∃ m, cnt (c :: r) = m + 1 := ⟨cnt (c :: r) - 1, by omega⟩
        rw [hm, List.take_succ_cons]
        have := val_bd c (r.take m) (by rw [List.length_take]; omega)
        omega
      · simp
theorem pall_step (c : Int) (r : List Int) : pall (c :: r) = (dec1 (c :: r)).1 :: pall ((c :: r).drop (dec1 (c :: r)).2) := by
  have h := dec1_N c r
  rw [← all_eq (c :: r) (r.length + 1) (by simp), ← all_eq ((c :: r).drop (dec1 (c :: r)).2) r.length (by rw [List.length_drop, List.length_cons]; omega)]
  rfl
theorem Blk.kept {w w1 : World} {b : Nat} {T : TypeId} {l : List Value} (h : Blk w b T l) {row : Option Nat} (hg : w.grownBy w1 row) (hne : row ≠ some b) : Blk w1 b T l := (hg.block b h.lt (fun e => hne e.symm)).trans h
/-- The end of a row of numbers that is read. -/
theorem cut_from {P : Program} {k : IntKind} (t e : TypeId) (z : Value) (bytes : Nat) (ht : P.underlying t = some (.slice e)) (hinfo : (P.info? e).map (fun i => (i.zero, i.size, i.bytes)) = some (some z, 1, bytes)) (A : Option Addr) (c : Nat) (xs : List Int) (j : Int) (h0 : 0 ≤ j) (hm : j ≤ xs.length) (hc : xs.length ≤ c) :
    ∃ A' : Option Addr, (∀ W : World, (Instr.slice t (.slice A xs.length c) (some (.int .i64 j)) none none).run P W = .ok (.slice A' (xs.drop j.toNat).length (c - j.toNat)) W) ∧
      (∀ w : World, (Kd.int k).C w A xs.length xs → (Kd.int k).C w A' (xs.drop j.toNat).length (xs.drop j.toNat)) ∧ (xs.drop j.toNat).length ≤ c - j.toNat := by
  obtain ⟨i0, hi, _, hsz, _⟩ := info_parts hinfo
  obtain ⟨A', hcut, hA', hC'⟩ := print_drop_of (P := P) (Value.int k) 0 t e .i64 ht hi hsz A c xs j h0 hm hc
  exact ⟨A', hcut, fun w h => Kd.C_of_reads (h1 := fun _ => rfl) (hA' _ (Kd.reads_of_C h)), hC'⟩
def waitsOf (l : List Int) : Nat := (prun ([], []) l).1.length
theorem waits_step (c : Int) (r : List Int) : waitsOf (c :: r) = if (dec1 (c :: r)).2 = (c :: r).length ∧ (dec1 (c :: r)).1 = 65533 ∧ beginsL (c :: r) = true ∧ ((c :: r).length : Int) < need c then (c :: r).length else waitsOf ((c :: r).drop (dec1 (c :: r)).2) := by
  have h := dec1_N c r
  unfold waitsOf
  rw [← wait_eq (c :: r) (r.length + 1) (by simp), ← wait_eq ((c :: r).drop (dec1 (c :: r)).2) r.length (by rw [List.length_drop, List.length_cons]; omega)]
  rfl
set_option maxRecDepth 100000 in
set_option maxHeartbeats 1000000 in
theorem refAll_any (w : World) (A : Option Addr) (cap : Nat) (l : List Int) (hC : Kd.C (Kd.int .u8) w A l.length l) (hcap : l.length ≤ cap) (hr : ∀ x ∈ l, 0 ≤ x ∧ x ≤ 255) (hl : l.length ≤ 1000000000) :
    Calls Tryd.prog 15 #[.slice A l.length cap] w fun e w' => ∃ v, e = .returned v ∧ Runes w w' v (pall l) ∧ Fr NoB w w' := by
  go_enter Tryd.func15, Tryd.ntmps15
  go_wp2
  go_loopw [3, 4] (fun v3 v4 wr => ∃ (k : Nat) (o : List Int), k ≤ l.length ∧ o.length ≤ k ∧ v4 = .int .i64 k ∧ Aside0 (Kd.R (Kd.int .i32) 21 wr w.heap.size (fun _ => True) v3 o) ∧
      Aside0 (o ++ pall (l.drop k) = pall l) ∧ Fr NoB w wr) (fun _ v4 _ => l.length - (intOf v4).toNat)
  case atStart => exact ⟨0, [], Nat.zero_le _, Nat.le_refl _, rfl, ⟨Kd.R_nil _ _ _ _ _⟩, ⟨rfl⟩, Fr.refl _ _⟩
  case round =>
    obtain ⟨k, o, hk, ho, rfl, ⟨hv⟩, ⟨hp⟩, hf⟩ := hrel
    have hsz := hf.size
    by_cases hlt : k < l.length
    · obtain ⟨c, r, hL⟩ := List.exists_cons_of_ne_nil (show l.drop k ≠ [] from by
        intro e; have := congrArg List.length e; rw [List.length_drop, List.length_nil] at this; omega)
      have hlk : l.length = k + (r.length + 1) := by
        have := congrArg List.length hL
        rw [List.length_drop, List.length_cons] at this
        omega
      have hc : c ∈ l := List.mem_of_mem_drop (i := k) (by rw [hL]; exact List.mem_cons_self)
      have hN := dec1_N c r
      have hV := dec1_V c r (hr c hc).1
      have hps := pall_step c r
      have hd2 : (c :: r).drop (dec1 (c :: r)).2 = l.drop (k + (dec1 (c :: r)).2) := by rw [← hL, List.drop_drop]
      rw [hL, hps, hd2] at hp
      have HP := hid hp
      have hlkk : (k : Int) < l.length := by omega
      have HLK := hid hlk
      have hbd : (k : Int) + (dec1 (c :: r)).2 ≤ l.length := by omega
      have HL := hid hL
      clear hp hps hd2 hlk hL
      go_wp2_with fail
      refine (At_any wr A cap l k c r HL.out (Kd.C_below hC hf.below0) hcap hr (by omega)).mono ?_
      generalize dec1 (c :: r) = d at *
      rintro e w1 ⟨rfl, hf1⟩
      have hv1 := R_fr hv hf1 (fun k hk => hk.elim)
      have hsz1 := hf1.size
      clear hC HL HLK hv
      go_wp2_with (at_builtin; refine Kd.R_append (Kd.int .i32) (w0 := w1.alloc _) w.heap.size rfl (.tmp 13) (.tmp 17) 46 21 (.int .i32 0) 4 rfl Tryd.underlying46 info_i32 rfl (by decide) (by decide) u3 o d.1 [.int .i32 d.1] (fun _ => True) (fun _ => False) rfl (by simp [go_sem]) rfl (fun k hk => hk.elim) (fun _ _ => trivial) (Kd.R_alloc hv1 _) (Below.refl _ _) (by simp; omega) (by omega) ?_; intro v1 w2 hv3 hb2 hg2 hat2; have hcell := ((Blk.new w1 82 [.int .i64 d.1, .int .i64 d.2]).kept hg2 (fun e => by have := Kd.R_lt hv1 _ e; omega)).cell 1 rfl)
      go_roundw
      case rel =>
        refine ⟨k + d.2, o ++ [d.1], by omega, by simp; omega, by go_num, ⟨hv3⟩, ⟨by rw [List.append_assoc]; exact HP.out⟩, ?_⟩
        exact ((hf.trans hf1).alloc _).then_ (Fr.of_grown hg2) (fun j hj => .inr (Kd.R_base hv1 j hj))
      case measure => simp [intOf]; omega
    · obtain rfl : k = l.length := by omega
      rw [List.drop_length] at hp
      have hp' : o = pall l := by rw [← hp]; simp [pall, prun, pflush]
      subst hp'
      clear hp
      go_wp2
      go_ret
      exact ⟨_, rfl, hv, hf⟩
end Go.Proofs.YtnengimekcnfhaaDoor
