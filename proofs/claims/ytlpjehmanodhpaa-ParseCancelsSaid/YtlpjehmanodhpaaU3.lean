import Derived.Test.YtlpjehmanodhpaaU2
set_option linter.unusedSimpArgs false
set_option linter.unusedVariables false
namespace Go.Proofs.Ytlpjehmanodhpaa
open Go.RowKit Go.Proofs.YtlpjehmanodhpaaW.PrintWords
/-! What the decoder is, told by the bytes that wait. -/
def need (a : Int) : Int := if a < 224 then 2 else if a < 240 then 3 else 4
def lead (a : Int) : Int := if a < 224 then a % 32 else if a < 240 then a % 16 else a % 8
def val : List Int → Int
  | [] => 0
  | a :: t => t.foldl (fun v b => v * 64 + b % 64) (lead a)
/-- May c come behind a :: t? -/
def fits (a : Int) (t : List Int) (c : Int) : Bool := match t with
  | [] => decide (lo a ≤ c ∧ c ≤ hi a)
  | _ :: _ => decide (128 ≤ c ∧ c ≤ 191)
def pbegin (c : Int) : List Int := if firstOk c then [c] else []
def pstep (p : List Int) (c : Int) : List Int × List Int :=
  match p with
  | [] => (pbegin c, beginR c)
  | a :: t => if fits a t c then (if (t.length : Int) + 2 = need a then ([], [val (a :: t ++ [c])]) else (a :: t ++ [c], []))
    else (pbegin c, 65533 :: beginR c)
/-- The decoder d has the bytes p waiting. -/
def DecRep (d : Dec) (p : List Int) : Prop := match p with
  | [] => d.l = 0 ∧ d.h = 0
  | a :: t => 194 ≤ a ∧ a ≤ 244 ∧ (t.length : Int) + 1 < need a ∧ (∀ x ∈ t, 128 ≤ x ∧ x ≤ 191) ∧
      d.v = val (a :: t) ∧ d.h = (t.length : Int) + 1 ∧ d.l = need a - ((t.length : Int) + 1) ∧ (∀ c, fits a t c = decide (d.n0 ≤ c ∧ c ≤ d.n1))
theorem need_bd (a : Int) : 2 ≤ need a ∧ need a ≤ 4 := by unfold need; split <;> (try split) <;> omega
theorem val_snoc (a : Int) (t : List Int) (c : Int) : val (a :: t ++ [c]) = val (a :: t) * 64 + c % 64 := by simp [val]
theorem lead_bd (a : Int) : 0 ≤ lead a ∧ lead a < 32 := by unfold lead; split <;> (try split) <;> omega
theorem val_bd (a : Int) (t : List Int) (h : t.length ≤ 3) : 0 ≤ val (a :: t) ∧ val (a :: t) < 8388608 := by
  have := lead_bd a
  match t, h with
  | [], _ => simp [val]; omega
  | [x], _ => simp [val]; omega
  | [x, y], _ => simp [val]; omega
  | [x, y, z], _ => simp [val]; omega
theorem beginD_rep (d : Dec) (c : Int) (hl : d.l = 0) (hh : d.h = 0) : DecRep (beginD d c) (pbegin c) := by
  unfold beginD pbegin firstOk
  by_cases h0 : c < 128
  · rw [if_pos h0, if_neg (by simp; omega)]
    exact ⟨hl, hh⟩
  · rw [if_neg h0]
    unfold firstD
    by_cases h1 : 194 ≤ c ∧ c ≤ 223
    · rw [if_pos h1, if_pos (by simp; omega)]
      simp [DecRep, need, val, lead, fits]; omega
    · rw [if_neg h1]
      by_cases h2 : 224 ≤ c ∧ c ≤ 239
      · rw [if_pos h2, if_pos (by simp; omega)]
        simp [DecRep, need, val, lead, fits]; omega
      · rw [if_neg h2]
        by_cases h3 : 240 ≤ c ∧ c ≤ 244
        · rw [if_pos h3, if_pos (by simp; omega)]
          simp [DecRep, need, val, lead, fits]; omega
        · rw [if_neg h3, if_neg (by simp; omega)]
          exact ⟨hl, hh⟩
def DBlk (w : World) (b : Nat) (T : TypeId) (r : List Value) (p : List Int) : Prop := ∃ d : Dec, DecRep d p ∧ Blk w b T (d.cells ++ r)
theorem DBlk.move {w w1 : World} {b : Nat} {T : TypeId} {r : List Value} {p : List Int} (h : DBlk w b T r p) (e : w1.heap[b]? = w.heap[b]?) : DBlk w1 b T r p := by
  obtain ⟨d, hr, hb⟩ := h
  exact ⟨d, hr, e.trans hb⟩
theorem DBlk.lt {w : World} {b : Nat} {T : TypeId} {r : List Value} {p : List Int} (h : DBlk w b T r p) : b < w.heap.size := by
  obtain ⟨d, hr, hb⟩ := h
  exact hb.lt
theorem fits_rng {a : Int} {t : List Int} {c : Int} (h : fits a t c = true) : 128 ≤ c ∧ c ≤ 191 := by
  cases t with
  | nil =>
    have := of_decide_eq_true h
    unfold lo hi at this
    (repeat' split at this) <;> omega
  | cons x t => exact of_decide_eq_true h
theorem feed_any (w : World) (b : Nat) (T : TypeId) (r : List Value) (p : List Int) (c : Int) (hc0 : 0 ≤ c) (hc1 : c ≤ 255) (hd : DBlk w b T r p) :
    Calls Try.prog 39 #[.pointer (some ⟨b, 0, none⟩), .int .u8 c] w fun e w' => ∃ v, e = .returned v ∧ Runes w w' v (pstep p c).2 ∧ DBlk w' b T r (pstep p c).1 ∧ Fr (At b) w w' := by
  obtain ⟨d, hr, hb⟩ := hd
  cases p with
  | nil =>
    refine (feed_zero w b T r d c hc0 hc1 hr.1 hb).mono ?_
    rintro e w' ⟨v, rfl, hv, hb', hf⟩
    exact ⟨v, rfl, hv, ⟨_, beginD_rep d c hr.1 hr.2, hb'⟩, hf⟩
  | cons a t =>
    obtain ⟨h1, h2, h3, h4, h5, h6, h7, h8⟩ := hr
    have hn := need_bd a
    have hv := val_bd a t (by omega)
    by_cases hfit : fits a t c = true
    · have hfit' := hfit
      rw [h8 c] at hfit'
      have hfit2 := of_decide_eq_true hfit'
      refine (feed_go w b T r d c hc0 hc1 (by omega) (by omega) (by omega) (by omega) (by omega) (by omega) hfit2.1 hfit2.2 hb (decide (1 < d.l)) (by simp)).mono ?_
      rintro e w' ⟨v, rfl, hv, hb', hf⟩
      refine ⟨v, rfl, ?_, ⟨_, ?_, hb'⟩, hf⟩
      · simp only [pstep, if_pos hfit]
        by_cases hl : 1 < d.l
        · rw [if_neg (by omega)]; simpa [hl] using hv
        · rw [if_pos (by omega)]; rw [val_snoc, ← h5]; simpa [hl] using hv
      · simp only [pstep, if_pos hfit]
        by_cases hl : 1 < d.l
        · rw [if_neg (by omega)]
          simp only [decide_eq_true hl, cond_true]
          refine ⟨h1, h2, by simp; omega, ?_, ?_, by simp; omega, by simp; omega, ?_⟩
          · intro x hx
            rcases List.mem_append.1 hx with hx | hx
            · exact h4 x hx
            · obtain rfl : x = c := by simpa using hx
              exact fits_rng hfit
          · rw [h5]; exact (val_snoc a t c).symm
          · intro x; cases t <;> rfl
        · rw [if_pos (by omega)]
          simp only [decide_eq_false hl, cond_false]
          exact ⟨by simp; omega, rfl⟩
    · have hfit' : fits a t c = false := by simpa using hfit
      rw [h8 c] at hfit'
      have hfit2 := of_decide_eq_false hfit'
      refine (feed_bad w b T r d c hc0 hc1 (by omega) (by omega) hb).mono ?_
      rintro e w' ⟨v, rfl, hv, hb', hf⟩
      refine ⟨v, rfl, ?_, ⟨_, ?_, hb'⟩, hf⟩
      · simp only [pstep, if_neg hfit]; exact hv
      · simp only [pstep, if_neg hfit]; exact beginD_rep _ c rfl rfl
def pflush (p : List Int) : List Int := if p = [] then [] else [65533]
theorem end_any (w : World) (b : Nat) (T : TypeId) (r : List Value) (p : List Int) (hd : DBlk w b T r p) :
    Calls Try.prog 23 #[.pointer (some ⟨b, 0, none⟩)] w fun e w' => ∃ v, e = .returned v ∧ Runes w w' v (pflush p) ∧ DBlk w' b T r [] ∧ Fr (At b) w w' := by
  obtain ⟨d, hr, hb⟩ := hd
  cases p with
  | nil =>
    refine (end_zero w b T r d hr.1 hb).mono ?_
    rintro e w' ⟨v, rfl, rfl, rfl⟩
    exact ⟨_, rfl, runes_nil _ _, ⟨d, hr, hb⟩, Fr.refl _ _⟩
  | cons a t =>
    obtain ⟨h1, h2, h3, h4, h5, h6, h7, h8⟩ := hr
    refine (end_some w b T r d (by omega) hb).mono ?_
    rintro e w' ⟨v, rfl, hv, hb', hf⟩
    exact ⟨_, rfl, hv, ⟨_, ⟨rfl, rfl⟩, hb'⟩, hf⟩
theorem waits_p (w : World) (b : Nat) (T : TypeId) (r : List Value) (p : List Int) (hd : DBlk w b T r p) :
    Calls Try.prog 26 #[.pointer (some ⟨b, 0, none⟩)] w fun e w' => e = .returned (.int .i64 p.length) ∧ w' = w := by
  obtain ⟨d, hr, hb⟩ := hd
  refine (waits_any w b T r d hb).mono ?_
  rintro e w' ⟨rfl, rfl⟩
  refine ⟨?_, rfl⟩
  cases p with
  | nil => rw [hr.2]; rfl
  | cons a t => obtain ⟨_, _, _, _, _, h6, _⟩ := hr; rw [h6]; simp
end Go.Proofs.Ytlpjehmanodhpaa
