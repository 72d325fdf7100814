import Derived.Test.YtnengimekcnfhaaW4
set_option linter.unusedSimpArgs false
set_option linter.unusedVariables false
set_option maxRecDepth 20000
namespace Go.Proofs.Ytnengimekcnfhaa
open Go.RowKit Go.Proofs.YtnengimekcnfhaaW.PrintWords
/-- What a stack's function writes to. -/
def SB (b : Nat) (v : Value) : Nat → Prop := fun k => k = b ∨ OwnB v k
/-- A stack's function's end. -/
def SKto (b : Nat) (scr : Rc) (v : Value) (xs' : List Wn) (next' : Int) (r : Value) (w : World) (e : Ending) (w' : World) : Prop :=
  e = .returned r ∧ ∃ v', SK w' b scr v' xs' next' ∧ Fr (SB b v) w w' ∧ ∀ k, OwnB v' k → OwnB v k ∨ w.heap.size ≤ k
theorem SK.same {w w' : World} {b : Nat} {scr : Rc} {v : Value} {xs : List Wn} {next : Int} (h : SK w b scr v xs next) (hf : Fr NoB w w') (r : Value) : SKto b scr v xs next r w (.returned r) w' :=
  ⟨rfl, v, h.frd hf, hf.mono (fun _ h => h.elim), fun k hk => .inl hk⟩
structure AddR where
  xs : List Wn
  next : Int
  id : Int
  e : Int
def addR (scr : Rc) (xs : List Wn) (next env : Int) (r : Rc) : AddR :=
  if env < 0 then ⟨xs, next, 0, 1⟩ else if ¬ Fits scr r then ⟨xs, next, 0, 2⟩ else if xs.length = 256 then ⟨xs, next, 0, 3⟩ else ⟨⟨next, env, r.x, r.y, r.w, r.h, false⟩ :: xs, next + 1, next, 0⟩
set_option maxHeartbeats 8000000 in
theorem sAdd_any (w : World) (b : Nat) (scr : Rc) (v : Value) (xs : List Wn) (next env : Int) (r : Rc) (h : SK w b scr v xs next) (hl : xs.length ≤ 256) (hn0 : 0 ≤ next) (hn1 : next ≤ 1000000) :
    Calls Try.prog 10 #[.pointer (some ⟨b, 0, none⟩), .int .i64 env, r.v] w (SKto b scr v (addR scr xs next env r).xs (addR scr xs next env r).next (.tuple #[.int .i64 (addR scr xs next env r).id, .int .i64 (addR scr xs next env r).e]) w) := by
  have HK := hid h
  have hf0 : Fr NoB w (w.alloc (.cells #[.int .i64 r.x, .int .i64 r.y, .int .i64 r.w, .int .i64 r.h] 23)) := (Fr.refl _ _).alloc _
  have HF0 := hid hf0
  have HB0 := hid (Blk.new w 23 r.cells)
  have HFI := hid (sfits_any _ b scr v xs next r (h.frd hf0))
  unfold Rc.v at HFI
  have e1 : r.v = .agg #[.int .i64 r.x, .int .i64 r.y, .int .i64 r.w, .int .i64 r.h] := rfl
  rw [e1]
  have c4 := h.blk.cell 4 rfl
  have hlt := h.blk.lt
  unfold addR
  clear e1 h hf0
  by_cases henv : env < 0
  · rw [if_pos henv]
    have t1 : decide (env < 0) = true := decide_eq_true henv
    clear henv
    go_enter Try.func10, Try.ntmps10
    go_wp2
    go_ret2
    exact HK.out.same HF0.out _
  rw [if_neg henv]
  have t1 : decide (env < 0) = false := decide_eq_false henv
  cases hfit : decide (Fits scr r)
  · have hF := of_decide_eq_false hfit
    rw [if_pos hF]
    rw [hfit] at HFI
    clear henv hfit hF
    go_enter Try.func10, Try.ntmps10
    go_wp2_with fail
    refine HFI.out.mono ?_
    rintro e' w1 ⟨rfl, hf1⟩
    go_wp2
    go_ret2
    exact HK.out.same (HF0.out.trans hf1) _
  have hF := of_decide_eq_true hfit
  rw [if_neg (fun h => h hF)]
  rw [hfit] at HFI
  obtain ⟨A, c, hv, hxc, hcm⟩ := HK.out.row.shape
  by_cases hfull : xs.length = 256
  · rw [if_pos hfull]
    rw [hv] at c4
    have t2 : ((xs.length : Int) == 256) = true := by rw [beq_iff_eq]; omega
    clear henv hfit hF
    have HFU := hid hfull
    have HV := hid hv
    clear hfull hv
    go_enter Try.func10, Try.ntmps10
    go_wp2_with fail
    refine HFI.out.mono ?_
    rintro e' w1 ⟨rfl, hf1⟩
    have d4 := cellto c4 (HF0.out.trans hf1)
    go_wp2
    go_ret2
    exact HK.out.same (HF0.out.trans hf1) _
  rw [if_neg hfull]
  have t2 : ((xs.length : Int) == 256) = false := by rw [beq_eq_false_iff_ne]; omega
  have hl' : xs.length + 1 ≤ 4096 := by omega
  have HV := hid hv
  rw [hv] at c4
  clear henv hfit hF hfull hv
  go_enter Try.func10, Try.ntmps10
  go_wp2_with fail
  refine HFI.out.mono ?_
  rintro e' w1 ⟨rfl, hf1⟩
  have hF1 := hid (HF0.out.trans hf1)
  have hK1 := HK.out.frd hF1.out
  have HK1 := hid hK1
  have d4 := hK1.blk.cell 4 rfl
  have d5 := hK1.blk.cell 5 rfl
  have g5 := hK1.blk.frozen 5
  have g4 := hK1.blk.frozen 4
  have dlt := hK1.blk.lt
  rw [show v = _ from HV.out] at d4
  have hB1 := HB0.out.fr hf1 (fun h => h)
  have q0 := hB1.cell 0 rfl
  have q1 := hB1.cell 1 rfl
  have q2 := hB1.cell 2 rfl
  have q3 := hB1.cell 3 rfl
  have hNE : Hid (¬ OwnB v w1.heap.size) := fun hk => by have := HK1.out.row.lt _ hk; omega
  have hBI : Hid (Blk (w1.alloc (.cells #[.int .i64 next, .int .i64 env, .int .i64 r.x, .int .i64 r.y, .int .i64 r.w, .int .i64 r.h, .bool false] 73)).drew w1.heap.size 73 (Wn.mk next env r.x r.y r.w r.h false).cells) := (Blk.new w1 73 (Wn.mk next env r.x r.y r.w r.h false).cells).drew
  have hVI : WnS (w1.alloc (.cells #[.int .i64 next, .int .i64 env, .int .i64 r.x, .int .i64 r.y, .int .i64 r.w, .int .i64 r.h, .bool false] 73)).drew v xs := HK1.out.row.fr (((Fr.refl NoB w1).alloc _).drew) (fun _ _ h => h)
  have HIns := hid (w_ins_any _ v xs 0 ⟨next, env, r.x, r.y, r.w, r.h, false⟩ w1.heap.size hVI (Nat.zero_le _) hl' hBI.out hNE.out)
  rw [List.take_zero, List.nil_append, List.drop_zero] at HIns
  have HNEb : Hid (¬ OwnB v b) := hid (HK1.out.row.ne HK1.out.blk (by decide))
  rw [show v = _ from HV.out] at HIns
  clear hK1 hB1 hVI c4 hf1
  go_wp2_with fail
  go_region_with (go_at_call 27; refine HIns.out.mono ?_; rintro e' w5 ⟨v5, rfl, hV5, hf5, ho5⟩; obtain ⟨A5, c5, hv5, _, _⟩ := hV5.shape; have hB5 := (HK1.out.blk.fr (((Fr.refl NoB w1).alloc _).drew) (fun h => h)).fr hf5 (by rw [← show v = _ from HV.out]; exact HNEb.out); have p4 := hB5.cell 4 rfl; have p5 := hB5.cell 5 rfl; have y4 := hB5.frozen 4; have y5 := hB5.frozen 5; have y6 := hB5.lt; rw [hv5])
  all_goals
    go_wp2
    go_ret2
    have hFa : Fr (SB b v) w (w1.alloc (.cells #[.int .i64 next, .int .i64 env, .int .i64 r.x, .int .i64 r.y, .int .i64 r.w, .int .i64 r.h, .bool false] 73)).drew := ((hF1.out.alloc _).drew).mono (fun _ h => h.elim)
    have hFb : Fr (SB b v) w w5 := hFa.then_ hf5 (fun k hk => .inl (.inr (by rw [show v = _ from HV.out]; exact hk)))
    have hst := (hB5.set 4 (.slice A5 ((Wn.mk next env r.x r.y r.w r.h false) :: xs).length c5)).set 5 (.int .i64 (next + 1))
    refine ⟨rfl, .slice A5 ((Wn.mk next env r.x r.y r.w r.h false) :: xs).length c5, ⟨hst, ?_⟩, (hFb.setCell (p := ⟨b, 4, none⟩) (.inl (.inl rfl)) _).setCell (p := ⟨b, 5, none⟩) (.inl (.inl rfl)) _, fun k hk => ?_⟩
    · rw [← hv5]
      exact hV5.fr ((((Fr.refl (At b) w5).setAt 4 _).setAt 5 _)) (fun k hk he => hV5.ne hB5 (by decide) (by have he' : k = b := he; subst he'; exact hk))
    · rw [← hv5] at hk
      rcases ho5 k hk with h5 | h5
      · exact .inl (by rw [show v = _ from HV.out]; exact h5)
      · have h6 : w1.heap.size ≤ k := Nat.le_trans (Fr.size (((Fr.refl NoB w1).alloc _).drew)) h5
        exact .inr (Nat.le_trans hF1.out.size h6)
end Go.Proofs.Ytnengimekcnfhaa
