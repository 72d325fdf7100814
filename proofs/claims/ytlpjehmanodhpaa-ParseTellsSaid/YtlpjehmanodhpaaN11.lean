import Derived.Test.YtlpjehmanodhpaaN10
set_option linter.unusedSimpArgs false
set_option linter.unusedVariables false
namespace Go.Proofs.Ytlpjehmanodhpaa
open Go.RowKit Go.Proofs.YtlpjehmanodhpaaW.PrintWords
set_option maxHeartbeats 1000000 in
theorem step_ign (w : World) (b base : Nat) (x : Lo) (ts : List SqV) (a : Ab) (c : Int) (h : FS w b base x ts a) (hst : a.st = 4) :
    Calls Try.prog 25 #[.pointer (some ⟨b, 0, none⟩), .int .u8 c] w (SOut b base x ts (a, []) w) := by
  have hmf : ∀ (fn : Fn) (first cap : Array Value) (w : World), (Instr.makeFunc fn first cap).run Try.prog w = .ok (.func fn first cap) w := fun _ _ _ _ => rfl
  have c5 := (by obtain ⟨d, hd, hblk⟩ := h.pl.blk; exact hblk.cell 5 rfl : w.cell? ⟨b, 5, none⟩ = some (.int .i64 x.st))
  have hlt := (by obtain ⟨d, hd, hblk⟩ := h.pl.blk; exact hblk.lt : b < w.heap.size)
  have HF0 : Hid (Fr NoB w (w.alloc (.cells #[.pointer (some ⟨b, 0, none⟩)] 48))) := (Fr.refl NoB w).alloc _
  rw [h.ab.st, hst] at c5
  have HH := hid h
  clear h
  go_enter_defers Try.func25, Try.ntmps25
  go_wp2
  refine leaves_cons (f := 30) (args := #[.pointer (some ⟨w.heap.size, 0, none⟩)]) (by simp) (by simp [go_sem]) ?_
  refine (catch_idle _ w.heap.size).mono ?_
  rintro e u' w'' ⟨rfl, rfl, rfl⟩
  simp [Leaves, settle, results, Try.results25, go_sem]
  have h2 := HH.out.frd HF0.out
  exact ⟨rfl, x, [], by rw [List.append_nil]; exact h2.pl, h2.vp, h2.ab, .nil, HF0.out.mono (fun k hk => hk.elim), fun k hk => .inl hk, fun k hk => .inl hk, fun s hs => by cases hs⟩
structure OkS (n : Nat) (a : Ab) : Prop extends Ok n a where
  st0 : 0 ≤ a.st
  st1 : a.st ≤ 4
theorem step_any (w : World) (b base : Nat) (x : Lo) (ts : List SqV) (a : Ab) (n : Nat) (c : Int) (h : FS w b base x ts a) (hk : OkS n a) (hn : n ≤ 1000000000) (hb : base ≤ w.heap.size) (hl : ts.length ≤ 999000) (hc0 : 0 ≤ c) (hc1 : c ≤ 255) :
    Calls Try.prog 25 #[.pointer (some ⟨b, 0, none⟩), .int .u8 c] w (SOut b base x ts (a.step c) w) := by
  have h0 := hk.st0
  have h1 := hk.st1
  have hcase : a.st = 0 ∨ a.st = 1 ∨ a.st = 2 ∨ a.st = 3 ∨ a.st = 4 := by omega
  have hstep : a.step c = stepA (a.core c) := rfl
  rcases hcase with hs | hs | hs | hs | hs
  · have hcore : a.core c = ((a.ground c).1, (a.ground c).2, false) := by unfold Ab.core; rw [if_pos hs]
    rw [hstep, hcore]
    exact step_walk w b base x ts a c _ h 31 (.inl ⟨hs, rfl⟩) fun w1 hf => inG_out w1 b base x ts a c (h.frd hf) (Nat.le_trans hb hf.size) hl hc0 hc1
  · have hcore : a.core c = a.esc c := by unfold Ab.core; rw [if_neg (by omega), if_pos hs]
    rw [hstep, hcore]
    exact step_walk w b base x ts a c _ h 32 (.inr (.inl ⟨hs, rfl⟩)) fun w1 hf => inE_out w1 b base x ts a c (h.frd hf) (Nat.le_trans hb hf.size) hl hk.inter hc0 hc1
  · have hcore : a.core c = a.ctl c := by unfold Ab.core; rw [if_neg (by omega), if_neg (by omega), if_pos hs]
    rw [hstep, hcore]
    exact step_walk w b base x ts a c _ h 33 (.inr (.inr (.inl ⟨hs, rfl⟩))) fun w1 hf => inC_out w1 b base x ts a c (h.frd hf) (Nat.le_trans hb hf.size) hl hk.inter hk.by0 (by have := hk.by1; omega) hk.len hk.rng hc0 hc1
  · have hcore : a.core c = a.txt c := by unfold Ab.core; rw [if_neg (by omega), if_neg (by omega), if_neg (by omega), if_pos hs]
    rw [hstep, hcore]
    exact step_walk w b base x ts a c _ h 34 (.inr (.inr (.inr ⟨hs, rfl⟩))) fun w1 hf => inT_out w1 b base x ts a c (h.frd hf) (Nat.le_trans hb hf.size) hl hc0 hc1
  · have hcore : a.core c = (a, [], false) := by unfold Ab.core; rw [if_neg (by omega), if_neg (by omega), if_neg (by omega), if_neg (by omega)]
    rw [hstep, hcore]
    exact step_ign w b base x ts a c h hs
/-- What Feed does: a byte's tellings, in a new row. -/
def FeedOut (b base : Nat) (x : Lo) (o : Ab × List Sq) (w : World) (e : Ending) (w' : World) : Prop :=
  ∃ (x' : Lo) (ss : List SqV), e = .returned x'.tv ∧ PL w' b base x' ss ∧ VP w' x'.q o.1.params ∧ Abs x' o.1 ∧ Fa2 (TellOk w') ss o.2 ∧
    Fr (fun k => k = b ∨ OwnB x.q.pv k) w w' ∧ (∀ k, OwnB x'.tv k → w.heap.size ≤ k) ∧ (∀ k, OwnB x'.q.pv k → OwnB x.q.pv k ∨ w.heap.size ≤ k) ∧
    ∀ s ∈ ss, ∀ k, OwnB s.pv k → (OwnB x.q.pv k ∨ w.heap.size ≤ k) ∧ ¬ OwnB x'.q.pv k
theorem PL.set15 {w : World} {b base : Nat} {x : Lo} {ts : List SqV} (h : PL w b base x ts) : PL (w.setCell ⟨b, 15, none⟩ (.slice none 0 0)) b base { x with tv := .slice none 0 0 } [] := by
  obtain ⟨d, hd, hblk⟩ := h.blk
  exact ⟨⟨d, hd, hblk.set 15 (.slice none 0 0)⟩, Row.nil _ _ _ _ _⟩
theorem FS.set15 {w : World} {b base : Nat} {x : Lo} {ts : List SqV} {a : Ab} (h : FS w b base x ts a) : FS (w.setCell ⟨b, 15, none⟩ (.slice none 0 0)) b base { x with tv := .slice none 0 0 } [] a :=
  ⟨h.pl.set15, h.vp.at h.pl.blk ((Fr.refl (At b) w).setAt 15 _), ⟨h.ab.p, h.ab.st, h.ab.by_, h.ab.kind, h.ab.r, h.ab.priv, h.ab.inter, h.ab.final, h.ab.text, h.ab.bad⟩⟩
theorem no_own (k : Nat) : ¬ OwnB (.slice none 0 0) k := fun h => by cases h
theorem SOut.feed {w w1 w' : World} {b base : Nat} {x : Lo} {o : Ab × List Sq} {e : Ending} (hf : Fr (At b) w w1) (h : SOut b base { x with tv := .slice none 0 0 } [] o w1 e w') :
    ∃ (x' : Lo) (ss : List SqV), PL w' b base x' ss ∧ VP w' x'.q o.1.params ∧ Abs x' o.1 ∧ Fa2 (TellOk w') ss o.2 ∧
    Fr (fun k => k = b ∨ OwnB x.q.pv k) w w' ∧ (∀ k, OwnB x'.tv k → w.heap.size ≤ k) ∧ (∀ k, OwnB x'.q.pv k → OwnB x.q.pv k ∨ w.heap.size ≤ k) ∧
    ∀ s ∈ ss, ∀ k, OwnB s.pv k → (OwnB x.q.pv k ∨ w.heap.size ≤ k) ∧ ¬ OwnB x'.q.pv k := by
  obtain ⟨he, x', ss, q1, q2, q3, q4, q5, q6, q7, q8⟩ := h
  have hs := hf.size
  exact ⟨x', ss, q1, q2, q3, q4, (hf.mono (fun k hk => .inl hk)).trans (q5.mono (fun k hk => by
    rcases hk with hk | hk | hk
    · exact .inl hk
    · exact absurd hk (no_own k)
    · exact .inr hk)), fun k hk => (q6 k hk).elim (fun h => absurd h (no_own k)) (fun h => Nat.le_trans hs h), fun k hk => (q7 k hk).imp id (fun h => Nat.le_trans hs h), fun s hs' k hk => ⟨((q8 s hs' k hk).1).imp id (fun h => Nat.le_trans hs h), (q8 s hs' k hk).2⟩⟩
set_option maxHeartbeats 4000000 in
theorem feed_step (w : World) (b base : Nat) (x : Lo) (ts : List SqV) (a : Ab) (n : Nat) (c : Int) (h : FS w b base x ts a) (hk : OkS n a) (hn : n ≤ 1000000000) (hb : base ≤ w.heap.size) (hc0 : 0 ≤ c) (hc1 : c ≤ 255) (h27 : c ≠ 27) (hcan : ¬ (a.st ≠ 0 ∧ (c = 24 ∨ c = 26))) :
    Calls Try.prog 7 #[.pointer (some ⟨b, 0, none⟩), .int .u8 c] w (FeedOut b base x (a.step c) w) := by
  have c5 := (by obtain ⟨d, hd, hblk⟩ := h.pl.blk; exact hblk.cell 5 rfl : w.cell? ⟨b, 5, none⟩ = some (.int .i64 x.st))
  have c15 := (by obtain ⟨d, hd, hblk⟩ := h.pl.blk; exact hblk.cell 15 rfl : w.cell? ⟨b, 15, none⟩ = some x.tv)
  have f15 := (by obtain ⟨d, hd, hblk⟩ := h.pl.blk; exact hblk.frozen 15 : w.frozen? ⟨b, 15, none⟩ = false)
  have hlt := (by obtain ⟨d, hd, hblk⟩ := h.pl.blk; exact hblk.lt : b < w.heap.size)
  obtain ⟨A0, c0, hshape, _⟩ := Row.shape h.pl.row
  rw [hshape] at c15
  have h1 := h.set15
  have HF1 : Hid (Fr (At b) w (w.setCell ⟨b, 15, none⟩ (.slice none 0 0))) := (Fr.refl (At b) w).setAt 15 _
  have HC := hid (step_any _ b base _ [] a n c h1 hk hn (by rw [sz_setCell]; exact hb) (by simp) hc0 hc1)
  have t1 : (c == 27) = false := by rw [beq_eq_false_iff_ne]; exact h27
  rw [h.ab.st] at c5
  have hx : a.st = 0 ∨ (a.st ≠ 0 ∧ c ≠ 24 ∧ c ≠ 26) := by omega
  clear h h1 hshape
  rcases hx with hs | ⟨hs, h24, h26⟩
  · rw [hs] at c5
    clear hcan
    go_enter Try.func7, Try.ntmps7
    go_wp2_with fail
    refine HC.out.mono ?_
    intro e' w2 h2
    obtain rfl : e' = .returned (.tuple #[]) := h2.1
    obtain ⟨x', ss, q1, q2, q3, q4, q5, q6, q7, q8⟩ := h2.feed HF1.out
    have HQ : Hid (FeedOut b base x (a.step c) w (.returned x'.tv) w2) := ⟨x', ss, rfl, q1, q2, q3, q4, q5, q6, q7, q8⟩
    have d15 := (by obtain ⟨d, hd, hblk⟩ := q1.blk; exact hblk.cell 15 rfl : w2.cell? ⟨b, 15, none⟩ = some x'.tv)
    have dlt := (by obtain ⟨d, hd, hblk⟩ := q1.blk; exact hblk.lt : b < w2.heap.size)
    obtain ⟨A2, cc2, hsh2, _⟩ := Row.shape q1.row
    rw [hsh2] at d15 HQ
    clear h2 q1 q2 q3 q4 q5 q6 q7 q8
    go_wp2
    go_ret
    exact HQ.out
  · have t2 : (a.st != 0) = true := by rw [bne_iff_ne]; exact hs
    have t3 : (c == 24) = false := by rw [beq_eq_false_iff_ne]; exact h24
    have t4 : (c == 26) = false := by rw [beq_eq_false_iff_ne]; exact h26
    clear hcan
    go_enter Try.func7, Try.ntmps7
    go_wp2_with fail
    refine HC.out.mono ?_
    intro e' w2 h2
    obtain rfl : e' = .returned (.tuple #[]) := h2.1
    obtain ⟨x', ss, q1, q2, q3, q4, q5, q6, q7, q8⟩ := h2.feed HF1.out
    have HQ : Hid (FeedOut b base x (a.step c) w (.returned x'.tv) w2) := ⟨x', ss, rfl, q1, q2, q3, q4, q5, q6, q7, q8⟩
    have d15 := (by obtain ⟨d, hd, hblk⟩ := q1.blk; exact hblk.cell 15 rfl : w2.cell? ⟨b, 15, none⟩ = some x'.tv)
    have dlt := (by obtain ⟨d, hd, hblk⟩ := q1.blk; exact hblk.lt : b < w2.heap.size)
    obtain ⟨A2, cc2, hsh2, _⟩ := Row.shape q1.row
    rw [hsh2] at d15 HQ
    clear h2 q1 q2 q3 q4 q5 q6 q7 q8
    go_wp2
    go_ret
    exact HQ.out
end Go.Proofs.Ytlpjehmanodhpaa
