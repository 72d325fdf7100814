import Derived.Test.YtlpjehmanodhpaaN6
set_option linter.unusedSimpArgs false
set_option linter.unusedVariables false
namespace Go.Proofs.Ytlpjehmanodhpaa
open Go.RowKit Go.Proofs.YtlpjehmanodhpaaW.PrintWords
structure Ok (n : Nat) (a : Ab) : Prop where
  by0 : 0 ≤ a.by_
  by1 : a.by_ ≤ n
  inter : a.inter.size ≤ 2
  len : a.params.length ≤ 17
  rng : ∀ q ∈ a.params, -1 ≤ q ∧ q ≤ 9999
structure FS (w : World) (b base : Nat) (x : Lo) (ts : List SqV) (a : Ab) : Prop where
  pl : PL w b base x ts
  vp : VP w x.q a.params
  ab : Abs x a
def NoPs (s : SqV) (t : Sq) : Prop := s.kind = t.kind ∧ s.r = t.r ∧ s.priv = t.priv ∧ s.inter = t.inter ∧ s.final = t.final ∧ s.text = t.text ∧ s.pA = none ∧ s.pn = 0 ∧ s.pc = 0 ∧ t.params = []
theorem noPs_pr (r : Int) : NoPs (prV r) (prS r) := ⟨rfl, rfl, rfl, rfl, rfl, rfl, rfl, rfl, rfl, rfl⟩
theorem noPs_ex (r : Int) : NoPs (exV r) (exS r) := ⟨rfl, rfl, rfl, rfl, rfl, rfl, rfl, rfl, rfl, rfl⟩
theorem ground_ps (p : List Int) (c : Int) : Fa2 NoPs (groundP p c).2 (groundA p c).2 ∧ (groundP p c).1 = (groundA p c).1 := by
  unfold groundP groundA
  split
  · refine ⟨Fa2.append (Fa2.map _ noPs_pr) ?_, rfl⟩
    split
    · exact .cons (noPs_ex c) .nil
    · exact .nil
  · exact ⟨Fa2.map _ noPs_pr, rfl⟩
theorem Abs.to {x : Lo} {a : Ab} (h : Abs x a) (s : Int) : Abs (x.to s) (a.to s) := ⟨h.p, rfl, rfl, rfl, rfl, rfl, rfl, rfl, rfl, rfl⟩
theorem inG_out (w : World) (b base : Nat) (x : Lo) (ts : List SqV) (a : Ab) (c : Int) (h : FS w b base x ts a) (hb : base ≤ w.heap.size) (hl : ts.length ≤ 999000) (hc0 : 0 ≤ c) (hc1 : c ≤ 255) :
    Calls Try.prog 31 #[.pointer (some ⟨b, 0, none⟩), .int .u8 c] w (Outc b base x ts ((a.ground c).1, (a.ground c).2, false) w) := by
  obtain ⟨h1, h2⟩ := ground_ps x.p c
  refine (inG_any w b base x ts c h.pl hb hl hc0 hc1).mono fun e w' he => Outc.of_PTo he h.pl.blk ⟨ts, h.pl.row⟩ h.vp rfl (.inl ⟨rfl, rfl, rfl, rfl⟩) ?_ ?_
  · have hp := h.ab.p
    exact ⟨by show (groundP x.p c).1 = (groundA a.p c).1; rw [h2, hp], h.ab.st, h.ab.by_, h.ab.kind, h.ab.r, h.ab.priv, h.ab.inter, h.ab.final, h.ab.text, h.ab.bad⟩
  · show Fa2 NoPs _ (groundA a.p c).2
    rw [← h.ab.p]
    exact h1
theorem aside_ps (x : Lo) (a : Ab) (c : Int) (h : Abs x a) : Fa2 NoPs (asideL x c).2 (a.aside c).2 ∧ Abs (asideL x c).1 (a.aside c).1 ∧
    (((asideL x c).1.q.pA = x.q.pA ∧ (asideL x c).1.q.pn = x.q.pn ∧ (asideL x c).1.q.pc = x.q.pc ∧ (a.aside c).1.params = a.params) ∨ ((asideL x c).1.q.pA = none ∧ (asideL x c).1.q.pn = 0 ∧ (asideL x c).1.q.pc = 0 ∧ (a.aside c).1.params = [])) := by
  unfold asideL Ab.aside
  split
  · exact ⟨.cons (noPs_ex c) .nil, h, .inl ⟨rfl, rfl, rfl, rfl⟩⟩
  · split
    · exact ⟨.nil, h, .inl ⟨rfl, rfl, rfl, rfl⟩⟩
    · obtain ⟨h1, h2⟩ := ground_ps x.p c
      refine ⟨?_, ⟨?_, rfl, rfl, rfl, rfl, rfl, rfl, rfl, rfl, rfl⟩, .inr ⟨rfl, rfl, rfl, rfl⟩⟩
      · show Fa2 NoPs _ (groundA a.p c).2
        rw [← h.p]
        exact h1
      · show (groundP x.p c).1 = (groundA a.p c).1
        rw [h2, h.p]
theorem inT_out (w : World) (b base : Nat) (x : Lo) (ts : List SqV) (a : Ab) (c : Int) (h : FS w b base x ts a) (hb : base ≤ w.heap.size) (hl : ts.length ≤ 999000) (hc0 : 0 ≤ c) (hc1 : c ≤ 255) :
    Calls Try.prog 34 #[.pointer (some ⟨b, 0, none⟩), .int .u8 c] w (Outc b base x ts (a.txt c) w) := by
  refine (inT_any w b base x ts c h.pl hb hl hc0 hc1).mono fun e w' he => ?_
  have ht := h.ab.text
  unfold textL at he
  unfold Ab.txt
  rw [← ht]
  by_cases h7 : c = 7
  · rw [if_pos h7] at he ⊢
    exact Outc.of_PTo he h.pl.blk ⟨ts, h.pl.row⟩ h.vp rfl (.inr ⟨rfl, rfl, rfl, rfl⟩) (h.ab.to 0) (.cons ⟨rfl, rfl, rfl, rfl, rfl, rfl, rfl, rfl, rfl, rfl⟩ .nil)
  · rw [if_neg h7] at he ⊢
    by_cases h8 : 32 ≤ c ∧ c ≠ 127 ∧ x.q.text.size < 256
    · rw [if_pos h8] at he ⊢
      exact Outc.of_PTo he h.pl.blk ⟨ts, h.pl.row⟩ h.vp rfl (.inl ⟨rfl, rfl, rfl, rfl⟩) ⟨h.ab.p, h.ab.st, h.ab.by_, h.ab.kind, h.ab.r, h.ab.priv, h.ab.inter, h.ab.final, rfl, h.ab.bad⟩ .nil
    · rw [if_neg h8] at he ⊢
      exact Outc.of_PTo he h.pl.blk ⟨ts, h.pl.row⟩ h.vp rfl (.inl ⟨rfl, rfl, rfl, rfl⟩) h.ab .nil
/-- An end of a sequence, told with its parameters. -/
theorem pend_out (w : World) (b base : Nat) (x : Lo) (ts : List SqV) (a : Ab) (kind c : Int) (h : FS w b base x ts a) (hb : base ≤ w.heap.size) (hl : ts.length ≤ 999000) :
    Calls Try.prog 43 #[.pointer (some ⟨b, 0, none⟩), .int .i64 kind, .int .u8 c] w (Outc b base x ts ((a.end_ kind c).1, (a.end_ kind c).2, false) w) := by
  refine (pend_any w b base x ts kind c h.pl hb (by omega)).mono fun e w' he => ?_
  obtain ⟨rfl, tv', h1, h2, h3⟩ := he
  obtain ⟨d, hd, hblk⟩ := h.pl.blk
  have hdis : ∀ k, OwnB x.q.pv k → ¬ PW b x.tv k := fun k hk hp => by
    rcases hp with rfl | hp
    · exact h.vp.ne hblk (by decide) hk
    · exact h.vp.row_ne h.pl.row k hp hk
  have hVw : VP w' x.q a.params := h.vp.fr h2 hdis
  refine ⟨rfl, { x.to 0 with tv := tv' }, _, h1, VP.nil rfl rfl rfl, ⟨h.ab.p, rfl, rfl, rfl, rfl, rfl, rfl, rfl, rfl, rfl⟩, ?_, h2.mono (fun k hk => hk.elim .inl (fun h => .inr (.inl h))), h3, fun k hk => absurd hk (nil_own rfl k), fun s hs k hk => ⟨.inl ?_, nil_own rfl k⟩⟩
  · unfold Ab.end_
    rw [← h.ab.bad]
    cases x.bad
    · exact .cons ⟨rfl, h.ab.r, h.ab.priv, h.ab.inter, rfl, h.ab.text, hVw⟩ .nil
    · exact .nil
  · cases hbad : x.bad
    · rw [hbad] at hs
      simp only [Bool.false_eq_true, if_false, List.mem_singleton] at hs
      subst hs
      exact hk
    · rw [hbad] at hs
      simp at hs
end Go.Proofs.Ytlpjehmanodhpaa
