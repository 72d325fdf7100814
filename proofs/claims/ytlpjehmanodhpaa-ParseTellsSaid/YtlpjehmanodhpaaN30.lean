import Derived.Test.YtlpjehmanodhpaaN26
set_option linter.unusedSimpArgs false
set_option linter.unusedVariables false
namespace Go.Proofs.Ytlpjehmanodhpaa
open Go.RowKit Go.Proofs.YtlpjehmanodhpaaW.PrintWords
def PN : List Int → Prop
  | [] => True
  | a :: t => (t.length : Int) + 1 < need a
theorem PN.len {p : List Int} (h : PN p) : p.length ≤ 3 := by
  cases p with
  | nil => simp
  | cons a t =>
    have h2 : (t.length : Int) + 1 < need a := h
    have := need_bd a
    rw [List.length_cons]
    omega
theorem PN.begin (c : Int) : PN (pbegin c) := by
  unfold pbegin
  split
  · show ((0 : Nat) : Int) + 1 < need c
    have := need_bd c
    omega
  · trivial
theorem PN.step {p : List Int} (h : PN p) (c : Int) : PN (pstep p c).1 := by
  cases p with
  | nil => exact PN.begin c
  | cons a t =>
    have h2 : (t.length : Int) + 1 < need a := h
    unfold pstep
    dsimp only
    split
    · split
      · trivial
      · show ((t ++ [c]).length : Int) + 1 < need a
        rw [List.length_append, List.length_singleton]
        omega
    · exact PN.begin c
theorem pstep_bytes {p : List Int} {c : Int} (h : ∀ y ∈ p, 0 ≤ y ∧ y ≤ 255) (hc0 : 0 ≤ c) (hc1 : c ≤ 255) : ∀ y ∈ (pstep p c).1, 0 ≤ y ∧ y ≤ 255 := by
  have hb : ∀ y ∈ pbegin c, 0 ≤ y ∧ y ≤ 255 := by
    unfold pbegin
    split
    · intro y hy; rw [List.mem_singleton.1 hy]; exact ⟨hc0, hc1⟩
    · intro y hy; cases hy
  cases p with
  | nil => exact hb
  | cons a t =>
    unfold pstep
    dsimp only
    split
    · split
      · intro y hy; cases hy
      · intro y hy
        rcases List.mem_append.1 hy with h5 | h5
        · exact h y h5
        · rw [List.mem_singleton.1 h5]; exact ⟨hc0, hc1⟩
    · exact hb
/-- What both parsers keep. -/
structure RInv (n : Nat) (a : Ab) : Prop extends Inv n a where
  ps : PS a.p
  pn : PN a.p
  pr : ∀ y ∈ a.p, 0 ≤ y ∧ y ≤ 255
  by2 : a.st = 2 → a.inter.size ≠ 0 → a.by_ ≠ 0
theorem feed_p (a : Ab) (c : Int) : (a.feed c).1.p = a.p ∨ (a.feed c).1.p = [] ∨ (a.feed c).1.p = (pstep a.p c).1 := by
  have hg : (groundA a.p c).1 = [] ∨ (groundA a.p c).1 = (pstep a.p c).1 := by
    unfold groundA
    split
    · exact .inl rfl
    · exact .inr rfl
  have hstep : ∀ o : Ab × List Sq × Bool, (stepA o).1.p = o.1.p := fun o => by unfold stepA; split <;> rfl
  unfold Ab.feed
  split
  · exact .inr (.inl rfl)
  split
  · exact .inl rfl
  show (stepA (a.core c)).1.p = a.p ∨ (stepA (a.core c)).1.p = [] ∨ (stepA (a.core c)).1.p = (pstep a.p c).1
  rw [hstep]
  have hi : ∀ x : Ab, (x.inter_ c).1.p = x.p := fun x => by unfold Ab.inter_; split <;> rfl
  have ha : (a.aside c).1.p = a.p ∨ (a.aside c).1.p = [] ∨ (a.aside c).1.p = (pstep a.p c).1 := by
    unfold Ab.aside
    split
    · exact .inl rfl
    split
    · exact .inl rfl
    · exact .inr hg
  unfold Ab.core
  split
  · exact .inr hg
  split
  · unfold Ab.esc
    split
    · exact ha
    split
    · exact .inl (hi a)
    split
    · exact .inl rfl
    split
    · exact .inl rfl
    split
    · exact .inl rfl
    · exact .inl rfl
  split
  · unfold Ab.ctl
    split
    · exact ha
    split
    · exact .inl (hi _)
    split
    · split <;> exact .inl rfl
    split
    · split <;> exact .inl rfl
    · exact .inl rfl
  split
  · unfold Ab.txt
    split
    · exact .inl rfl
    split <;> exact .inl rfl
  · exact .inl rfl
theorem feed_by2 {n : Nat} {a : Ab} (h : RInv n a) (c : Int) : (a.feed c).1.st = 2 → (a.feed c).1.inter.size ≠ 0 → (a.feed c).1.by_ ≠ 0 := by
  have hstep : ∀ o : Ab × List Sq × Bool, (stepA o).1.st = o.1.st ∧ (stepA o).1.inter = o.1.inter ∧ (stepA o).1.by_ = o.1.by_ := fun o => by unfold stepA; split <;> exact ⟨rfl, rfl, rfl⟩
  have hb0 := h.by0
  have hz : ∀ s : Int, (a.to s).inter.size ≠ 0 → False := fun s h => h rfl
  have hz2 : ((Ab.to { a with p := [] } 1).inter.size ≠ 0) → False := fun h => h rfl
  unfold Ab.feed
  split
  · intro _ h2; exact (hz2 h2).elim
  split
  · intro _ h2; exact (hz 0 h2).elim
  show (stepA (a.core c)).1.st = 2 → (stepA (a.core c)).1.inter.size ≠ 0 → (stepA (a.core c)).1.by_ ≠ 0
  obtain ⟨e1, e2, e3⟩ := hstep (a.core c)
  rw [e1, e2, e3]
  clear e1 e2 e3
  have ha : (a.aside c).1.st = 2 → (a.aside c).1.inter.size ≠ 0 → (a.aside c).1.by_ ≠ 0 := by
    unfold Ab.aside
    split
    · exact h.by2
    split
    · exact h.by2
    · intro _ h2; exact (h2 rfl).elim
  unfold Ab.core
  split
  · rename_i h0
    intro h1 _
    have h1' : a.st = 2 := h1
    omega
  split
  · rename_i h0 h1
    unfold Ab.esc
    split
    · exact ha
    split
    · unfold Ab.inter_
      split
      · intro h2; have h2' : a.st = 2 := h2; omega
      · intro h2; have h2' : a.st = 2 := h2; omega
    split
    · intro _ h2; exact (h2 rfl).elim
    split
    · intro _ h2; exact (h2 rfl).elim
    split
    · intro _ h2; exact (h2 rfl).elim
    · intro _ h2; exact (h2 rfl).elim
  split
  · have hne : a.by_ + 1 ≠ 0 := by omega
    unfold Ab.ctl
    split
    · exact ha
    split
    · unfold Ab.inter_
      split
      · intro _ _; exact hne
      · intro _ _; exact hne
    split
    · split <;> (intro _ _; exact hne)
    split
    · split <;> (intro _ _; exact hne)
    · intro _ h2; exact (h2 rfl).elim
  split
  · unfold Ab.txt
    split
    · intro _ h2; exact (h2 rfl).elim
    split
    · rename_i h3 _ _
      intro h2; have h2' : a.st = 2 := h2; omega
    · exact h.by2
  · exact h.by2
theorem RInv.feed {n : Nat} {a : Ab} (h : RInv n a) (c : Int) (hc0 : 0 ≤ c) (hc1 : c ≤ 255) : RInv (n + 1) (a.feed c).1 := by
  have hp := feed_p a c
  refine ⟨feed_inv h.toInv c, ?_, ?_, ?_, feed_by2 h c⟩
  · rcases hp with e | e | e <;> rw [e]
    · exact h.ps
    · exact PS.nil
    · exact (h.ps.cut c).1
  · rcases hp with e | e | e <;> rw [e]
    · exact h.pn
    · trivial
    · exact h.pn.step c
  · rcases hp with e | e | e <;> rw [e]
    · exact h.pr
    · intro y hy; cases hy
    · exact pstep_bytes h.pr hc0 hc1
theorem RInv.zero (n : Nat) : RInv n Ab.zero := ⟨Inv.zero n, PS.nil, trivial, (fun y hy => by cases hy), fun _ h => (h rfl).elim⟩
theorem rcontrol_any (w : World) (b base : Nat) (x : RL) (ts : List SqV) (a : Ab) (n : Nat) (c : Int) (h : RF w b base x ts a) (hI : RInv n a) (hn : n ≤ 1000) (hst : a.st = 2) (hb : base ≤ w.heap.size) (ht : ts.length ≤ 900) (hc0 : 32 ≤ c) (hc1 : c < 127) :
    Calls Try.prog 17 #[.pointer (some ⟨b, 0, none⟩), .int .u8 c] w (ROut b base x ts (stepA (a.ctl c)) w) := by
  have hp : x.p = [] := by rw [h.ab.p]; exact hI.nz (by omega)
  have hby := h.ab.by_
  have hb0 : 0 ≤ x.by_ := by rw [hby]; exact hI.by0
  have hb2 : x.by_ ≤ 1000000 := by rw [hby]; have := hI.by1; omega
  have hin := h.ab.inter
  unfold Ab.ctl
  rw [if_neg (by omega)]
  by_cases h48 : c < 48
  · rw [if_pos h48]
    exact rctl_inter w b base x ts a c h hb ht hp hI.inter hb0 hb2 hc0 h48
  rw [if_neg h48]
  by_cases h64 : 64 ≤ c
  · rw [if_neg (by omega), if_neg (by omega), stepA_ok rfl]
    exact rctl_end w b base x ts a c h hb ht hp hI.len hb0 hb2 h64 hc1
  by_cases h60 : c < 60
  · rw [if_pos h60]
    by_cases hi : a.inter.size = 0
    · rw [if_neg (by omega), stepA_ok rfl]
      rw [← hby]
      by_cases hps : a.params = []
      · rw [hps]
        exact rctl_new w b base x ts a c h hb hp hb0 hb2 (by omega) h60 (by rw [hin]; exact hi) hps
      · obtain ⟨m, hm⟩ : ∃ m, a.params.length = m + 1 := ⟨a.params.length - 1, by have := List.length_pos_iff.2 hps; omega⟩
        exact rctl_more w b base x ts a c m h hb hp hb0 hb2 (by omega) h60 (by rw [hin]; exact hi) hm (by have := hI.len; omega) hI.rng
    · rw [if_pos hi, stepA_bad rfl]
      exact rctl_bad w b base x ts a c h hb hp hb0 hb2 (by omega) (by omega) (.inl (by rw [hin]; exact hi))
  · rw [if_neg h60, if_pos (by omega)]
    by_cases h0 : a.by_ = 0
    · rw [if_pos h0, stepA_ok rfl]
      have hi : a.inter.size = 0 := Nat.eq_zero_of_not_pos (fun hpos => hI.by2 hst (by omega) h0)
      exact rctl_priv w b base x ts a c h hb hp (by rw [hby]; exact h0) (by omega) (by omega) (by rw [hin]; exact hi)
    · rw [if_neg h0, stepA_bad rfl]
      exact rctl_bad w b base x ts a c h hb hp hb0 hb2 (by omega) (by omega) (.inr ⟨by omega, by rw [hby]; exact h0⟩)
end Go.Proofs.Ytlpjehmanodhpaa
set_option linter.unusedSimpArgs false
set_option linter.unusedVariables false
namespace Go.Proofs.Ytlpjehmanodhpaa
open Go.RowKit Go.Proofs.YtlpjehmanodhpaaW.PrintWords
/-- What the reference's Feed leaves. -/
def RFOut (b base : Nat) (x : RL) (o : Ab × List Sq) (w : World) (e : Ending) (w' : World) : Prop :=
  e = .returned (.tuple #[]) ∧ ∃ (x' : RL) (ss : List SqV), RF w' b base x' ss o.1 ∧ Fa2 (TellOk w') ss o.2 ∧ Fr (At b) w w' ∧ (∀ k, RB x' k → RB x k ∨ w.heap.size ≤ k) ∧
    (∀ s ∈ ss, ∀ k, OwnB s.pv k → RB x k ∨ w.heap.size ≤ k) ∧ ∀ k, OwnB x'.tv k → w.heap.size ≤ k
theorem ROut.feed {b base : Nat} {x : RL} {o : Ab × List Sq} {w w1 w2 : World} {e : Ending} (hf : Fr (At b) w w1) (h : ROut b base { x with tv := .slice none 0 0 } [] o w1 e w2) : RFOut b base x o w e w2 := by
  obtain ⟨he, x', ss, h1, h2, h3, h4, h5, h6⟩ := h
  have hsz := hf.size
  rw [List.nil_append] at h1
  have hrb : ∀ k, RB { x with tv := .slice none 0 0 } k → RB x k := fun k hk => by
    rcases hk with hk | hk | hk
    · exact .inl hk
    · exact absurd hk (own_none rfl k)
    · exact .inr (.inr hk)
  refine ⟨he, x', ss, h1, h2, hf.then_ h3 (fun k hk => ?_), fun k hk => ?_, fun s hs k hk => ?_, fun k hk => ?_⟩
  · rcases hk with hk | hk
    · exact .inl hk
    · exact absurd hk (own_none rfl k)
  · exact (h4 k hk).imp (hrb k) (Nat.le_trans hsz)
  · exact (h5 s hs k hk).imp (hrb k) (Nat.le_trans hsz)
  · rcases h6 k hk with h | h
    · exact absurd h (own_none rfl k)
    · exact Nat.le_trans hsz h
theorem RF.set11 {w : World} {b base : Nat} {x : RL} {ts : List SqV} {a : Ab} (h : RF w b base x ts a) : RF (w.setCell ⟨b, 11, none⟩ (.slice none 0 0)) b base { x with tv := .slice none 0 0 } [] a :=
  ⟨⟨h.rp.blk.set 11 (.slice none 0 0), Row.nil _ _ _ _ _⟩, h.vp_to (((Fr.refl (At b) w).setAt 11 _).mono (fun k hk => .inl hk)), ⟨h.ab.p, h.ab.st, h.ab.by_, h.ab.kind, h.ab.r, h.ab.priv, h.ab.inter, h.ab.final, h.ab.text, h.ab.bad⟩,
    C_fr h.cw ((Fr.refl (At b) w).setAt 11 _) (fun ad e h0 hk => h.far ad e h0 hk), h.cap, h.far⟩
/-- A parser's function that wrote nothing. -/
theorem ROut.same {w : World} {b base : Nat} {x : RL} {ts : List SqV} {a : Ab} (h : RF w b base x ts a) : ROut b base x ts (a, []) w (.returned (.tuple #[])) w :=
  ⟨rfl, x, [], by rw [List.append_nil]; exact h, .nil, Fr.refl _ _, fun k hk => .inl hk, (fun s hs => by cases hs), fun k hk => .inl hk⟩
theorem to_rout {w w1 : World} {b base : Nat} {x : RL} {ts : List SqV} {a : Ab} {s : Int} {e : Ending} (h : RF w b base x ts a) (hp : x.p = []) (he : RTo b base x (x.to s) ts w e w1) : ROut b base x ts (a.to s, []) w e w1 :=
  ROut.of (ss := []) (x' := x.to s) h (by rw [List.append_nil]; exact he) hp (.inr ⟨rfl, rfl⟩) ⟨h.ab.p, rfl, rfl, rfl, rfl, rfl, rfl, rfl, rfl, rfl⟩ .nil
theorem ground_rout {w w1 : World} {b base : Nat} {x : RL} {ts : List SqV} {a : Ab} {c : Int} {e : Ending} (h : RF w b base x ts a) (hlt : b < w.heap.size) (he : GTo b base x ts c w e w1) : ROut b base x ts (a.ground c) w e w1 := by
  obtain ⟨A', c', ⟨e1, tv', h1, h2, h3⟩, h4, h5, h6⟩ := he
  obtain ⟨g1, g2⟩ := ground_ps x.p c
  have hap := h.ab.p
  rw [hap] at g1 g2 h1 h4 h5 h6
  refine ⟨e1, { x with p := (groundP a.p c).1, wA := A', wc := c', tv := tv' }, (groundP a.p c).2, ⟨h1, h.vp_to h2, ⟨g2, h.ab.st, h.ab.by_, h.ab.kind, h.ab.r, h.ab.priv, h.ab.inter, h.ab.final, h.ab.text, h.ab.bad⟩, h4, h5, fun ad e h0 => ?_⟩, g1.imp (fun s _ t ht => ?_), h2, fun k hk => ?_, fun s hs k hk => ?_, h3⟩
  · have := h6 ad e h0
    omega
  · obtain ⟨y1, y2, y3, y4, y5, y6, y7, y8, y9, y10⟩ := ht
    exact ⟨y1, y2, y3, y4, y5, y6, by rw [y10]; exact VP.nil y7 y8 y9⟩
  · rcases hk with hk | hk | ⟨h0, ad, e, hk⟩
    · exact .inl (.inl hk)
    · exact (h3 k hk).imp (fun h => .inr (.inl h)) id
    · rw [← hk]
      exact .inr (h6 ad e h0)
  · obtain ⟨t, ht⟩ := g1.mem s hs
    exact absurd hk (nil_own ht.2.2.2.2.2.2.1 k)
def osV (t : ByteArray) : SqV := { SqV.zero with kind := 5, text := t }
theorem os_ok (x : RL) (a : Ab) (t : ByteArray) : SqOk x a (osV t) (osS t) := ⟨rfl, rfl, rfl, rfl, rfl, rfl, .inl ⟨rfl, rfl⟩⟩
set_option maxHeartbeats 4000000 in
theorem rfeed_can (w : World) (b base : Nat) (x : RL) (ts : List SqV) (a : Ab) (c : Int) (h : RF w b base x ts a) (hb : base ≤ w.heap.size) (hp : x.p = []) (hst : a.st ≠ 0) (hc : c = 24 ∨ c = 26) :
    Calls Try.prog 6 #[.pointer (some ⟨b, 0, none⟩), .int .u8 c] w (RFOut b base x (a.to 0, []) w) := by
  have c0 := h.rp.blk.cell 0 rfl
  have c11 := h.rp.blk.cell 11 rfl
  have f11 := h.rp.blk.frozen 11
  have c9 := h.rp.blk.cell 9 rfl
  have hlt := h.rp.blk.lt
  obtain ⟨A0, c00, hshape, _⟩ := Row.shape h.rp.row
  rw [hshape] at c11
  have H1 := hid h.set11
  have HF1 : Hid (Fr (At b) w (w.setCell ⟨b, 11, none⟩ (.slice none 0 0))) := (Fr.refl (At b) w).setAt 11 _
  have hb1 : base ≤ (w.setCell ⟨b, 11, none⟩ (.slice none 0 0)).heap.size := by rw [sz_setCell]; exact hb
  rw [h.ab.st] at c0
  clear hshape
  have t1 : (c == 27) = false := by rw [beq_eq_false_iff_ne]; omega
  have t2 : (a.st == 0) = false := by rw [beq_eq_false_iff_ne]; exact hst
  have HT := hid (rto_any _ b base _ [] 0 H1.out.rp)
  clear h
  by_cases h24 : c = 24
  · have t3 : (c == 24) = true := by rw [beq_iff_eq]; exact h24
    clear hc h24 hst
    go_enter Try.func6, Try.ntmps6
    go_wp2_with fail
    refine HT.out.mono ?_
    intro e' w2 h2
    obtain rfl : e' = .returned (.tuple #[]) := h2.1
    have H2 := hid (ROut.feed HF1.out (to_rout H1.out hp h2))
    clear h2
    go_wp2
    refine bodyPost_ret (v := .tuple #[]) (results_none rfl _ _ _) rfl ?_
    exact H2.out
  · have t3 : (c == 24) = false := by rw [beq_eq_false_iff_ne]; exact h24
    have t4 : (c == 26) = true := by rw [beq_iff_eq]; omega
    clear hc h24 hst
    go_enter Try.func6, Try.ntmps6
    go_wp2_with fail
    refine HT.out.mono ?_
    intro e' w2 h2
    obtain rfl : e' = .returned (.tuple #[]) := h2.1
    have H2 := hid (ROut.feed HF1.out (to_rout H1.out hp h2))
    clear h2
    go_wp2
    refine bodyPost_ret (v := .tuple #[]) (results_none rfl _ _ _) rfl ?_
    exact H2.out
set_option maxHeartbeats 4000000 in
theorem rground_any (w : World) (b base : Nat) (x : RL) (ts : List SqV) (a : Ab) (n : Nat) (c : Int) (h : RF w b base x ts a) (hI : RInv n a) (hb : base ≤ w.heap.size) (ht : ts.length ≤ 900) (hc0 : 0 ≤ c) (hc1 : c ≤ 255) :
    Calls Try.prog 16 #[.pointer (some ⟨b, 0, none⟩), .int .u8 c] w (ROut b base x ts (a.ground c) w) := by
  have hap := h.ab.p
  have hps : PS x.p := by rw [hap]; exact hI.ps
  have hpl : x.p.length ≤ 3 := by rw [hap]; exact hI.pn.len
  have hpr : ∀ y ∈ x.p, 0 ≤ y ∧ y ≤ 255 := by rw [hap]; exact hI.pr
  by_cases hc : c < 32 ∨ c = 127
  · exact (rground_low w b base x ts c h.rp hb hpl ht h.cw h.cap hpr hps hc).mono fun e w' he => ground_rout h h.rp.blk.lt he
  · exact (rground_go w b base x ts c h.rp hb hpl ht h.cw h.cap hpr hps (by omega) hc1 (by omega)).mono fun e w' he => ground_rout h h.rp.blk.lt he
set_option maxHeartbeats 4000000 in
theorem rfeed_ground (w : World) (b base : Nat) (x : RL) (ts : List SqV) (a : Ab) (n : Nat) (c : Int) (h : RF w b base x ts a) (hI : RInv n a) (hb : base ≤ w.heap.size) (hst : a.st = 0) (hc : c ≠ 27) (hc0 : 0 ≤ c) (hc1 : c ≤ 255) :
    Calls Try.prog 6 #[.pointer (some ⟨b, 0, none⟩), .int .u8 c] w (RFOut b base x (a.ground c) w) := by
  have c0 := h.rp.blk.cell 0 rfl
  have c11 := h.rp.blk.cell 11 rfl
  have f11 := h.rp.blk.frozen 11
  have c9 := h.rp.blk.cell 9 rfl
  have hlt := h.rp.blk.lt
  obtain ⟨A0, c00, hshape, _⟩ := Row.shape h.rp.row
  rw [hshape] at c11
  have H1 := hid h.set11
  have HF1 : Hid (Fr (At b) w (w.setCell ⟨b, 11, none⟩ (.slice none 0 0))) := (Fr.refl (At b) w).setAt 11 _
  have hb1 : base ≤ (w.setCell ⟨b, 11, none⟩ (.slice none 0 0)).heap.size := by rw [sz_setCell]; exact hb
  rw [h.ab.st] at c0
  clear hshape
  have t1 : (c == 27) = false := by rw [beq_eq_false_iff_ne]; omega
  have t2 : (a.st == 0) = true := by rw [beq_iff_eq]; exact hst
  have HG := hid (rground_any _ b base _ [] a n c H1.out hI hb1 (by simp) hc0 hc1)
  clear h hst hc
  go_enter Try.func6, Try.ntmps6
  go_wp2_with fail
  refine HG.out.mono ?_
  intro e' w2 h2
  obtain rfl : e' = .returned (.tuple #[]) := h2.1
  have H2 := hid (ROut.feed HF1.out h2)
  clear h2
  go_wp2
  refine bodyPost_ret (v := .tuple #[]) (results_none rfl _ _ _) rfl ?_
  exact H2.out
end Go.Proofs.Ytlpjehmanodhpaa
set_option linter.unusedSimpArgs false
set_option linter.unusedVariables false
namespace Go.Proofs.Ytlpjehmanodhpaa
open Go.RowKit Go.Proofs.YtlpjehmanodhpaaW.PrintWords
theorem esc_rout {w w1 : World} {b base : Nat} {x : RL} {ts ss : List SqV} {a : Ab} {e : Ending} {us : List Sq} (h : RF w b base x ts a) (he : RTo b base x (RL.to { x with p := [], wA := none, wc := 0 } 1) (ts ++ ss) w e w1) (hs : Fa2 (SqOk x a) ss us) : ROut b base x ts (Ab.to { a with p := [] } 1, us) w e w1 :=
  ROut.of (x' := RL.to { x with p := [], wA := none, wc := 0 } 1) h he rfl (.inr ⟨rfl, rfl⟩) ⟨rfl, rfl, rfl, rfl, rfl, rfl, rfl, rfl, rfl, rfl⟩ hs
set_option maxHeartbeats 4000000 in
theorem rfeed_esc (w : World) (b base : Nat) (x : RL) (ts : List SqV) (a : Ab) (n : Nat) (h : RF w b base x ts a) (hI : RInv n a) (hb : base ≤ w.heap.size) :
    Calls Try.prog 6 #[.pointer (some ⟨b, 0, none⟩), .int .u8 27] w (RFOut b base x (Ab.to { a with p := [] } 1, (if a.st = 3 then [osS a.text] else []) ++ (pflush a.p).map prS) w) := by
  have c0 := h.rp.blk.cell 0 rfl
  have c11 := h.rp.blk.cell 11 rfl
  have f11 := h.rp.blk.frozen 11
  have c9 := h.rp.blk.cell 9 rfl
  have hlt := h.rp.blk.lt
  obtain ⟨A0, c00, hshape, _⟩ := Row.shape h.rp.row
  rw [hshape] at c11
  have H1 := hid h.set11
  have HF1 : Hid (Fr (At b) w (w.setCell ⟨b, 11, none⟩ (.slice none 0 0))) := (Fr.refl (At b) w).setAt 11 _
  have hb1 : base ≤ (w.setCell ⟨b, 11, none⟩ (.slice none 0 0)).heap.size := by rw [sz_setCell]; exact hb
  rw [h.ab.st] at c0
  clear hshape
  have hap := h.ab.p
  have hps : PS x.p := by rw [hap]; exact hI.ps
  have hpl : x.p.length ≤ 3 := by rw [hap]; exact hI.pn.len
  have hpr : ∀ y ∈ x.p, 0 ≤ y ∧ y ≤ 255 := by rw [hap]; exact hI.pr
  have hfl := pflush_len x.p
  have hpa := hps.pall
  have HXT := hid h.ab.text
  have HAP := hid hap
  have hfs : Fa2 (SqOk { x with tv := .slice none 0 0 } a) ((pflush x.p).map prV) ((pflush a.p).map prS) := by
    rw [hap]
    exact Fa2.map _ (fun r => SqOk.of_NoPs (noPs_pr r))
  have HFS := hid hfs
  have HCW := hid h.cw
  have HCAP := hid h.cap
  have HFAR := hid h.far
  have HPA := hid hpa
  clear h hap hfs hpa
  by_cases h3 : a.st = 3
  · have t1 : (a.st == 3) = true := by rw [beq_iff_eq]; exact h3
    rw [if_pos h3]
    have HTE := hid (rtell_any _ b base _ [] (osV x.q.text) H1.out.rp hb1 (by simp))
    clear h3
    go_enter Try.func6, Try.ntmps6
    go_wp2_with fail
    refine HTE.out.mono ?_
    rintro e' w2 ⟨rfl, tv2, hp2, hf2, ho2⟩
    have hb2 : base ≤ w2.heap.size := Nat.le_trans hb1 hf2.size
    have hC2 : Kd.C (Kd.int .u8) w2 x.wA x.p.length x.p := C_fr H1.out.cw hf2 (fun ad e h0 hk => by
      rcases hk with hk | hk
      · exact HFAR.out ad e h0 hk
      · exact absurd hk (own_none rfl _))
    have HFL := hid (rflush_any w2 b base _ _ hp2 hb2 (by show x.p.length ≤ 1000; omega) (by simp) hC2 HCAP.out hpr (by show (pall x.p).length ≤ 10000; rw [HPA.out]; omega))
    have HF2 := hid hf2
    have HO2 := hid ho2
    clear hp2 hf2 ho2 hC2
    go_wp2_with fail
    refine HFL.out.mono ?_
    rintro e' w3 ⟨rfl, tv3, hp3, hf3, ho3⟩
    have HT3 := hid (rto_any w3 b base _ _ 1 hp3)
    have HF3 := hid hf3
    have HO3 := hid ho3
    clear hp3 hf3 ho3
    go_wp2_with fail
    refine HT3.out.mono ?_
    intro e' w4 h4
    obtain rfl : e' = .returned (.tuple #[]) := h4.1
    have h5 := RTo.trans (x1 := { x with p := [], wA := none, wc := 0, tv := .slice none 0 0 }) (x := { x with tv := tv2 }) HF3.out HO3.out h4
    have h6 := RTo.trans (x1 := { x with tv := .slice none 0 0 }) (x := { x with tv := .slice none 0 0 }) HF2.out HO2.out h5
    have h7 : RTo b base { x with tv := .slice none 0 0 } (RL.to { x with tv := .slice none 0 0, p := [], wA := none, wc := 0 } 1) ([] ++ ([osV x.q.text] ++ (pflush x.p).map prV)) (w.setCell ⟨b, 11, none⟩ (.slice none 0 0)) (.returned (.tuple #[])) w4 := by
      rw [← HPA.out, ← List.append_assoc]
      exact h6
    have hss : Fa2 (SqOk { x with tv := .slice none 0 0 } a) ([osV x.q.text] ++ (pflush x.p).map prV) ([osS a.text] ++ (pflush a.p).map prS) :=
      Fa2.append (.cons (by rw [← show x.q.text = a.text from HXT.out]; exact os_ok _ _ _) .nil) HFS.out
    have H8 := hid (ROut.feed HF1.out (esc_rout (x := { x with tv := .slice none 0 0 }) H1.out h7 hss))
    clear h4 h5 h6 h7 hss
    go_wp2
    refine bodyPost_ret (v := .tuple #[]) (results_none rfl _ _ _) rfl ?_
    exact H8.out
  · have t1 : (a.st == 3) = false := by rw [beq_eq_false_iff_ne]; exact h3
    rw [if_neg h3]
    clear h3
    have HFL := hid (rflush_any _ b base _ [] H1.out.rp hb1 (by show x.p.length ≤ 1000; omega) (by simp) H1.out.cw HCAP.out hpr (by show (pall x.p).length ≤ 10000; rw [HPA.out]; omega))
    go_enter Try.func6, Try.ntmps6
    go_wp2_with fail
    refine HFL.out.mono ?_
    rintro e' w3 ⟨rfl, tv3, hp3, hf3, ho3⟩
    have HT3 := hid (rto_any w3 b base _ _ 1 hp3)
    have HF3 := hid hf3
    have HO3 := hid ho3
    clear hp3 hf3 ho3
    go_wp2_with fail
    refine HT3.out.mono ?_
    intro e' w4 h4
    obtain rfl : e' = .returned (.tuple #[]) := h4.1
    have h5 := RTo.trans (x1 := { x with p := [], wA := none, wc := 0, tv := .slice none 0 0 }) (x := { x with tv := .slice none 0 0 }) HF3.out HO3.out h4
    have h7 : RTo b base { x with tv := .slice none 0 0 } (RL.to { x with tv := .slice none 0 0, p := [], wA := none, wc := 0 } 1) ([] ++ ([] ++ (pflush x.p).map prV)) (w.setCell ⟨b, 11, none⟩ (.slice none 0 0)) (.returned (.tuple #[])) w4 := by
      rw [← HPA.out]
      exact h5
    have hss : Fa2 (SqOk { x with tv := .slice none 0 0 } a) ([] ++ (pflush x.p).map prV) ([] ++ (pflush a.p).map prS) := HFS.out
    have H8 := hid (ROut.feed HF1.out (esc_rout (x := { x with tv := .slice none 0 0 }) H1.out h7 hss))
    clear h4 h5 h7 hss
    go_wp2
    refine bodyPost_ret (v := .tuple #[]) (results_none rfl _ _ _) rfl ?_
    exact H8.out
set_option maxHeartbeats 4000000 in
theorem rfeed_text (w : World) (b base : Nat) (x : RL) (ts : List SqV) (a : Ab) (n : Nat) (c : Int) (h : RF w b base x ts a) (hI : RInv n a) (hb : base ≤ w.heap.size) (hst : a.st = 3) (hc : c ≠ 27 ∧ c ≠ 24 ∧ c ≠ 26) (hc0 : 0 ≤ c) (hc1 : c ≤ 255) :
    Calls Try.prog 6 #[.pointer (some ⟨b, 0, none⟩), .int .u8 c] w (RFOut b base x ((a.txt c).1, (a.txt c).2.1) w) := by
  have hp : x.p = [] := by rw [h.ab.p]; exact hI.nz (by omega)
  have hs256 := hI.text
  have c0 := h.rp.blk.cell 0 rfl
  have c11 := h.rp.blk.cell 11 rfl
  have f11 := h.rp.blk.frozen 11
  have c9 := h.rp.blk.cell 9 rfl
  have hlt := h.rp.blk.lt
  obtain ⟨A0, c00, hshape, _⟩ := Row.shape h.rp.row
  rw [hshape] at c11
  have H1 := hid h.set11
  have HF1 : Hid (Fr (At b) w (w.setCell ⟨b, 11, none⟩ (.slice none 0 0))) := (Fr.refl (At b) w).setAt 11 _
  have hb1 : base ≤ (w.setCell ⟨b, 11, none⟩ (.slice none 0 0)).heap.size := by rw [sz_setCell]; exact hb
  rw [h.ab.st] at c0
  clear hshape
  have f9 := h.rp.blk.frozen 9
  have hxt := h.ab.text
  have t1 : (c == 27) = false := by rw [beq_eq_false_iff_ne]; exact hc.1
  have t2 : (c == 24) = false := by rw [beq_eq_false_iff_ne]; exact hc.2.1
  have t3 : (c == 26) = false := by rw [beq_eq_false_iff_ne]; exact hc.2.2
  rw [hst] at c0
  unfold Ab.txt
  by_cases h7 : c = 7
  · have t4 : (c == 7) = true := by rw [beq_iff_eq]; exact h7
    rw [if_pos h7]
    have HTE := hid (rtell_any _ b base _ [] (osV x.q.text) H1.out.rp hb1 (by simp))
    have HXT := hid hxt
    clear h h7 hc hst hxt
    go_enter Try.func6, Try.ntmps6
    go_wp2_with fail
    refine HTE.out.mono ?_
    rintro e' w2 ⟨rfl, tv2, hp2, hf2, ho2⟩
    have HT3 := hid (rto_any w2 b base _ _ 0 hp2)
    have HF2 := hid hf2
    have HO2 := hid ho2
    clear hp2 hf2 ho2
    go_wp2_with fail
    refine HT3.out.mono ?_
    intro e' w4 h4
    obtain rfl : e' = .returned (.tuple #[]) := h4.1
    have h5 := RTo.trans (x1 := { x with tv := .slice none 0 0 }) (x := { x with tv := .slice none 0 0 }) HF2.out HO2.out h4
    have H8 : Hid (RFOut b base x (a.to 0, [osS a.text]) w (.returned (.tuple #[])) w4) := ROut.feed HF1.out (ROut.of (x' := RL.to { x with tv := .slice none 0 0 } 0) H1.out h5 hp (.inr ⟨rfl, rfl⟩) ⟨H1.out.ab.p, rfl, rfl, rfl, rfl, rfl, rfl, rfl, rfl, rfl⟩ (.cons (by rw [← show x.q.text = a.text from HXT.out]; exact os_ok _ _ _) .nil))
    clear h4 h5
    go_wp2
    refine bodyPost_ret (v := .tuple #[]) (results_none rfl _ _ _) rfl ?_
    exact H8.out
  rw [if_neg h7]
  have t4 : (c == 7) = false := by rw [beq_eq_false_iff_ne]; exact h7
  by_cases hput : 32 ≤ c ∧ c ≠ 127 ∧ a.text.size < 256
  · rw [if_pos hput]
    have t5 : decide (c ≥ 32) = true := decide_eq_true hput.1
    have t6 : (c != 127) = true := by rw [bne_iff_ne]; exact hput.2.1
    have t7 : decide ((x.q.text.size : Int) < 256) = true := decide_eq_true (by rw [hxt]; omega)
    have hno : ¬ 9223372036854775807 < x.q.text.size + (one c).size := by rw [one_size, hxt]; omega
    have hw1 : ((w.setCell ⟨b, 11, none⟩ (.slice none 0 0)).alloc (.cells #[.int .u8 c] 5)).drew.cell? ⟨w.heap.size, 0, none⟩ = some (.int .u8 c) := by
      have h5 := (Blk.new (w.setCell ⟨b, 11, none⟩ (.slice none 0 0)) 5 [.int .u8 c]).drew.cell 0 rfl
      rw [sz_setCell] at h5
      exact h5
    have hconv := conv_one _ _ c hw1
    have H8 : Hid (RFOut b base x ({ a with text := a.text ++ one c }, []) w (.returned (.tuple #[])) (((w.setCell ⟨b, 11, none⟩ (.slice none 0 0)).setCell ⟨b, 9, none⟩ (.string (x.q.text ++ one c))).alloc (.cells #[.int .u8 c] 5)).drew) := by
      have hF : Fr (At b) (w.setCell ⟨b, 11, none⟩ (.slice none 0 0)) (((w.setCell ⟨b, 11, none⟩ (.slice none 0 0)).setCell ⟨b, 9, none⟩ (.string (x.q.text ++ one c))).alloc (.cells #[.int .u8 c] 5)).drew := (((Fr.refl (At b) _).setAt 9 _).alloc _).drew
      refine ROut.feed HF1.out (ROut.of (ss := []) (x' := { x with tv := .slice none 0 0, q := { x.q with text := x.q.text ++ one c } }) H1.out ⟨rfl, .slice none 0 0, ⟨((H1.out.rp.blk.set 9 (.string (x.q.text ++ one c))).alloc _).drew, Row.nil _ _ _ _ _⟩, at_pw hF, fun k hk => .inl hk⟩ hp (.inl ⟨rfl, rfl⟩) ⟨H1.out.ab.p, H1.out.ab.st, H1.out.ab.by_, H1.out.ab.kind, H1.out.ab.r, H1.out.ab.priv, H1.out.ab.inter, H1.out.ab.final, ?_, H1.out.ab.bad⟩ .nil)
      show x.q.text ++ one c = a.text ++ one c
      rw [hxt]
    clear h h7 hc hst hxt hput
    go_enter Try.func6, Try.ntmps6
    go_wp2
    go_region
    all_goals
      go_wp2
      refine bodyPost_ret (v := .tuple #[]) (results_none rfl _ _ _) rfl ?_
      exact H8.out
  · rw [if_neg hput]
    have hn : (decide (c ≥ 32) && (c != 127) && decide ((x.q.text.size : Int) < 256)) = false := by
      rw [hxt]
      simp only [Bool.and_eq_false_iff, decide_eq_false_iff_not, bne_eq_false_iff_eq]
      omega
    have H8 := hid (ROut.feed HF1.out (ROut.same H1.out))
    clear h h7 hc hst hxt hput
    cases t5 : decide (c ≥ 32) <;> cases t6 : (c != 127) <;> cases t7 : decide ((x.q.text.size : Int) < 256)
    all_goals first
      | (rw [t5, t6, t7] at hn; cases hn; done)
      | (clear hn
         go_enter Try.func6, Try.ntmps6
         go_wp2
         refine bodyPost_ret (v := .tuple #[]) (results_none rfl _ _ _) rfl ?_
         exact H8.out)
set_option maxHeartbeats 4000000 in
/-- Nothing: in a string; or a 7f. -/
theorem rfeed_none (w : World) (b base : Nat) (x : RL) (ts : List SqV) (a : Ab) (c : Int) (h : RF w b base x ts a) (hb : base ≤ w.heap.size) (hst : a.st ≠ 0 ∧ a.st ≠ 3) (hc : c ≠ 27 ∧ c ≠ 24 ∧ c ≠ 26) (h4 : a.st = 4 ∨ c = 127) :
    Calls Try.prog 6 #[.pointer (some ⟨b, 0, none⟩), .int .u8 c] w (RFOut b base x (a, []) w) := by
  have c0 := h.rp.blk.cell 0 rfl
  have c11 := h.rp.blk.cell 11 rfl
  have f11 := h.rp.blk.frozen 11
  have c9 := h.rp.blk.cell 9 rfl
  have hlt := h.rp.blk.lt
  obtain ⟨A0, c00, hshape, _⟩ := Row.shape h.rp.row
  rw [hshape] at c11
  have H1 := hid h.set11
  have HF1 : Hid (Fr (At b) w (w.setCell ⟨b, 11, none⟩ (.slice none 0 0))) := (Fr.refl (At b) w).setAt 11 _
  have hb1 : base ≤ (w.setCell ⟨b, 11, none⟩ (.slice none 0 0)).heap.size := by rw [sz_setCell]; exact hb
  rw [h.ab.st] at c0
  clear hshape
  have t1 : (c == 27) = false := by rw [beq_eq_false_iff_ne]; exact hc.1
  have t2 : (c == 24) = false := by rw [beq_eq_false_iff_ne]; exact hc.2.1
  have t3 : (c == 26) = false := by rw [beq_eq_false_iff_ne]; exact hc.2.2
  have t4 : (a.st == 0) = false := by rw [beq_eq_false_iff_ne]; exact hst.1
  have t5 : (a.st == 3) = false := by rw [beq_eq_false_iff_ne]; exact hst.2
  have H8 := hid (ROut.feed HF1.out (ROut.same H1.out))
  by_cases h5 : a.st = 4
  · have t6 : (a.st == 4) = true := by rw [beq_iff_eq]; exact h5
    clear h hst hc h4 h5
    go_enter Try.func6, Try.ntmps6
    go_wp2
    refine bodyPost_ret (v := .tuple #[]) (results_none rfl _ _ _) rfl ?_
    exact H8.out
  · have t6 : (a.st == 4) = false := by rw [beq_eq_false_iff_ne]; exact h5
    have t7 : (c == 127) = true := by rw [beq_iff_eq]; exact h4.resolve_left h5
    clear h hst hc h4 h5
    go_enter Try.func6, Try.ntmps6
    go_wp2
    refine bodyPost_ret (v := .tuple #[]) (results_none rfl _ _ _) rfl ?_
    exact H8.out
set_option maxHeartbeats 4000000 in
theorem rfeed_low (w : World) (b base : Nat) (x : RL) (ts : List SqV) (a : Ab) (c : Int) (h : RF w b base x ts a) (hb : base ≤ w.heap.size) (hp : x.p = []) (hst : a.st = 1 ∨ a.st = 2) (hc : c ≠ 27 ∧ c ≠ 24 ∧ c ≠ 26) (hlow : c < 32) :
    Calls Try.prog 6 #[.pointer (some ⟨b, 0, none⟩), .int .u8 c] w (RFOut b base x (a, [exS c]) w) := by
  have c0 := h.rp.blk.cell 0 rfl
  have c11 := h.rp.blk.cell 11 rfl
  have f11 := h.rp.blk.frozen 11
  have c9 := h.rp.blk.cell 9 rfl
  have hlt := h.rp.blk.lt
  obtain ⟨A0, c00, hshape, _⟩ := Row.shape h.rp.row
  rw [hshape] at c11
  have H1 := hid h.set11
  have HF1 : Hid (Fr (At b) w (w.setCell ⟨b, 11, none⟩ (.slice none 0 0))) := (Fr.refl (At b) w).setAt 11 _
  have hb1 : base ≤ (w.setCell ⟨b, 11, none⟩ (.slice none 0 0)).heap.size := by rw [sz_setCell]; exact hb
  rw [h.ab.st] at c0
  clear hshape
  have t1 : (c == 27) = false := by rw [beq_eq_false_iff_ne]; exact hc.1
  have t2 : (c == 24) = false := by rw [beq_eq_false_iff_ne]; exact hc.2.1
  have t3 : (c == 26) = false := by rw [beq_eq_false_iff_ne]; exact hc.2.2
  have t4 : (a.st == 0) = false := by rw [beq_eq_false_iff_ne]; omega
  have t5 : (a.st == 3) = false := by rw [beq_eq_false_iff_ne]; omega
  have t6 : (a.st == 4) = false := by rw [beq_eq_false_iff_ne]; omega
  have t7 : (c == 127) = false := by rw [beq_eq_false_iff_ne]; omega
  have t8 : decide (c < 32) = true := decide_eq_true hlow
  have HTE := hid (rtell_any _ b base _ [] (exV c) H1.out.rp hb1 (by simp))
  clear h hst hc hlow
  go_enter Try.func6, Try.ntmps6
  go_wp2_with fail
  refine HTE.out.mono ?_
  intro e' w4 h4
  obtain rfl : e' = .returned (.tuple #[]) := h4.1
  have H8 := hid (ROut.feed HF1.out (ROut.of (o := (a, [exS c])) (x' := { x with tv := .slice none 0 0 }) H1.out h4 hp (.inl ⟨rfl, rfl⟩) H1.out.ab (.cons (SqOk.of_NoPs (noPs_ex c)) .nil)))
  clear h4
  go_wp2
  refine bodyPost_ret (v := .tuple #[]) (results_none rfl _ _ _) rfl ?_
  exact H8.out
set_option maxHeartbeats 4000000 in
theorem rfeed_high (w : World) (b base : Nat) (x : RL) (ts : List SqV) (a : Ab) (n : Nat) (c : Int) (h : RF w b base x ts a) (hI : RInv n a) (hb : base ≤ w.heap.size) (hst : a.st = 1 ∨ a.st = 2) (hc : 128 ≤ c) (hc1 : c ≤ 255) :
    Calls Try.prog 6 #[.pointer (some ⟨b, 0, none⟩), .int .u8 c] w (RFOut b base x ((a.to 0).ground c) w) := by
  have hp : x.p = [] := by rw [h.ab.p]; exact hI.nz (by omega)
  have c0 := h.rp.blk.cell 0 rfl
  have c11 := h.rp.blk.cell 11 rfl
  have f11 := h.rp.blk.frozen 11
  have c9 := h.rp.blk.cell 9 rfl
  have hlt := h.rp.blk.lt
  obtain ⟨A0, c00, hshape, _⟩ := Row.shape h.rp.row
  rw [hshape] at c11
  have H1 := hid h.set11
  have HF1 : Hid (Fr (At b) w (w.setCell ⟨b, 11, none⟩ (.slice none 0 0))) := (Fr.refl (At b) w).setAt 11 _
  have hb1 : base ≤ (w.setCell ⟨b, 11, none⟩ (.slice none 0 0)).heap.size := by rw [sz_setCell]; exact hb
  rw [h.ab.st] at c0
  clear hshape
  have hc' : c ≠ 27 ∧ c ≠ 24 ∧ c ≠ 26 := by omega
  have t1 : (c == 27) = false := by rw [beq_eq_false_iff_ne]; exact hc'.1
  have t2 : (c == 24) = false := by rw [beq_eq_false_iff_ne]; exact hc'.2.1
  have t3 : (c == 26) = false := by rw [beq_eq_false_iff_ne]; exact hc'.2.2
  have t4 : (a.st == 0) = false := by rw [beq_eq_false_iff_ne]; omega
  have t5 : (a.st == 3) = false := by rw [beq_eq_false_iff_ne]; omega
  have t6 : (a.st == 4) = false := by rw [beq_eq_false_iff_ne]; omega
  have t7 : (c == 127) = false := by rw [beq_eq_false_iff_ne]; omega
  have t8 : decide (c < 32) = false := decide_eq_false (by omega)
  have t9 : decide (c ≥ 128) = true := decide_eq_true hc
  have hI0 : RInv n (a.to 0) := by
    rw [to_eq hI.toInv (by omega) 0, to0]
    exact RInv.zero n
  have HT3 := hid (rto_any _ b base _ [] 0 H1.out.rp)
  have hcp : 0 ≤ c := by omega
  clear h hst hc hc'
  go_enter Try.func6, Try.ntmps6
  go_wp2_with fail
  refine HT3.out.mono ?_
  intro e' w2 h2
  obtain rfl : e' = .returned (.tuple #[]) := h2.1
  have h3 := to_rout H1.out hp h2
  obtain ⟨_, x2, ss2, r1, r2, r3, r4, r5, r6⟩ := h3
  cases r2
  have HG := hid (rground_any w2 b base x2 _ (a.to 0) n c r1 hI0 (Nat.le_trans hb1 r3.size) (by simp) hcp hc1)
  have R3 := hid r3
  have R4 := hid r4
  have R6 := hid r6
  clear h2 r1 r3 r4 r5 r6
  go_wp2_with fail
  refine HG.out.mono ?_
  intro e' w3 h3
  obtain rfl : e' = .returned (.tuple #[]) := h3.1
  have H8 := hid (ROut.feed HF1.out (ROut.trans R3.out R6.out R4.out h3))
  clear h3
  go_wp2
  refine bodyPost_ret (v := .tuple #[]) (results_none rfl _ _ _) rfl ?_
  exact H8.out
set_option maxHeartbeats 4000000 in
theorem rfeed_ctl (w : World) (b base : Nat) (x : RL) (ts : List SqV) (a : Ab) (n : Nat) (c : Int) (h : RF w b base x ts a) (hI : RInv n a) (hn : n ≤ 1000) (hb : base ≤ w.heap.size) (hst : a.st = 2) (hc0 : 32 ≤ c) (hc1 : c < 127) :
    Calls Try.prog 6 #[.pointer (some ⟨b, 0, none⟩), .int .u8 c] w (RFOut b base x (stepA (a.ctl c)) w) := by
  have c0 := h.rp.blk.cell 0 rfl
  have c11 := h.rp.blk.cell 11 rfl
  have f11 := h.rp.blk.frozen 11
  have c9 := h.rp.blk.cell 9 rfl
  have hlt := h.rp.blk.lt
  obtain ⟨A0, c00, hshape, _⟩ := Row.shape h.rp.row
  rw [hshape] at c11
  have H1 := hid h.set11
  have HF1 : Hid (Fr (At b) w (w.setCell ⟨b, 11, none⟩ (.slice none 0 0))) := (Fr.refl (At b) w).setAt 11 _
  have hb1 : base ≤ (w.setCell ⟨b, 11, none⟩ (.slice none 0 0)).heap.size := by rw [sz_setCell]; exact hb
  rw [h.ab.st] at c0
  clear hshape
  have hc : c ≠ 27 ∧ c ≠ 24 ∧ c ≠ 26 := by omega
  have t1 : (c == 27) = false := by rw [beq_eq_false_iff_ne]; exact hc.1
  have t2 : (c == 24) = false := by rw [beq_eq_false_iff_ne]; exact hc.2.1
  have t3 : (c == 26) = false := by rw [beq_eq_false_iff_ne]; exact hc.2.2
  have t4 : (a.st == 0) = false := by rw [beq_eq_false_iff_ne]; omega
  have t5 : (a.st == 3) = false := by rw [beq_eq_false_iff_ne]; omega
  have t6 : (a.st == 4) = false := by rw [beq_eq_false_iff_ne]; omega
  have t7 : (c == 127) = false := by rw [beq_eq_false_iff_ne]; omega
  have t8 : decide (c < 32) = false := decide_eq_false (by omega)
  have t9 : decide (c ≥ 128) = false := decide_eq_false (by omega)
  have t10 : (a.st == 2) = true := by rw [beq_iff_eq]; exact hst
  have HG := hid (rcontrol_any _ b base _ [] a n c H1.out hI hn hst hb1 (by simp) hc0 hc1)
  clear h hst hc
  go_enter Try.func6, Try.ntmps6
  go_wp2_with fail
  refine HG.out.mono ?_
  intro e' w3 h3
  obtain rfl : e' = .returned (.tuple #[]) := h3.1
  have H8 := hid (ROut.feed HF1.out h3)
  clear h3
  go_wp2
  refine bodyPost_ret (v := .tuple #[]) (results_none rfl _ _ _) rfl ?_
  exact H8.out
end Go.Proofs.Ytlpjehmanodhpaa
set_option linter.unusedSimpArgs false
set_option linter.unusedVariables false
namespace Go.Proofs.Ytlpjehmanodhpaa
open Go.RowKit Go.Proofs.YtlpjehmanodhpaaW.PrintWords
set_option maxHeartbeats 4000000 in
theorem rfeed_einter (w : World) (b base : Nat) (x : RL) (ts : List SqV) (a : Ab) (n : Nat) (c : Int) (h : RF w b base x ts a) (hI : RInv n a) (hb : base ≤ w.heap.size) (hst : a.st = 1) (hc0 : 32 ≤ c) (hc1 : c < 48) :
    Calls Try.prog 6 #[.pointer (some ⟨b, 0, none⟩), .int .u8 c] w (RFOut b base x (stepA (a.inter_ c)) w) := by
  have hp : x.p = [] := by rw [h.ab.p]; exact hI.nz (by omega)
  have hin := hI.inter
  have c0 := h.rp.blk.cell 0 rfl
  have c11 := h.rp.blk.cell 11 rfl
  have f11 := h.rp.blk.frozen 11
  have c9 := h.rp.blk.cell 9 rfl
  have hlt := h.rp.blk.lt
  obtain ⟨A0, c00, hshape, _⟩ := Row.shape h.rp.row
  rw [hshape] at c11
  have H1 := hid h.set11
  have HF1 : Hid (Fr (At b) w (w.setCell ⟨b, 11, none⟩ (.slice none 0 0))) := (Fr.refl (At b) w).setAt 11 _
  have hb1 : base ≤ (w.setCell ⟨b, 11, none⟩ (.slice none 0 0)).heap.size := by rw [sz_setCell]; exact hb
  rw [h.ab.st] at c0
  clear hshape
  have hc : c ≠ 27 ∧ c ≠ 24 ∧ c ≠ 26 := by omega
  have t1 : (c == 27) = false := by rw [beq_eq_false_iff_ne]; exact hc.1
  have t2 : (c == 24) = false := by rw [beq_eq_false_iff_ne]; exact hc.2.1
  have t3 : (c == 26) = false := by rw [beq_eq_false_iff_ne]; exact hc.2.2
  rw [hst] at c0
  have t7 : (c == 127) = false := by rw [beq_eq_false_iff_ne]; omega
  have t8 : decide (c < 32) = false := decide_eq_false (by omega)
  have t9 : decide (c ≥ 128) = false := decide_eq_false (by omega)
  have c6 := h.rp.blk.cell 6 rfl
  have t10 : decide (c < 48) = true := decide_eq_true hc1
  have HG := hid (rinter_any _ b base _ [] c H1.out.rp (by show x.q.inter.size ≤ 100; rw [h.ab.inter]; omega) (by omega) (by omega))
  clear h hst hc
  go_enter Try.func6, Try.ntmps6
  go_wp2_with fail
  refine HG.out.mono ?_
  intro e' w3 h3
  obtain rfl : e' = .returned (.tuple #[]) := h3.1
  have H8 := hid (ROut.feed HF1.out (rinter_out H1.out hp hin h3))
  clear h3
  go_wp2
  refine bodyPost_ret (v := .tuple #[]) (results_none rfl _ _ _) rfl ?_
  exact H8.out
set_option maxHeartbeats 4000000 in
theorem rfeed_eend (w : World) (b base : Nat) (x : RL) (ts : List SqV) (a : Ab) (n : Nat) (c : Int) (h : RF w b base x ts a) (hI : RInv n a) (hb : base ≤ w.heap.size) (hst : a.st = 1) (hc0 : 48 ≤ c) (hc1 : c < 127) (he : a.inter.size ≠ 0 ∨ isOther c = false) :
    Calls Try.prog 6 #[.pointer (some ⟨b, 0, none⟩), .int .u8 c] w (RFOut b base x (a.end_ 3 c) w) := by
  have hp : x.p = [] := by rw [h.ab.p]; exact hI.nz (by omega)
  have c0 := h.rp.blk.cell 0 rfl
  have c11 := h.rp.blk.cell 11 rfl
  have f11 := h.rp.blk.frozen 11
  have c9 := h.rp.blk.cell 9 rfl
  have hlt := h.rp.blk.lt
  obtain ⟨A0, c00, hshape, _⟩ := Row.shape h.rp.row
  rw [hshape] at c11
  have H1 := hid h.set11
  have HF1 : Hid (Fr (At b) w (w.setCell ⟨b, 11, none⟩ (.slice none 0 0))) := (Fr.refl (At b) w).setAt 11 _
  have hb1 : base ≤ (w.setCell ⟨b, 11, none⟩ (.slice none 0 0)).heap.size := by rw [sz_setCell]; exact hb
  rw [h.ab.st] at c0
  clear hshape
  have hc : c ≠ 27 ∧ c ≠ 24 ∧ c ≠ 26 := by omega
  have t1 : (c == 27) = false := by rw [beq_eq_false_iff_ne]; exact hc.1
  have t2 : (c == 24) = false := by rw [beq_eq_false_iff_ne]; exact hc.2.1
  have t3 : (c == 26) = false := by rw [beq_eq_false_iff_ne]; exact hc.2.2
  rw [hst] at c0
  have t7 : (c == 127) = false := by rw [beq_eq_false_iff_ne]; omega
  have t8 : decide (c < 32) = false := decide_eq_false (by omega)
  have t9 : decide (c ≥ 128) = false := decide_eq_false (by omega)
  have c6 := h.rp.blk.cell 6 rfl
  have t10 : decide (c < 48) = false := decide_eq_false (by omega)
  have hin := h.ab.inter
  by_cases hi : a.inter.size = 0
  · have t11 : x.q.inter.toList.isEmpty = true := str_em (by rw [hin]; exact hi)
    have ho : isOther c = false := he.resolve_left (fun h => h hi)
    have HO := hid ho
    clear hin hi ho he
    have HG := hid (rend_any _ b base _ [] 3 c H1.out.rp hb1 (by simp))
    clear h hst hc
    go_enter Try.func6, Try.ntmps6
    go_wp2_with fail
    refine (rother_any _ c).mono ?_
    rintro e' w' ⟨rfl, rfl⟩
    rw [HO.out]
    go_wp2_with fail
    refine HG.out.mono ?_
    intro e' w3 h3
    obtain rfl : e' = .returned (.tuple #[]) := h3.1
    have H8 := hid (ROut.feed HF1.out (rend_out H1.out hp h3))
    clear h3
    go_wp2
    refine bodyPost_ret (v := .tuple #[]) (results_none rfl _ _ _) rfl ?_
    exact H8.out
  · have t11 : x.q.inter.toList.isEmpty = false := str_ne (by rw [hin]; exact hi)
    clear hin hi he
    have HG := hid (rend_any _ b base _ [] 3 c H1.out.rp hb1 (by simp))
    clear h hst hc
    go_enter Try.func6, Try.ntmps6
    go_wp2_with fail
    refine HG.out.mono ?_
    intro e' w3 h3
    obtain rfl : e' = .returned (.tuple #[]) := h3.1
    have H8 := hid (ROut.feed HF1.out (rend_out H1.out hp h3))
    clear h3
    go_wp2
    refine bodyPost_ret (v := .tuple #[]) (results_none rfl _ _ _) rfl ?_
    exact H8.out
set_option maxHeartbeats 4000000 in
theorem rfeed_eto (w : World) (b base : Nat) (x : RL) (ts : List SqV) (a : Ab) (n : Nat) (c : Int) (h : RF w b base x ts a) (hI : RInv n a) (hb : base ≤ w.heap.size) (hst : a.st = 1) (hc0 : 48 ≤ c) (hc1 : c < 127) (hi : a.inter.size = 0) (ho : isOther c = true) :
    Calls Try.prog 6 #[.pointer (some ⟨b, 0, none⟩), .int .u8 c] w (RFOut b base x (if c = 91 then a.to 2 else if c = 93 then a.to 3 else a.to 4, []) w) := by
  have hp : x.p = [] := by rw [h.ab.p]; exact hI.nz (by omega)
  have c0 := h.rp.blk.cell 0 rfl
  have c11 := h.rp.blk.cell 11 rfl
  have f11 := h.rp.blk.frozen 11
  have c9 := h.rp.blk.cell 9 rfl
  have hlt := h.rp.blk.lt
  obtain ⟨A0, c00, hshape, _⟩ := Row.shape h.rp.row
  rw [hshape] at c11
  have H1 := hid h.set11
  have HF1 : Hid (Fr (At b) w (w.setCell ⟨b, 11, none⟩ (.slice none 0 0))) := (Fr.refl (At b) w).setAt 11 _
  have hb1 : base ≤ (w.setCell ⟨b, 11, none⟩ (.slice none 0 0)).heap.size := by rw [sz_setCell]; exact hb
  rw [h.ab.st] at c0
  clear hshape
  have hc : c ≠ 27 ∧ c ≠ 24 ∧ c ≠ 26 := by omega
  have t1 : (c == 27) = false := by rw [beq_eq_false_iff_ne]; exact hc.1
  have t2 : (c == 24) = false := by rw [beq_eq_false_iff_ne]; exact hc.2.1
  have t3 : (c == 26) = false := by rw [beq_eq_false_iff_ne]; exact hc.2.2
  rw [hst] at c0
  have t7 : (c == 127) = false := by rw [beq_eq_false_iff_ne]; omega
  have t8 : decide (c < 32) = false := decide_eq_false (by omega)
  have t9 : decide (c ≥ 128) = false := decide_eq_false (by omega)
  have c6 := h.rp.blk.cell 6 rfl
  have t10 : decide (c < 48) = false := decide_eq_false (by omega)
  have hin := h.ab.inter
  have t11 : x.q.inter.toList.isEmpty = true := str_em (by rw [hin]; exact hi)
  have HO := hid ho
  clear hin hi ho
  by_cases h91 : c = 91
  · subst h91
    rw [if_pos rfl]
    have HG := hid (rto_any _ b base _ [] 2 H1.out.rp)
    clear h hst hc
    go_enter Try.func6, Try.ntmps6
    go_wp2_with fail
    refine (rother_any _ _).mono ?_
    rintro e' w' ⟨rfl, rfl⟩
    rw [HO.out]
    go_wp2_with fail
    refine HG.out.mono ?_
    intro e' w3 h3
    obtain rfl : e' = .returned (.tuple #[]) := h3.1
    have H8 := hid (ROut.feed HF1.out (to_rout H1.out hp h3))
    clear h3
    go_wp2
    first
      | go_end0
      | refine bodyPost_ret (v := .tuple #[]) (results_none rfl _ _ _) rfl ?_
    exact H8.out
  · have t12 : (c == 91) = false := by rw [beq_eq_false_iff_ne]; exact h91
    rw [if_neg h91]
    by_cases h93 : c = 93
    · subst h93
      rw [if_pos rfl]
      have HG := hid (rto_any _ b base _ [] 3 H1.out.rp)
      clear h91
      clear h hst hc
      go_enter Try.func6, Try.ntmps6
      go_wp2_with fail
      refine (rother_any _ _).mono ?_
      rintro e' w' ⟨rfl, rfl⟩
      rw [HO.out]
      go_wp2_with fail
      refine HG.out.mono ?_
      intro e' w3 h3
      obtain rfl : e' = .returned (.tuple #[]) := h3.1
      have H8 := hid (ROut.feed HF1.out (to_rout H1.out hp h3))
      clear h3
      go_wp2
      first
        | go_end0
        | refine bodyPost_ret (v := .tuple #[]) (results_none rfl _ _ _) rfl ?_
      exact H8.out
    · have t13 : (c == 93) = false := by rw [beq_eq_false_iff_ne]; exact h93
      rw [if_neg h93]
      have HG := hid (rto_any _ b base _ [] 4 H1.out.rp)
      clear h91 h93
      clear h hst hc
      go_enter Try.func6, Try.ntmps6
      go_wp2_with fail
      refine (rother_any _ _).mono ?_
      rintro e' w' ⟨rfl, rfl⟩
      rw [HO.out]
      go_wp2_with fail
      refine HG.out.mono ?_
      intro e' w3 h3
      obtain rfl : e' = .returned (.tuple #[]) := h3.1
      have H8 := hid (ROut.feed HF1.out (to_rout H1.out hp h3))
      clear h3
      go_wp2
      first
        | go_end0
        | refine bodyPost_ret (v := .tuple #[]) (results_none rfl _ _ _) rfl ?_
      exact H8.out
theorem rfeed_any (w : World) (b base : Nat) (x : RL) (ts : List SqV) (a : Ab) (n : Nat) (c : Int) (h : RF w b base x ts a) (hI : RInv n a) (hn : n ≤ 1000) (hb : base ≤ w.heap.size) (hc0 : 0 ≤ c) (hc1 : c ≤ 255) :
    Calls Try.prog 6 #[.pointer (some ⟨b, 0, none⟩), .int .u8 c] w (RFOut b base x (a.feed c) w) := by
  have h0 := hI.st0
  have h4 := hI.st1
  have hnz := hI.nz
  have hap := h.ab.p
  unfold Ab.feed
  by_cases h27 : c = 27
  · subst h27
    rw [if_pos rfl]
    exact rfeed_esc w b base x ts a n h hI hb
  rw [if_neg h27]
  by_cases hs0 : a.st = 0
  · rw [if_neg (fun h => h.1 hs0)]
    have hcore : a.core c = ((a.ground c).1, (a.ground c).2, false) := by unfold Ab.core; rw [if_pos hs0]
    show Calls Try.prog _ _ w (RFOut b base x (stepA (a.core c)) w)
    rw [hcore, stepA_ok rfl]
    exact rfeed_ground w b base x ts a n c h hI hb hs0 h27 hc0 hc1
  have hp : x.p = [] := by rw [hap]; exact hnz hs0
  by_cases hcan : c = 24 ∨ c = 26
  · rw [if_pos ⟨hs0, hcan⟩]
    exact rfeed_can w b base x ts a c h hb hp hs0 hcan
  rw [if_neg (fun h => hcan h.2)]
  have hc : c ≠ 27 ∧ c ≠ 24 ∧ c ≠ 26 := by omega
  show Calls Try.prog _ _ w (RFOut b base x (stepA (a.core c)) w)
  unfold Ab.core
  rw [if_neg hs0]
  by_cases hs3 : a.st = 3
  · rw [if_neg (by omega), if_neg (by omega), if_pos hs3]
    have ht := rfeed_text w b base x ts a n c h hI hb hs3 hc hc0 hc1
    have hx : (a.txt c).2.2 = false := by
      unfold Ab.txt
      split
      · rfl
      · split <;> rfl
    rw [stepA_ok hx]
    exact ht
  by_cases hs4 : a.st = 4
  · rw [if_neg (by omega), if_neg (by omega), if_neg hs3, stepA_ok rfl]
    exact rfeed_none w b base x ts a c h hb ⟨hs0, hs3⟩ hc (.inl hs4)
  have h12 : a.st = 1 ∨ a.st = 2 := by omega
  have hasd : (c < 32 ∨ 127 ≤ c) → Calls Try.prog 6 #[.pointer (some ⟨b, 0, none⟩), .int .u8 c] w (RFOut b base x (a.aside c) w) := fun hA => by
    unfold Ab.aside
    by_cases h32 : c < 32
    · rw [if_pos h32]
      exact rfeed_low w b base x ts a c h hb hp h12 hc h32
    rw [if_neg h32]
    by_cases h127 : c = 127
    · rw [if_pos h127]
      exact rfeed_none w b base x ts a c h hb ⟨hs0, hs3⟩ hc (.inr h127)
    rw [if_neg h127]
    exact rfeed_high w b base x ts a n c h hI hb h12 (by omega) hc1
  by_cases hs1 : a.st = 1
  · rw [if_pos hs1]
    unfold Ab.esc
    by_cases hA : c < 32 ∨ 127 ≤ c
    · rw [if_pos hA, stepA_ok rfl]
      exact hasd hA
    rw [if_neg hA]
    by_cases h48 : c < 48
    · rw [if_pos h48]
      exact rfeed_einter w b base x ts a n c h hI hb hs1 (by omega) h48
    rw [if_neg h48]
    by_cases he : a.inter.size ≠ 0 ∨ isOther c = false
    · rw [if_pos he, stepA_ok rfl]
      exact rfeed_eend w b base x ts a n c h hI hb hs1 (by omega) (by omega) he
    rw [if_neg he]
    have hi : a.inter.size = 0 := Decidable.not_not.1 (fun h => he (.inl h))
    have ho : isOther c = true := by
      cases ho : isOther c
      · exact absurd (.inr ho) he
      · rfl
    have ht := rfeed_eto w b base x ts a n c h hI hb hs1 (by omega) (by omega) hi ho
    by_cases h91 : c = 91
    · rw [if_pos h91] at ht ⊢
      rw [stepA_ok rfl]
      exact ht
    rw [if_neg h91] at ht ⊢
    by_cases h93 : c = 93
    · rw [if_pos h93] at ht ⊢
      rw [stepA_ok rfl]
      exact ht
    rw [if_neg h93] at ht ⊢
    rw [stepA_ok rfl]
    exact ht
  · have hs2 : a.st = 2 := by omega
    rw [if_neg hs1, if_pos hs2]
    by_cases hA : c < 32 ∨ 127 ≤ c
    · have hctl : a.ctl c = ((a.aside c).1, (a.aside c).2, false) := by unfold Ab.ctl; rw [if_pos hA]
      rw [hctl, stepA_ok rfl]
      exact hasd hA
    · exact rfeed_ctl w b base x ts a n c h hI hn hb hs2 (by omega) (by omega)
end Go.Proofs.Ytlpjehmanodhpaa
