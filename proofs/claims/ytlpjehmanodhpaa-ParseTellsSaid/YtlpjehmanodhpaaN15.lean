import Derived.Test.YtlpjehmanodhpaaN12
import Derived.Deep.Upon
import Derived.LoopTactic
set_option linter.unusedSimpArgs false
set_option linter.unusedVariables false
namespace Go.Proofs.Ytlpjehmanodhpaa
open Go.RowKit Go.Proofs.YtlpjehmanodhpaaW.PrintWords
/-- append(v, nil...) -/
theorem row_app0 {α : Type} {f : α → List Value} {sz : Nat} {P : Program} {ops : Array Oper} {rest : List Oper} {o : Oper} {a : Act} {Q : Exit → Act → World → Prop} {W : World} (base : Nat) (hgd : o.guard = none) (s x : Operand) (t e : TypeId) (z : Value) (bytes : Nat)
    (ho : o.op = .call { callee := .builtin .append, args := #[s, x], argTypes := #[t, t] })
    (ht : P.underlying t = some (.slice e)) (hinfo : (P.info? e).map (fun i => (i.zero, i.size, i.bytes)) = some (some z, sz, bytes))
    (v : Value) (xs : List α) (c : Nat) (hs : a.eval s = v) (hx : a.eval x = .slice none 0 c) (HO : Row f sz e W base v xs)
    (h : wpList P ops Q rest (a.put o.dst v) W) : wpList P ops Q (o :: rest) a W := by
  obtain ⟨i0, hi, hz0, hz1, hz2⟩ := info_parts hinfo
  obtain ⟨A, cc, rfl, hc⟩ := Row.shape HO
  refine wpList_plain hgd fun K hK => ?_
  have hrun := run_append_nothing (P := P) W t t o.type e i0 ht hi A xs.length cc hc (.slice none 0 c) (Src.ofNil W ht c)
  unfold Oper.wp
  simp [execOp, ho, resolve, invoke, builtin, hs, hx, hrun, Result.andThen]
  exact hK _ _ h
/-- A parser, and what it has told so far. -/
structure Acc (w : World) (b base : Nat) (x : Lo) (ts : List SqV) (a : Ab) (v : Value) (outs : List SqV) (us : List Sq) : Prop where
  fs : FS w b base x ts a
  row : Row SqV.cells 7 30 w base v outs
  ok : Fa2 (TellOk w) outs us
  own : ∀ s ∈ outs, ∀ k, OwnB s.pv k → base ≤ k ∧ ¬ OwnB x.q.pv k
  pv : ∀ k, OwnB x.q.pv k → base ≤ k
  bb : base ≤ b
def run : Ab × List Sq → List Int → Ab × List Sq
  | s, [] => s
  | s, c :: l => run ((s.1.feed c).1, s.2 ++ (s.1.feed c).2) l
theorem run_snoc (s : Ab × List Sq) (l : List Int) (c : Int) : run s (l ++ [c]) = (((run s l).1.feed c).1, (run s l).2 ++ ((run s l).1.feed c).2) := by
  induction l generalizing s with
  | nil => rfl
  | cons d l ih => exact ih _
theorem run_acc (l : List Int) (a : Ab) (us : List Sq) : run (a, us) l = ((run (a, []) l).1, us ++ (run (a, []) l).2) := by
  induction l generalizing a us with
  | nil => simp [run]
  | cons d l ih =>
    show run ((a.feed d).1, us ++ (a.feed d).2) l = ((run ((a.feed d).1, [] ++ (a.feed d).2) l).1, us ++ (run ((a.feed d).1, [] ++ (a.feed d).2) l).2)
    rw [ih, ih (a.feed d).1 ([] ++ (a.feed d).2)]
    simp
theorem TellOk.fr {S : Nat → Prop} {w w1 : World} {s : SqV} {t : Sq} (h : TellOk w s t) (hf : Fr S w w1) (hs : ∀ k, OwnB s.pv k → ¬ S k) : TellOk w1 s t :=
  ⟨h.kind, h.r, h.priv, h.inter, h.final, h.text, h.ps.fr hf hs⟩
theorem Fa2.ofMem {w : World} {l : List SqV} {m : List Sq} (h : Fa2 (TellOk w) l m) : ∀ s ∈ l, ∃ t, TellOk w s t := by
  induction h with
  | nil => intro s hs; cases hs
  | cons h _ ih =>
    intro s hs
    rcases List.mem_cons.1 hs with rfl | h5
    · exact ⟨_, h⟩
    · exact ih s h5
/-- Behind a Feed: the row that was is as it was; a new one is told. -/
theorem Acc.feed {w w1 : World} {b base : Nat} {x : Lo} {ts : List SqV} {a : Ab} {v : Value} {outs : List SqV} {us : List Sq} {c : Int} {e : Ending} (h : Acc w b base x ts a v outs us) (hb : base ≤ w.heap.size) (hf : FeedOut b base x (a.feed c) w e w1) :
    ∃ (x' : Lo) (ss : List SqV), e = .returned x'.tv ∧ FS w1 b base x' ss (a.feed c).1 ∧ Row SqV.cells 7 30 w1 base v outs ∧ Fa2 (TellOk w1) (outs ++ ss) (us ++ (a.feed c).2) ∧ Fr NoB w w ∧ Row SqV.cells 7 30 w1 base x'.tv ss ∧
      (∀ s ∈ outs ++ ss, ∀ k, OwnB s.pv k → base ≤ k ∧ ¬ OwnB x'.q.pv k) ∧ (∀ k, OwnB x'.q.pv k → base ≤ k) ∧ (∀ k, OwnB v k → ¬ OwnB x'.tv k) ∧ w.heap.size ≤ w1.heap.size ∧
      (∀ W : World, ∀ S : Nat → Prop, Fr S W w → Fr (fun k => S k ∨ base ≤ k) W w1) ∧ ss.length = (a.feed c).2.length := by
  obtain ⟨x', ss, rfl, q1, q2, q3, q4, q5, q6, q7, q8⟩ := hf
  have hsz := q5.size
  obtain ⟨d, hd, hblk⟩ := h.fs.pl.blk
  have hv : ∀ k, OwnB v k → ¬ (k = b ∨ OwnB x.q.pv k) := fun k hk he => by
    rcases he with rfl | he
    · exact Row.not_blk h.row hblk (by decide) hk
    · exact h.fs.vp.row_ne h.row k hk he
  have hos : ∀ s ∈ outs, ∀ k, OwnB s.pv k → ¬ (k = b ∨ OwnB x.q.pv k) := fun s hs k hk he => by
    obtain ⟨t, ht⟩ := h.ok.ofMem s hs
    rcases he with rfl | he
    · exact ht.ps.ne hblk (by decide) hk
    · exact (h.own s hs k hk).2 he
  refine ⟨x', ss, rfl, ⟨q1, q2, q3⟩, h.row.fr q5 hv, (h.ok.imp (fun s hs t ht => ht.fr q5 (hos s hs))).append q4, Fr.refl _ _, q1.row, fun s hs k hk => ?_, fun k hk => ?_, fun k hk hk2 => ?_, hsz, fun W S hS => ?_, q4.length⟩
  · rcases List.mem_append.1 hs with h5 | h5
    · refine ⟨(h.own s h5 k hk).1, fun h6 => ?_⟩
      rcases q7 k h6 with h7 | h7
      · exact (h.own s h5 k hk).2 h7
      · obtain ⟨t, ht⟩ := h.ok.ofMem s h5
        have := ht.ps.lt k hk
        omega
    · refine ⟨?_, (q8 s h5 k hk).2⟩
      rcases (q8 s h5 k hk).1 with h7 | h7
      · exact h.pv k h7
      · exact Nat.le_trans hb h7
  · rcases q7 k hk with h7 | h7
    · exact h.pv k h7
    · exact Nat.le_trans hb h7
  · have h1 := (Row.lt h.row k hk).2
    have h2 := q6 k hk2
    omega
  · refine (hS.mono (fun k hk => .inl hk)).then_ q5 (fun k hk => ?_)
    rcases hk with rfl | hk
    · exact .inl (.inr h.bb)
    · exact .inl (.inr (h.pv k hk))
end Go.Proofs.Ytlpjehmanodhpaa

set_option linter.unusedSimpArgs false
set_option linter.unusedVariables false
namespace Go.Proofs.Ytlpjehmanodhpaa
open Go.RowKit Go.Proofs.YtlpjehmanodhpaaW.PrintWords
/-- What a parser keeps. -/
structure Inv (n : Nat) (a : Ab) : Prop extends OkS n a where
  text : a.text.size ≤ 256
  z : a.st = 0 → a = { Ab.zero with p := a.p }
  nz : a.st ≠ 0 → a.p = []
  np : a.st ≠ 2 → a.params = []
theorem Inv.ground (n : Nat) (p : List Int) : Inv n { Ab.zero with p := p } :=
  ⟨⟨⟨by show (0 : Int) ≤ 0; decide, by show (0 : Int) ≤ n; omega, by show (0 : Nat) ≤ 2; decide, by show (0 : Nat) ≤ 17; decide, fun q hq => by cases hq⟩, by show (0 : Int) ≤ 0; decide, by show (0 : Int) ≤ 4; decide⟩, by show (0 : Nat) ≤ 256; decide, fun _ => rfl, fun h => absurd rfl h, fun _ => rfl⟩
theorem Inv.to (n : Nat) (s : Int) (h0 : 1 ≤ s) (h1 : s ≤ 4) : Inv n (Ab.to Ab.zero s) :=
  ⟨⟨⟨by show (0 : Int) ≤ 0; decide, by show (0 : Int) ≤ n; omega, by show (0 : Nat) ≤ 2; decide, by show (0 : Nat) ≤ 17; decide, fun q hq => by cases hq⟩, by show 0 ≤ s; omega, h1⟩, by show (0 : Nat) ≤ 256; decide, fun h => by have h' : s = 0 := h; omega, fun _ => rfl, fun _ => rfl⟩
theorem Inv.zero (n : Nat) : Inv n Ab.zero := Inv.ground n []
theorem to_eq {n : Nat} {a : Ab} (h : Inv n a) (hs : a.st ≠ 0) (s : Int) : a.to s = Ab.to Ab.zero s := by
  unfold Ab.to
  rw [h.nz hs]
  rfl
theorem Inv.mono {n m : Nat} {a : Ab} (h : Inv n a) (hm : n ≤ m) : Inv m a := ⟨⟨⟨h.by0, by have := h.by1; omega, h.inter, h.len, h.rng⟩, h.st0, h.st1⟩, h.text, h.z, h.nz, h.np⟩
theorem to0 : Ab.to Ab.zero 0 = Ab.zero := rfl
theorem ground_inv {n : Nat} {p : List Int} (c : Int) : Inv n (Ab.ground { Ab.zero with p := p } c).1 := Inv.ground n (groundA p c).1
theorem aside_inv {n : Nat} {a : Ab} (h : Inv n a) (hs : a.st ≠ 0) (c : Int) : Inv n (a.aside c).1 := by
  unfold Ab.aside
  split
  · exact h
  · split
    · exact h
    · rw [to_eq h hs]
      exact Inv.ground n _
theorem one_sz (s : ByteArray) (c : Int) : (s ++ one c).size = s.size + 1 := by rw [ByteArray.size_append]; rfl
theorem param_len (ps : List Int) (c : Int) (h : ps.length ≤ 17) : (paramP ps c).length ≤ 17 := by
  unfold paramP
  by_cases h0 : ps = []
  · subst h0
    rw [if_pos rfl]
    dsimp only
    split
    · unfold stepNum; simp
    · simp
  · rw [if_neg h0]
    dsimp only
    split
    · unfold stepNum; rw [List.length_set]; exact h
    · split
      · rw [List.length_append]; simp; omega
      · exact h
theorem num_rng (l : List Int) (c : Int) (hc : 48 ≤ c) (h : ∀ q ∈ l, -1 ≤ q ∧ q ≤ 9999) : ∀ q ∈ stepNum l c, -1 ≤ q ∧ q ≤ 9999 := by
  intro q hq
  unfold stepNum at hq
  rcases List.mem_or_eq_of_mem_set hq with h5 | h5
  · exact h q h5
  · omega
theorem param_rng (ps : List Int) (c : Int) (hc : 48 ≤ c) (h : ∀ q ∈ ps, -1 ≤ q ∧ q ≤ 9999) : ∀ q ∈ paramP ps c, -1 ≤ q ∧ q ≤ 9999 := by
  have h1 : ∀ q ∈ (if ps = [] then [-1] else ps : List Int), -1 ≤ q ∧ q ≤ 9999 := by
    split
    · intro q hq
      simp at hq
      omega
    · exact h
  unfold paramP
  dsimp only
  generalize (if ps = [] then [-1] else ps : List Int) = l at h1 ⊢
  split
  · exact num_rng l c hc h1
  · split
    · intro q hq
      rcases List.mem_append.1 hq with h5 | h5
      · exact h1 q h5
      · simp at h5
        omega
    · exact h1
theorem core_bad (a : Ab) (c : Int) : (a.core c).2.2 = true → (a.core c).1.st = a.st ∧ a.st ≠ 0 := by
  unfold Ab.core Ab.esc Ab.ctl Ab.txt Ab.inter_
  repeat' split
  all_goals first
    | (intro h; exact absurd h Bool.false_ne_true)
    | (intro _; exact ⟨rfl, by omega⟩)
theorem step_inv {n : Nat} {a : Ab} (h : Inv n a) (c : Int) : Inv (n + 1) (a.step c).1 := by
  have h' := h.mono (Nat.le_succ n)
  have hbad : ∀ a' : Ab, a'.st ≠ 0 → Inv (n + 1) a' → Inv (n + 1) { a' with bad := true } := fun a' hs h => ⟨⟨⟨h.by0, h.by1, h.inter, h.len, h.rng⟩, h.st0, h.st1⟩, h.text, fun h0 => absurd h0 hs, h.nz, h.np⟩
  have hst : ∀ o : Ab × List Sq × Bool, Inv (n + 1) o.1 → (o.2.2 = true → o.1.st ≠ 0) → Inv (n + 1) (stepA o).1 := fun o ho hb => by
    cases hx : o.2.2
    · rw [stepA_ok hx]; exact ho
    · rw [stepA_bad hx]; exact hbad _ (hb hx) ho
  refine hst (a.core c) ?_ ?_
  · unfold Ab.core
    split
    · rename_i h0
      rw [h.z h0]
      exact Inv.ground _ _
    rename_i h0
    split
    · unfold Ab.esc
      split
      · exact aside_inv h' h0 c
      split
      · unfold Ab.inter_
        split
        · exact h'
        · exact ⟨⟨⟨h'.by0, h'.by1, by rw [one_sz]; have := h.inter; omega, h'.len, h'.rng⟩, h'.st0, h'.st1⟩, h'.text, fun hz => absurd hz h0, h'.nz, h'.np⟩
      split
      · unfold Ab.end_; rw [to_eq h h0]; exact Inv.zero _
      split
      · rw [to_eq h h0]; exact Inv.to _ 2 (by decide) (by decide)
      split
      · rw [to_eq h h0]; exact Inv.to _ 3 (by decide) (by decide)
      · rw [to_eq h h0]; exact Inv.to _ 4 (by decide) (by decide)
    split
    · have hby : Inv (n + 1) { a with by_ := a.by_ + 1 } := ⟨⟨⟨by show 0 ≤ a.by_ + 1; have := h.by0; omega, by show a.by_ + 1 ≤ ((n + 1 : Nat) : Int); have := h.by1; omega, h.inter, h.len, h.rng⟩, h.st0, h.st1⟩, h.text, fun hz => absurd hz h0, h.nz, h.np⟩
      unfold Ab.ctl
      split
      · exact aside_inv h' h0 c
      split
      · unfold Ab.inter_
        split
        · exact hby
        · exact ⟨⟨⟨hby.by0, hby.by1, by rw [one_sz]; have := h.inter; show a.inter.size + 1 ≤ 2; rename_i h9; have h9' : ¬ a.inter.size = 2 := h9; omega, hby.len, hby.rng⟩, hby.st0, hby.st1⟩, hby.text, fun hz => absurd hz h0, hby.nz, hby.np⟩
      split
      · split
        · exact hby
        · exact ⟨⟨⟨hby.by0, hby.by1, hby.inter, param_len _ _ h.len, param_rng _ _ (by omega) h.rng⟩, hby.st0, hby.st1⟩, hby.text, fun hz => absurd hz h0, hby.nz, fun hz => absurd (by assumption) hz⟩
      split
      · split
        · exact ⟨⟨⟨hby.by0, hby.by1, hby.inter, hby.len, hby.rng⟩, hby.st0, hby.st1⟩, hby.text, fun hz => absurd hz h0, hby.nz, hby.np⟩
        · exact hby
      · unfold Ab.end_
        show Inv (n + 1) (Ab.to a 0)
        rw [to_eq h h0]; exact Inv.zero _
    split
    · unfold Ab.txt
      split
      · rw [to_eq h h0]; exact Inv.zero _
      split
      · rename_i h9
        exact ⟨⟨⟨h'.by0, h'.by1, h'.inter, h'.len, h'.rng⟩, h'.st0, h'.st1⟩, by rw [one_sz]; omega, fun hz => absurd hz h0, h'.nz, h'.np⟩
      · exact h'
    · exact h'
  · intro hb
    obtain ⟨h1, h2⟩ := core_bad a c hb
    rw [h1]
    exact h2
theorem feed_inv {n : Nat} {a : Ab} (h : Inv n a) (c : Int) : Inv (n + 1) (a.feed c).1 := by
  unfold Ab.feed
  split
  · exact Inv.to (n + 1) 1 (by decide) (by decide)
  · split
    · rename_i h1
      show Inv (n + 1) (a.to 0)
      rw [to_eq h h1.1]
      exact Inv.zero _
    · exact step_inv h c
end Go.Proofs.Ytlpjehmanodhpaa

set_option linter.unusedSimpArgs false
set_option linter.unusedVariables false
namespace Go.Proofs.Ytlpjehmanodhpaa
open Go.RowKit Go.Proofs.YtlpjehmanodhpaaW.PrintWords
theorem ground_len (p : List Int) (c : Int) : (groundA p c).2.length ≤ 2 := by
  have h1 := pflush_len p
  have h2 := pstep_len p c
  unfold groundA
  split
  · rw [List.length_append, List.length_map]
    split <;> simp <;> omega
  · rw [List.length_map]; exact h2
theorem feed_len (a : Ab) (c : Int) : (a.feed c).2.length ≤ 2 := by
  have hg := fun p => ground_len p c
  have ha : ∀ a' : Ab, (a'.aside c).2.length ≤ 2 := fun a' => by
    unfold Ab.aside
    split
    · simp
    · split
      · simp
      · exact hg _
  have he : ∀ (a' : Ab) (k : Int), (a'.end_ k c).2.length ≤ 2 := fun a' k => by
    unfold Ab.end_
    split <;> simp
  have hp := pflush_len a.p
  unfold Ab.feed
  split
  · rw [List.length_append, List.length_map]
    split <;> simp <;> omega
  · split
    · simp
    · show (a.core c).2.1.length ≤ 2
      unfold Ab.core Ab.esc Ab.ctl Ab.txt Ab.inter_
      repeat' split
      all_goals first
        | exact hg _
        | exact ha _
        | exact he _ _
        | simp
theorem run_len (a : Ab) (l : List Int) (k : Nat) : (run (a, []) (l.take k)).2.length ≤ 2 * k := by
  induction k with
  | zero => simp [run]
  | succ k ih =>
    rcases Nat.lt_or_ge k l.length with h | h
    · rw [List.take_succ_eq_append_getElem h, run_snoc]
      have := feed_len (run (a, []) (l.take k)).1 l[k]
      simp only [List.length_append]; omega
    · rw [List.take_of_length_le (by omega)]; rw [List.take_of_length_le h] at ih; omega
theorem run_inv {n : Nat} {a : Ab} (h : Inv n a) (us : List Sq) (l : List Int) (k : Nat) : Inv (n + k) (run (a, us) (l.take k)).1 := by
  induction k with
  | zero => simp [run]; exact h
  | succ k ih =>
    rcases Nat.lt_or_ge k l.length with h | h
    · rw [List.take_succ_eq_append_getElem h, run_snoc]
      exact feed_inv ih _
    · rw [List.take_of_length_le (by omega)]; rw [List.take_of_length_le h] at ih; exact ih.mono (by omega)
theorem ground_any (w : World) (b base : Nat) (x : Lo) (ts : List SqV) (a : Ab) (h : FS w b base x ts a) :
    Calls Try.prog 9 #[.pointer (some ⟨b, 0, none⟩)] w fun e w' => e = .returned (.bool (decide (a.st = 0 ∧ a.p = []))) ∧ w' = w := by
  have c5 := (by obtain ⟨d, hd, hblk⟩ := h.pl.blk; exact hblk.cell 5 rfl : w.cell? ⟨b, 5, none⟩ = some (.int .i64 x.st))
  have hlt := (by obtain ⟨d, hd, hblk⟩ := h.pl.blk; exact hblk.lt : b < w.heap.size)
  have hw : Calls Try.prog 26 #[.pointer (some ⟨b, 0, none⟩)] w fun e w' => e = .returned (.int .i64 (x.p.length : Int)) ∧ w' = w := by
    obtain ⟨d, hd, hblk⟩ := h.pl.blk
    have hl : d.h = (x.p.length : Int) := by
      cases hp : x.p with
      | nil =>
        rw [hp] at hd
        exact hd.2
      | cons y l =>
        rw [hp] at hd
        obtain ⟨_, _, _, _, _, h6, _⟩ := hd
        rw [h6, List.length_cons]
        omega
    rw [← hl]
    exact waits_any w b 33 x.rest d hblk
  have HW := hid hw
  clear hw
  rw [h.ab.st] at c5
  rw [h.ab.p] at HW
  clear h
  by_cases h0 : a.st = 0
  · by_cases hp : a.p = []
    · have e : decide (a.st = 0 ∧ a.p = []) = true := by simp [h0, hp]
      rw [e]
      rw [h0] at c5
      rw [hp] at HW
      clear e h0 hp
      go_enter Try.func9, Try.ntmps9
      go_wp2_with fail
      refine HW.out.mono ?_
      rintro e' w1 ⟨rfl, rfl⟩
      go_wp2
      go_ret
      exact ⟨rfl, rfl⟩
    · have e : decide (a.st = 0 ∧ a.p = []) = false := by simp [hp]
      rw [e]
      rw [h0] at c5
      have t1 : ((a.p.length : Int) == 0) = false := by
        rw [beq_eq_false_iff_ne]
        intro h
        exact hp (List.eq_nil_of_length_eq_zero (by omega))
      clear e h0 hp
      go_enter Try.func9, Try.ntmps9
      go_wp2_with fail
      refine HW.out.mono ?_
      rintro e' w1 ⟨rfl, rfl⟩
      go_wp2
      go_ret
      exact ⟨rfl, rfl⟩
  · have e : decide (a.st = 0 ∧ a.p = []) = false := by simp [h0]
    rw [e]
    have t1 : (a.st == 0) = false := by rw [beq_eq_false_iff_ne]; exact h0
    clear e h0
    go_enter Try.func9, Try.ntmps9
    go_wp2
    go_ret
    exact ⟨rfl, rfl⟩
end Go.Proofs.Ytlpjehmanodhpaa
