import Derived.Test.YtlpjehmanodhpaaN9
import Derived.Defers
import Derived.Recover
set_option linter.unusedSimpArgs false
set_option linter.unusedVariables false
namespace Go.Proofs.Ytlpjehmanodhpaa
open Go.RowKit Go.Proofs.YtlpjehmanodhpaaW.PrintWords
set_option maxHeartbeats 1000000 in
theorem catch_bad (w : World) (b bx : Nat) (bad : Bool) (hcx : w.cell? ⟨bx, 0, none⟩ = some (.pointer (some ⟨b, 0, none⟩))) (c14 : w.cell? ⟨b, 14, none⟩ = some (.bool bad)) (f14 : w.frozen? ⟨b, 14, none⟩ = false) (hb : b < w.heap.size) (hx : bx < w.heap.size) :
    CallsD Try.prog 30 #[.pointer (some ⟨bx, 0, none⟩)] (.panicking [spo]) w fun e u' w' =>
      e = .returned (.tuple #[]) ∧ u' = .panicking [{ v := .iface 57 (.agg #[]), recovered := true }] ∧ w' = (w.setCell ⟨b, 14, none⟩ (.bool true)).alloc (.cells #[] 57) := by
  refine callsD_of_wpS Try.func30 rfl fun c₀ cs hu => ?_
  apply wpS_seq
  apply wpS_region
  have hu' : c₀.mode = .panicking [{ v := .iface 57 (.agg #[]), recovered := false }] := hu
  simp [wpOpsS, go_sem, recoverD, hu', Try.ntmps30, Exit.thenS]
  refine wpS_of_wp ?_
  have hta : ∀ w, (Instr.typeAssert (.iface 57 (.agg #[])) 20 57 true).run Try.prog w = .ok (.tuple #[.agg #[], .bool true]) w := fun w => by kernel_rfl
  go_wp2
  simp [bodyPostS, results, Try.results30]
set_option maxHeartbeats 1000000 in
theorem catch_idle (w : World) (bx : Nat) :
    CallsD Try.prog 30 #[.pointer (some ⟨bx, 0, none⟩)] .returning w fun e u' w' => e = .returned (.tuple #[]) ∧ u' = .returning ∧ w' = w := by
  refine callsD_of_wpS Try.func30 rfl fun c₀ cs hu => ?_
  apply wpS_seq
  apply wpS_region
  simp [wpOpsS, go_sem, recoverD, hu, Try.ntmps30, Exit.thenS]
  refine wpS_of_wp ?_
  go_wp2
  cases c₀
  simp_all [bodyPostS, results, Try.results30]
/-- A parser's text run: what is spoilt, is so told. -/
def SOut (b base : Nat) (x : Lo) (ts : List SqV) (o : Ab × List Sq) (w : World) (e : Ending) (w' : World) : Prop :=
  e = .returned (.tuple #[]) ∧ ∃ (x' : Lo) (ss : List SqV), PL w' b base x' (ts ++ ss) ∧ VP w' x'.q o.1.params ∧ Abs x' o.1 ∧ Fa2 (TellOk w') ss o.2 ∧
    Fr (fun k => k = b ∨ OwnB x.tv k ∨ OwnB x.q.pv k) w w' ∧ (∀ k, OwnB x'.tv k → OwnB x.tv k ∨ w.heap.size ≤ k) ∧ (∀ k, OwnB x'.q.pv k → OwnB x.q.pv k ∨ w.heap.size ≤ k) ∧
    ∀ s ∈ ss, ∀ k, OwnB s.pv k → (OwnB x.q.pv k ∨ w.heap.size ≤ k) ∧ ¬ OwnB x'.q.pv k
theorem Outc.sout {w w0 w' : World} {b base : Nat} {x : Lo} {ts : List SqV} {o : Ab × List Sq × Bool} {e : Ending} (hf : Fr NoB w w0) (ho : o.2.2 = false) (h : Outc b base x ts o w0 e w') : SOut b base x ts (o.1, o.2.1) w e w' := by
  obtain ⟨he, x', ss, q1, q2, q3, q4, q5, q6, q7, q8⟩ := h
  have hs := hf.size
  rw [ho] at he
  exact ⟨he, x', ss, q1, q2, q3, q4, (hf.mono (fun k hk => hk.elim)).trans q5, fun k hk => (q6 k hk).imp id (fun h => Nat.le_trans hs h), fun k hk => (q7 k hk).imp id (fun h => Nat.le_trans hs h), fun s hs' k hk => ⟨((q8 s hs' k hk).1).imp id (fun h => Nat.le_trans hs h), (q8 s hs' k hk).2⟩⟩
theorem PL.set14 {w : World} {b base : Nat} {x : Lo} {ts : List SqV} (h : PL w b base x ts) (v : Bool) : PL (w.setCell ⟨b, 14, none⟩ (.bool v)) b base { x with bad := v } ts := by
  obtain ⟨d, hd, hblk⟩ := h.blk
  exact ⟨⟨d, hd, hblk.set 14 (.bool v)⟩, h.row.fr ((Fr.refl (At b) w).setAt 14 _) (fun k hk he => h.ne (by have he' : k = b := he; subst he'; exact hk))⟩
theorem TellOk.at {w w1 : World} {b : Nat} {s : SqV} {t : Sq} {p : List Int} {l : List Value} (h : TellOk w s t) (hb : DBlk w b 33 l p) (hf : Fr (At b) w w1) : TellOk w1 s t :=
  ⟨h.kind, h.r, h.priv, h.inter, h.final, h.text, h.ps.at hb hf⟩
theorem Outc.sbad {w w0 w2 : World} {b base : Nat} {x : Lo} {ts : List SqV} {o : Ab × List Sq × Bool} {e : Ending} (hf : Fr NoB w w0) (h : Outc b base x ts o w0 e w2) :
    SOut b base x ts ({ o.1 with bad := true }, o.2.1) w (.returned (.tuple #[])) ((w2.setCell ⟨b, 14, none⟩ (.bool true)).alloc (.cells #[] 57)) := by
  obtain ⟨he, x', ss, q1, q2, q3, q4, q5, q6, q7, q8⟩ := h
  have hs := hf.size
  have hA : Fr (At b) w2 ((w2.setCell ⟨b, 14, none⟩ (.bool true)).alloc (.cells #[] 57)) := ((Fr.refl (At b) w2).setAt 14 _).alloc _
  have hN : Fr NoB (w2.setCell ⟨b, 14, none⟩ (.bool true)) ((w2.setCell ⟨b, 14, none⟩ (.bool true)).alloc (.cells #[] 57)) := (Fr.refl NoB _).alloc _
  exact ⟨rfl, { x' with bad := true }, ss, (q1.set14 true).fr hN (fun h => h) (fun _ _ h => h), q2.at q1.blk hA, ⟨q3.p, q3.st, q3.by_, q3.kind, q3.r, q3.priv, q3.inter, q3.final, q3.text, rfl⟩, q4.imp (fun s hs t h => h.at q1.blk hA),
    ((hf.mono (fun k hk => hk.elim)).trans q5).trans (hA.mono (fun k hk => .inl hk)), fun k hk => (q6 k hk).imp id (fun h => Nat.le_trans hs h), fun k hk => (q7 k hk).imp id (fun h => Nat.le_trans hs h), fun s hs' k hk => ⟨((q8 s hs' k hk).1).imp id (fun h => Nat.le_trans hs h), (q8 s hs' k hk).2⟩⟩
def stepA (o : Ab × List Sq × Bool) : Ab × List Sq := (if o.2.2 then { o.1 with bad := true } else o.1, o.2.1)
theorem stepA_ok {o : Ab × List Sq × Bool} (h : o.2.2 = false) : stepA o = (o.1, o.2.1) := by unfold stepA; rw [h]; rfl
theorem stepA_bad {o : Ab × List Sq × Bool} (h : o.2.2 = true) : stepA o = ({ o.1 with bad := true }, o.2.1) := by unfold stepA; rw [h]; rfl
set_option maxHeartbeats 4000000 in
theorem step_walk (w : World) (b base : Nat) (x : Lo) (ts : List SqV) (a : Ab) (c : Int) (o : Ab × List Sq × Bool) (h : FS w b base x ts a) (f : Nat) (hst : (a.st = 0 ∧ f = 31) ∨ (a.st = 1 ∧ f = 32) ∨ (a.st = 2 ∧ f = 33) ∨ (a.st = 3 ∧ f = 34))
    (hC : ∀ w1, Fr NoB w w1 → Calls Try.prog f #[.pointer (some ⟨b, 0, none⟩), .int .u8 c] w1 (Outc b base x ts o w1)) :
    Calls Try.prog 25 #[.pointer (some ⟨b, 0, none⟩), .int .u8 c] w (SOut b base x ts (stepA o) w) := by
  have hmf : ∀ (fn : Fn) (first cap : Array Value) (w : World), (Instr.makeFunc fn first cap).run Try.prog w = .ok (.func fn first cap) w := fun _ _ _ _ => rfl
  have c5 := (by obtain ⟨d, hd, hblk⟩ := h.pl.blk; exact hblk.cell 5 rfl : w.cell? ⟨b, 5, none⟩ = some (.int .i64 x.st))
  have hlt := (by obtain ⟨d, hd, hblk⟩ := h.pl.blk; exact hblk.lt : b < w.heap.size)
  have HF0 : Hid (Fr NoB w (w.alloc (.cells #[.pointer (some ⟨b, 0, none⟩)] 48))) := (Fr.refl NoB w).alloc _
  have HBX : Hid (¬ (w.heap.size = b ∨ OwnB x.tv w.heap.size ∨ OwnB x.q.pv w.heap.size)) := by
    rintro (h1 | h1 | h1)
    · omega
    · exact absurd ((Row.lt h.pl.row _ h1).2) (Nat.lt_irrefl _)
    · exact absurd (h.vp.lt _ h1) (Nat.lt_irrefl _)
  have HC := hid hC
  rw [h.ab.st] at c5
  clear h hC
  rcases hst with ⟨hs, rfl⟩ | ⟨hs, rfl⟩ | ⟨hs, rfl⟩ | ⟨hs, rfl⟩
  · rw [hs] at c5
    go_enter_defers Try.func25, Try.ntmps25
    go_wp2_with fail
    refine (HC.out _ HF0.out).mono ?_
    intro e' w2 h2
    have he := h2.1
    have H2 := hid h2
    cases hbad : o.2.2
    · rw [hbad] at he
      obtain rfl : e' = .returned (.tuple #[]) := he
      have HS : Hid (SOut b base x ts (stepA o) w (.returned (.tuple #[])) w2) := by
        rw [stepA_ok hbad]
        exact Outc.sout HF0.out hbad H2.out
      clear h2 H2
      go_wp2
      refine leaves_cons (f := 30) (args := #[.pointer (some ⟨w.heap.size, 0, none⟩)]) (by simp) (by simp [go_sem]) ?_
      refine (catch_idle w2 w.heap.size).mono ?_
      rintro e u' w'' ⟨rfl, rfl, rfl⟩
      simp [Leaves, settle, results, Try.results25, go_sem]
      exact HS.out
    · rw [hbad] at he
      obtain rfl : e' = .panicked [spo] := he
      have HS : Hid (SOut b base x ts (stepA o) w (.returned (.tuple #[])) ((w2.setCell ⟨b, 14, none⟩ (.bool true)).alloc (.cells #[] 57))) := by
        rw [stepA_bad hbad]
        exact Outc.sbad HF0.out H2.out
      obtain ⟨_, x', ss, q1, q2, q3, q4, q5, q6, q7, q8⟩ := h2
      obtain ⟨d, hd, hblk⟩ := q1.blk
      have d14 := hblk.cell 14 rfl
      have g14 := hblk.frozen 14
      have hbx : w2.cell? ⟨w.heap.size, 0, none⟩ = some (.pointer (some ⟨b, 0, none⟩)) := by
        have h5 := Blk.fr (Blk.new w 48 [.pointer (some ⟨b, 0, none⟩)]) q5 HBX.out
        exact Blk.cell h5 0 rfl
      have hlt2 := hblk.lt
      have hltx := cell_lt hbx
      refine leaves_cons (f := 30) (args := #[.pointer (some ⟨w.heap.size, 0, none⟩)]) (by simp) (by simp [go_sem]) ?_
      refine (catch_bad w2 b w.heap.size x'.bad hbx d14 g14 hlt2 hltx).mono ?_
      rintro e u' w'' ⟨rfl, rfl, rfl⟩
      simp [Leaves, settle, results, Try.results25, go_sem]
      exact HS.out
  · rw [hs] at c5
    go_enter_defers Try.func25, Try.ntmps25
    go_wp2_with fail
    refine (HC.out _ HF0.out).mono ?_
    intro e' w2 h2
    have he := h2.1
    have H2 := hid h2
    cases hbad : o.2.2
    · rw [hbad] at he
      obtain rfl : e' = .returned (.tuple #[]) := he
      have HS : Hid (SOut b base x ts (stepA o) w (.returned (.tuple #[])) w2) := by
        rw [stepA_ok hbad]
        exact Outc.sout HF0.out hbad H2.out
      clear h2 H2
      go_wp2
      refine leaves_cons (f := 30) (args := #[.pointer (some ⟨w.heap.size, 0, none⟩)]) (by simp) (by simp [go_sem]) ?_
      refine (catch_idle w2 w.heap.size).mono ?_
      rintro e u' w'' ⟨rfl, rfl, rfl⟩
      simp [Leaves, settle, results, Try.results25, go_sem]
      exact HS.out
    · rw [hbad] at he
      obtain rfl : e' = .panicked [spo] := he
      have HS : Hid (SOut b base x ts (stepA o) w (.returned (.tuple #[])) ((w2.setCell ⟨b, 14, none⟩ (.bool true)).alloc (.cells #[] 57))) := by
        rw [stepA_bad hbad]
        exact Outc.sbad HF0.out H2.out
      obtain ⟨_, x', ss, q1, q2, q3, q4, q5, q6, q7, q8⟩ := h2
      obtain ⟨d, hd, hblk⟩ := q1.blk
      have d14 := hblk.cell 14 rfl
      have g14 := hblk.frozen 14
      have hbx : w2.cell? ⟨w.heap.size, 0, none⟩ = some (.pointer (some ⟨b, 0, none⟩)) := by
        have h5 := Blk.fr (Blk.new w 48 [.pointer (some ⟨b, 0, none⟩)]) q5 HBX.out
        exact Blk.cell h5 0 rfl
      have hlt2 := hblk.lt
      have hltx := cell_lt hbx
      refine leaves_cons (f := 30) (args := #[.pointer (some ⟨w.heap.size, 0, none⟩)]) (by simp) (by simp [go_sem]) ?_
      refine (catch_bad w2 b w.heap.size x'.bad hbx d14 g14 hlt2 hltx).mono ?_
      rintro e u' w'' ⟨rfl, rfl, rfl⟩
      simp [Leaves, settle, results, Try.results25, go_sem]
      exact HS.out
  · rw [hs] at c5
    go_enter_defers Try.func25, Try.ntmps25
    go_wp2_with fail
    refine (HC.out _ HF0.out).mono ?_
    intro e' w2 h2
    have he := h2.1
    have H2 := hid h2
    cases hbad : o.2.2
    · rw [hbad] at he
      obtain rfl : e' = .returned (.tuple #[]) := he
      have HS : Hid (SOut b base x ts (stepA o) w (.returned (.tuple #[])) w2) := by
        rw [stepA_ok hbad]
        exact Outc.sout HF0.out hbad H2.out
      clear h2 H2
      go_wp2
      refine leaves_cons (f := 30) (args := #[.pointer (some ⟨w.heap.size, 0, none⟩)]) (by simp) (by simp [go_sem]) ?_
      refine (catch_idle w2 w.heap.size).mono ?_
      rintro e u' w'' ⟨rfl, rfl, rfl⟩
      simp [Leaves, settle, results, Try.results25, go_sem]
      exact HS.out
    · rw [hbad] at he
      obtain rfl : e' = .panicked [spo] := he
      have HS : Hid (SOut b base x ts (stepA o) w (.returned (.tuple #[])) ((w2.setCell ⟨b, 14, none⟩ (.bool true)).alloc (.cells #[] 57))) := by
        rw [stepA_bad hbad]
        exact Outc.sbad HF0.out H2.out
      obtain ⟨_, x', ss, q1, q2, q3, q4, q5, q6, q7, q8⟩ := h2
      obtain ⟨d, hd, hblk⟩ := q1.blk
      have d14 := hblk.cell 14 rfl
      have g14 := hblk.frozen 14
      have hbx : w2.cell? ⟨w.heap.size, 0, none⟩ = some (.pointer (some ⟨b, 0, none⟩)) := by
        have h5 := Blk.fr (Blk.new w 48 [.pointer (some ⟨b, 0, none⟩)]) q5 HBX.out
        exact Blk.cell h5 0 rfl
      have hlt2 := hblk.lt
      have hltx := cell_lt hbx
      refine leaves_cons (f := 30) (args := #[.pointer (some ⟨w.heap.size, 0, none⟩)]) (by simp) (by simp [go_sem]) ?_
      refine (catch_bad w2 b w.heap.size x'.bad hbx d14 g14 hlt2 hltx).mono ?_
      rintro e u' w'' ⟨rfl, rfl, rfl⟩
      simp [Leaves, settle, results, Try.results25, go_sem]
      exact HS.out
  · rw [hs] at c5
    go_enter_defers Try.func25, Try.ntmps25
    go_wp2_with fail
    refine (HC.out _ HF0.out).mono ?_
    intro e' w2 h2
    have he := h2.1
    have H2 := hid h2
    cases hbad : o.2.2
    · rw [hbad] at he
      obtain rfl : e' = .returned (.tuple #[]) := he
      have HS : Hid (SOut b base x ts (stepA o) w (.returned (.tuple #[])) w2) := by
        rw [stepA_ok hbad]
        exact Outc.sout HF0.out hbad H2.out
      clear h2 H2
      go_wp2
      refine leaves_cons (f := 30) (args := #[.pointer (some ⟨w.heap.size, 0, none⟩)]) (by simp) (by simp [go_sem]) ?_
      refine (catch_idle w2 w.heap.size).mono ?_
      rintro e u' w'' ⟨rfl, rfl, rfl⟩
      simp [Leaves, settle, results, Try.results25, go_sem]
      exact HS.out
    · rw [hbad] at he
      obtain rfl : e' = .panicked [spo] := he
      have HS : Hid (SOut b base x ts (stepA o) w (.returned (.tuple #[])) ((w2.setCell ⟨b, 14, none⟩ (.bool true)).alloc (.cells #[] 57))) := by
        rw [stepA_bad hbad]
        exact Outc.sbad HF0.out H2.out
      obtain ⟨_, x', ss, q1, q2, q3, q4, q5, q6, q7, q8⟩ := h2
      obtain ⟨d, hd, hblk⟩ := q1.blk
      have d14 := hblk.cell 14 rfl
      have g14 := hblk.frozen 14
      have hbx : w2.cell? ⟨w.heap.size, 0, none⟩ = some (.pointer (some ⟨b, 0, none⟩)) := by
        have h5 := Blk.fr (Blk.new w 48 [.pointer (some ⟨b, 0, none⟩)]) q5 HBX.out
        exact Blk.cell h5 0 rfl
      have hlt2 := hblk.lt
      have hltx := cell_lt hbx
      refine leaves_cons (f := 30) (args := #[.pointer (some ⟨w.heap.size, 0, none⟩)]) (by simp) (by simp [go_sem]) ?_
      refine (catch_bad w2 b w.heap.size x'.bad hbx d14 g14 hlt2 hltx).mono ?_
      rintro e u' w'' ⟨rfl, rfl, rfl⟩
      simp [Leaves, settle, results, Try.results25, go_sem]
      exact HS.out
end Go.Proofs.Ytlpjehmanodhpaa
