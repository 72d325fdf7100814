import Derived.Test.YtlpjehmanodhpaaN8
set_option linter.unusedSimpArgs false
set_option linter.unusedVariables false
namespace Go.Proofs.Ytlpjehmanodhpaa
open Go.RowKit Go.Proofs.YtlpjehmanodhpaaW.PrintWords
theorem sizeInt (w : World) : (Go.sizeOf 3).run Try.prog w = .ok 1 w := by kernel_rfl
theorem cutp (A : Option Addr) (n c k : Nat) (hk : k ≤ c) (W : World) : (Instr.slice 28 (.slice A n c) none (some (.int .i64 k)) none).run Try.prog W = .ok (.slice A k c) W := by
  have he : Try.prog.elem 28 = 3 := by simp [Program.elem, Try.underlying28]
  rw [run_slice_h W 28 A n c (by rw [he]; exact Try.underlying28) .i64 k (by omega) (by omega), he, sizeInt]
  have e : A.map (fun x => x.add 0) = A := by cases A <;> simp [Addr.add]
  simp [sliced, Result.andThen, e]
theorem VP.cap {w : World} {q : SqV} {ps : List Int} (h : VP w q ps) : q.pn = ps.length ∧ ps.length ≤ q.pc ∧ q.pc ≤ maxLen := by
  rcases h with ⟨h1, h2, h3, rfl⟩ | ⟨g, rest, h1, h2, h3, h4, h5⟩
  · exact ⟨h2, Nat.zero_le _, by rw [h3]; exact Nat.zero_le _⟩
  · exact ⟨h2, h4, h5⟩
theorem VP.take {w : World} {q : SqV} {ps : List Int} (h : VP w q ps) (m : Nat) (hm : m ≤ ps.length) : VP w { q with pn := m } (ps.take m) := by
  rcases h with ⟨h1, h2, h3, rfl⟩ | ⟨g, rest, h1, h2, h3, h4, h5⟩
  · have : m = 0 := by simpa using hm
    subst this
    exact .inl ⟨h1, rfl, h3, rfl⟩
  · refine .inr ⟨g, (ps.drop m).flatMap iC ++ rest, h1, by rw [List.length_take]; show m = _; omega, ⟨h3.blk.eq ?_, ?_⟩, by rw [List.length_take]; show _ ≤ q.pc; omega, h5⟩
    · rw [← List.append_assoc, ← List.flatMap_append, List.take_append_drop]
    · rw [List.length_append, flat_len iC_len, List.length_take, List.length_drop]
      have h6 := h3.len
      show min m ps.length * 1 + ((ps.length - m) * 1 + rest.length) = q.pc * 1
      omega
theorem PL.set11 {w : World} {b base : Nat} {x : Lo} {ts : List SqV} (h : PL w b base x ts) (m : Nat) : PL (w.setCell ⟨b, 11, none⟩ (.slice x.q.pA m x.q.pc)) b base { x with q := { x.q with pn := m } } ts := by
  obtain ⟨d, hd, hblk⟩ := h.blk
  exact ⟨⟨d, hd, hblk.set 11 (.slice x.q.pA m x.q.pc)⟩, h.row.fr ((Fr.refl (At b) w).setAt 11 _) (fun k hk he => h.ne (by have he' : k = b := he; subst he'; exact hk))⟩
theorem FS.set11 {w : World} {b base : Nat} {x : Lo} {ts : List SqV} {a : Ab} (h : FS w b base x ts a) (m : Nat) (hm : m ≤ a.params.length) : FS (w.setCell ⟨b, 11, none⟩ (.slice x.q.pA m x.q.pc)) b base { x with q := { x.q with pn := m } } ts { a with params := a.params.take m } :=
  ⟨h.pl.set11 m, (h.vp.at h.pl.blk ((Fr.refl (At b) w).setAt 11 _)).take m hm, ⟨h.ab.p, h.ab.st, h.ab.by_, h.ab.kind, h.ab.r, h.ab.priv, h.ab.inter, h.ab.final, h.ab.text, h.ab.bad⟩⟩
theorem FS.frd {w w1 : World} {b base : Nat} {x : Lo} {ts : List SqV} {a : Ab} (h : FS w b base x ts a) (hf : Fr NoB w w1) : FS w1 b base x ts a :=
  ⟨h.pl.fr hf (fun h => h) (fun _ _ h => h), h.vp.fr hf (fun _ _ h => h), h.ab⟩
set_option maxHeartbeats 4000000 in
theorem inC_out (w : World) (b base : Nat) (x : Lo) (ts : List SqV) (a : Ab) (c : Int) (h : FS w b base x ts a) (hb : base ≤ w.heap.size) (hl : ts.length ≤ 999000) (hi : a.inter.size ≤ 2) (hb0 : 0 ≤ a.by_) (hb1 : a.by_ ≤ 1000000000) (hpl : a.params.length ≤ 17) (hpr : ∀ q ∈ a.params, -1 ≤ q ∧ q ≤ 9999) (hc0 : 0 ≤ c) (hc1 : c ≤ 255) :
    Calls Try.prog 33 #[.pointer (some ⟨b, 0, none⟩), .int .u8 c] w (Outc b base x ts (a.ctl c) w) := by
  rw [← h.ab.by_] at hb0 hb1
  by_cases hA : c < 32 ∨ 127 ≤ c
  · have ha : a.ctl c = ((a.aside c).1, (a.aside c).2, false) := by unfold Ab.ctl; rw [if_pos hA]
    rw [ha]
    have HC := hid (aside_yes w b base x ts c h.pl hb hl hc0 hc1 hA)
    have HH := hid h
    clear h ha hA
    go_enter Try.func33, Try.ntmps33
    go_wp2_with fail
    refine HC.out.mono ?_
    intro e' w2 h2
    obtain rfl : e' = .returned (.bool true) := h2.1
    have H2 := hid (aside_out HH.out h2)
    clear h2
    go_wp2
    go_end0
    exact H2.out
  have HN := hid (aside_no w b c (by omega) (by omega))
  have c6 := (by obtain ⟨d, hd, hblk⟩ := h.pl.blk; exact hblk.cell 6 rfl : w.cell? ⟨b, 6, none⟩ = some (.int .i64 x.by_))
  have hlt := (by obtain ⟨d, hd, hblk⟩ := h.pl.blk; exact hblk.lt : b < w.heap.size)
  obtain ⟨w1, hw1⟩ : ∃ w1, w1 = w.setCell ⟨b, 6, none⟩ (.int .i64 (x.by_ + 1)) := ⟨_, rfl⟩
  have f6 := (by obtain ⟨d, hd, hblk⟩ := h.pl.blk; exact hblk.frozen 6 : w.frozen? ⟨b, 6, none⟩ = false)
  have h1 : FS w1 b base { x with by_ := x.by_ + 1 } ts { a with by_ := a.by_ + 1 } := by rw [hw1, ← h.ab.by_]; exact h.set6 _
  have hb1' : base ≤ w1.heap.size := by rw [hw1, sz_setCell]; exact hb
  have hfw : Fr (At b) w w1 := by rw [hw1]; exact (Fr.refl (At b) w).setAt 6 _
  have HPRE := fun o e w2 => @Outc.pre w w1 w2 b base x { x with by_ := x.by_ + 1 } ts o e hfw rfl rfl
  by_cases h48 : c < 48
  · have ha : a.ctl c = Ab.inter_ { a with by_ := a.by_ + 1 } c := by unfold Ab.ctl; rw [if_neg hA, if_pos h48]
    rw [ha]
    have t1 : decide (c < 48) = true := by simp [h48]
    have HC := hid (inter_any w1 b base _ ts _ c h1 (by rw [h1.ab.inter]; show a.inter.size ≤ 100; omega) hc0 (by omega))
    clear h h1 ha hA h48
    go_enter Try.func33, Try.ntmps33
    go_wp2_with fail
    refine HN.out.mono ?_
    rintro e' w2 ⟨rfl, rfl⟩
    go_wp2_with fail
    rw [← hw1]
    refine HC.out.mono ?_
    intro e' w2 h2
    have he := h2.1
    have H2 := hid (HPRE _ _ _ h2)
    clear h2
    cases hbad : (Ab.inter_ { a with by_ := a.by_ + 1 } c).2.2
    · rw [hbad] at he
      obtain rfl : e' = .returned (.tuple #[]) := he
      go_wp2
      go_end0
      exact H2.out
    · rw [hbad] at he
      obtain rfl : e' = .panicked [spo] := he
      go_wp2
      exact ⟨rfl, H2.out⟩
  have t1 : decide (c < 48) = false := by simp; omega
  by_cases h60 : c < 60
  · have ha : a.ctl c = (if (Ab.inter { a with by_ := a.by_ + 1 }).size ≠ 0 then ({ a with by_ := a.by_ + 1 }, [], true) else ({ a with by_ := a.by_ + 1, params := paramP a.params c }, [], false)) := by unfold Ab.ctl; rw [if_neg hA, if_neg h48, if_pos h60]
    rw [ha]
    have t2 : decide (c < 60) = true := by simp [h60]
    have HC := hid (param_any w1 b base _ ts _ c h1 hpl hpr (by omega) (by omega))
    by_cases hbad : a.inter.size ≠ 0
    · rw [if_pos (show (Ab.inter { a with by_ := a.by_ + 1 }).size ≠ 0 from hbad)] at HC ⊢
      clear h h1 ha hA h48 h60 hbad
      go_enter Try.func33, Try.ntmps33
      go_wp2_with fail
      refine HN.out.mono ?_
      rintro e' w2 ⟨rfl, rfl⟩
      go_wp2_with fail
      rw [← hw1]
      refine HC.out.mono ?_
      intro e' w2 h2
      obtain rfl : e' = .panicked [spo] := h2.1
      have H2 := hid (HPRE _ _ _ h2)
      clear h2
      go_wp2
      exact ⟨rfl, H2.out⟩
    · rw [if_neg (show ¬ (Ab.inter { a with by_ := a.by_ + 1 }).size ≠ 0 from hbad)] at HC ⊢
      clear h h1 ha hA h48 h60 hbad
      go_enter Try.func33, Try.ntmps33
      go_wp2_with fail
      refine HN.out.mono ?_
      rintro e' w2 ⟨rfl, rfl⟩
      go_wp2_with fail
      rw [← hw1]
      refine HC.out.mono ?_
      intro e' w2 h2
      obtain rfl : e' = .returned (.tuple #[]) := h2.1
      have H2 := hid (HPRE _ _ _ h2)
      clear h2
      go_wp2
      go_end0
      exact H2.out
  have t2 : decide (c < 60) = false := by simp; omega
  by_cases h64 : c < 64
  · have ha : a.ctl c = (if a.by_ = 0 then ({ a with by_ := a.by_ + 1, priv := c }, [], false) else ({ a with by_ := a.by_ + 1 }, [], true)) := by unfold Ab.ctl; rw [if_neg hA, if_neg h48, if_neg h60, if_pos h64]
    rw [ha]
    have t3 : decide (c < 64) = true := by simp [h64]
    by_cases hz : a.by_ = 0
    · rw [if_pos hz]
      have hz' : x.by_ = 0 := h.ab.by_.trans hz
      rw [hz'] at c6
      have h2 := h1.set9 c
      rw [hw1, hz'] at h2
      have H2 := hid h2
      have c9 := (by obtain ⟨d, hd, hblk⟩ := h.pl.blk; exact hblk.cell 9 rfl : w.cell? ⟨b, 9, none⟩ = some (.int .u8 x.q.priv))
      have f9 := (by obtain ⟨d, hd, hblk⟩ := h.pl.blk; exact hblk.frozen 9 : w.frozen? ⟨b, 9, none⟩ = false)
      clear h h1 ha hA h48 h60 h64 h2 HPRE hb0 hb1
      go_enter Try.func33, Try.ntmps33
      go_wp2_with fail
      refine HN.out.mono ?_
      rintro e' w2 ⟨rfl, rfl⟩
      go_wp2
      go_end0
      exact ⟨rfl, _, [], by rw [List.append_nil]; exact H2.out.pl, H2.out.vp, H2.out.ab, .nil, (((Fr.refl (At b) w).setAt 6 _).setAt 9 _).mono (fun k hk => .inl hk), fun k hk => .inl hk, fun k hk => .inl hk, fun s hs => by cases hs⟩
    · rw [if_neg hz]
      have hz' : (x.by_ == 0) = false := by rw [beq_eq_false_iff_ne, h.ab.by_]; exact hz
      rw [hw1] at h1
      have H2 := hid h1
      clear h h1 ha hA h48 h60 h64 HPRE
      go_enter Try.func33, Try.ntmps33
      go_wp2_with fail
      refine HN.out.mono ?_
      rintro e' w2 ⟨rfl, rfl⟩
      go_wp2
      exact ⟨rfl, rfl, _, [], by rw [List.append_nil]; exact H2.out.pl, H2.out.vp, H2.out.ab, .nil, ((Fr.refl (At b) w).setAt 6 _).mono (fun k hk => .inl hk), fun k hk => .inl hk, fun k hk => .inl hk, fun s hs => by cases hs⟩
  have t3 : decide (c < 64) = false := by simp; omega
  have ha : a.ctl c = ((Ab.end_ { a with by_ := a.by_ + 1, params := a.params.take 16 } 4 c).1, (Ab.end_ { a with by_ := a.by_ + 1, params := a.params.take 16 } 4 c).2, false) := by unfold Ab.ctl; rw [if_neg hA, if_neg h48, if_neg h60, if_neg h64]
  rw [ha]
  obtain ⟨k1, k2, k3⟩ := h.vp.cap
  have c11 := (by obtain ⟨d, hd, hblk⟩ := h.pl.blk; exact hblk.cell 11 rfl : w.cell? ⟨b, 11, none⟩ = some (.slice x.q.pA x.q.pn x.q.pc))
  have f11 := (by obtain ⟨d, hd, hblk⟩ := h.pl.blk; exact hblk.frozen 11 : w.frozen? ⟨b, 11, none⟩ = false)
  obtain ⟨m, hm⟩ : ∃ m, m = min x.q.pn 16 := ⟨_, rfl⟩
  have hcut : ∀ W, (Instr.slice 28 (.slice x.q.pA x.q.pn x.q.pc) none (some (.int .i64 (min (x.q.pn : Int) 16))) none).run Try.prog W = .ok (.slice x.q.pA m x.q.pc) W := fun W => by
    have e : min (x.q.pn : Int) 16 = (m : Int) := by omega
    rw [e]
    exact cutp x.q.pA x.q.pn x.q.pc m (by omega) W
  have h2 := (h1.set11 m (show m ≤ a.params.length by omega)).frd ((Fr.refl NoB _).drew)
  have htk : a.params.take m = a.params.take 16 := by
    rw [hm, k1]
    by_cases h16 : a.params.length ≤ 16
    · rw [List.take_of_length_le h16, List.take_of_length_le (by omega)]
    · rw [show min a.params.length 16 = 16 by omega]
  simp only at h2
  rw [htk] at h2
  have hf2 : Fr (At b) w ((w1.setCell ⟨b, 11, none⟩ (.slice x.q.pA m x.q.pc)).drew) := (hfw.setAt 11 _).drew
  have hsz : base ≤ ((w1.setCell ⟨b, 11, none⟩ (.slice x.q.pA m x.q.pc)).drew).heap.size := Nat.le_trans hb hf2.size
  have HC := hid (pend_out _ b base _ ts _ 4 c h2 hsz hl)
  obtain ⟨w2, hw2⟩ : ∃ w2, w2 = (w1.setCell ⟨b, 11, none⟩ (.slice x.q.pA m x.q.pc)).drew := ⟨_, rfl⟩
  rw [← hw2] at HC
  rw [hw1] at hw2
  have HOWN : Hid (∀ k, OwnB (SqV.pv { x.q with pn := m }) k ↔ OwnB x.q.pv k) := fun k => by
    unfold OwnB SqV.pv
    cases x.q.pA <;> exact Iff.rfl
  have HF2 := hid hf2
  clear h h1 ha hA h48 h60 h64 h2 k1 k2 k3 hm htk hf2 hsz HPRE
  go_enter Try.func33, Try.ntmps33
  go_wp2_with fail
  refine HN.out.mono ?_
  rintro e' w3 ⟨rfl, rfl⟩
  go_wp2
  go_region
  all_goals
    go_wp2_with fail
    rw [← hw2]
    refine HC.out.mono ?_
    intro e' w3 h3
    obtain rfl : e' = .returned (.tuple #[]) := h3.1
    have H3 := hid h3
    clear h3
    go_wp2
    go_end0
    obtain ⟨he, x', ss, q1, q2, q3, q4, q5, q6, q7, q8⟩ := H3.out
    have hs := HF2.out.size
    rw [← hw1] at hw2
    rw [← hw2] at HF2 hs
    exact ⟨he, x', ss, q1, q2, q3, q4, (HF2.out.mono (fun k hk => .inl hk)).trans (q5.mono (fun k hk => by
      rcases hk with hk | hk | hk
      · exact .inl hk
      · exact .inr (.inl hk)
      · exact .inr (.inr ((HOWN.out k).1 hk)))), fun k hk => (q6 k hk).imp id (fun h => Nat.le_trans hs h), fun k hk => (q7 k hk).imp (HOWN.out k).1 (fun h => Nat.le_trans hs h), fun s hs' k hk => ⟨((q8 s hs' k hk).1).imp (HOWN.out k).1 (fun h => Nat.le_trans hs h), (q8 s hs' k hk).2⟩⟩
end Go.Proofs.Ytlpjehmanodhpaa
