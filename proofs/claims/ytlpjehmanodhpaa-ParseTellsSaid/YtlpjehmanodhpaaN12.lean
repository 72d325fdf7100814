import Derived.Test.YtlpjehmanodhpaaN11
set_option linter.unusedSimpArgs false
set_option linter.unusedVariables false
namespace Go.Proofs.Ytlpjehmanodhpaa
open Go.RowKit Go.Proofs.YtlpjehmanodhpaaW.PrintWords
theorem feed_q {b base : Nat} {x : Lo} {o : Ab × List Sq} {w w2 : World}
    (h : ∃ (x' : Lo) (ss : List SqV), PL w2 b base x' ss ∧ VP w2 x'.q o.1.params ∧ Abs x' o.1 ∧ Fa2 (TellOk w2) ss o.2 ∧
      Fr (fun k => k = b ∨ OwnB x.q.pv k) w w2 ∧ (∀ k, OwnB x'.tv k → w.heap.size ≤ k) ∧ (∀ k, OwnB x'.q.pv k → OwnB x.q.pv k ∨ w.heap.size ≤ k) ∧
      ∀ s ∈ ss, ∀ k, OwnB s.pv k → (OwnB x.q.pv k ∨ w.heap.size ≤ k) ∧ ¬ OwnB x'.q.pv k) :
    ∃ A n c, FeedOut b base x o w (.returned (.slice A n c)) w2 ∧ w2.cell? ⟨b, 15, none⟩ = some (.slice A n c) ∧ b < w2.heap.size := by
  obtain ⟨x', ss, q1, q2, q3, q4, q5, q6, q7, q8⟩ := h
  obtain ⟨A2, cc2, hsh2, _⟩ := Row.shape q1.row
  have d15 := (by obtain ⟨d, hd, hblk⟩ := q1.blk; exact hblk.cell 15 rfl : w2.cell? ⟨b, 15, none⟩ = some x'.tv)
  have dlt := (by obtain ⟨d, hd, hblk⟩ := q1.blk; exact hblk.lt : b < w2.heap.size)
  rw [hsh2] at d15
  exact ⟨A2, ss.length, cc2, ⟨x', ss, by rw [hsh2], q1, q2, q3, q4, q5, q6, q7, q8⟩, d15, dlt⟩
set_option maxHeartbeats 4000000 in
theorem feed_can (w : World) (b base : Nat) (x : Lo) (ts : List SqV) (a : Ab) (c : Int) (h : FS w b base x ts a) (hb : base ≤ w.heap.size) (hst : a.st ≠ 0) (hc : c = 24 ∨ c = 26) :
    Calls Try.prog 7 #[.pointer (some ⟨b, 0, none⟩), .int .u8 c] w (FeedOut b base x (a.to 0, []) w) := by
  have c5 := (by obtain ⟨d, hd, hblk⟩ := h.pl.blk; exact hblk.cell 5 rfl : w.cell? ⟨b, 5, none⟩ = some (.int .i64 x.st))
  have c15 := (by obtain ⟨d, hd, hblk⟩ := h.pl.blk; exact hblk.cell 15 rfl : w.cell? ⟨b, 15, none⟩ = some x.tv)
  have f15 := (by obtain ⟨d, hd, hblk⟩ := h.pl.blk; exact hblk.frozen 15 : w.frozen? ⟨b, 15, none⟩ = false)
  have hlt := (by obtain ⟨d, hd, hblk⟩ := h.pl.blk; exact hblk.lt : b < w.heap.size)
  obtain ⟨A0, c0, hshape, _⟩ := Row.shape h.pl.row
  rw [hshape] at c15
  have h1 := h.set15
  have HF1 : Hid (Fr (At b) w (w.setCell ⟨b, 15, none⟩ (.slice none 0 0))) := (Fr.refl (At b) w).setAt 15 _
  have hb1 : base ≤ (w.setCell ⟨b, 15, none⟩ (.slice none 0 0)).heap.size := by rw [sz_setCell]; exact hb
  have H1 := hid h1
  rw [h.ab.st] at c5
  clear h1 hshape
  have t1 : (c == 27) = false := by rw [beq_eq_false_iff_ne]; omega
  have t2 : (a.st != 0) = true := by rw [bne_iff_ne]; exact hst
  have HC := hid (to_out _ b base _ [] a 0 H1.out)
  clear h
  by_cases h24 : c = 24
  · have t3 : (c == 24) = true := by rw [beq_iff_eq]; exact h24
    clear hc h24 hst
    go_enter Try.func7, Try.ntmps7
    go_wp2_with fail
    refine HC.out.mono ?_
    intro e' w2 h2
    obtain rfl : e' = .returned (.tuple #[]) := h2.1
    obtain ⟨A2, n2, cc2, hq, d15, dlt⟩ := feed_q (SOut.feed HF1.out (h2.sout (Fr.refl NoB _) rfl))
    have HQ := hid hq
    clear h2 hq
    go_wp2
    go_ret
    exact HQ.out
  · have t3 : (c == 24) = false := by rw [beq_eq_false_iff_ne]; exact h24
    have t4 : (c == 26) = true := by rw [beq_iff_eq]; omega
    clear hc h24 hst
    go_enter Try.func7, Try.ntmps7
    go_wp2_with fail
    refine HC.out.mono ?_
    intro e' w2 h2
    obtain rfl : e' = .returned (.tuple #[]) := h2.1
    obtain ⟨A2, n2, cc2, hq, d15, dlt⟩ := feed_q (SOut.feed HF1.out (h2.sout (Fr.refl NoB _) rfl))
    have HQ := hid hq
    clear h2 hq
    go_wp2
    go_ret
    exact HQ.out
theorem esc_fin {w w1 w2 : World} {b base : Nat} {x : Lo} {ts : List SqV} {a : Ab} {e : Ending} {ss : List SqV} {us : List Sq} (h : FS w b base x ts a) (h1 : FS w1 b base { x with tv := .slice none 0 0 } [] a) (hf : Fr (At b) w w1) (hs : Fa2 NoPs ss us)
    (he : PTo b base { x with tv := .slice none 0 0 } (Lo.to { x with tv := .slice none 0 0, p := [] } 1) ss w1 e w2) : ∃ A n c, FeedOut b base x (Ab.to { a with p := [] } 1, us) w (.returned (.slice A n c)) w2 ∧ w2.cell? ⟨b, 15, none⟩ = some (.slice A n c) ∧ b < w2.heap.size := by
  have ho : Outc b base { x with tv := .slice none 0 0 } [] (Ab.to { a with p := [] } 1, us, false) w1 e w2 :=
    Outc.of_PTo (ss := ss) (x' := Lo.to { x with tv := .slice none 0 0, p := [] } 1) (by rw [List.nil_append]; exact he) h1.pl.blk ⟨[], h1.pl.row⟩ h1.vp rfl (.inr ⟨rfl, rfl, rfl, rfl⟩) ⟨rfl, rfl, rfl, rfl, rfl, rfl, rfl, rfl, rfl, rfl⟩ hs
  exact feed_q (SOut.feed hf (ho.sout (Fr.refl NoB _) rfl))
set_option maxHeartbeats 4000000 in
theorem feed_esc (w : World) (b base : Nat) (x : Lo) (ts : List SqV) (a : Ab) (h : FS w b base x ts a) (hb : base ≤ w.heap.size) :
    Calls Try.prog 7 #[.pointer (some ⟨b, 0, none⟩), .int .u8 27] w (FeedOut b base x (Ab.to { a with p := [] } 1, (if a.st = 3 then [osS a.text] else []) ++ (pflush a.p).map prS) w) := by
  have HH := hid h
  have c5 := (by obtain ⟨d, hd, hblk⟩ := h.pl.blk; exact hblk.cell 5 rfl : w.cell? ⟨b, 5, none⟩ = some (.int .i64 x.st))
  have c15 := (by obtain ⟨d, hd, hblk⟩ := h.pl.blk; exact hblk.cell 15 rfl : w.cell? ⟨b, 15, none⟩ = some x.tv)
  have f15 := (by obtain ⟨d, hd, hblk⟩ := h.pl.blk; exact hblk.frozen 15 : w.frozen? ⟨b, 15, none⟩ = false)
  have hlt := (by obtain ⟨d, hd, hblk⟩ := h.pl.blk; exact hblk.lt : b < w.heap.size)
  obtain ⟨A0, c0, hshape, _⟩ := Row.shape h.pl.row
  rw [hshape] at c15
  have h1 := h.set15
  have HF1 : Hid (Fr (At b) w (w.setCell ⟨b, 15, none⟩ (.slice none 0 0))) := (Fr.refl (At b) w).setAt 15 _
  have hb1 : base ≤ (w.setCell ⟨b, 15, none⟩ (.slice none 0 0)).heap.size := by rw [sz_setCell]; exact hb
  have H1 := hid h1
  rw [h.ab.st] at c5
  clear h1 hshape
  have HT := hid h.ab.text
  have HP := hid h.ab.p
  have hfl := pflush_len x.p
  clear h
  by_cases h3 : a.st = 3
  · have HC := hid (ptext_any _ b base _ [] H1.out.pl hb1 (by simp))
    rw [h3] at c5
    rw [if_pos h3]
    clear h3
    go_enter Try.func7, Try.ntmps7
    go_wp2_with fail
    refine HC.out.mono ?_
    rintro e' w2 ⟨rfl, tv2, hp2, hf2, ho2⟩
    have hend := end_any w2 b 33 (Lo.rest { x with tv := tv2 }) x.p hp2.blk
    have HP2 := hid hp2
    have HF2 := hid hf2
    have HO2 := hid ho2
    have HE := hid hend
    clear hp2 hf2 ho2 hend
    go_wp2_with fail
    refine HE.out.mono ?_
    rintro e' w3 ⟨v, rfl, hv, hd, hf⟩
    obtain ⟨A, c', rfl, hp3, hpr⟩ := flush_print w2 b base { x with tv := tv2 } _ (pflush x.p) [] v w3 HP2.out (Nat.le_trans hb1 HF2.out.size) (by simp; omega) hv hd hf
    have HPR := hid hpr
    clear hpr hv hd hp3 hf
    go_wp2_with fail
    refine HPR.out.mono ?_
    rintro e' w4 ⟨rfl, tv4, hp4, hf4, ho4⟩
    have HTo := hid (to_any w4 b base _ _ 1 hp4)
    have HF4 := hid hf4
    have HO4 := hid ho4
    clear hp4 hf4 ho4
    go_wp2_with fail
    refine HTo.out.mono ?_
    intro e' w5 h5
    have h6 := PTo.trans (x := { x with tv := tv2 }) (x1 := { x with tv := tv2, p := [] }) (x2 := Lo.to { x with tv := .slice none 0 0, p := [] } 1) HF4.out HO4.out h5
    have h7 := PTo.trans (x1 := { x with tv := .slice none 0 0 }) (x := { x with tv := .slice none 0 0 }) HF2.out HO2.out h6
    obtain rfl : e' = .returned (.tuple #[]) := h7.1
    obtain ⟨A2, n2, cc2, hq, d15, dlt⟩ := esc_fin HH.out H1.out HF1.out (us := [osS a.text] ++ (pflush a.p).map prS) (by
      rw [← HP.out]
      refine Fa2.append (.cons ⟨rfl, rfl, rfl, rfl, rfl, HT.out, rfl, rfl, rfl, rfl⟩ .nil) (Fa2.map _ noPs_pr)) h7
    have HQ := hid hq
    clear h5 h6 h7 hq
    go_wp2
    go_ret
    exact HQ.out
  · have t3 : (a.st == 3) = false := by rw [beq_eq_false_iff_ne]; exact h3
    rw [if_neg h3]
    clear h3
    have hend := end_any _ b 33 _ x.p H1.out.pl.blk
    have HE := hid hend
    clear hend
    go_enter Try.func7, Try.ntmps7
    go_wp2_with fail
    refine HE.out.mono ?_
    rintro e' w3 ⟨v, rfl, hv, hd, hf⟩
    obtain ⟨A, c', rfl, hp3, hpr⟩ := flush_print _ b base { x with tv := .slice none 0 0 } [] (pflush x.p) [] v w3 H1.out.pl hb1 (by simp; omega) hv hd hf
    have HPR := hid hpr
    clear hpr hv hd hp3 hf
    go_wp2_with fail
    refine HPR.out.mono ?_
    rintro e' w4 ⟨rfl, tv4, hp4, hf4, ho4⟩
    have HTo := hid (to_any w4 b base _ _ 1 hp4)
    have HF4 := hid hf4
    have HO4 := hid ho4
    clear hp4 hf4 ho4
    go_wp2_with fail
    refine HTo.out.mono ?_
    intro e' w5 h5
    have h7 := PTo.trans (x := { x with tv := .slice none 0 0 }) (x1 := { x with tv := .slice none 0 0, p := [] }) (x2 := Lo.to { x with tv := .slice none 0 0, p := [] } 1) HF4.out HO4.out h5
    obtain rfl : e' = .returned (.tuple #[]) := h7.1
    obtain ⟨A2, n2, cc2, hq, d15, dlt⟩ := esc_fin HH.out H1.out HF1.out (us := [] ++ (pflush a.p).map prS) (by
      rw [← HP.out]
      exact Fa2.append .nil (Fa2.map _ noPs_pr)) h7
    have HQ := hid hq
    clear h5 h7 hq
    go_wp2
    go_ret
    exact HQ.out
theorem pfeed_any (w : World) (b base : Nat) (x : Lo) (ts : List SqV) (a : Ab) (n : Nat) (c : Int) (h : FS w b base x ts a) (hk : OkS n a) (hn : n ≤ 1000000000) (hb : base ≤ w.heap.size) (hc0 : 0 ≤ c) (hc1 : c ≤ 255) :
    Calls Try.prog 7 #[.pointer (some ⟨b, 0, none⟩), .int .u8 c] w (FeedOut b base x (a.feed c) w) := by
  by_cases h27 : c = 27
  · subst h27
    exact feed_esc w b base x ts a h hb
  · by_cases hcan : a.st ≠ 0 ∧ (c = 24 ∨ c = 26)
    · have hf : a.feed c = (a.to 0, []) := by unfold Ab.feed; rw [if_neg h27, if_pos hcan]
      rw [hf]
      exact feed_can w b base x ts a c h hb hcan.1 hcan.2
    · have hf : a.feed c = a.step c := by unfold Ab.feed; rw [if_neg h27, if_neg hcan]
      rw [hf]
      exact feed_step w b base x ts a n c h hk hn hb hc0 hc1 h27 hcan
end Go.Proofs.Ytlpjehmanodhpaa
