import Derived.Test.YtlpjehmanodhpaaN3
import Derived.Laws.BytesArg
set_option linter.unusedSimpArgs false
set_option linter.unusedVariables false
namespace Go.Proofs.Ytlpjehmanodhpaa
open Go.RowKit Go.Proofs.YtlpjehmanodhpaaW.PrintWords
/-- A function's end that answers r. -/
def PToR (b base : Nat) (x x' : Lo) (r : Value) (ts' : List SqV) (w : World) (e : Ending) (w' : World) : Prop :=
  e = .returned r ∧ ∃ tv', PL w' b base { x' with tv := tv' } ts' ∧ Fr (PW b x.tv) w w' ∧ ∀ k, OwnB tv' k → OwnB x.tv k ∨ w.heap.size ≤ k
/-- A byte that every sequence takes likewise. -/
def asideL (x : Lo) (c : Int) : Lo × List SqV := if c < 32 then (x, [exV c]) else if c = 127 then (x, []) else ({ x.to 0 with p := (groundP x.p c).1 }, (groundP x.p c).2)
theorem aside_no (w : World) (b : Nat) (c : Int) (h0 : 32 ≤ c) (h1 : c < 127) : Calls Try.prog 40 #[.pointer (some ⟨b, 0, none⟩), .int .u8 c] w fun e w' => e = .returned (.bool false) ∧ w = w' := by
  have t1 : decide (c < 32) = false := by simp; omega
  have t2 : (c == 127) = false := by rw [beq_eq_false_iff_ne]; omega
  have t3 : decide (c ≥ 128) = false := by simp; omega
  clear h0 h1
  go_enter Try.func40, Try.ntmps40
  go_wp2
  go_ret
  exact ⟨rfl, rfl⟩
set_option maxHeartbeats 2000000 in
theorem aside_yes (w : World) (b base : Nat) (x : Lo) (ts : List SqV) (c : Int) (h : PL w b base x ts) (hb : base ≤ w.heap.size) (hl : ts.length ≤ 999000) (hc0 : 0 ≤ c) (hc1 : c ≤ 255) (hc : c < 32 ∨ 127 ≤ c) :
    Calls Try.prog 40 #[.pointer (some ⟨b, 0, none⟩), .int .u8 c] w (PToR b base x (asideL x c).1 (.bool true) (ts ++ (asideL x c).2) w) := by
  by_cases h32 : c < 32
  · have ha : asideL x c = (x, [exV c]) := by unfold asideL; rw [if_pos h32]
    rw [ha]
    have t1 : decide (c < 32) = true := by simp [h32]
    have HT := hid (tell_any w b base x ts (exV c) h hb (by omega))
    clear hc ha h
    go_enter Try.func40, Try.ntmps40
    go_wp2_with fail
    refine HT.out.mono ?_
    rintro e' w2 ⟨rfl, h2⟩
    have H2 := hid h2
    clear h2
    go_wp2
    go_ret
    exact ⟨rfl, H2.out⟩
  have t1 : decide (c < 32) = false := by simpa using h32
  by_cases h127 : c = 127
  · have ha : asideL x c = (x, []) := by unfold asideL; rw [if_neg h32, if_pos h127]
    rw [ha, List.append_nil]
    have t2 : (c == 127) = true := by rw [beq_iff_eq]; exact h127
    have HP := hid h
    clear hc ha h h127
    go_enter Try.func40, Try.ntmps40
    go_wp2
    go_ret
    exact ⟨rfl, x.tv, HP.out, Fr.refl _ _, fun k hk => .inl hk⟩
  · have ha : asideL x c = ({ x.to 0 with p := (groundP x.p c).1 }, (groundP x.p c).2) := by unfold asideL; rw [if_neg h32, if_neg h127]
    rw [ha]
    have t2 : (c == 127) = false := by rw [beq_eq_false_iff_ne]; exact h127
    have t3 : decide (c ≥ 128) = true := by simp; omega
    have HTo := hid (to_any w b base x ts 0 h)
    clear hc ha h h127
    go_enter Try.func40, Try.ntmps40
    go_wp2_with fail
    refine HTo.out.mono ?_
    rintro e' w2 ⟨rfl, tv2, hp2, hf2, ho2⟩
    have HG := hid (inG_any w2 b base { x.to 0 with tv := tv2 } ts c hp2 (Nat.le_trans hb hf2.size) hl hc0 hc1)
    have HF2 := hid hf2
    have HO2 := hid ho2
    clear hp2 hf2 ho2
    go_wp2_with fail
    refine HG.out.mono ?_
    intro e' w3 h3
    obtain ⟨rfl, h4⟩ := PTo.trans (x2 := { x.to 0 with p := (groundP x.p c).1 }) (x1 := x.to 0) HF2.out HO2.out h3
    have H4 := hid h4
    clear h3 h4
    go_wp2
    go_ret
    exact ⟨rfl, H4.out⟩
theorem conv_one (w : World) (g : Nat) (c : Int) (h : w.cell? ⟨g, 0, none⟩ = some (.int .u8 c)) : (convert 22 9 (.slice (some ⟨g, 0, none⟩) 1 1)).run Try.prog w = .ok (.string (one c)) w := by
  have := run_convert_bytes_arg (P := Try.prog) w 22 5 Try.underlying22 Try.underlying5 g 0 1 1 [c] rfl (fun i hi => by
    obtain rfl : i = 0 := by omega
    exact h) 9 Try.underlying9
  exact this
def textL (x : Lo) (c : Int) : Lo × List SqV :=
  if c = 7 then (x.to 0, [{ SqV.zero with kind := 5, text := x.q.text }])
  else if 32 ≤ c ∧ c ≠ 127 ∧ x.q.text.size < 256 then ({ x with q := { x.q with text := x.q.text ++ one c } }, []) else (x, [])
set_option maxHeartbeats 4000000 in
theorem inT_any (w : World) (b base : Nat) (x : Lo) (ts : List SqV) (c : Int) (h : PL w b base x ts) (hb : base ≤ w.heap.size) (hl : ts.length ≤ 999000) (hc0 : 0 ≤ c) (hc1 : c ≤ 255) :
    Calls Try.prog 34 #[.pointer (some ⟨b, 0, none⟩), .int .u8 c] w (PTo b base x (textL x c).1 (ts ++ (textL x c).2) w) := by
  have HP := hid h
  obtain ⟨d, hd, hblk⟩ := h.blk
  have c13 := hblk.cell 13 rfl
  have hlt := hblk.lt
  by_cases h7 : c = 7
  · have ha : textL x c = (x.to 0, [{ SqV.zero with kind := 5, text := x.q.text }]) := by unfold textL; rw [if_pos h7]
    rw [ha]
    have t1 : (c == 7) = true := by rw [beq_iff_eq]; exact h7
    have HT := hid (ptext_any w b base x ts h hb (by omega))
    clear h ha hblk hd h7
    go_enter Try.func34, Try.ntmps34
    go_wp2_with fail
    refine HT.out.mono ?_
    rintro e' w2 ⟨rfl, tv2, hp2, hf2, ho2⟩
    have HTo := hid (to_any w2 b base { x with tv := tv2 } _ 0 hp2)
    have HF2 := hid hf2
    have HO2 := hid ho2
    clear hp2 hf2 ho2
    go_wp2_with fail
    refine HTo.out.mono ?_
    intro e' w3 h3
    obtain ⟨rfl, h4⟩ := PTo.trans (x2 := x.to 0) (x1 := x) HF2.out HO2.out h3
    have H4 := hid h4
    clear h3 h4
    go_wp2
    go_end0
    exact ⟨rfl, H4.out⟩
  have t1 : (c == 7) = false := by rw [beq_eq_false_iff_ne]; exact h7
  by_cases hc : 32 ≤ c ∧ c ≠ 127 ∧ x.q.text.size < 256
  · have ha : textL x c = ({ x with q := { x.q with text := x.q.text ++ one c } }, []) := by unfold textL; rw [if_neg h7, if_pos hc]
    rw [ha, List.append_nil]
    obtain ⟨g1, g2, g3⟩ := hc
    have t2 : decide (c ≥ 32) = true := by simpa using g1
    have t3 : (c != 127) = true := by rw [bne_iff_ne]; exact g2
    have t4 : decide ((x.q.text.size : Int) < 256) = true := by simp; omega
    have f13 := hblk.frozen 13
    have HB := hid hblk
    have hno : ¬ 9223372036854775807 < x.q.text.size + (one c).size := by rw [one_size]; omega
    have hw1 : (w.alloc (.cells #[.int .u8 c] 5)).drew.cell? ⟨w.heap.size, 0, none⟩ = some (.int .u8 c) := (Blk.new w 5 [.int .u8 c]).drew.cell 0 rfl
    have hconv := conv_one _ _ c hw1
    clear h ha h7 hblk g1 g2
    go_enter Try.func34, Try.ntmps34
    go_wp2
    go_region
    all_goals
      go_wp2
      go_end0
      exact ⟨rfl, x.tv, ⟨⟨d, hd, ((HB.out.set 13 (.string (x.q.text ++ one c))).alloc (.cells #[.int .u8 c] 5)).drew⟩, HP.out.row.fr ((((Fr.refl (At b) w).setAt 13 (.string (x.q.text ++ one c))).alloc (.cells #[.int .u8 c] 5)).drew) (fun k hk he => HP.out.ne (by have he' : k = b := he; subst he'; exact hk))⟩, ((((Fr.refl (At b) w).setAt 13 (.string (x.q.text ++ one c))).alloc (.cells #[.int .u8 c] 5)).drew).mono (fun k hk => .inl hk), fun k hk => .inl hk⟩
  · have ha : textL x c = (x, []) := by unfold textL; rw [if_neg h7, if_neg hc]
    rw [ha, List.append_nil]
    have hx : c < 32 ∨ (32 ≤ c ∧ c = 127) ∨ (32 ≤ c ∧ c ≠ 127 ∧ 256 ≤ x.q.text.size) := by omega
    rcases hx with g1 | ⟨g1, g2⟩ | ⟨g1, g2, g3⟩
    · have t2 : decide (c ≥ 32) = false := by simp; omega
      clear h ha h7 hblk hc g1
      go_enter Try.func34, Try.ntmps34
      go_wp2
      go_end0
      exact ⟨rfl, x.tv, HP.out, Fr.refl _ _, fun k hk => .inl hk⟩
    · have t2 : decide (c ≥ 32) = true := by simpa using g1
      have t3 : (c != 127) = false := by rw [bne_eq_false_iff_eq]; exact g2
      clear h ha h7 hblk hc g1 g2
      go_enter Try.func34, Try.ntmps34
      go_wp2
      go_end0
      exact ⟨rfl, x.tv, HP.out, Fr.refl _ _, fun k hk => .inl hk⟩
    · have t2 : decide (c ≥ 32) = true := by simpa using g1
      have t3 : (c != 127) = true := by rw [bne_iff_ne]; exact g2
      have t4 : decide ((x.q.text.size : Int) < 256) = false := by simp; omega
      clear h ha h7 hblk hc g1 g2
      go_enter Try.func34, Try.ntmps34
      go_wp2
      go_end0
      exact ⟨rfl, x.tv, HP.out, Fr.refl _ _, fun k hk => .inl hk⟩
end Go.Proofs.Ytlpjehmanodhpaa
