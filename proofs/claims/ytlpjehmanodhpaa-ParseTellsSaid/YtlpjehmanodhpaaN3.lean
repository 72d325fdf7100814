import Derived.Test.YtlpjehmanodhpaaN2
import Derived.WalkLawsBesides
import Derived.WalkSpells
set_option linter.unusedSimpArgs false
set_option linter.unusedVariables false
namespace Go.Proofs.Ytlpjehmanodhpaa
open Go.RowKit Go.Proofs.YtlpjehmanodhpaaW.PrintWords
def one (c : Int) : ByteArray := ⟨#[UInt8.ofNat c.toNat]⟩
theorem encode_low (c : Int) (h0 : 0 ≤ c) (h1 : c < 128) : Utf8.encode c = one c := by
  unfold Utf8.encode one
  have hv : Utf8.valid c = true := by simp [Utf8.valid]; omega
  simp only [hv, if_true]
  rw [if_pos (by omega)]
theorem one_size (c : Int) : (one c).size = 1 := rfl
/-- What a spoilt sequence panics with. -/
def spo : PanicEntry := { v := .iface 57 (.agg #[]), recovered := false }
def PBad (w : World) (e : Ending) (w' : World) : Prop := e = .panicked [spo] ∧ w = w'
theorem inter_bad (w : World) (b base : Nat) (x : Lo) (ts : List SqV) (c : Int) (h : PL w b base x ts) (h2 : x.q.inter.size = 2) :
    Calls Try.prog 41 #[.pointer (some ⟨b, 0, none⟩), .int .u8 c] w (PBad w) := by
  obtain ⟨d, hd, hblk⟩ := h.blk
  have c10 := hblk.cell 10 rfl
  have hlt := hblk.lt
  have t1 : ((x.q.inter.size : Int) == 2) = true := by rw [beq_iff_eq]; omega
  clear h h2 hblk hd
  go_enter Try.func41, Try.ntmps41
  go_wp2
  exact ⟨rfl, rfl, rfl⟩
theorem inter_ok (w : World) (b base : Nat) (x : Lo) (ts : List SqV) (c : Int) (h : PL w b base x ts) (h2 : x.q.inter.size ≠ 2) (h3 : x.q.inter.size ≤ 100) (hc0 : 0 ≤ c) (hc1 : c < 128) :
    Calls Try.prog 41 #[.pointer (some ⟨b, 0, none⟩), .int .u8 c] w (PTo b base x { x with q := { x.q with inter := x.q.inter ++ one c } } ts w) := by
  obtain ⟨d, hd, hblk⟩ := h.blk
  have HR := hid h.row
  have HN := hid h.ne
  have c10 := hblk.cell 10 rfl
  have f10 := hblk.frozen 10
  have hlt := hblk.lt
  have HB := hid hblk
  have t1 : ((x.q.inter.size : Int) == 2) = false := by rw [beq_eq_false_iff_ne]; omega
  have henc := encode_low c hc0 hc1
  have hno : ¬ 9223372036854775807 < x.q.inter.size + (one c).size := by rw [one_size]; omega
  clear h h2 hblk
  go_enter Try.func41, Try.ntmps41
  go_wp2
  go_end0
  exact ⟨rfl, x.tv, ⟨⟨d, hd, HB.out.set 10 _⟩, HR.out.fr ((Fr.refl (At b) w).setAt 10 _) (fun k hk he => HN.out (by have he' : k = b := he; subst he'; exact hk))⟩, ((Fr.refl (At b) w).setAt 10 _).mono (fun k hk => .inl hk), fun k hk => .inl hk⟩
theorem PTo.noB {w w1 w2 : World} {b base : Nat} {x x2 : Lo} {ts2 : List SqV} {e : Ending} (hf : Fr NoB w w1) (h : PTo b base x x2 ts2 w1 e w2) : PTo b base x x2 ts2 w e w2 :=
  PTo.trans (x1 := x) (tv1 := x.tv) (hf.mono (fun _ h => h.elim)) (fun k hk => .inl hk) h
set_option maxHeartbeats 2000000 in
theorem pend_any (w : World) (b base : Nat) (x : Lo) (ts : List SqV) (kind c : Int) (h : PL w b base x ts) (hb : base ≤ w.heap.size) (hl : ts.length ≤ 1000000) :
    Calls Try.prog 43 #[.pointer (some ⟨b, 0, none⟩), .int .i64 kind, .int .u8 c] w (PTo b base x (x.to 0) (ts ++ if x.bad then [] else [{ x.q with kind := kind, final := c }]) w) := by
  obtain ⟨d, hd, hblk⟩ := h.blk
  have HP := hid h
  have c7 := hblk.cell 7 rfl
  have c8 := hblk.cell 8 rfl
  have c9 := hblk.cell 9 rfl
  have c10 := hblk.cell 10 rfl
  have c11 := hblk.cell 11 rfl
  have c12 := hblk.cell 12 rfl
  have c13 := hblk.cell 13 rfl
  have c14 := hblk.cell 14 rfl
  have hlt := hblk.lt
  clear h hblk hd
  cases hbad : x.bad
  · rw [hbad] at c14
    rw [if_neg (by simp)]
    clear hbad
    have hf0 := (Fr.refl NoB w).alloc (.cells #[.int .i64 kind, .int .i32 x.q.r, .int .u8 x.q.priv, .string x.q.inter, .slice x.q.pA x.q.pn x.q.pc, .int .u8 c, .string x.q.text] 30)
    have hp0 := HP.out.fr hf0 (fun h => h) (fun _ _ h => h)
    have HF0 := hid hf0
    have HT := hid (tell_any _ b base x ts { x.q with kind := kind, final := c } hp0 (Nat.le_trans hb hf0.size) hl)
    clear hf0 hp0
    go_enter Try.func43, Try.ntmps43
    go_wp2_with fail
    refine HT.out.mono ?_
    rintro e' w2 ⟨rfl, tv2, hp2, hf2, ho2⟩
    have HTo := hid (to_any w2 b base { x with tv := tv2 } _ 0 hp2)
    have HF2 := hid hf2
    have HO2 := hid ho2
    clear hp2 hf2 ho2
    go_wp2_with fail
    refine HTo.out.mono ?_
    intro e' w3 h3
    obtain ⟨rfl, h4⟩ := PTo.noB HF0.out (PTo.trans (x2 := x.to 0) (x1 := x) HF2.out HO2.out h3)
    have H4 := hid h4
    clear h3 h4
    go_wp2
    go_end0
    exact ⟨rfl, H4.out⟩
  · rw [hbad] at c14
    rw [if_pos rfl]
    clear hbad
    have hf0 := (Fr.refl NoB w).alloc (.cells #[.int .i64 kind, .int .i32 x.q.r, .int .u8 x.q.priv, .string x.q.inter, .slice x.q.pA x.q.pn x.q.pc, .int .u8 c, .string x.q.text] 30)
    have hp0 := HP.out.fr hf0 (fun h => h) (fun _ _ h => h)
    have HF0 := hid hf0
    have HTo := hid (to_any _ b base x ts 0 hp0)
    clear hf0 hp0
    go_enter Try.func43, Try.ntmps43
    go_wp2_with fail
    refine HTo.out.mono ?_
    intro e' w3 h3
    obtain ⟨rfl, h4⟩ := PTo.noB HF0.out h3
    have H4 := hid h4
    clear h3 h4
    go_wp2
    go_end0
    rw [List.append_nil]
    exact ⟨rfl, H4.out⟩
theorem ptext_any (w : World) (b base : Nat) (x : Lo) (ts : List SqV) (h : PL w b base x ts) (hb : base ≤ w.heap.size) (hl : ts.length ≤ 1000000) :
    Calls Try.prog 21 #[.pointer (some ⟨b, 0, none⟩)] w (PTo b base x x (ts ++ [{ SqV.zero with kind := 5, text := x.q.text }]) w) := by
  obtain ⟨d, hd, hblk⟩ := h.blk
  have c13 := hblk.cell 13 rfl
  have hlt := hblk.lt
  have HT := hid (tell_any w b base x ts { SqV.zero with kind := 5, text := x.q.text } h hb hl)
  clear h hblk hd
  go_enter Try.func21, Try.ntmps21
  go_wp2_with fail
  refine HT.out.mono ?_
  rintro e' w2 ⟨rfl, h2⟩
  have H2 := hid h2
  clear h2
  go_wp2
  go_end0
  exact ⟨rfl, H2.out⟩
end Go.Proofs.Ytlpjehmanodhpaa
