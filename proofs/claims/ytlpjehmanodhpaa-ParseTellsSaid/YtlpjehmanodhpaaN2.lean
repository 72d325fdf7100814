import Derived.Test.YtlpjehmanodhpaaN1
import Derived.Test.YtlpjehmanodhpaaU1
set_option linter.unusedSimpArgs false
set_option linter.unusedVariables false
namespace Go.Proofs.Ytlpjehmanodhpaa
open Go.RowKit Go.Proofs.YtlpjehmanodhpaaW.PrintWords
def prV (r : Int) : SqV := { SqV.zero with kind := 1, r := r }
def exV (c : Int) : SqV := { SqV.zero with kind := 2, final := c }
theorem runes_addr {w w' : World} {A : Option Addr} {n c : Nat} {l : List Int} (h : Runes w w' (.slice A n c) l) : ∀ ad, A = some ad → w.heap.size ≤ ad.block := by
  intro ad hA
  obtain ⟨_, inner, hown, _⟩ := h
  rcases hown.2 with ⟨h1, _⟩ | ⟨g, c', cur, h1, h2, _⟩
  · injection h1 with e1 e2 e3
    rw [hA] at e1
    cases e1
  · injection h1 with e1 e2 e3
    rw [hA] at e1
    obtain rfl := Option.some.inj e1
    exact h2
def groundP (p : List Int) (c : Int) : List Int × List SqV :=
  if c < 32 ∨ c = 127 then ([], (pflush p).map prV ++ if c < 32 then [exV c] else []) else ((pstep p c).1, (pstep p c).2.map prV)
/-- x, its runes told. -/
theorem flush_print (w : World) (b base : Nat) (x : Lo) (ts : List SqV) (l : List Int) (p' : List Int) (v : Value) (w1 : World) (h : PL w b base x ts) (hb : base ≤ w.heap.size) (hl : ts.length + l.length ≤ 1000000) (hv : Runes w w1 v l) (hd : DBlk w1 b 33 x.rest p') (hf : Fr (At b) w w1) :
    ∃ A c, v = .slice A l.length c ∧ PL w1 b base { x with p := p' } ts ∧ Calls Try.prog 22 #[.pointer (some ⟨b, 0, none⟩), .slice A l.length c] w1 (PTo b base x { x with p := p' } (ts ++ l.map prV) w) := by
  obtain ⟨A, c, rfl, _, hC⟩ := Kd.R_reads hv
  have hp1 : PL w1 b base { x with p := p' } ts := ⟨hd, h.row.fr hf (fun k hk he => h.ne (by have he' : k = b := he; subst he'; exact hk))⟩
  refine ⟨A, c, rfl, hp1, ?_⟩
  have hpr := print_any w1 b base { x with p := p' } ts A c l hp1 (Nat.le_trans hb hf.size) hl hC (fun ad hA => by
    have h1 := runes_addr hv ad hA
    refine ⟨?_, fun hk => ?_⟩
    · have := h.blk.lt
      omega
    · have := (Row.lt h.row _ hk).2
      omega)
  exact hpr.mono fun e w' he => by
    obtain ⟨h1, tv', h2, h3, h4⟩ := he
    exact ⟨h1, tv', h2, (hf.mono (S2 := PW b x.tv) (fun k hk => .inl hk)).trans h3, fun k hk => (h4 k hk).imp id (fun h5 => Nat.le_trans hf.size h5)⟩
set_option maxHeartbeats 2000000 in
theorem inG_any (w : World) (b base : Nat) (x : Lo) (ts : List SqV) (c : Int) (h : PL w b base x ts) (hb : base ≤ w.heap.size) (hl : ts.length ≤ 999000) (hc0 : 0 ≤ c) (hc1 : c ≤ 255) :
    Calls Try.prog 31 #[.pointer (some ⟨b, 0, none⟩), .int .u8 c] w (PTo b base x { x with p := (groundP x.p c).1 } (ts ++ (groundP x.p c).2) w) := by
  have HP := hid h
  have hblt := h.blk.lt
  by_cases hlow : c < 32 ∨ c = 127
  · have hfl := pflush_len x.p
    have hend := end_any w b 33 x.rest x.p h.blk
    have hg : groundP x.p c = ([], (pflush x.p).map prV ++ if c < 32 then [exV c] else []) := by unfold groundP; rw [if_pos hlow]
    rw [hg]
    have HE := hid hend
    clear h hend hg
    by_cases h32 : c < 32
    · have t1 : decide (c < 32) = true := by simp [h32]
      rw [if_pos h32]
      clear hlow
      go_enter Try.func31, Try.ntmps31
      go_wp2_with fail
      refine HE.out.mono ?_
      rintro e' w1 ⟨v, rfl, hv, hd, hf⟩
      obtain ⟨A, c', rfl, hp1, hpr⟩ := flush_print w b base x ts (pflush x.p) [] v w1 HP.out hb (by omega) hv hd hf
      have HPR := hid hpr
      clear hpr hv hd hp1
      go_wp2_with fail
      refine HPR.out.mono ?_
      rintro e' w2 ⟨rfl, tv2, hp2, hf2, ho2⟩
      have htell := tell_any w2 b base { x with p := [], tv := tv2 } _ (exV c) hp2 (Nat.le_trans hb hf2.size) (by rw [List.length_append, List.length_map]; omega)
      have HT := hid htell
      have HF2 := hid hf2
      have HO2 := hid ho2
      clear htell hp2 hf2 ho2
      go_wp2_with fail
      refine HT.out.mono ?_
      intro e' w3 h3
      have h4 := PTo.trans (x1 := { x with p := [] }) HF2.out HO2.out h3
      obtain ⟨rfl, h5⟩ := h4
      have H5 := hid h5
      clear h3 h5
      go_wp2
      go_end0
      rw [← List.append_assoc]
      exact ⟨rfl, H5.out⟩
    · have t1 : decide (c < 32) = false := by simpa using h32
      rw [if_neg h32]
      have t2 : (c == 127) = true := by rw [beq_iff_eq]; omega
      have t3 : (c != 127) = false := by rw [bne_eq_false_iff_eq]; omega
      clear hlow
      go_enter Try.func31, Try.ntmps31
      go_wp2_with fail
      refine HE.out.mono ?_
      rintro e' w1 ⟨v, rfl, hv, hd, hf⟩
      obtain ⟨A, c', rfl, hp1, hpr⟩ := flush_print w b base x ts (pflush x.p) [] v w1 HP.out hb (by omega) hv hd hf
      have HPR := hid hpr
      clear hpr hv hd hp1
      go_wp2_with fail
      refine HPR.out.mono ?_
      rintro e' w2 ⟨rfl, h2⟩
      have H2 := hid h2
      clear h2
      go_wp2
      go_end0
      rw [List.append_nil]
      exact ⟨rfl, H2.out⟩
  · have hfl := pstep_len x.p c
    have hfd := feed_any w b 33 x.rest x.p c hc0 hc1 h.blk
    have hg : groundP x.p c = ((pstep x.p c).1, (pstep x.p c).2.map prV) := by unfold groundP; rw [if_neg hlow]
    rw [hg]
    have HE := hid hfd
    have t1 : decide (c < 32) = false := by simp; omega
    have t2 : (c == 127) = false := by rw [beq_eq_false_iff_ne]; omega
    have t3 : (c != 127) = true := by rw [bne_iff_ne]; omega
    clear h hfd hg hlow
    go_enter Try.func31, Try.ntmps31
    go_wp2_with fail
    refine HE.out.mono ?_
    rintro e' w1 ⟨v, rfl, hv, hd, hf⟩
    obtain ⟨A, c', rfl, hp1, hpr⟩ := flush_print w b base x ts (pstep x.p c).2 (pstep x.p c).1 v w1 HP.out hb (by omega) hv hd hf
    have HPR := hid hpr
    clear hpr hv hd hp1
    go_wp2_with fail
    refine HPR.out.mono ?_
    rintro e' w2 ⟨rfl, h2⟩
    have H2 := hid h2
    clear h2
    go_wp2
    go_end0
    exact ⟨rfl, H2.out⟩
end Go.Proofs.Ytlpjehmanodhpaa
