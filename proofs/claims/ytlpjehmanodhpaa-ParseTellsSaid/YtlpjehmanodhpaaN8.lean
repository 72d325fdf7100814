import Derived.Test.YtlpjehmanodhpaaN7
import Derived.Shelf.Lay
import Derived.Shelf.Small.Strs
set_option linter.unusedSimpArgs false
set_option linter.unusedVariables false
namespace Go.Proofs.Ytlpjehmanodhpaa
open Go.RowKit Go.Proofs.YtlpjehmanodhpaaW.PrintWords
open Go.Shelf
shelf_lay Lays.n137 Nm 137 at Try as lays137
def oth : ByteArray := ⟨#[91, 93, 80, 88, 94, 95]⟩
theorem ixs_any (w : World) (c : Int) : Calls Try.prog 42 #[.string oth, .int .u8 c] w fun e w' => e = .returned (.int .i64 (Lib.indexByte oth.data.toList c.toNat.toUInt8)) ∧ w' = w :=
  Any.strings_IndexByte lays137 oth c w
theorem oth_all : ∀ n : Nat, n < 256 → (decide (Lib.indexByte oth.data.toList n.toUInt8 < 0) = !(isOther (n : Int))) := by decide +kernel
theorem oth_ix (c : Int) (h0 : 0 ≤ c) (h1 : c ≤ 255) : decide (Lib.indexByte oth.data.toList c.toNat.toUInt8 < 0) = !(isOther c) := by
  obtain ⟨n, rfl⟩ := Int.eq_ofNat_of_zero_le h0
  exact oth_all n (by omega)
theorem PToR.pto {b base : Nat} {x x' : Lo} {r : Value} {ts : List SqV} {w w' : World} {e : Ending} (h : PToR b base x x' r ts w e w') : PTo b base x x' ts w (.returned (.tuple #[])) w' := ⟨rfl, h.2⟩
/-- A panic of the text's own. -/
theorem Outc.of_bad {w w' : World} {b base : Nat} {x : Lo} {ts : List SqV} {a : Ab} {e : Ending} (h : FS w b base x ts a) (he : PBad w e w') : Outc b base x ts (a, [], true) w e w' := by
  obtain ⟨rfl, rfl⟩ := he
  exact ⟨rfl, x, [], by rw [List.append_nil]; exact h.pl, h.vp, h.ab, .nil, Fr.refl _ _, fun k hk => .inl hk, fun k hk => .inl hk, fun s hs => by cases hs⟩
theorem Outc.pre {w w1 w2 : World} {b base : Nat} {x x1 : Lo} {ts : List SqV} {o : Ab × List Sq × Bool} {e : Ending} (hf : Fr (At b) w w1) (h1 : x1.tv = x.tv) (h2 : x1.q.pv = x.q.pv) (h : Outc b base x1 ts o w1 e w2) : Outc b base x ts o w e w2 := by
  obtain ⟨he, x', ss, q1, q2, q3, q4, q5, q6, q7, q8⟩ := h
  rw [h1] at q5 q6
  rw [h2] at q5 q7 q8
  have hs := hf.size
  exact ⟨he, x', ss, q1, q2, q3, q4, (hf.mono (fun k hk => .inl hk)).trans q5, fun k hk => (q6 k hk).imp id (fun h => Nat.le_trans hs h), fun k hk => (q7 k hk).imp id (fun h => Nat.le_trans hs h), fun s hs' k hk => ⟨((q8 s hs' k hk).1).imp id (fun h => Nat.le_trans hs h), (q8 s hs' k hk).2⟩⟩
theorem Outc.of_QTo {w w' : World} {b base : Nat} {x : Lo} {ts : List SqV} {a : Ab} {ps : List Int} {e : Ending} (h : FS w b base x ts a) (he : QTo b base x ps ts w e w') : Outc b base x ts ({ a with params := ps }, [], false) w e w' := by
  obtain ⟨he, A, n, c, h1, h2, h3, h4⟩ := he
  exact ⟨he, { x with q := { x.q with pA := A, pn := n, pc := c } }, [], by rw [List.append_nil]; exact h1, h2, ⟨h.ab.p, h.ab.st, h.ab.by_, h.ab.kind, h.ab.r, h.ab.priv, h.ab.inter, h.ab.final, h.ab.text, h.ab.bad⟩, .nil, h3.mono (fun k hk => hk.elim .inl (fun h => .inr (.inr h))), fun k hk => .inl hk, h4, fun s hs => by cases hs⟩
theorem PL.set6 {w : World} {b base : Nat} {x : Lo} {ts : List SqV} (h : PL w b base x ts) (v : Int) : PL (w.setCell ⟨b, 6, none⟩ (.int .i64 v)) b base { x with by_ := v } ts := by
  obtain ⟨d, hd, hblk⟩ := h.blk
  exact ⟨⟨d, hd, hblk.set 6 (.int .i64 v)⟩, h.row.fr ((Fr.refl (At b) w).setAt 6 _) (fun k hk he => h.ne (by have he' : k = b := he; subst he'; exact hk))⟩
theorem PL.set9 {w : World} {b base : Nat} {x : Lo} {ts : List SqV} (h : PL w b base x ts) (v : Int) : PL (w.setCell ⟨b, 9, none⟩ (.int .u8 v)) b base { x with q := { x.q with priv := v } } ts := by
  obtain ⟨d, hd, hblk⟩ := h.blk
  exact ⟨⟨d, hd, hblk.set 9 (.int .u8 v)⟩, h.row.fr ((Fr.refl (At b) w).setAt 9 _) (fun k hk he => h.ne (by have he' : k = b := he; subst he'; exact hk))⟩
theorem VP.at {w w1 : World} {b : Nat} {q : SqV} {ps : List Int} {p : List Int} {l : List Value} (h : VP w q ps) (hb : DBlk w b 33 l p) (hf : Fr (At b) w w1) : VP w1 q ps := by
  obtain ⟨d, hd, hblk⟩ := hb
  exact h.fr hf (fun k hk he => by
    have he' : k = b := he
    subst he'
    exact h.ne hblk (by decide) hk)
theorem FS.set6 {w : World} {b base : Nat} {x : Lo} {ts : List SqV} {a : Ab} (h : FS w b base x ts a) (v : Int) : FS (w.setCell ⟨b, 6, none⟩ (.int .i64 v)) b base { x with by_ := v } ts { a with by_ := v } :=
  ⟨h.pl.set6 v, h.vp.at h.pl.blk ((Fr.refl (At b) w).setAt 6 _), ⟨h.ab.p, h.ab.st, rfl, h.ab.kind, h.ab.r, h.ab.priv, h.ab.inter, h.ab.final, h.ab.text, h.ab.bad⟩⟩
theorem FS.set9 {w : World} {b base : Nat} {x : Lo} {ts : List SqV} {a : Ab} (h : FS w b base x ts a) (v : Int) : FS (w.setCell ⟨b, 9, none⟩ (.int .u8 v)) b base { x with q := { x.q with priv := v } } ts { a with priv := v } :=
  ⟨h.pl.set9 v, h.vp.at h.pl.blk ((Fr.refl (At b) w).setAt 9 _), ⟨h.ab.p, h.ab.st, h.ab.by_, h.ab.kind, h.ab.r, rfl, h.ab.inter, h.ab.final, h.ab.text, h.ab.bad⟩⟩
theorem aside_out {w w' : World} {b base : Nat} {x : Lo} {ts : List SqV} {a : Ab} {c : Int} {e : Ending} {r : Value} (h : FS w b base x ts a) (he : PToR b base x (asideL x c).1 r (ts ++ (asideL x c).2) w e w') : Outc b base x ts ((a.aside c).1, (a.aside c).2, false) w (.returned (.tuple #[])) w' := by
  obtain ⟨q1, q2, q3⟩ := aside_ps x a c h.ab
  exact Outc.of_PTo he.pto h.pl.blk ⟨ts, h.pl.row⟩ h.vp rfl q3 q2 q1
theorem inter_out {w w' : World} {b base : Nat} {x : Lo} {ts : List SqV} {a : Ab} {c : Int} {e : Ending} (h : FS w b base x ts a) (h2 : x.q.inter.size ≠ 2) (he : PTo b base x { x with q := { x.q with inter := x.q.inter ++ one c } } ts w e w') : Outc b base x ts (a.inter_ c) w e w' := by
  have hi := h.ab.inter
  have ho : a.inter_ c = ({ a with inter := x.q.inter ++ one c }, [], false) := by unfold Ab.inter_; rw [if_neg (by rw [← hi]; exact h2), hi]
  rw [ho]
  exact Outc.of_PTo (ss := []) (x' := { x with q := { x.q with inter := x.q.inter ++ one c } }) (by rw [List.append_nil]; exact he) h.pl.blk ⟨ts, h.pl.row⟩ h.vp rfl (.inl ⟨rfl, rfl, rfl, rfl⟩) ⟨h.ab.p, h.ab.st, h.ab.by_, h.ab.kind, h.ab.r, h.ab.priv, rfl, h.ab.final, h.ab.text, h.ab.bad⟩ .nil
theorem inter_any (w : World) (b base : Nat) (x : Lo) (ts : List SqV) (a : Ab) (c : Int) (h : FS w b base x ts a) (h3 : x.q.inter.size ≤ 100) (hc0 : 0 ≤ c) (hc1 : c < 128) :
    Calls Try.prog 41 #[.pointer (some ⟨b, 0, none⟩), .int .u8 c] w (Outc b base x ts (a.inter_ c) w) := by
  by_cases h2 : x.q.inter.size = 2
  · refine (inter_bad w b base x ts c h.pl h2).mono fun e w' he => ?_
    have ho : a.inter_ c = (a, [], true) := by unfold Ab.inter_; rw [if_pos (by rw [← h.ab.inter]; exact h2)]
    rw [ho]
    exact Outc.of_bad h he
  · exact (inter_ok w b base x ts c h.pl h2 h3 hc0 hc1).mono fun e w' he => inter_out h h2 he
theorem to_out (w : World) (b base : Nat) (x : Lo) (ts : List SqV) (a : Ab) (s : Int) (h : FS w b base x ts a) :
    Calls Try.prog 24 #[.pointer (some ⟨b, 0, none⟩), .int .i64 s] w (Outc b base x ts (a.to s, [], false) w) :=
  (to_any w b base x ts s h.pl).mono fun e w' he => Outc.of_PTo (ss := []) (by rw [List.append_nil]; exact he) h.pl.blk ⟨ts, h.pl.row⟩ h.vp rfl (.inr ⟨rfl, rfl, rfl, rfl⟩) (h.ab.to s) .nil
theorem param_any (w : World) (b base : Nat) (x : Lo) (ts : List SqV) (a : Ab) (c : Int) (h : FS w b base x ts a) (hl : a.params.length ≤ 17) (hr : ∀ q ∈ a.params, -1 ≤ q ∧ q ≤ 9999) (hc0 : 48 ≤ c) (hc1 : c ≤ 59) :
    Calls Try.prog 44 #[.pointer (some ⟨b, 0, none⟩), .int .u8 c] w (Outc b base x ts (if a.inter.size ≠ 0 then (a, [], true) else ({ a with params := paramP a.params c }, [], false)) w) := by
  by_cases h2 : x.q.inter.size = 0
  · rw [if_neg (show ¬ a.inter.size ≠ 0 by rw [← h.ab.inter]; omega)]
    cases hps : a.params with
    | nil =>
      have hv := h.vp
      rw [hps] at hv
      exact (param_new w b base x ts c h.pl hv h2 hc0 hc1).mono fun e w' he => Outc.of_QTo h he
    | cons p l =>
      have hv := h.vp
      rw [hps] at hl hr hv
      exact (param_more w b base x ts (p :: l) l.length c h.pl hv rfl (by rw [List.length_cons] at hl; omega) hr h2 hc0 hc1).mono fun e w' he => Outc.of_QTo h he
  · rw [if_pos (show a.inter.size ≠ 0 by rw [← h.ab.inter]; exact h2)]
    exact (param_bad w b base x ts c h.pl h2).mono fun e w' he => Outc.of_bad h he
set_option maxHeartbeats 4000000 in
theorem inE_out (w : World) (b base : Nat) (x : Lo) (ts : List SqV) (a : Ab) (c : Int) (h : FS w b base x ts a) (hb : base ≤ w.heap.size) (hl : ts.length ≤ 999000) (hi : a.inter.size ≤ 2) (hc0 : 0 ≤ c) (hc1 : c ≤ 255) :
    Calls Try.prog 32 #[.pointer (some ⟨b, 0, none⟩), .int .u8 c] w (Outc b base x ts (a.esc c) w) := by
  rw [← h.ab.inter] at hi
  by_cases hA : c < 32 ∨ 127 ≤ c
  · have ha : a.esc c = ((a.aside c).1, (a.aside c).2, false) := by unfold Ab.esc; rw [if_pos hA]
    rw [ha]
    have HC := hid (aside_yes w b base x ts c h.pl hb hl hc0 hc1 hA)
    have HH := hid h
    clear h ha hA
    go_enter Try.func32, Try.ntmps32
    go_wp2_with fail
    refine HC.out.mono ?_
    intro e' w2 h2
    obtain rfl : e' = .returned (.bool true) := h2.1
    have H2 := hid (aside_out HH.out h2)
    clear h2
    go_wp2
    go_end0
    exact H2.out
  have HN := hid (aside_no w b c (by omega) (by omega))
  by_cases h48 : c < 48
  · have ha : a.esc c = a.inter_ c := by unfold Ab.esc; rw [if_neg hA, if_pos h48]
    rw [ha]
    have t1 : decide (c < 48) = true := by simp [h48]
    have HC := hid (inter_any w b base x ts a c h (by omega) hc0 (by omega))
    clear h ha hA h48
    go_enter Try.func32, Try.ntmps32
    go_wp2_with fail
    refine HN.out.mono ?_
    rintro e' w2 ⟨rfl, rfl⟩
    go_wp2_with fail
    refine HC.out.mono ?_
    intro e' w2 h2
    have he := h2.1
    have H2 := hid h2
    clear h2
    cases hbad : (a.inter_ c).2.2
    · rw [hbad] at he
      obtain rfl : e' = .returned (.tuple #[]) := he
      go_wp2
      go_end0
      exact H2.out
    · rw [hbad] at he
      obtain rfl : e' = .panicked [spo] := he
      go_wp2
      exact ⟨rfl, H2.out⟩
  have t1 : decide (c < 48) = false := by simp; omega
  have c10 := (by obtain ⟨d, hd, hblk⟩ := h.pl.blk; exact hblk.cell 10 rfl : w.cell? ⟨b, 10, none⟩ = some (.string x.q.inter))
  have hlt := (by obtain ⟨d, hd, hblk⟩ := h.pl.blk; exact hblk.lt : b < w.heap.size)
  by_cases hI : x.q.inter.size ≠ 0
  · have ha : a.esc c = ((a.end_ 3 c).1, (a.end_ 3 c).2, false) := by unfold Ab.esc; rw [if_neg hA, if_neg h48, ← h.ab.inter, if_pos (.inl hI)]
    rw [ha]
    have t2 : x.q.inter.toList.isEmpty = false := str_ne hI
    have HC := hid (pend_out w b base x ts a 3 c h hb hl)
    clear h ha hA h48 hI
    go_enter Try.func32, Try.ntmps32
    go_wp2_with fail
    refine HN.out.mono ?_
    rintro e' w2 ⟨rfl, rfl⟩
    go_wp2_with fail
    refine HC.out.mono ?_
    intro e' w2 h2
    obtain rfl : e' = .returned (.tuple #[]) := h2.1
    have H2 := hid h2
    clear h2
    go_wp2
    go_end0
    exact H2.out
  have t2 : x.q.inter.toList.isEmpty = true := str_em (by omega)
  have hox := oth_ix c hc0 hc1
  have HX := hid (ixs_any w c)
  by_cases hO : isOther c = false
  · have ha : a.esc c = ((a.end_ 3 c).1, (a.end_ 3 c).2, false) := by unfold Ab.esc; rw [if_neg hA, if_neg h48, if_pos (.inr hO)]
    rw [ha]
    rw [hO] at hox
    have HC := hid (pend_out w b base x ts a 3 c h hb hl)
    clear h ha hA h48 hI hO
    generalize Lib.indexByte oth.data.toList c.toNat.toUInt8 = ix at *
    go_enter Try.func32, Try.ntmps32
    go_wp2_with fail
    refine HN.out.mono ?_
    rintro e' w2 ⟨rfl, rfl⟩
    go_wp2_with fail
    refine HX.out.mono ?_
    rintro e' w2 ⟨rfl, rfl⟩
    go_wp2_with fail
    refine HC.out.mono ?_
    intro e' w2 h2
    obtain rfl : e' = .returned (.tuple #[]) := h2.1
    have H2 := hid h2
    clear h2
    go_wp2
    go_end0
    exact H2.out
  · have hO' : isOther c = true := by simpa using hO
    rw [hO'] at hox
    have ha : a.esc c = (if c = 91 then (a.to 2, [], false) else if c = 93 then (a.to 3, [], false) else (a.to 4, [], false)) := by
      unfold Ab.esc
      rw [if_neg hA, if_neg h48, if_neg]
      rw [← h.ab.inter]
      rintro (h5 | h5)
      · exact hI h5
      · exact hO h5
    rw [ha]
    have HC := fun s => hid (to_out w b base x ts a s h)
    clear h ha hA h48 hI hO hO'
    generalize Lib.indexByte oth.data.toList c.toNat.toUInt8 = ix at *
    by_cases h91 : c = 91
    · have t3 : (c == 91) = true := by rw [beq_iff_eq]; exact h91
      rw [if_pos h91]
      clear h91
      go_enter Try.func32, Try.ntmps32
      go_wp2_with fail
      refine HN.out.mono ?_
      rintro e' w2 ⟨rfl, rfl⟩
      go_wp2_with fail
      refine HX.out.mono ?_
      rintro e' w2 ⟨rfl, rfl⟩
      go_wp2_with fail
      refine (HC _).out.mono ?_
      intro e' w2 h2
      obtain rfl : e' = .returned (.tuple #[]) := h2.1
      have H2 := hid h2
      clear h2
      go_wp2
      go_end0
      exact H2.out
    · have t3 : (c == 91) = false := by rw [beq_eq_false_iff_ne]; exact h91
      rw [if_neg h91]
      clear h91
      by_cases h93 : c = 93
      · have t4 : (c == 93) = true := by rw [beq_iff_eq]; exact h93
        rw [if_pos h93]
        clear h93
        go_enter Try.func32, Try.ntmps32
        go_wp2_with fail
        refine HN.out.mono ?_
        rintro e' w2 ⟨rfl, rfl⟩
        go_wp2_with fail
        refine HX.out.mono ?_
        rintro e' w2 ⟨rfl, rfl⟩
        go_wp2_with fail
        refine (HC _).out.mono ?_
        intro e' w2 h2
        obtain rfl : e' = .returned (.tuple #[]) := h2.1
        have H2 := hid h2
        clear h2
        go_wp2
        go_end0
        exact H2.out
      · have t4 : (c == 93) = false := by rw [beq_eq_false_iff_ne]; exact h93
        rw [if_neg h93]
        clear h93
        go_enter Try.func32, Try.ntmps32
        go_wp2_with fail
        refine HN.out.mono ?_
        rintro e' w2 ⟨rfl, rfl⟩
        go_wp2_with fail
        refine HX.out.mono ?_
        rintro e' w2 ⟨rfl, rfl⟩
        go_wp2_with fail
        refine (HC _).out.mono ?_
        intro e' w2 h2
        obtain rfl : e' = .returned (.tuple #[]) := h2.1
        have H2 := hid h2
        clear h2
        go_wp2
        go_end0
        exact H2.out
end Go.Proofs.Ytlpjehmanodhpaa
