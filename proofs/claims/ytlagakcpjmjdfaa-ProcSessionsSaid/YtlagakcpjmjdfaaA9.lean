import Derived.Test.YtlagakcpjmjdfaaA8
set_option linter.unusedSimpArgs false
set_option linter.unusedVariables false
set_option maxRecDepth 20000
namespace Go.Proofs.Ytlagakcpjmjdfaa
open Go.RowKit Go.Proofs.YtlagakcpjmjdfaaW.PrintWords
/-! Signals. -/
def sgc (p : Int × Int) : List Value := [.int .i64 p.1, .int .i64 p.2]
theorem sgc_len (p : Int × Int) : (sgc p).length = 2 := rfl
theorem sgc_one (p : Int × Int) : ∀ u ∈ sgc p, u.oneCell' = true := by
  intro u hu
  simp only [sgc, List.mem_cons, List.not_mem_nil, or_false] at hu
  rcases hu with rfl | rfl <;> rfl
theorem infoSg : (Try.prog.info? 37).map (fun i => (i.zero, i.size, i.bytes)) = some (some (.agg #[.int .i64 0, .int .i64 0]), 2, 16) := by kernel_rfl
def SgR (w : World) (base : Nat) (v : Value) (xs : List (Int × Int)) : Prop := Row sgc 2 37 w base v xs
theorem SgR.two {w : World} {base : Nat} (a b : Int × Int) (h : base ≤ w.heap.size) : SgR (w.alloc (.cells #[.int .i64 a.1, .int .i64 a.2, .int .i64 b.1, .int .i64 b.2] 37)) base (.slice (some ⟨w.heap.size, 0, none⟩) 2 2) [a, b] :=
  Vec.row (g := w.heap.size) (rest := []) ⟨Blk.new w 37 _, rfl⟩ sgc_len h (Nat.le_refl _) (by decide)
theorem SgR.one {w : World} {base : Nat} (a : Int × Int) (h : base ≤ w.heap.size) : SgR (w.alloc (.cells #[.int .i64 a.1, .int .i64 a.2] 37)) base (.slice (some ⟨w.heap.size, 0, none⟩) 1 1) [a] :=
  Vec.row (g := w.heap.size) (rest := []) ⟨Blk.new w 37 _, rfl⟩ sgc_len h (Nat.le_refl _) (by decide)
def SigTo (w : World) (tb : Nat) (S : Nat → Prop) (n : Nat) (r : Tb × List (Int × Int)) (e : Ending) (w' : World) : Prop := ∃ v, e = .returned v ∧ SgR w' w.heap.size v r.2 ∧ TabTo w tb S r.1 n w'
theorem TabTo.to {w w1 w2 : World} {tb n : Nat} {S : Nat → Prop} {t : Tb} (h : TabTo w tb S t n w1) (hf : Fr NoB w1 w2) : TabTo w tb S t n w2 := by
  obtain ⟨S', h1, h2, h3⟩ := h
  exact ⟨S', h1.frd hf, h2.trans (hf.mono (fun _ h => h.elim)), h3⟩
def hangT (t : Tb) (tty : Int) : Tb × List (Int × Int) :=
  if sesOf t.l tty = 0 then (t, [])
  else (⟨giveL (sesOf t.l tty) 0 t.l, t.nx, fun j => if j = tty then 0 else t.f j⟩, if hasG (giveL (sesOf t.l tty) 0 t.l) (t.f tty) 0 then [(t.f tty, 4), (t.f tty, 5)] else [])
set_option maxHeartbeats 4000000 in
theorem pHang_any (w : World) (tb n : Nat) (S : Nat → Prop) (t : Tb) (tty : Int) (h : Tab w tb S t n) (hl : t.l.length ≤ 4096) (ht : J64 tty) :
    Calls Try.prog 19 #[.pointer (some ⟨tb, 0, none⟩), .int .i64 tty] w (SigTo w tb S n (hangT t tty)) := by
  have H0 := hid h
  obtain ⟨v, bs, mb, mn, hT, hS, hmn⟩ := h
  have HT := hid hT
  have HS := hid hS
  have HJ := hid ht
  have HSes := hid (pSes_any w tb mb mn v bs t.l t.nx t.f tty hT hl)
  have hr : hangT t tty = if sesOf t.l tty = 0 then (t, []) else (⟨giveL (sesOf t.l tty) 0 t.l, t.nx, fun j => if j = tty then 0 else t.f j⟩, if hasG (giveL (sesOf t.l tty) 0 t.l) (t.f tty) 0 then [(t.f tty, 4), (t.f tty, 5)] else []) := rfl
  rw [hr]
  clear hr hT hS ht
  generalize sesOf t.l tty = se at *
  by_cases h0 : se = 0
  · rw [if_pos h0]
    subst h0
    go_enter Try.func19, Try.ntmps19
    go_wp2_with fail
    refine HSes.out.mono ?_
    rintro e' w1 ⟨rfl, hf1⟩
    have HF1 := hid hf1
    clear hf1
    go_wp2
    go_ret
    exact ⟨_, rfl, Row.nil _ _ _ _ _, H0.out.still HF1.out⟩
  · rw [if_neg h0]
    have e0 : (se == 0) = false := by simpa using h0
    clear h0
    obtain ⟨fr, hfr⟩ : ∃ fr, fr = t.f tty := ⟨_, rfl⟩
    rw [← hfr]
    have HFR := hid hfr
    clear hfr
    cases hh : hasG (giveL se 0 t.l) fr 0
    all_goals
      have HH := hid hh
      clear hh
      first | rw [if_neg (by decide)] | rw [if_pos rfl]
      go_enter Try.func19, Try.ntmps19
      go_wp2_with fail
      refine HSes.out.mono ?_
      rintro e' w1 ⟨rfl, hf1⟩
      have HT1 := hid (HT.out.frd hf1)
      have HF1 := hid hf1
      have c2 := HT1.out.blk.cell 2 rfl
      have hlk := HT1.out.map.look tty HJ.out
      rw [← HFR.out] at hlk
      clear hf1
      go_wp2_with fail
      refine (pLose_any _ tb mb mn v bs t.l t.nx t.f se tty HT1.out hl HJ.out).mono ?_
      rintro e' w2 ⟨rfl, hT2, hf2⟩
      have HT2 := hid hT2
      have hTo : TabTo w tb S ⟨giveL se 0 t.l, t.nx, fun j => if j = tty then 0 else t.f j⟩ n w2 :=
        (TabTo.of (S := S) (t := ⟨giveL se 0 t.l, t.nx, fun j => if j = tty then 0 else t.f j⟩) hT2 (by assumption) (hf2.mono (fun k hk => hk.elim (fun h => HS.out k (.inr (.inr (.inl h)))) (fun h => HS.out k (.inr (.inr (.inr h)))))) (fun k hk => .inl (HS.out k hk))).from HF1.out
      have HTo := hid hTo
      have HSZ := hid (Nat.le_trans HF1.out.size hf2.size)
      have HHas := hid (pHas_any w2 tb mb mn v bs (giveL se 0 t.l) t.nx _ fr 0 hT2 (by rw [giveL_len]; exact hl))
      clear hT2 hf2 hTo
      go_wp2_with fail
      refine HHas.out.mono ?_
      rintro e' w3 ⟨rfl, hf3⟩
      rw [HH.out]
      have HF3 := hid hf3
      clear hf3
      go_wp2
      go_ret
      first
        | exact ⟨_, rfl, Row.nil _ _ _ _ _, HTo.out.to HF3.out⟩
        | exact ⟨_, rfl, SgR.two (fr, 4) (fr, 5) (Nat.le_trans HSZ.out HF3.out.size), HTo.out.to (HF3.out.alloc _)⟩
/-! All. -/
def PrR (w : World) (base : Nat) (v : Value) (xs : List Pr) : Prop := Row Pr.cells 6 51 w base v xs
theorem Pr.len (p : Pr) : p.cells.length = 6 := rfl
theorem Pr.one (t : Pr) : ∀ u ∈ t.cells, u.oneCell' = true := by
  intro u hu
  simp only [Pr.cells, List.mem_cons, List.not_mem_nil, or_false] at hu
  rcases hu with rfl | rfl | rfl | rfl | rfl | rfl <;> rfl
def Pr.zero : Value := .agg #[.int .i64 0, .int .i64 0, .int .i64 0, .int .i64 0, .int .i64 0, .bool false]
theorem infoPr : (Try.prog.info? 51).map (fun i => (i.zero, i.size, i.bytes)) = some (some Pr.zero, 6, 48) := by kernel_rfl
theorem le48 (n : Nat) (h : n ≤ 6000) : n * 48 ≤ 140737488355328 := by omega
set_option maxHeartbeats 4000000 in
theorem pAll_any (w : World) (tb n : Nat) (S : Nat → Prop) (t : Tb) (h : Tab w tb S t n) (hl : t.l.length ≤ 4096) :
    Calls Try.prog 18 #[.pointer (some ⟨tb, 0, none⟩)] w fun e w' => ∃ v, e = .returned v ∧ PrR w' w.heap.size v t.l ∧ Fr NoB w w' := by
  obtain ⟨v, bs, mb, mn, hT, hS, hmn⟩ := h
  obtain ⟨A, c, hv, hc⟩ := hT.row.shape
  subst hv
  have c0 := hT.blk.cell 0 rfl
  have HT := hid hT
  have HL := hid hT.len
  have hbl : bs.length ≤ 4096 := by have := hT.len; omega
  clear hT hS hmn
  go_enter Try.func18, Try.ntmps18
  go_wp2
  go_loopw [3, 11] (fun v3 v11 wr => ∃ k : Nat, k ≤ bs.length ∧ v11 = .int .i64 k ∧ Hid (PrR wr w.heap.size v3 (t.l.take k)) ∧ Hid (Fr NoB w wr)) (fun _ v11 _ => bs.length - (intOf v11).toNat)
  case atStart => exact ⟨0, Nat.zero_le _, rfl, Row.nil _ _ _ _ _, Fr.refl _ _⟩
  case round =>
    obtain ⟨k, hk, rfl, HR, HF⟩ := hrel
    by_cases hkm : k < bs.length
    · have hkl : k < t.l.length := by have := HL.out; omega
      have hT := HT.out.frd HF.out
      rcases hT.row with ⟨h0, h00⟩ | ⟨g, cc, rest, h0, hV, h2, h3⟩
      · rw [h00] at hkm; simp at hkm
      · obtain rfl : A = some ⟨g, 0, none⟩ := by injection h0
        clear h0
        have d0 := PV.cell hV k hkm
        have hB := hT.prc k hkm hkl
        have HTS := hid (List.take_succ_eq_append_getElem hkl)
        have hln : (t.l.take k).length = k := by rw [List.length_take]; omega
        have h48 := le48 ((t.l.take k).length + 1) (by omega)
        have HL48 := hid h48
        clear hT hV h48 hln
        generalize t.l[k] = q at *
        generalize t.l.take k = L at *
        generalize bs[k] = a at *
        have q0 := hB.cell 0 rfl
        have q1 := hB.cell 1 rfl
        have q2 := hB.cell 2 rfl
        have q3 := hB.cell 3 rfl
        have q4 := hB.cell 4 rfl
        have q5 := hB.cell 5 rfl
        have HSZ := hid HF.out.size
        clear hB
        go_wp2_with (at_builtin; go_must (refine row_app (f := Pr.cells) Pr.len Pr.one w.heap.size rfl (.tmp 15) (.tmp 19) 40 51 Pr.zero 48 rfl Try.underlying40 infoPr rfl (by omega) (by omega) _ L q rfl rfl HR.out HSZ.out HL48.out ?_); intro v5 w5 hR5 hf5 hat5)
        have HR5 := hid hR5
        have HF5 : Hid (Fr NoB w w5) := hid (HF.out.then_ hf5 (fun j hj => .inr (HR.out.lt j hj).1))
        clear hR5 hf5 hat5
        go_roundw
        case rel => exact ⟨k + 1, by omega, by go_num, by rw [HTS.out]; exact HR5.out, HF5.out⟩
        case measure => simp [intOf]; omega
    · have hR := HR.out
      rw [List.take_of_length_le (by have := HL.out; omega)] at hR
      have HRR := hid hR
      clear hR
      go_wp2
      go_ret
      exact ⟨u3, rfl, HRR.out, HF.out⟩
end Go.Proofs.Ytlagakcpjmjdfaa
