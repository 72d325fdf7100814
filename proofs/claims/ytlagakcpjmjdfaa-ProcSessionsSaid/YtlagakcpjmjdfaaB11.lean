import Derived.Test.YtlagakcpjmjdfaaB7
import Derived.Test.YtlagakcpjmjdfaaB1
set_option linter.unusedSimpArgs false
set_option linter.unusedVariables false
set_option maxRecDepth 20000
namespace Go.Proofs.Ytlagakcpjmjdfaa
open Go.RowKit Go.Proofs.YtlagakcpjmjdfaaW.PrintWords
/-! The same signals; the same processes. -/
theorem SgR.at_ {w : World} {base g n c : Nat} {l : List (Int × Int)} (h : Row sgc 2 37 w base (.slice (some ⟨g, 0, none⟩) n c) l) (k : Nat) (hk : k < l.length) : w.cell? ⟨g, k * 2, none⟩ = some (.int .i64 l[k].1) ∧ w.cell? ⟨g, k * 2 + 1, none⟩ = some (.int .i64 l[k].2) := by
  obtain ⟨g', c', hv, _, _⟩ := h.ptr (by omega)
  obtain ⟨rfl, rfl⟩ : n = l.length ∧ c = c' := by injection hv with e1 e2 e3; exact ⟨e2, e3⟩
  exact ⟨h.cell sgc_len k hk 0 (by decide) rfl, h.cell sgc_len k hk 1 (by decide) rfl⟩
set_option maxHeartbeats 1000000 in
theorem rSame_any (w : World) (v1 v2 : Value) (b1 b2 : Nat) (xs : List (Int × Int)) (h1 : SgR w b1 v1 xs) (h2 : SgR w b2 v2 xs) (hl : xs.length ≤ 100000) :
    Calls Try.prog 23 #[v1, v2] w fun e w' => e = .returned (.bool true) ∧ Fr NoB w w' := by
  obtain ⟨A1, c1, rfl, hc1⟩ := h1.shape
  obtain ⟨A2, c2, rfl, hc2⟩ := h2.shape
  have H1 := hid h1
  have H2 := hid h2
  clear h1 h2
  go_enter Try.func23, Try.ntmps23
  go_wp2
  go_loopw [5] (fun v5 wr => ∃ k : Nat, k ≤ xs.length ∧ v5 = .int .i64 k ∧ Hid (Fr NoB w wr)) (fun v5 _ => xs.length - (intOf v5).toNat)
  case atStart => exact ⟨0, Nat.zero_le _, rfl, Fr.refl _ _⟩
  case round =>
    obtain ⟨k, hk, rfl, HF⟩ := hrel
    by_cases hkm : k < xs.length
    · obtain ⟨g1, _, e1, _, _⟩ := H1.out.ptr (by omega)
      obtain ⟨g2, _, e2, _, _⟩ := H2.out.ptr (by omega)
      obtain rfl : A1 = some ⟨g1, 0, none⟩ := by injection e1
      obtain rfl : A2 = some ⟨g2, 0, none⟩ := by injection e2
      obtain ⟨x0, x1⟩ := SgR.at_ (Row.fr H1.out HF.out (fun _ _ h => h)) k hkm
      obtain ⟨y0, y1⟩ := SgR.at_ (Row.fr H2.out HF.out (fun _ _ h => h)) k hkm
      have hse := fun (w : World) => sigEqA 9998 w xs[k].1 xs[k].1 xs[k].2 xs[k].2
      simp only [beq_self_eq_true, Bool.and_self] at hse
      clear e1 e2
      go_wp2
      go_quiet (fail)
      go_wp2
      go_roundw
      case rel => exact ⟨k + 1, by omega, by go_num, HF.out.drewN _⟩
      case measure => simp [intOf]; omega
    · go_wp2
      go_ret
      exact ⟨rfl, HF.out⟩
section
open Go.Proofs.YtlagakcpjmjdfaaW.PrintMore
theorem prEqA (d : Nat) (w : World) (p : Pr) : (Op.equalIn (d + 2) 51 (.agg #[.int .i64 p.pid, .int .i64 p.par, .int .i64 p.grp, .int .i64 p.ses, .int .i64 p.tty, .bool p.deaf]) (.agg #[.int .i64 p.pid, .int .i64 p.par, .int .i64 p.grp, .int .i64 p.ses, .int .i64 p.tty, .bool p.deaf])).run Try.prog w = .ok true w := by
  have h : (Op.equalIn (d + 2) 51 (.agg #[.int .i64 p.pid, .int .i64 p.par, .int .i64 p.grp, .int .i64 p.ses, .int .i64 p.tty, .bool p.deaf]) (.agg #[.int .i64 p.pid, .int .i64 p.par, .int .i64 p.grp, .int .i64 p.ses, .int .i64 p.tty, .bool p.deaf])).run Try.prog w = .ok (p.pid == p.pid && (p.par == p.par && (p.grp == p.grp && (p.ses == p.ses && (p.tty == p.tty && (p.deaf == p.deaf)))))) w := by
    refine eqA_of Try.underlying51 (by kernel_rfl) ?_
    refine eqf_cons (by rfl) (by go_simp; rfl) (by go_simp; rfl) (by go_simp) ?_
    refine eqf_cons (by rfl) (by go_simp; rfl) (by go_simp; rfl) (by go_simp) ?_
    refine eqf_cons (by rfl) (by go_simp; rfl) (by go_simp; rfl) (by go_simp) ?_
    refine eqf_cons (by rfl) (by go_simp; rfl) (by go_simp; rfl) (by go_simp) ?_
    refine eqf_cons (by rfl) (by go_simp; rfl) (by go_simp; rfl) (by go_simp) ?_
    exact eqf_last (by rfl) (by go_simp; rfl) (by go_simp; rfl) (by go_simp)
  rw [h]
  simp
end
set_option maxHeartbeats 1000000 in
theorem rSameA_any (w : World) (v1 v2 : Value) (b1 b2 : Nat) (xs : List Pr) (h1 : PrR w b1 v1 xs) (h2 : PrR w b2 v2 xs) (hl : xs.length ≤ 100000) :
    Calls Try.prog 45 #[v1, v2] w fun e w' => e = .returned (.bool true) ∧ Fr NoB w w' := by
  obtain ⟨A1, c1, rfl, hc1⟩ := h1.shape
  obtain ⟨A2, c2, rfl, hc2⟩ := h2.shape
  have H1 := hid h1
  have H2 := hid h2
  clear h1 h2
  go_enter Try.func45, Try.ntmps45
  go_wp2
  go_loopw [5] (fun v5 wr => ∃ k : Nat, k ≤ xs.length ∧ v5 = .int .i64 k ∧ Hid (Fr NoB w wr)) (fun v5 _ => xs.length - (intOf v5).toNat)
  case atStart => exact ⟨0, Nat.zero_le _, rfl, Fr.refl _ _⟩
  case round =>
    obtain ⟨k, hk, rfl, HF⟩ := hrel
    by_cases hkm : k < xs.length
    · obtain ⟨g1, _, e1, _, x0, x1, x2, x3, x4, x5⟩ := PrR.at_ (Row.fr H1.out HF.out (fun _ _ h => h)) k hkm
      obtain ⟨g2, _, e2, _, y0, y1, y2, y3, y4, y5⟩ := PrR.at_ (Row.fr H2.out HF.out (fun _ _ h => h)) k hkm
      obtain rfl : A1 = some ⟨g1, 0, none⟩ := by injection e1
      obtain rfl : A2 = some ⟨g2, 0, none⟩ := by injection e2
      have hse := fun (w : World) => prEqA 9998 w xs[k]
      clear e1 e2
      go_wp2
      go_quiet (fail)
      go_wp2
      go_roundw
      case rel => exact ⟨k + 1, by omega, by go_num, HF.out.drewN _⟩
      case measure => simp [intOf]; omega
    · go_wp2
      go_ret
      exact ⟨rfl, HF.out⟩
/-! May. -/
set_option maxHeartbeats 8000000 in
theorem rMay_any (w : World) (v fv : Value) (t : Tb) (F : List Int) (pid tty : Int) (write tostop : Bool) (h : RT w v fv t F) (hl : t.l.length ≤ 400) (hfr : frontOf t tty = t.f tty) :
    Calls Try.prog 20 #[rtv v t.nx fv, .int .i64 pid, .int .i64 tty, .bool write, .bool tostop] w (MayTo w (mayT t pid tty write tostop)) := by
  obtain ⟨A, c, hv, hc⟩ := h.l.shape
  obtain ⟨A2, c2, hfv, _⟩ := h.f.shape
  subst hv hfv
  have hf0 : Fr NoB w (w.alloc (.cells #[.slice A t.l.length c, .int .i64 t.nx, .slice A2 F.length c2] 43)) := (Fr.refl _ _).alloc _
  have HB0 := hid (Blk.new w 43 [.slice A t.l.length c, .int .i64 t.nx, .slice A2 F.length c2])
  have HF0 := hid hf0
  have HR0 := hid (h.frd hf0)
  have HRW := hid h
  have HL := hid hl
  clear h hf0
  have HAt := hid (rAt_any _ _ _ t.nx t F pid HR0.out (by have := HL.out; omega))
  unfold rtv at HAt
  rcases at_cases t.l pid with ⟨h1, h2⟩ | ⟨i, hi, h1, h2, h3⟩
  · have hr : mayT t pid tty write tostop = (2, []) := by unfold mayT; rw [h2]
    rw [hr]
    rw [h1] at HAt
    clear hr h1 h2 hfr
    unfold rtv
    go_enter Try.func20, Try.ntmps20
    go_wp2_with fail
    refine HAt.out.mono ?_
    rintro e' w1 ⟨rfl, hfn⟩
    have HF1 := hid (HF0.out.trans hfn)
    have HR1 := hid (HR0.out.frd hfn)
    have HB1 := hid (HB0.out.fr hfn (fun h => h))
    clear hfn
    have hb := HB1.out
    have b0 := hb.cell 0 rfl
    have b1 := hb.cell 1 rfl
    have b2 := hb.cell 2 rfl
    have bl := hb.lt
    clear hb
    go_wp2
    go_ret2
    exact ⟨_, rfl, Row.nil _ _ _ _ _, HF1.out⟩
  · have hr : mayT t pid tty write tostop = (if (tty == 0 || t.l[i].tty != tty || t.l[i].grp == t.f tty || (write && !tostop)) = true then (0, []) else if (t.l[i].deaf && write) = true then (0, []) else if (t.l[i].deaf || orphG t.l t.l[i].grp) = true then (2, []) else (1, [(t.l[i].grp, if write then 7 else 6)])) := by unfold mayT; rw [h2]
    rw [hr]
    rw [h1] at HAt
    clear hr h1 h2 h3
    have HFo := hid fun W (hW : Fr NoB w W) => rFront_any W _ _ t.nx t F tty (HRW.out.frd hW)
    have HO := hid fun W (hW : Fr NoB w W) => rOrph_any W _ _ t.nx t F t.l[i].grp (HRW.out.frd hW) (by have := HL.out; omega)
    rw [hfr] at HFo
    unfold rtv at HFo HO
    clear hfr
    obtain ⟨fr, hfr⟩ : ∃ fr, fr = t.f tty := ⟨_, rfl⟩
    rw [← hfr]
    rw [← hfr] at HFo
    clear hfr
    obtain ⟨og, hog⟩ : ∃ og, og = orphG t.l t.l[i].grp := ⟨_, rfl⟩
    rw [← hog]
    rw [← hog] at HO
    clear hog
    cases e1 : (tty == 0)
    rotate_left
    · rw [if_pos (by simp)]
      unfold rtv
      go_enter Try.func20, Try.ntmps20
      go_wp2_with fail
      refine HAt.out.mono ?_
      rintro e' w1 ⟨rfl, hfn⟩
      have HF1 := hid (HF0.out.trans hfn)
      have HR1 := hid (HR0.out.frd hfn)
      have HB1 := hid (HB0.out.fr hfn (fun h => h))
      clear hfn
      have hb := HB1.out
      have b0 := hb.cell 0 rfl
      have b1 := hb.cell 1 rfl
      have b2 := hb.cell 2 rfl
      have bl := hb.lt
      clear hb
      obtain ⟨g, c9, h9, _, d0, d1, d2, d3, d4, d5⟩ := PrR.at_ HR1.out.l i hi
      obtain rfl : A = some ⟨g, 0, none⟩ := by injection h9
      clear h9
      go_upto_region 5 with (fail)
      generalize hw2 : World.alloc w1 _ = w2
      have hfn : Fr NoB w1 w2 := by rw [← hw2]; exact (Fr.refl NoB w1).alloc _
      have HP2 : Hid (Blk w2 w1.heap.size 51 t.l[i].cells) := hid (by rw [← hw2]; first | exact Blk.new w1 51 t.l[i].cells | (have hx := Blk.new w1 51 t.l[i].cells; simp only [Pr.cells, e5] at hx ⊢; exact hx))
      have HF2 := hid (HF1.out.trans hfn)
      have HR2 := hid (HR1.out.frd hfn)
      have HB2 := hid (HB1.out.fr hfn (fun h => h))
      clear hfn hw2 d0 d1 d2 d3 d4 d5 b0 b1 b2 bl
      have hb := HB2.out
      have b0 := hb.cell 0 rfl
      have b1 := hb.cell 1 rfl
      have b2 := hb.cell 2 rfl
      have bl := hb.lt
      clear hb
      have hp := HP2.out
      have p2 := hp.cell 2 rfl
      have p4 := hp.cell 4 rfl
      have p5 := hp.cell 5 rfl
      clear hp
      go_quiet (fail)
      rename_i nq
      generalize hw3 : World.drewN _ nq = w3
      have hfn : Fr NoB w2 w3 := by rw [← hw3]; exact (Fr.refl NoB w2).drewN nq
      have HF3 := hid (HF2.out.trans hfn)
      clear hfn hw3
      go_wp2
      go_ret2
      exact ⟨_, rfl, Row.nil _ _ _ _ _, HF3.out⟩
    cases e2 : (t.l[i].tty != tty)
    rotate_left
    · rw [if_pos (by simp)]
      unfold rtv
      go_enter Try.func20, Try.ntmps20
      go_wp2_with fail
      refine HAt.out.mono ?_
      rintro e' w1 ⟨rfl, hfn⟩
      have HF1 := hid (HF0.out.trans hfn)
      have HR1 := hid (HR0.out.frd hfn)
      have HB1 := hid (HB0.out.fr hfn (fun h => h))
      clear hfn
      have hb := HB1.out
      have b0 := hb.cell 0 rfl
      have b1 := hb.cell 1 rfl
      have b2 := hb.cell 2 rfl
      have bl := hb.lt
      clear hb
      obtain ⟨g, c9, h9, _, d0, d1, d2, d3, d4, d5⟩ := PrR.at_ HR1.out.l i hi
      obtain rfl : A = some ⟨g, 0, none⟩ := by injection h9
      clear h9
      go_upto_region 5 with (fail)
      generalize hw2 : World.alloc w1 _ = w2
      have hfn : Fr NoB w1 w2 := by rw [← hw2]; exact (Fr.refl NoB w1).alloc _
      have HP2 : Hid (Blk w2 w1.heap.size 51 t.l[i].cells) := hid (by rw [← hw2]; first | exact Blk.new w1 51 t.l[i].cells | (have hx := Blk.new w1 51 t.l[i].cells; simp only [Pr.cells, e5] at hx ⊢; exact hx))
      have HF2 := hid (HF1.out.trans hfn)
      have HR2 := hid (HR1.out.frd hfn)
      have HB2 := hid (HB1.out.fr hfn (fun h => h))
      clear hfn hw2 d0 d1 d2 d3 d4 d5 b0 b1 b2 bl
      have hb := HB2.out
      have b0 := hb.cell 0 rfl
      have b1 := hb.cell 1 rfl
      have b2 := hb.cell 2 rfl
      have bl := hb.lt
      clear hb
      have hp := HP2.out
      have p2 := hp.cell 2 rfl
      have p4 := hp.cell 4 rfl
      have p5 := hp.cell 5 rfl
      clear hp
      go_quiet (fail)
      rename_i nq
      generalize hw3 : World.drewN _ nq = w3
      have hfn : Fr NoB w2 w3 := by rw [← hw3]; exact (Fr.refl NoB w2).drewN nq
      have HF3 := hid (HF2.out.trans hfn)
      clear hfn hw3
      go_wp2
      go_ret2
      exact ⟨_, rfl, Row.nil _ _ _ _ _, HF3.out⟩
    cases e3 : (t.l[i].grp == fr)
    rotate_left
    · rw [if_pos (by simp)]
      unfold rtv
      go_enter Try.func20, Try.ntmps20
      go_wp2_with fail
      refine HAt.out.mono ?_
      rintro e' w1 ⟨rfl, hfn⟩
      have HF1 := hid (HF0.out.trans hfn)
      have HR1 := hid (HR0.out.frd hfn)
      have HB1 := hid (HB0.out.fr hfn (fun h => h))
      clear hfn
      have hb := HB1.out
      have b0 := hb.cell 0 rfl
      have b1 := hb.cell 1 rfl
      have b2 := hb.cell 2 rfl
      have bl := hb.lt
      clear hb
      obtain ⟨g, c9, h9, _, d0, d1, d2, d3, d4, d5⟩ := PrR.at_ HR1.out.l i hi
      obtain rfl : A = some ⟨g, 0, none⟩ := by injection h9
      clear h9
      go_upto_region 5 with (fail)
      generalize hw2 : World.alloc w1 _ = w2
      have hfn : Fr NoB w1 w2 := by rw [← hw2]; exact (Fr.refl NoB w1).alloc _
      have HP2 : Hid (Blk w2 w1.heap.size 51 t.l[i].cells) := hid (by rw [← hw2]; first | exact Blk.new w1 51 t.l[i].cells | (have hx := Blk.new w1 51 t.l[i].cells; simp only [Pr.cells, e5] at hx ⊢; exact hx))
      have HF2 := hid (HF1.out.trans hfn)
      have HR2 := hid (HR1.out.frd hfn)
      have HB2 := hid (HB1.out.fr hfn (fun h => h))
      clear hfn hw2 d0 d1 d2 d3 d4 d5 b0 b1 b2 bl
      have hb := HB2.out
      have b0 := hb.cell 0 rfl
      have b1 := hb.cell 1 rfl
      have b2 := hb.cell 2 rfl
      have bl := hb.lt
      clear hb
      have hp := HP2.out
      have p2 := hp.cell 2 rfl
      have p4 := hp.cell 4 rfl
      have p5 := hp.cell 5 rfl
      clear hp
      have HSq : Hid (∀ W, Fr NoB w2 W → W.cell? ⟨w1.heap.size, 2, none⟩ = some (.int .i64 t.l[i].grp) ∧ W.cell? ⟨w1.heap.size, 4, none⟩ = some (.int .i64 t.l[i].tty) ∧ W.cell? ⟨w.heap.size, 0, none⟩ = some (.slice (some ⟨g, 0, none⟩) t.l.length c) ∧ W.cell? ⟨w.heap.size, 1, none⟩ = some (.int .i64 t.nx) ∧ W.cell? ⟨w.heap.size, 2, none⟩ = some (.slice A2 F.length c2)) := hid fun W hW => ⟨(HP2.out.fr hW (fun h => h)).cell 2 rfl, (HP2.out.fr hW (fun h => h)).cell 4 rfl, (HB2.out.fr hW (fun h => h)).cell 0 rfl, (HB2.out.fr hW (fun h => h)).cell 1 rfl, (HB2.out.fr hW (fun h => h)).cell 2 rfl⟩
      have HFE := hid (Fr.drew (Fr.refl NoB w2))
      go_region_held3 (fun W : World => W.cell? ⟨w1.heap.size, 2, none⟩ = some (.int .i64 t.l[i].grp) ∧ W.cell? ⟨w1.heap.size, 4, none⟩ = some (.int .i64 t.l[i].tty) ∧ W.cell? ⟨w.heap.size, 0, none⟩ = some (.slice (some ⟨g, 0, none⟩) t.l.length c) ∧ W.cell? ⟨w.heap.size, 1, none⟩ = some (.int .i64 t.nx) ∧ W.cell? ⟨w.heap.size, 2, none⟩ = some (.slice A2 F.length c2)) (first | exact HSq.out _ HFG.out | exact HSq.out _ HFE.out | fail) (first | (go_at_call 27; refine (HFo.out _ (HF2.out.trans HFE.out)).mono ?_; rintro e' w3 ⟨rfl, hf3⟩; have HFG := hid (HFE.out.trans hf3); clear hf3) | fail)
      have HF3 := hid (HF2.out.trans HFG.out)
      have HR3 := hid (HR2.out.frd HFG.out)
      have HB3 := hid (HB2.out.fr HFG.out (fun h => h))
      have HP3 := hid (HP2.out.fr HFG.out (fun h => h))
      clear b0 b1 b2 bl p2 p4 p5
      have hb := HB3.out
      have b0 := hb.cell 0 rfl
      have b1 := hb.cell 1 rfl
      have b2 := hb.cell 2 rfl
      have bl := hb.lt
      clear hb
      have hp := HP3.out
      have p2 := hp.cell 2 rfl
      have p4 := hp.cell 4 rfl
      have p5 := hp.cell 5 rfl
      clear hp
      go_wp2
      go_ret2
      exact ⟨_, rfl, Row.nil _ _ _ _ _, HF3.out⟩
    cases write
    · rw [if_neg (by simp), if_neg (by simp)]
      cases e5 : t.l[i].deaf
      rotate_left
      · rw [if_pos (by simp)]
        unfold rtv
        go_enter Try.func20, Try.ntmps20
        go_wp2_with fail
        refine HAt.out.mono ?_
        rintro e' w1 ⟨rfl, hfn⟩
        have HF1 := hid (HF0.out.trans hfn)
        have HR1 := hid (HR0.out.frd hfn)
        have HB1 := hid (HB0.out.fr hfn (fun h => h))
        clear hfn
        have hb := HB1.out
        have b0 := hb.cell 0 rfl
        have b1 := hb.cell 1 rfl
        have b2 := hb.cell 2 rfl
        have bl := hb.lt
        clear hb
        obtain ⟨g, c9, h9, _, d0, d1, d2, d3, d4, d5⟩ := PrR.at_ HR1.out.l i hi
        obtain rfl : A = some ⟨g, 0, none⟩ := by injection h9
        clear h9
        go_upto_region 5 with (fail)
        generalize hw2 : World.alloc w1 _ = w2
        have hfn : Fr NoB w1 w2 := by rw [← hw2]; exact (Fr.refl NoB w1).alloc _
        have HP2 : Hid (Blk w2 w1.heap.size 51 t.l[i].cells) := hid (by rw [← hw2]; first | exact Blk.new w1 51 t.l[i].cells | (have hx := Blk.new w1 51 t.l[i].cells; simp only [Pr.cells, e5] at hx ⊢; exact hx))
        have HF2 := hid (HF1.out.trans hfn)
        have HR2 := hid (HR1.out.frd hfn)
        have HB2 := hid (HB1.out.fr hfn (fun h => h))
        clear hfn hw2 d0 d1 d2 d3 d4 d5 b0 b1 b2 bl
        have hb := HB2.out
        have b0 := hb.cell 0 rfl
        have b1 := hb.cell 1 rfl
        have b2 := hb.cell 2 rfl
        have bl := hb.lt
        clear hb
        have hp := HP2.out
        have p2 := hp.cell 2 rfl
        have p4 := hp.cell 4 rfl
        have p5 := hp.cell 5 rfl
        clear hp
        have HSq : Hid (∀ W, Fr NoB w2 W → W.cell? ⟨w1.heap.size, 2, none⟩ = some (.int .i64 t.l[i].grp) ∧ W.cell? ⟨w1.heap.size, 4, none⟩ = some (.int .i64 t.l[i].tty) ∧ W.cell? ⟨w.heap.size, 0, none⟩ = some (.slice (some ⟨g, 0, none⟩) t.l.length c) ∧ W.cell? ⟨w.heap.size, 1, none⟩ = some (.int .i64 t.nx) ∧ W.cell? ⟨w.heap.size, 2, none⟩ = some (.slice A2 F.length c2)) := hid fun W hW => ⟨(HP2.out.fr hW (fun h => h)).cell 2 rfl, (HP2.out.fr hW (fun h => h)).cell 4 rfl, (HB2.out.fr hW (fun h => h)).cell 0 rfl, (HB2.out.fr hW (fun h => h)).cell 1 rfl, (HB2.out.fr hW (fun h => h)).cell 2 rfl⟩
        have HFE := hid (Fr.drew (Fr.refl NoB w2))
        go_region_held3 (fun W : World => W.cell? ⟨w1.heap.size, 2, none⟩ = some (.int .i64 t.l[i].grp) ∧ W.cell? ⟨w1.heap.size, 4, none⟩ = some (.int .i64 t.l[i].tty) ∧ W.cell? ⟨w.heap.size, 0, none⟩ = some (.slice (some ⟨g, 0, none⟩) t.l.length c) ∧ W.cell? ⟨w.heap.size, 1, none⟩ = some (.int .i64 t.nx) ∧ W.cell? ⟨w.heap.size, 2, none⟩ = some (.slice A2 F.length c2)) (first | exact HSq.out _ HFG.out | exact HSq.out _ HFE.out | fail) (first | (go_at_call 27; refine (HFo.out _ (HF2.out.trans HFE.out)).mono ?_; rintro e' w3 ⟨rfl, hf3⟩; have HFG := hid (HFE.out.trans hf3); clear hf3) | fail)
        have HF3 := hid (HF2.out.trans HFG.out)
        have HR3 := hid (HR2.out.frd HFG.out)
        have HB3 := hid (HB2.out.fr HFG.out (fun h => h))
        have HP3 := hid (HP2.out.fr HFG.out (fun h => h))
        clear b0 b1 b2 bl p2 p4 p5
        have hb := HB3.out
        have b0 := hb.cell 0 rfl
        have b1 := hb.cell 1 rfl
        have b2 := hb.cell 2 rfl
        have bl := hb.lt
        clear hb
        have hp := HP3.out
        have p2 := hp.cell 2 rfl
        have p4 := hp.cell 4 rfl
        have p5 := hp.cell 5 rfl
        clear hp
        go_wp2
        go_ret2
        exact ⟨_, rfl, Row.nil _ _ _ _ _, HF3.out⟩
      cases og
      rotate_left
      · rw [if_pos (by simp)]
        unfold rtv
        go_enter Try.func20, Try.ntmps20
        go_wp2_with fail
        refine HAt.out.mono ?_
        rintro e' w1 ⟨rfl, hfn⟩
        have HF1 := hid (HF0.out.trans hfn)
        have HR1 := hid (HR0.out.frd hfn)
        have HB1 := hid (HB0.out.fr hfn (fun h => h))
        clear hfn
        have hb := HB1.out
        have b0 := hb.cell 0 rfl
        have b1 := hb.cell 1 rfl
        have b2 := hb.cell 2 rfl
        have bl := hb.lt
        clear hb
        obtain ⟨g, c9, h9, _, d0, d1, d2, d3, d4, d5⟩ := PrR.at_ HR1.out.l i hi
        obtain rfl : A = some ⟨g, 0, none⟩ := by injection h9
        clear h9
        go_upto_region 5 with (fail)
        generalize hw2 : World.alloc w1 _ = w2
        have hfn : Fr NoB w1 w2 := by rw [← hw2]; exact (Fr.refl NoB w1).alloc _
        have HP2 : Hid (Blk w2 w1.heap.size 51 t.l[i].cells) := hid (by rw [← hw2]; first | exact Blk.new w1 51 t.l[i].cells | (have hx := Blk.new w1 51 t.l[i].cells; simp only [Pr.cells, e5] at hx ⊢; exact hx))
        have HF2 := hid (HF1.out.trans hfn)
        have HR2 := hid (HR1.out.frd hfn)
        have HB2 := hid (HB1.out.fr hfn (fun h => h))
        clear hfn hw2 d0 d1 d2 d3 d4 d5 b0 b1 b2 bl
        have hb := HB2.out
        have b0 := hb.cell 0 rfl
        have b1 := hb.cell 1 rfl
        have b2 := hb.cell 2 rfl
        have bl := hb.lt
        clear hb
        have hp := HP2.out
        have p2 := hp.cell 2 rfl
        have p4 := hp.cell 4 rfl
        have p5 := hp.cell 5 rfl
        clear hp
        have HSq : Hid (∀ W, Fr NoB w2 W → W.cell? ⟨w1.heap.size, 2, none⟩ = some (.int .i64 t.l[i].grp) ∧ W.cell? ⟨w1.heap.size, 4, none⟩ = some (.int .i64 t.l[i].tty) ∧ W.cell? ⟨w.heap.size, 0, none⟩ = some (.slice (some ⟨g, 0, none⟩) t.l.length c) ∧ W.cell? ⟨w.heap.size, 1, none⟩ = some (.int .i64 t.nx) ∧ W.cell? ⟨w.heap.size, 2, none⟩ = some (.slice A2 F.length c2)) := hid fun W hW => ⟨(HP2.out.fr hW (fun h => h)).cell 2 rfl, (HP2.out.fr hW (fun h => h)).cell 4 rfl, (HB2.out.fr hW (fun h => h)).cell 0 rfl, (HB2.out.fr hW (fun h => h)).cell 1 rfl, (HB2.out.fr hW (fun h => h)).cell 2 rfl⟩
        have HFE := hid (Fr.drew (Fr.refl NoB w2))
        go_region_held3 (fun W : World => W.cell? ⟨w1.heap.size, 2, none⟩ = some (.int .i64 t.l[i].grp) ∧ W.cell? ⟨w1.heap.size, 4, none⟩ = some (.int .i64 t.l[i].tty) ∧ W.cell? ⟨w.heap.size, 0, none⟩ = some (.slice (some ⟨g, 0, none⟩) t.l.length c) ∧ W.cell? ⟨w.heap.size, 1, none⟩ = some (.int .i64 t.nx) ∧ W.cell? ⟨w.heap.size, 2, none⟩ = some (.slice A2 F.length c2)) (first | exact HSq.out _ HFG.out | exact HSq.out _ HFE.out | fail) (first | (go_at_call 27; refine (HFo.out _ (HF2.out.trans HFE.out)).mono ?_; rintro e' w3 ⟨rfl, hf3⟩; have HFG := hid (HFE.out.trans hf3); clear hf3) | fail)
        have HF3 := hid (HF2.out.trans HFG.out)
        have HR3 := hid (HR2.out.frd HFG.out)
        have HB3 := hid (HB2.out.fr HFG.out (fun h => h))
        have HP3 := hid (HP2.out.fr HFG.out (fun h => h))
        clear b0 b1 b2 bl p2 p4 p5
        have hb := HB3.out
        have b0 := hb.cell 0 rfl
        have b1 := hb.cell 1 rfl
        have b2 := hb.cell 2 rfl
        have bl := hb.lt
        clear hb
        have hp := HP3.out
        have p2 := hp.cell 2 rfl
        have p4 := hp.cell 4 rfl
        have p5 := hp.cell 5 rfl
        clear hp
        go_wp2_with fail
        refine (HO.out _ HF3.out).mono ?_
        rintro e' w4 ⟨rfl, hf4⟩
        have HF4 := hid (HF3.out.trans hf4)
        have HP4 := hid (HP3.out.fr hf4 (fun h => h))
        clear hf4 b0 b1 b2 bl p2 p4 p5
        go_wp2
        go_ret2
        exact ⟨_, rfl, Row.nil _ _ _ _ _, HF4.out⟩
      rw [if_neg (by simp), if_neg (by simp)]
      unfold rtv
      go_enter Try.func20, Try.ntmps20
      go_wp2_with fail
      refine HAt.out.mono ?_
      rintro e' w1 ⟨rfl, hfn⟩
      have HF1 := hid (HF0.out.trans hfn)
      have HR1 := hid (HR0.out.frd hfn)
      have HB1 := hid (HB0.out.fr hfn (fun h => h))
      clear hfn
      have hb := HB1.out
      have b0 := hb.cell 0 rfl
      have b1 := hb.cell 1 rfl
      have b2 := hb.cell 2 rfl
      have bl := hb.lt
      clear hb
      obtain ⟨g, c9, h9, _, d0, d1, d2, d3, d4, d5⟩ := PrR.at_ HR1.out.l i hi
      obtain rfl : A = some ⟨g, 0, none⟩ := by injection h9
      clear h9
      go_upto_region 5 with (fail)
      generalize hw2 : World.alloc w1 _ = w2
      have hfn : Fr NoB w1 w2 := by rw [← hw2]; exact (Fr.refl NoB w1).alloc _
      have HP2 : Hid (Blk w2 w1.heap.size 51 t.l[i].cells) := hid (by rw [← hw2]; first | exact Blk.new w1 51 t.l[i].cells | (have hx := Blk.new w1 51 t.l[i].cells; simp only [Pr.cells, e5] at hx ⊢; exact hx))
      have HF2 := hid (HF1.out.trans hfn)
      have HR2 := hid (HR1.out.frd hfn)
      have HB2 := hid (HB1.out.fr hfn (fun h => h))
      clear hfn hw2 d0 d1 d2 d3 d4 d5 b0 b1 b2 bl
      have hb := HB2.out
      have b0 := hb.cell 0 rfl
      have b1 := hb.cell 1 rfl
      have b2 := hb.cell 2 rfl
      have bl := hb.lt
      clear hb
      have hp := HP2.out
      have p2 := hp.cell 2 rfl
      have p4 := hp.cell 4 rfl
      have p5 := hp.cell 5 rfl
      clear hp
      have HSq : Hid (∀ W, Fr NoB w2 W → W.cell? ⟨w1.heap.size, 2, none⟩ = some (.int .i64 t.l[i].grp) ∧ W.cell? ⟨w1.heap.size, 4, none⟩ = some (.int .i64 t.l[i].tty) ∧ W.cell? ⟨w.heap.size, 0, none⟩ = some (.slice (some ⟨g, 0, none⟩) t.l.length c) ∧ W.cell? ⟨w.heap.size, 1, none⟩ = some (.int .i64 t.nx) ∧ W.cell? ⟨w.heap.size, 2, none⟩ = some (.slice A2 F.length c2)) := hid fun W hW => ⟨(HP2.out.fr hW (fun h => h)).cell 2 rfl, (HP2.out.fr hW (fun h => h)).cell 4 rfl, (HB2.out.fr hW (fun h => h)).cell 0 rfl, (HB2.out.fr hW (fun h => h)).cell 1 rfl, (HB2.out.fr hW (fun h => h)).cell 2 rfl⟩
      have HFE := hid (Fr.drew (Fr.refl NoB w2))
      go_region_held3 (fun W : World => W.cell? ⟨w1.heap.size, 2, none⟩ = some (.int .i64 t.l[i].grp) ∧ W.cell? ⟨w1.heap.size, 4, none⟩ = some (.int .i64 t.l[i].tty) ∧ W.cell? ⟨w.heap.size, 0, none⟩ = some (.slice (some ⟨g, 0, none⟩) t.l.length c) ∧ W.cell? ⟨w.heap.size, 1, none⟩ = some (.int .i64 t.nx) ∧ W.cell? ⟨w.heap.size, 2, none⟩ = some (.slice A2 F.length c2)) (first | exact HSq.out _ HFG.out | exact HSq.out _ HFE.out | fail) (first | (go_at_call 27; refine (HFo.out _ (HF2.out.trans HFE.out)).mono ?_; rintro e' w3 ⟨rfl, hf3⟩; have HFG := hid (HFE.out.trans hf3); clear hf3) | fail)
      have HF3 := hid (HF2.out.trans HFG.out)
      have HR3 := hid (HR2.out.frd HFG.out)
      have HB3 := hid (HB2.out.fr HFG.out (fun h => h))
      have HP3 := hid (HP2.out.fr HFG.out (fun h => h))
      clear b0 b1 b2 bl p2 p4 p5
      have hb := HB3.out
      have b0 := hb.cell 0 rfl
      have b1 := hb.cell 1 rfl
      have b2 := hb.cell 2 rfl
      have bl := hb.lt
      clear hb
      have hp := HP3.out
      have p2 := hp.cell 2 rfl
      have p4 := hp.cell 4 rfl
      have p5 := hp.cell 5 rfl
      clear hp
      go_wp2_with fail
      refine (HO.out _ HF3.out).mono ?_
      rintro e' w4 ⟨rfl, hf4⟩
      have HF4 := hid (HF3.out.trans hf4)
      have HP4 := hid (HP3.out.fr hf4 (fun h => h))
      clear hf4 b0 b1 b2 bl p2 p4 p5
      have HSv : Hid (∀ W, Fr NoB w4 W → W.cell? ⟨w1.heap.size, 2, none⟩ = some (.int .i64 t.l[i].grp)) := hid fun W hW => (HP4.out.fr hW (fun h => h)).cell 2 rfl
      have HFD := hid (Fr.drew (Fr.refl NoB w4))
      go_wp2_with fail
      go_region_held3 (fun W : World => W.cell? ⟨w1.heap.size, 2, none⟩ = some (.int .i64 t.l[i].grp)) (first | exact HSv.out _ (HFD.out.alloc _) | exact HSv.out _ HFD.out | fail) (fail)
      go_wp2
      go_ret2
      exact ⟨_, rfl, SgR.one (t.l[i].grp, 6) (HF4.out.trans HFD.out).size, (HF4.out.trans HFD.out).alloc _⟩
    · cases tostop
      · rw [if_pos (by simp)]
        unfold rtv
        go_enter Try.func20, Try.ntmps20
        go_wp2_with fail
        refine HAt.out.mono ?_
        rintro e' w1 ⟨rfl, hfn⟩
        have HF1 := hid (HF0.out.trans hfn)
        have HR1 := hid (HR0.out.frd hfn)
        have HB1 := hid (HB0.out.fr hfn (fun h => h))
        clear hfn
        have hb := HB1.out
        have b0 := hb.cell 0 rfl
        have b1 := hb.cell 1 rfl
        have b2 := hb.cell 2 rfl
        have bl := hb.lt
        clear hb
        obtain ⟨g, c9, h9, _, d0, d1, d2, d3, d4, d5⟩ := PrR.at_ HR1.out.l i hi
        obtain rfl : A = some ⟨g, 0, none⟩ := by injection h9
        clear h9
        go_upto_region 5 with (fail)
        generalize hw2 : World.alloc w1 _ = w2
        have hfn : Fr NoB w1 w2 := by rw [← hw2]; exact (Fr.refl NoB w1).alloc _
        have HP2 : Hid (Blk w2 w1.heap.size 51 t.l[i].cells) := hid (by rw [← hw2]; first | exact Blk.new w1 51 t.l[i].cells | (have hx := Blk.new w1 51 t.l[i].cells; simp only [Pr.cells, e5] at hx ⊢; exact hx))
        have HF2 := hid (HF1.out.trans hfn)
        have HR2 := hid (HR1.out.frd hfn)
        have HB2 := hid (HB1.out.fr hfn (fun h => h))
        clear hfn hw2 d0 d1 d2 d3 d4 d5 b0 b1 b2 bl
        have hb := HB2.out
        have b0 := hb.cell 0 rfl
        have b1 := hb.cell 1 rfl
        have b2 := hb.cell 2 rfl
        have bl := hb.lt
        clear hb
        have hp := HP2.out
        have p2 := hp.cell 2 rfl
        have p4 := hp.cell 4 rfl
        have p5 := hp.cell 5 rfl
        clear hp
        have HSq : Hid (∀ W, Fr NoB w2 W → W.cell? ⟨w1.heap.size, 2, none⟩ = some (.int .i64 t.l[i].grp) ∧ W.cell? ⟨w1.heap.size, 4, none⟩ = some (.int .i64 t.l[i].tty) ∧ W.cell? ⟨w.heap.size, 0, none⟩ = some (.slice (some ⟨g, 0, none⟩) t.l.length c) ∧ W.cell? ⟨w.heap.size, 1, none⟩ = some (.int .i64 t.nx) ∧ W.cell? ⟨w.heap.size, 2, none⟩ = some (.slice A2 F.length c2)) := hid fun W hW => ⟨(HP2.out.fr hW (fun h => h)).cell 2 rfl, (HP2.out.fr hW (fun h => h)).cell 4 rfl, (HB2.out.fr hW (fun h => h)).cell 0 rfl, (HB2.out.fr hW (fun h => h)).cell 1 rfl, (HB2.out.fr hW (fun h => h)).cell 2 rfl⟩
        have HFE := hid (Fr.drew (Fr.refl NoB w2))
        go_region_held3 (fun W : World => W.cell? ⟨w1.heap.size, 2, none⟩ = some (.int .i64 t.l[i].grp) ∧ W.cell? ⟨w1.heap.size, 4, none⟩ = some (.int .i64 t.l[i].tty) ∧ W.cell? ⟨w.heap.size, 0, none⟩ = some (.slice (some ⟨g, 0, none⟩) t.l.length c) ∧ W.cell? ⟨w.heap.size, 1, none⟩ = some (.int .i64 t.nx) ∧ W.cell? ⟨w.heap.size, 2, none⟩ = some (.slice A2 F.length c2)) (first | exact HSq.out _ HFG.out | exact HSq.out _ HFE.out | fail) (first | (go_at_call 27; refine (HFo.out _ (HF2.out.trans HFE.out)).mono ?_; rintro e' w3 ⟨rfl, hf3⟩; have HFG := hid (HFE.out.trans hf3); clear hf3) | fail)
        have HF3 := hid (HF2.out.trans HFG.out)
        have HR3 := hid (HR2.out.frd HFG.out)
        have HB3 := hid (HB2.out.fr HFG.out (fun h => h))
        have HP3 := hid (HP2.out.fr HFG.out (fun h => h))
        clear b0 b1 b2 bl p2 p4 p5
        have hb := HB3.out
        have b0 := hb.cell 0 rfl
        have b1 := hb.cell 1 rfl
        have b2 := hb.cell 2 rfl
        have bl := hb.lt
        clear hb
        have hp := HP3.out
        have p2 := hp.cell 2 rfl
        have p4 := hp.cell 4 rfl
        have p5 := hp.cell 5 rfl
        clear hp
        go_wp2
        go_ret2
        exact ⟨_, rfl, Row.nil _ _ _ _ _, HF3.out⟩
      rw [if_neg (by simp)]
      cases e5 : t.l[i].deaf
      rotate_left
      · rw [if_pos (by simp)]
        unfold rtv
        go_enter Try.func20, Try.ntmps20
        go_wp2_with fail
        refine HAt.out.mono ?_
        rintro e' w1 ⟨rfl, hfn⟩
        have HF1 := hid (HF0.out.trans hfn)
        have HR1 := hid (HR0.out.frd hfn)
        have HB1 := hid (HB0.out.fr hfn (fun h => h))
        clear hfn
        have hb := HB1.out
        have b0 := hb.cell 0 rfl
        have b1 := hb.cell 1 rfl
        have b2 := hb.cell 2 rfl
        have bl := hb.lt
        clear hb
        obtain ⟨g, c9, h9, _, d0, d1, d2, d3, d4, d5⟩ := PrR.at_ HR1.out.l i hi
        obtain rfl : A = some ⟨g, 0, none⟩ := by injection h9
        clear h9
        go_upto_region 5 with (fail)
        generalize hw2 : World.alloc w1 _ = w2
        have hfn : Fr NoB w1 w2 := by rw [← hw2]; exact (Fr.refl NoB w1).alloc _
        have HP2 : Hid (Blk w2 w1.heap.size 51 t.l[i].cells) := hid (by rw [← hw2]; first | exact Blk.new w1 51 t.l[i].cells | (have hx := Blk.new w1 51 t.l[i].cells; simp only [Pr.cells, e5] at hx ⊢; exact hx))
        have HF2 := hid (HF1.out.trans hfn)
        have HR2 := hid (HR1.out.frd hfn)
        have HB2 := hid (HB1.out.fr hfn (fun h => h))
        clear hfn hw2 d0 d1 d2 d3 d4 d5 b0 b1 b2 bl
        have hb := HB2.out
        have b0 := hb.cell 0 rfl
        have b1 := hb.cell 1 rfl
        have b2 := hb.cell 2 rfl
        have bl := hb.lt
        clear hb
        have hp := HP2.out
        have p2 := hp.cell 2 rfl
        have p4 := hp.cell 4 rfl
        have p5 := hp.cell 5 rfl
        clear hp
        have HSq : Hid (∀ W, Fr NoB w2 W → W.cell? ⟨w1.heap.size, 2, none⟩ = some (.int .i64 t.l[i].grp) ∧ W.cell? ⟨w1.heap.size, 4, none⟩ = some (.int .i64 t.l[i].tty) ∧ W.cell? ⟨w.heap.size, 0, none⟩ = some (.slice (some ⟨g, 0, none⟩) t.l.length c) ∧ W.cell? ⟨w.heap.size, 1, none⟩ = some (.int .i64 t.nx) ∧ W.cell? ⟨w.heap.size, 2, none⟩ = some (.slice A2 F.length c2)) := hid fun W hW => ⟨(HP2.out.fr hW (fun h => h)).cell 2 rfl, (HP2.out.fr hW (fun h => h)).cell 4 rfl, (HB2.out.fr hW (fun h => h)).cell 0 rfl, (HB2.out.fr hW (fun h => h)).cell 1 rfl, (HB2.out.fr hW (fun h => h)).cell 2 rfl⟩
        have HFE := hid (Fr.drew (Fr.refl NoB w2))
        go_region_held3 (fun W : World => W.cell? ⟨w1.heap.size, 2, none⟩ = some (.int .i64 t.l[i].grp) ∧ W.cell? ⟨w1.heap.size, 4, none⟩ = some (.int .i64 t.l[i].tty) ∧ W.cell? ⟨w.heap.size, 0, none⟩ = some (.slice (some ⟨g, 0, none⟩) t.l.length c) ∧ W.cell? ⟨w.heap.size, 1, none⟩ = some (.int .i64 t.nx) ∧ W.cell? ⟨w.heap.size, 2, none⟩ = some (.slice A2 F.length c2)) (first | exact HSq.out _ HFG.out | exact HSq.out _ HFE.out | fail) (first | (go_at_call 27; refine (HFo.out _ (HF2.out.trans HFE.out)).mono ?_; rintro e' w3 ⟨rfl, hf3⟩; have HFG := hid (HFE.out.trans hf3); clear hf3) | fail)
        have HF3 := hid (HF2.out.trans HFG.out)
        have HR3 := hid (HR2.out.frd HFG.out)
        have HB3 := hid (HB2.out.fr HFG.out (fun h => h))
        have HP3 := hid (HP2.out.fr HFG.out (fun h => h))
        clear b0 b1 b2 bl p2 p4 p5
        have hb := HB3.out
        have b0 := hb.cell 0 rfl
        have b1 := hb.cell 1 rfl
        have b2 := hb.cell 2 rfl
        have bl := hb.lt
        clear hb
        have hp := HP3.out
        have p2 := hp.cell 2 rfl
        have p4 := hp.cell 4 rfl
        have p5 := hp.cell 5 rfl
        clear hp
        go_wp2
        go_ret2
        exact ⟨_, rfl, Row.nil _ _ _ _ _, HF3.out⟩
      rw [if_neg (by simp)]
      cases og
      rotate_left
      · rw [if_pos (by simp)]
        unfold rtv
        go_enter Try.func20, Try.ntmps20
        go_wp2_with fail
        refine HAt.out.mono ?_
        rintro e' w1 ⟨rfl, hfn⟩
        have HF1 := hid (HF0.out.trans hfn)
        have HR1 := hid (HR0.out.frd hfn)
        have HB1 := hid (HB0.out.fr hfn (fun h => h))
        clear hfn
        have hb := HB1.out
        have b0 := hb.cell 0 rfl
        have b1 := hb.cell 1 rfl
        have b2 := hb.cell 2 rfl
        have bl := hb.lt
        clear hb
        obtain ⟨g, c9, h9, _, d0, d1, d2, d3, d4, d5⟩ := PrR.at_ HR1.out.l i hi
        obtain rfl : A = some ⟨g, 0, none⟩ := by injection h9
        clear h9
        go_upto_region 5 with (fail)
        generalize hw2 : World.alloc w1 _ = w2
        have hfn : Fr NoB w1 w2 := by rw [← hw2]; exact (Fr.refl NoB w1).alloc _
        have HP2 : Hid (Blk w2 w1.heap.size 51 t.l[i].cells) := hid (by rw [← hw2]; first | exact Blk.new w1 51 t.l[i].cells | (have hx := Blk.new w1 51 t.l[i].cells; simp only [Pr.cells, e5] at hx ⊢; exact hx))
        have HF2 := hid (HF1.out.trans hfn)
        have HR2 := hid (HR1.out.frd hfn)
        have HB2 := hid (HB1.out.fr hfn (fun h => h))
        clear hfn hw2 d0 d1 d2 d3 d4 d5 b0 b1 b2 bl
        have hb := HB2.out
        have b0 := hb.cell 0 rfl
        have b1 := hb.cell 1 rfl
        have b2 := hb.cell 2 rfl
        have bl := hb.lt
        clear hb
        have hp := HP2.out
        have p2 := hp.cell 2 rfl
        have p4 := hp.cell 4 rfl
        have p5 := hp.cell 5 rfl
        clear hp
        have HSq : Hid (∀ W, Fr NoB w2 W → W.cell? ⟨w1.heap.size, 2, none⟩ = some (.int .i64 t.l[i].grp) ∧ W.cell? ⟨w1.heap.size, 4, none⟩ = some (.int .i64 t.l[i].tty) ∧ W.cell? ⟨w.heap.size, 0, none⟩ = some (.slice (some ⟨g, 0, none⟩) t.l.length c) ∧ W.cell? ⟨w.heap.size, 1, none⟩ = some (.int .i64 t.nx) ∧ W.cell? ⟨w.heap.size, 2, none⟩ = some (.slice A2 F.length c2)) := hid fun W hW => ⟨(HP2.out.fr hW (fun h => h)).cell 2 rfl, (HP2.out.fr hW (fun h => h)).cell 4 rfl, (HB2.out.fr hW (fun h => h)).cell 0 rfl, (HB2.out.fr hW (fun h => h)).cell 1 rfl, (HB2.out.fr hW (fun h => h)).cell 2 rfl⟩
        have HFE := hid (Fr.drew (Fr.refl NoB w2))
        go_region_held3 (fun W : World => W.cell? ⟨w1.heap.size, 2, none⟩ = some (.int .i64 t.l[i].grp) ∧ W.cell? ⟨w1.heap.size, 4, none⟩ = some (.int .i64 t.l[i].tty) ∧ W.cell? ⟨w.heap.size, 0, none⟩ = some (.slice (some ⟨g, 0, none⟩) t.l.length c) ∧ W.cell? ⟨w.heap.size, 1, none⟩ = some (.int .i64 t.nx) ∧ W.cell? ⟨w.heap.size, 2, none⟩ = some (.slice A2 F.length c2)) (first | exact HSq.out _ HFG.out | exact HSq.out _ HFE.out | fail) (first | (go_at_call 27; refine (HFo.out _ (HF2.out.trans HFE.out)).mono ?_; rintro e' w3 ⟨rfl, hf3⟩; have HFG := hid (HFE.out.trans hf3); clear hf3) | fail)
        have HF3 := hid (HF2.out.trans HFG.out)
        have HR3 := hid (HR2.out.frd HFG.out)
        have HB3 := hid (HB2.out.fr HFG.out (fun h => h))
        have HP3 := hid (HP2.out.fr HFG.out (fun h => h))
        clear b0 b1 b2 bl p2 p4 p5
        have hb := HB3.out
        have b0 := hb.cell 0 rfl
        have b1 := hb.cell 1 rfl
        have b2 := hb.cell 2 rfl
        have bl := hb.lt
        clear hb
        have hp := HP3.out
        have p2 := hp.cell 2 rfl
        have p4 := hp.cell 4 rfl
        have p5 := hp.cell 5 rfl
        clear hp
        go_wp2_with fail
        refine (HO.out _ HF3.out).mono ?_
        rintro e' w4 ⟨rfl, hf4⟩
        have HF4 := hid (HF3.out.trans hf4)
        have HP4 := hid (HP3.out.fr hf4 (fun h => h))
        clear hf4 b0 b1 b2 bl p2 p4 p5
        go_wp2
        go_ret2
        exact ⟨_, rfl, Row.nil _ _ _ _ _, HF4.out⟩
      rw [if_neg (by simp), if_pos rfl]
      unfold rtv
      go_enter Try.func20, Try.ntmps20
      go_wp2_with fail
      refine HAt.out.mono ?_
      rintro e' w1 ⟨rfl, hfn⟩
      have HF1 := hid (HF0.out.trans hfn)
      have HR1 := hid (HR0.out.frd hfn)
      have HB1 := hid (HB0.out.fr hfn (fun h => h))
      clear hfn
      have hb := HB1.out
      have b0 := hb.cell 0 rfl
      have b1 := hb.cell 1 rfl
      have b2 := hb.cell 2 rfl
      have bl := hb.lt
      clear hb
      obtain ⟨g, c9, h9, _, d0, d1, d2, d3, d4, d5⟩ := PrR.at_ HR1.out.l i hi
      obtain rfl : A = some ⟨g, 0, none⟩ := by injection h9
      clear h9
      go_upto_region 5 with (fail)
      generalize hw2 : World.alloc w1 _ = w2
      have hfn : Fr NoB w1 w2 := by rw [← hw2]; exact (Fr.refl NoB w1).alloc _
      have HP2 : Hid (Blk w2 w1.heap.size 51 t.l[i].cells) := hid (by rw [← hw2]; first | exact Blk.new w1 51 t.l[i].cells | (have hx := Blk.new w1 51 t.l[i].cells; simp only [Pr.cells, e5] at hx ⊢; exact hx))
      have HF2 := hid (HF1.out.trans hfn)
      have HR2 := hid (HR1.out.frd hfn)
      have HB2 := hid (HB1.out.fr hfn (fun h => h))
      clear hfn hw2 d0 d1 d2 d3 d4 d5 b0 b1 b2 bl
      have hb := HB2.out
      have b0 := hb.cell 0 rfl
      have b1 := hb.cell 1 rfl
      have b2 := hb.cell 2 rfl
      have bl := hb.lt
      clear hb
      have hp := HP2.out
      have p2 := hp.cell 2 rfl
      have p4 := hp.cell 4 rfl
      have p5 := hp.cell 5 rfl
      clear hp
      have HSq : Hid (∀ W, Fr NoB w2 W → W.cell? ⟨w1.heap.size, 2, none⟩ = some (.int .i64 t.l[i].grp) ∧ W.cell? ⟨w1.heap.size, 4, none⟩ = some (.int .i64 t.l[i].tty) ∧ W.cell? ⟨w.heap.size, 0, none⟩ = some (.slice (some ⟨g, 0, none⟩) t.l.length c) ∧ W.cell? ⟨w.heap.size, 1, none⟩ = some (.int .i64 t.nx) ∧ W.cell? ⟨w.heap.size, 2, none⟩ = some (.slice A2 F.length c2)) := hid fun W hW => ⟨(HP2.out.fr hW (fun h => h)).cell 2 rfl, (HP2.out.fr hW (fun h => h)).cell 4 rfl, (HB2.out.fr hW (fun h => h)).cell 0 rfl, (HB2.out.fr hW (fun h => h)).cell 1 rfl, (HB2.out.fr hW (fun h => h)).cell 2 rfl⟩
      have HFE := hid (Fr.drew (Fr.refl NoB w2))
      go_region_held3 (fun W : World => W.cell? ⟨w1.heap.size, 2, none⟩ = some (.int .i64 t.l[i].grp) ∧ W.cell? ⟨w1.heap.size, 4, none⟩ = some (.int .i64 t.l[i].tty) ∧ W.cell? ⟨w.heap.size, 0, none⟩ = some (.slice (some ⟨g, 0, none⟩) t.l.length c) ∧ W.cell? ⟨w.heap.size, 1, none⟩ = some (.int .i64 t.nx) ∧ W.cell? ⟨w.heap.size, 2, none⟩ = some (.slice A2 F.length c2)) (first | exact HSq.out _ HFG.out | exact HSq.out _ HFE.out | fail) (first | (go_at_call 27; refine (HFo.out _ (HF2.out.trans HFE.out)).mono ?_; rintro e' w3 ⟨rfl, hf3⟩; have HFG := hid (HFE.out.trans hf3); clear hf3) | fail)
      have HF3 := hid (HF2.out.trans HFG.out)
      have HR3 := hid (HR2.out.frd HFG.out)
      have HB3 := hid (HB2.out.fr HFG.out (fun h => h))
      have HP3 := hid (HP2.out.fr HFG.out (fun h => h))
      clear b0 b1 b2 bl p2 p4 p5
      have hb := HB3.out
      have b0 := hb.cell 0 rfl
      have b1 := hb.cell 1 rfl
      have b2 := hb.cell 2 rfl
      have bl := hb.lt
      clear hb
      have hp := HP3.out
      have p2 := hp.cell 2 rfl
      have p4 := hp.cell 4 rfl
      have p5 := hp.cell 5 rfl
      clear hp
      go_wp2_with fail
      refine (HO.out _ HF3.out).mono ?_
      rintro e' w4 ⟨rfl, hf4⟩
      have HF4 := hid (HF3.out.trans hf4)
      have HP4 := hid (HP3.out.fr hf4 (fun h => h))
      clear hf4 b0 b1 b2 bl p2 p4 p5
      have HSv : Hid (∀ W, Fr NoB w4 W → W.cell? ⟨w1.heap.size, 2, none⟩ = some (.int .i64 t.l[i].grp)) := hid fun W hW => (HP4.out.fr hW (fun h => h)).cell 2 rfl
      have HFD := hid (Fr.drew (Fr.refl NoB w4))
      go_wp2_with fail
      go_region_held3 (fun W : World => W.cell? ⟨w1.heap.size, 2, none⟩ = some (.int .i64 t.l[i].grp)) (first | exact HSv.out _ (HFD.out.alloc _) | exact HSv.out _ HFD.out | fail) (fail)
      go_wp2
      go_ret2
      exact ⟨_, rfl, SgR.one (t.l[i].grp, 7) (HF4.out.trans HFD.out).size, (HF4.out.trans HFD.out).alloc _⟩
end Go.Proofs.Ytlagakcpjmjdfaa
