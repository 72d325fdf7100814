import Derived.Test.YtlagakcpjmjdfaaB7
import Derived.Test.YtlagakcpjmjdfaaA8
set_option linter.unusedSimpArgs false
set_option linter.unusedVariables false
set_option maxRecDepth 20000
namespace Go.Proofs.Ytlagakcpjmjdfaa
open Go.RowKit Go.Proofs.YtlagakcpjmjdfaaW.PrintWords
set_option maxHeartbeats 4000000 in
theorem rAtt_any (w : World) (v fv : Value) (t : Tb) (F : List Int) (pid tty : Int) (h : RT w v fv t F) (hl : t.l.length ≤ 400) :
    Calls Try.prog 40 #[rtv v t.nx fv, .int .i64 pid, .int .i64 tty] w (RErr w v fv (attT t pid tty)) := by
  obtain ⟨A, c, hv, hc⟩ := h.l.shape
  obtain ⟨A2, c2, hfv, _⟩ := h.f.shape
  subst hv hfv
  have hf0 : Fr NoB w ((w.alloc (.cells #[.slice A t.l.length c, .int .i64 t.nx, .slice A2 F.length c2] 43)).alloc (.cells #[.slice none 0 0, .int .i64 0, .slice none 0 0] 43)) := ((Fr.refl _ _).alloc _).alloc _
  have hB := (Blk.new w 43 [.slice A t.l.length c, .int .i64 t.nx, .slice A2 F.length c2]).alloc (.cells #[.slice none 0 0, .int .i64 0, .slice none 0 0] 43)
  have hZ := Blk.new (w.alloc (.cells #[.slice A t.l.length c, .int .i64 t.nx, .slice A2 F.length c2] 43)) 43 [.slice none 0 0, .int .i64 0, .slice none 0 0]
  rw [World.size_alloc] at hZ
  have HB0 := hid hB
  have HZ0 := hid hZ
  have HF0 := hid hf0
  have HR0 := hid (h.frd hf0)
  have HRW := hid h
  have HL := hid hl
  clear h hf0 hB hZ
  have HAt := hid (rAt_any _ _ _ t.nx t F pid HR0.out (by have := HL.out; omega))
  unfold rtv at HAt
  rcases at_cases t.l pid with ⟨h1, h2⟩ | ⟨i, hi, h1, h2, h3⟩
  · have hr : attT t pid tty = (t, 5) := by unfold attT; rw [h2]
    rw [hr]
    rw [h1] at HAt
    clear hr h1 h2
    unfold rtv
    go_enter Try.func40, Try.ntmps40
    go_wp2_with fail
    refine Calls.mono (HAt.out) ?_
    rintro e' w1 ⟨rfl, hfn⟩
    have HF1 := hid (HF0.out.trans hfn)
    have HR1 := hid (HR0.out.frd hfn)
    have HB1 := hid (HB0.out.fr hfn (fun h => h))
    have HZ1 := hid (HZ0.out.fr hfn (fun h => h))
    clear hfn
    have hb := HB1.out
    have hz := HZ1.out
    have b0 := hb.cell 0 rfl
    have b1 := hb.cell 1 rfl
    have b2 := hb.cell 2 rfl
    have z0 := hz.cell 0 rfl
    have z1 := hz.cell 1 rfl
    have z2 := hz.cell 2 rfl
    have y0 := hz.frozen 0
    have y1 := hz.frozen 1
    have y2 := hz.frozen 2
    have yl := hz.lt
    have bl := hb.lt
    clear hb hz
    go_wp2
    have hfz := HF1.out.then_ ((((Fr.refl (At (w.heap.size + 1)) w1).setAt 0 (.slice A t.l.length c)).setAt 1 (.int .i64 t.nx)).setAt 2 (.slice A2 F.length c2)) (fun k e => .inr (by have e' : k = w.heap.size + 1 := e; omega))
    have hne : ∀ k, OwnB (.slice A t.l.length c) k → ¬ At (w.heap.size + 1) k := fun k hk e => Row.not_blk HR1.out.l HZ1.out (by decide) (by have e' : k = w.heap.size + 1 := e; rw [← e']; exact hk)
    have hne2 : ∀ k, OwnB (.slice A2 F.length c2) k → ¬ At (w.heap.size + 1) k := fun k hk e => Row.not_blk HR1.out.f HZ1.out (by decide) (by have e' : k = w.heap.size + 1 := e; rw [← e']; exact hk)
    refine bodyPost_ret (v := .tuple #[rtv (.slice A t.l.length c) t.nx (.slice A2 F.length c2), .int .i64 5]) (by simp [results, Try.results40, go_sem, z0, z1, z2, rtv]) rfl ⟨_, _, F, rfl, HR1.out.fr ((((Fr.refl (At (w.heap.size + 1)) w1).setAt 0 _).setAt 1 _).setAt 2 _) hne hne2, hfz, fun k hk => .inl hk, fun k hk => .inl hk⟩
  · have hr : attT t pid tty = if tty < 1 ∨ 64 < tty then (t, 1) else if (t.l[i].ses != pid || t.l[i].tty != 0 || sesOf t.l tty != 0) = true then (t, 8) else (⟨giveL pid tty t.l, t.nx, fun j => if j = tty then t.l[i].grp else t.f j⟩, 0) := by unfold attT; rw [h2]
    rw [hr]
    rw [h1] at HAt
    clear hr h1 h2 h3
    by_cases ha : tty < 1
    · rw [if_pos (.inl ha)]
      unfold rtv
      go_enter Try.func40, Try.ntmps40
      go_wp2_with fail
      refine Calls.mono (HAt.out) ?_
      rintro e' w1 ⟨rfl, hfn⟩
      have HF1 := hid (HF0.out.trans hfn)
      have HR1 := hid (HR0.out.frd hfn)
      have HB1 := hid (HB0.out.fr hfn (fun h => h))
      have HZ1 := hid (HZ0.out.fr hfn (fun h => h))
      clear hfn
      have hb := HB1.out
      have hz := HZ1.out
      have b0 := hb.cell 0 rfl
      have b1 := hb.cell 1 rfl
      have b2 := hb.cell 2 rfl
      have z0 := hz.cell 0 rfl
      have z1 := hz.cell 1 rfl
      have z2 := hz.cell 2 rfl
      have y0 := hz.frozen 0
      have y1 := hz.frozen 1
      have y2 := hz.frozen 2
      have yl := hz.lt
      have bl := hb.lt
      clear hb hz
      obtain ⟨g, c9, h9, _, d0, d1, d2, d3, d4, d5⟩ := PrR.at_ HR1.out.l i hi
      obtain rfl : A = some ⟨g, 0, none⟩ := by injection h9
      clear h9
      go_wp2
      have hfz := HF1.out.then_ ((((Fr.refl (At (w.heap.size + 1)) w1).setAt 0 (.slice (some ⟨g, 0, none⟩) t.l.length c)).setAt 1 (.int .i64 t.nx)).setAt 2 (.slice A2 F.length c2)) (fun k e => .inr (by have e' : k = w.heap.size + 1 := e; omega))
      have hne : ∀ k, OwnB (.slice (some ⟨g, 0, none⟩) t.l.length c) k → ¬ At (w.heap.size + 1) k := fun k hk e => Row.not_blk HR1.out.l HZ1.out (by decide) (by have e' : k = w.heap.size + 1 := e; rw [← e']; exact hk)
      have hne2 : ∀ k, OwnB (.slice A2 F.length c2) k → ¬ At (w.heap.size + 1) k := fun k hk e => Row.not_blk HR1.out.f HZ1.out (by decide) (by have e' : k = w.heap.size + 1 := e; rw [← e']; exact hk)
      refine bodyPost_ret (v := .tuple #[rtv (.slice (some ⟨g, 0, none⟩) t.l.length c) t.nx (.slice A2 F.length c2), .int .i64 1]) (by simp [results, Try.results40, go_sem, z0, z1, z2, rtv]) rfl ⟨_, _, F, rfl, HR1.out.fr ((((Fr.refl (At (w.heap.size + 1)) w1).setAt 0 _).setAt 1 _).setAt 2 _) hne hne2, hfz, fun k hk => .inl hk, fun k hk => .inl hk⟩
    by_cases hb : 64 < tty
    · rw [if_pos (.inr hb)]
      unfold rtv
      go_enter Try.func40, Try.ntmps40
      go_wp2_with fail
      refine Calls.mono (HAt.out) ?_
      rintro e' w1 ⟨rfl, hfn⟩
      have HF1 := hid (HF0.out.trans hfn)
      have HR1 := hid (HR0.out.frd hfn)
      have HB1 := hid (HB0.out.fr hfn (fun h => h))
      have HZ1 := hid (HZ0.out.fr hfn (fun h => h))
      clear hfn
      have hb := HB1.out
      have hz := HZ1.out
      have b0 := hb.cell 0 rfl
      have b1 := hb.cell 1 rfl
      have b2 := hb.cell 2 rfl
      have z0 := hz.cell 0 rfl
      have z1 := hz.cell 1 rfl
      have z2 := hz.cell 2 rfl
      have y0 := hz.frozen 0
      have y1 := hz.frozen 1
      have y2 := hz.frozen 2
      have yl := hz.lt
      have bl := hb.lt
      clear hb hz
      obtain ⟨g, c9, h9, _, d0, d1, d2, d3, d4, d5⟩ := PrR.at_ HR1.out.l i hi
      obtain rfl : A = some ⟨g, 0, none⟩ := by injection h9
      clear h9
      go_wp2
      have hfz := HF1.out.then_ ((((Fr.refl (At (w.heap.size + 1)) w1).setAt 0 (.slice (some ⟨g, 0, none⟩) t.l.length c)).setAt 1 (.int .i64 t.nx)).setAt 2 (.slice A2 F.length c2)) (fun k e => .inr (by have e' : k = w.heap.size + 1 := e; omega))
      have hne : ∀ k, OwnB (.slice (some ⟨g, 0, none⟩) t.l.length c) k → ¬ At (w.heap.size + 1) k := fun k hk e => Row.not_blk HR1.out.l HZ1.out (by decide) (by have e' : k = w.heap.size + 1 := e; rw [← e']; exact hk)
      have hne2 : ∀ k, OwnB (.slice A2 F.length c2) k → ¬ At (w.heap.size + 1) k := fun k hk e => Row.not_blk HR1.out.f HZ1.out (by decide) (by have e' : k = w.heap.size + 1 := e; rw [← e']; exact hk)
      refine bodyPost_ret (v := .tuple #[rtv (.slice (some ⟨g, 0, none⟩) t.l.length c) t.nx (.slice A2 F.length c2), .int .i64 1]) (by simp [results, Try.results40, go_sem, z0, z1, z2, rtv]) rfl ⟨_, _, F, rfl, HR1.out.fr ((((Fr.refl (At (w.heap.size + 1)) w1).setAt 0 _).setAt 1 _).setAt 2 _) hne hne2, hfz, fun k hk => .inl hk, fun k hk => .inl hk⟩
    rw [if_neg (by omega)]
    cases e1 : (t.l[i].ses != pid)
    · cases e2 : (t.l[i].tty != 0)
      · have HSes := hid fun W (hW : Fr NoB w W) => rSes_any W _ _ t.nx t F tty (HRW.out.frd hW) (by have := HL.out; omega)
        unfold rtv at HSes
        obtain ⟨j, rfl⟩ := Int.eq_ofNat_of_zero_le (show 0 ≤ tty by omega)
        have hj : j < 65 := by omega
        cases e3 : (sesOf t.l (j : Int) != 0)
        · have e3' : sesOf t.l (j : Int) = 0 := by simpa using e3
          rw [e3'] at HSes
          rw [if_neg (by simp)]
          clear e3 e3'
          unfold rtv
          go_enter Try.func40, Try.ntmps40
          go_wp2_with fail
          refine Calls.mono (HAt.out) ?_
          rintro e' w1 ⟨rfl, hfn⟩
          have HF1 := hid (HF0.out.trans hfn)
          have HR1 := hid (HR0.out.frd hfn)
          have HB1 := hid (HB0.out.fr hfn (fun h => h))
          have HZ1 := hid (HZ0.out.fr hfn (fun h => h))
          clear hfn
          have hb := HB1.out
          have hz := HZ1.out
          have b0 := hb.cell 0 rfl
          have b1 := hb.cell 1 rfl
          have b2 := hb.cell 2 rfl
          have z0 := hz.cell 0 rfl
          have z1 := hz.cell 1 rfl
          have z2 := hz.cell 2 rfl
          have y0 := hz.frozen 0
          have y1 := hz.frozen 1
          have y2 := hz.frozen 2
          have yl := hz.lt
          have bl := hb.lt
          clear hb hz
          obtain ⟨g, c9, h9, _, d0, d1, d2, d3, d4, d5⟩ := PrR.at_ HR1.out.l i hi
          obtain rfl : A = some ⟨g, 0, none⟩ := by injection h9
          clear h9
          have HFP := hid ((Fr.refl NoB w1).alloc (.cells #[.int .i64 t.l[i].pid, .int .i64 t.l[i].par, .int .i64 t.l[i].grp, .int .i64 t.l[i].ses, .int .i64 t.l[i].tty, .bool t.l[i].deaf] 51))
          have HP1 := hid (Blk.new w1 51 t.l[i].cells)
          go_wp2_with fail
          have hp9 := HP1.out
          have p2 := hp9.cell 2 rfl
          have p3 := hp9.cell 3 rfl
          have p4 := hp9.cell 4 rfl
          clear hp9
          refine Calls.mono (HSes.out _ (HF1.out.trans HFP.out)) ?_
          rintro e' w2 ⟨rfl, hfn⟩
          have HP2 := hid (HP1.out.fr hfn (fun h => h))
          have hfn2 := HFP.out.trans hfn
          have HF2 := hid (HF1.out.trans hfn2)
          have HR2 := hid (HR1.out.frd hfn2)
          have HB2 := hid (HB1.out.fr hfn2 (fun h => h))
          have HZ2 := hid (HZ1.out.fr hfn2 (fun h => h))
          clear hfn hfn2 p2 p3 p4 d0 d1 d2 d3 d4 d5
          clear b0 b1 b2 z0 z1 z2 y0 y1 y2 yl bl
          have hw12 : w.heap.size + 1 < w1.heap.size := HZ1.out.lt
          have HSq : Hid (∀ W, Fr (At (w.heap.size + 1)) w2 W → W.cell? ⟨w1.heap.size, 2, none⟩ = some (.int .i64 t.l[i].grp) ∧ W.cell? ⟨w.heap.size, 0, none⟩ = some (.slice (some ⟨g, 0, none⟩) t.l.length c) ∧ W.cell? ⟨w.heap.size, 1, none⟩ = some (.int .i64 t.nx) ∧ W.cell? ⟨w.heap.size, 2, none⟩ = some (.slice A2 F.length c2)) := hid fun W hW => by
            have a1 := HP2.out.fr hW (fun e => by have e' : w1.heap.size = w.heap.size + 1 := e; omega)
            have a2 := HB2.out.fr hW (fun e => by have e' : w.heap.size = w.heap.size + 1 := e; omega)
            exact ⟨a1.cell 2 rfl, a2.cell 0 rfl, a2.cell 1 rfl, a2.cell 2 rfl⟩
          have HFE := hid (Fr.drew (Fr.refl NoB w2))
          have hL0 : 0 < t.l.length := by omega
          clear hw12 ha hb
          go_wp2_with fail
          go_region_held3 (fun W : World => W.cell? ⟨w1.heap.size, 2, none⟩ = some (.int .i64 t.l[i].grp) ∧ W.cell? ⟨w.heap.size, 0, none⟩ = some (.slice (some ⟨g, 0, none⟩) t.l.length c) ∧ W.cell? ⟨w.heap.size, 1, none⟩ = some (.int .i64 t.nx) ∧ W.cell? ⟨w.heap.size, 2, none⟩ = some (.slice A2 F.length c2)) (first | (have hx9 := HFH.out; first | exact HSq.out _ (hx9.mono (fun _ h => h.elim)) | exact HSq.out _ ((((hx9.mono (fun _ h => h.elim)).setAt 0 _).setAt 1 _).setAt 2 _)) | exact HSq.out _ (HFG.out.mono (fun _ h => h.elim)) | exact HSq.out _ (HFE.out.mono (fun _ h => h.elim)) | fail) (first | (have hx9 := HFG.out; clear hx9; go_at_call 58; refine (rFr_any _ _ _ t.nx ⟨giveL pid j t.l, t.nx, t.f⟩ F j t.l[i].grp HRG.out hj).mono ?_; rintro e' w4 ⟨fv4, rfl, hr4, hf4⟩; obtain ⟨A4, c4, hv4, _⟩ := hr4.shape; rw [List.length_set] at hv4; subst hv4; unfold rtv; have HFH := hid (HFG.out.trans hf4); have HRH := hid (HRG.out.setF hr4 hf4 hj); have HV24 := hid hr4.ge; have HSZ2 := hid (HF2.out.trans HFG.out).size; have HZ4 := hid (HZ2.out.fr HFH.out (fun h => h)); have hz := HZ4.out; have z0 := hz.cell 0 rfl; have z1 := hz.cell 1 rfl; have z2 := hz.cell 2 rfl; have y0 := hz.frozen 0; have y1 := hz.frozen 1; have y2 := hz.frozen 2; have yl := hz.lt; clear hz hr4 hf4) | (go_at_call 59; refine (rGive_any _ _ _ t.nx t F pid j (HR2.out.frd HFE.out) HL.out hL0).mono ?_; rintro e' w3 ⟨v3, rfl, hr3, hf3⟩; obtain ⟨A3, c3, hv3, _⟩ := hr3.shape; rw [giveL_len] at hv3; subst hv3; have HFG := hid (HFE.out.trans hf3); have HRG := hid (HR2.out.up hr3 HFG.out t.nx); have HV3 := hid hr3.ge; have HSZ := hid (HF2.out.trans HFE.out).size; unfold rtv; clear hr3 hf3) | fail)
          have HF4 := hid (HF2.out.trans HFH.out)
          have HR4 := HRH
          have HV4 := HV3
          go_wp2
          have hfz := HF4.out.then_ ((((Fr.refl (At (w.heap.size + 1)) w4).setAt 0 (.slice A3 t.l.length c3)).setAt 1 (.int .i64 t.nx)).setAt 2 (.slice A4 F.length c4)) (fun k e => .inr (by have e' : k = w.heap.size + 1 := e; omega))
          have hne : ∀ k, OwnB (.slice A3 t.l.length c3) k → ¬ At (w.heap.size + 1) k := fun k hk e => Row.not_blk HR4.out.l HZ4.out (by decide) (by have e' : k = w.heap.size + 1 := e; rw [← e']; exact hk)
          have hne2 : ∀ k, OwnB (.slice A4 F.length c4) k → ¬ At (w.heap.size + 1) k := fun k hk e => Row.not_blk HR4.out.f HZ4.out (by decide) (by have e' : k = w.heap.size + 1 := e; rw [← e']; exact hk)
          refine bodyPost_ret (v := .tuple #[rtv (.slice A3 t.l.length c3) t.nx (.slice A4 F.length c4), .int .i64 0]) (by simp [results, Try.results40, go_sem, z0, z1, z2, rtv]) rfl ⟨_, _, _, rfl, HR4.out.fr ((((Fr.refl (At (w.heap.size + 1)) w4).setAt 0 _).setAt 1 _).setAt 2 _) hne hne2, hfz, fun k hk => .inr (Nat.le_trans HSZ.out (HV4.out k hk)), fun k hk => .inr (Nat.le_trans HSZ2.out (HV24.out k hk))⟩
        · have e3' : ¬ sesOf t.l (j : Int) = 0 := by simpa using e3
          rw [if_pos (by simp)]
          clear e3'
          generalize sesOf t.l (j : Int) = sv at *
          unfold rtv
          go_enter Try.func40, Try.ntmps40
          go_wp2_with fail
          refine Calls.mono (HAt.out) ?_
          rintro e' w1 ⟨rfl, hfn⟩
          have HF1 := hid (HF0.out.trans hfn)
          have HR1 := hid (HR0.out.frd hfn)
          have HB1 := hid (HB0.out.fr hfn (fun h => h))
          have HZ1 := hid (HZ0.out.fr hfn (fun h => h))
          clear hfn
          have hb := HB1.out
          have hz := HZ1.out
          have b0 := hb.cell 0 rfl
          have b1 := hb.cell 1 rfl
          have b2 := hb.cell 2 rfl
          have z0 := hz.cell 0 rfl
          have z1 := hz.cell 1 rfl
          have z2 := hz.cell 2 rfl
          have y0 := hz.frozen 0
          have y1 := hz.frozen 1
          have y2 := hz.frozen 2
          have yl := hz.lt
          have bl := hb.lt
          clear hb hz
          obtain ⟨g, c9, h9, _, d0, d1, d2, d3, d4, d5⟩ := PrR.at_ HR1.out.l i hi
          obtain rfl : A = some ⟨g, 0, none⟩ := by injection h9
          clear h9
          have HFP := hid ((Fr.refl NoB w1).alloc (.cells #[.int .i64 t.l[i].pid, .int .i64 t.l[i].par, .int .i64 t.l[i].grp, .int .i64 t.l[i].ses, .int .i64 t.l[i].tty, .bool t.l[i].deaf] 51))
          have HP1 := hid (Blk.new w1 51 t.l[i].cells)
          go_wp2_with fail
          refine Calls.mono (HSes.out _ (HF1.out.trans HFP.out)) ?_
          rintro e' w2 ⟨rfl, hfn⟩
          have hfn2 := HFP.out.trans hfn
          have HF2 := hid (HF1.out.trans hfn2)
          have HR2 := hid (HR1.out.frd hfn2)
          have HB2 := hid (HB1.out.fr hfn2 (fun h => h))
          have HZ2 := hid (HZ1.out.fr hfn2 (fun h => h))
          clear hfn hfn2 d0 d1 d2 d3 d4 d5
          clear b0 b1 b2 z0 z1 z2 y0 y1 y2 yl bl
          have hb := HB2.out
          have hz := HZ2.out
          have b0 := hb.cell 0 rfl
          have b1 := hb.cell 1 rfl
          have b2 := hb.cell 2 rfl
          have z0 := hz.cell 0 rfl
          have z1 := hz.cell 1 rfl
          have z2 := hz.cell 2 rfl
          have y0 := hz.frozen 0
          have y1 := hz.frozen 1
          have y2 := hz.frozen 2
          have yl := hz.lt
          have bl := hb.lt
          clear hb hz
          go_wp2
          have hfz := HF2.out.then_ ((((Fr.refl (At (w.heap.size + 1)) w2).setAt 0 (.slice (some ⟨g, 0, none⟩) t.l.length c)).setAt 1 (.int .i64 t.nx)).setAt 2 (.slice A2 F.length c2)) (fun k e => .inr (by have e' : k = w.heap.size + 1 := e; omega))
          have hne : ∀ k, OwnB (.slice (some ⟨g, 0, none⟩) t.l.length c) k → ¬ At (w.heap.size + 1) k := fun k hk e => Row.not_blk HR2.out.l HZ2.out (by decide) (by have e' : k = w.heap.size + 1 := e; rw [← e']; exact hk)
          have hne2 : ∀ k, OwnB (.slice A2 F.length c2) k → ¬ At (w.heap.size + 1) k := fun k hk e => Row.not_blk HR2.out.f HZ2.out (by decide) (by have e' : k = w.heap.size + 1 := e; rw [← e']; exact hk)
          refine bodyPost_ret (v := .tuple #[rtv (.slice (some ⟨g, 0, none⟩) t.l.length c) t.nx (.slice A2 F.length c2), .int .i64 8]) (by simp [results, Try.results40, go_sem, z0, z1, z2, rtv]) rfl ⟨_, _, F, rfl, HR2.out.fr ((((Fr.refl (At (w.heap.size + 1)) w2).setAt 0 _).setAt 1 _).setAt 2 _) hne hne2, hfz, fun k hk => .inl hk, fun k hk => .inl hk⟩
      · rw [if_pos (by simp)]
        unfold rtv
        go_enter Try.func40, Try.ntmps40
        go_wp2_with fail
        refine Calls.mono (HAt.out) ?_
        rintro e' w1 ⟨rfl, hfn⟩
        have HF1 := hid (HF0.out.trans hfn)
        have HR1 := hid (HR0.out.frd hfn)
        have HB1 := hid (HB0.out.fr hfn (fun h => h))
        have HZ1 := hid (HZ0.out.fr hfn (fun h => h))
        clear hfn
        have hb := HB1.out
        have hz := HZ1.out
        have b0 := hb.cell 0 rfl
        have b1 := hb.cell 1 rfl
        have b2 := hb.cell 2 rfl
        have z0 := hz.cell 0 rfl
        have z1 := hz.cell 1 rfl
        have z2 := hz.cell 2 rfl
        have y0 := hz.frozen 0
        have y1 := hz.frozen 1
        have y2 := hz.frozen 2
        have yl := hz.lt
        have bl := hb.lt
        clear hb hz
        obtain ⟨g, c9, h9, _, d0, d1, d2, d3, d4, d5⟩ := PrR.at_ HR1.out.l i hi
        obtain rfl : A = some ⟨g, 0, none⟩ := by injection h9
        clear h9
        have HFP := hid ((Fr.refl NoB w1).alloc (.cells #[.int .i64 t.l[i].pid, .int .i64 t.l[i].par, .int .i64 t.l[i].grp, .int .i64 t.l[i].ses, .int .i64 t.l[i].tty, .bool t.l[i].deaf] 51))
        have HP1 := hid (Blk.new w1 51 t.l[i].cells)
        go_upto_region 8 with (fail)
        generalize hw2 : World.alloc w1 _ = w2 at HFP ⊢
        have hfn := HFP.out
        have HF2 := hid (HF1.out.trans hfn)
        have HR2 := hid (HR1.out.frd hfn)
        have HB2 := hid (HB1.out.fr hfn (fun h => h))
        have HZ2 := hid (HZ1.out.fr hfn (fun h => h))
        clear hfn d0 d1 d2 d3 d4 d5 hw2
        clear b0 b1 b2 z0 z1 z2 y0 y1 y2 yl bl
        have hb := HB2.out
        have hz := HZ2.out
        have b0 := hb.cell 0 rfl
        have b1 := hb.cell 1 rfl
        have b2 := hb.cell 2 rfl
        have z0 := hz.cell 0 rfl
        have z1 := hz.cell 1 rfl
        have z2 := hz.cell 2 rfl
        have y0 := hz.frozen 0
        have y1 := hz.frozen 1
        have y2 := hz.frozen 2
        have yl := hz.lt
        have bl := hb.lt
        clear hb hz
        go_wp2
        have hfz := HF2.out.then_ ((((Fr.refl (At (w.heap.size + 1)) w2).setAt 0 (.slice (some ⟨g, 0, none⟩) t.l.length c)).setAt 1 (.int .i64 t.nx)).setAt 2 (.slice A2 F.length c2)) (fun k e => .inr (by have e' : k = w.heap.size + 1 := e; omega))
        have hne : ∀ k, OwnB (.slice (some ⟨g, 0, none⟩) t.l.length c) k → ¬ At (w.heap.size + 1) k := fun k hk e => Row.not_blk HR2.out.l HZ2.out (by decide) (by have e' : k = w.heap.size + 1 := e; rw [← e']; exact hk)
        have hne2 : ∀ k, OwnB (.slice A2 F.length c2) k → ¬ At (w.heap.size + 1) k := fun k hk e => Row.not_blk HR2.out.f HZ2.out (by decide) (by have e' : k = w.heap.size + 1 := e; rw [← e']; exact hk)
        refine bodyPost_ret (v := .tuple #[rtv (.slice (some ⟨g, 0, none⟩) t.l.length c) t.nx (.slice A2 F.length c2), .int .i64 8]) (by simp [results, Try.results40, go_sem, z0, z1, z2, rtv]) rfl ⟨_, _, F, rfl, HR2.out.fr ((((Fr.refl (At (w.heap.size + 1)) w2).setAt 0 _).setAt 1 _).setAt 2 _) hne hne2, hfz, fun k hk => .inl hk, fun k hk => .inl hk⟩
    · rw [if_pos (by simp)]
      unfold rtv
      go_enter Try.func40, Try.ntmps40
      go_wp2_with fail
      refine Calls.mono (HAt.out) ?_
      rintro e' w1 ⟨rfl, hfn⟩
      have HF1 := hid (HF0.out.trans hfn)
      have HR1 := hid (HR0.out.frd hfn)
      have HB1 := hid (HB0.out.fr hfn (fun h => h))
      have HZ1 := hid (HZ0.out.fr hfn (fun h => h))
      clear hfn
      have hb := HB1.out
      have hz := HZ1.out
      have b0 := hb.cell 0 rfl
      have b1 := hb.cell 1 rfl
      have b2 := hb.cell 2 rfl
      have z0 := hz.cell 0 rfl
      have z1 := hz.cell 1 rfl
      have z2 := hz.cell 2 rfl
      have y0 := hz.frozen 0
      have y1 := hz.frozen 1
      have y2 := hz.frozen 2
      have yl := hz.lt
      have bl := hb.lt
      clear hb hz
      obtain ⟨g, c9, h9, _, d0, d1, d2, d3, d4, d5⟩ := PrR.at_ HR1.out.l i hi
      obtain rfl : A = some ⟨g, 0, none⟩ := by injection h9
      clear h9
      have HFP := hid ((Fr.refl NoB w1).alloc (.cells #[.int .i64 t.l[i].pid, .int .i64 t.l[i].par, .int .i64 t.l[i].grp, .int .i64 t.l[i].ses, .int .i64 t.l[i].tty, .bool t.l[i].deaf] 51))
      have HP1 := hid (Blk.new w1 51 t.l[i].cells)
      go_upto_region 8 with (fail)
      generalize hw2 : World.alloc w1 _ = w2 at HFP ⊢
      have hfn := HFP.out
      have HF2 := hid (HF1.out.trans hfn)
      have HR2 := hid (HR1.out.frd hfn)
      have HB2 := hid (HB1.out.fr hfn (fun h => h))
      have HZ2 := hid (HZ1.out.fr hfn (fun h => h))
      clear hfn d0 d1 d2 d3 d4 d5 hw2
      clear b0 b1 b2 z0 z1 z2 y0 y1 y2 yl bl
      have hb := HB2.out
      have hz := HZ2.out
      have b0 := hb.cell 0 rfl
      have b1 := hb.cell 1 rfl
      have b2 := hb.cell 2 rfl
      have z0 := hz.cell 0 rfl
      have z1 := hz.cell 1 rfl
      have z2 := hz.cell 2 rfl
      have y0 := hz.frozen 0
      have y1 := hz.frozen 1
      have y2 := hz.frozen 2
      have yl := hz.lt
      have bl := hb.lt
      clear hb hz
      go_wp2
      have hfz := HF2.out.then_ ((((Fr.refl (At (w.heap.size + 1)) w2).setAt 0 (.slice (some ⟨g, 0, none⟩) t.l.length c)).setAt 1 (.int .i64 t.nx)).setAt 2 (.slice A2 F.length c2)) (fun k e => .inr (by have e' : k = w.heap.size + 1 := e; omega))
      have hne : ∀ k, OwnB (.slice (some ⟨g, 0, none⟩) t.l.length c) k → ¬ At (w.heap.size + 1) k := fun k hk e => Row.not_blk HR2.out.l HZ2.out (by decide) (by have e' : k = w.heap.size + 1 := e; rw [← e']; exact hk)
      have hne2 : ∀ k, OwnB (.slice A2 F.length c2) k → ¬ At (w.heap.size + 1) k := fun k hk e => Row.not_blk HR2.out.f HZ2.out (by decide) (by have e' : k = w.heap.size + 1 := e; rw [← e']; exact hk)
      refine bodyPost_ret (v := .tuple #[rtv (.slice (some ⟨g, 0, none⟩) t.l.length c) t.nx (.slice A2 F.length c2), .int .i64 8]) (by simp [results, Try.results40, go_sem, z0, z1, z2, rtv]) rfl ⟨_, _, F, rfl, HR2.out.fr ((((Fr.refl (At (w.heap.size + 1)) w2).setAt 0 _).setAt 1 _).setAt 2 _) hne hne2, hfz, fun k hk => .inl hk, fun k hk => .inl hk⟩
end Go.Proofs.Ytlagakcpjmjdfaa
