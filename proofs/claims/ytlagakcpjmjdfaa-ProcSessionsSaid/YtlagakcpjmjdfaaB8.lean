import Derived.Test.YtlagakcpjmjdfaaB7
import Derived.Test.YtlagakcpjmjdfaaA6
import Derived.Deep.DeepCutAuto
set_option linter.unusedSimpArgs false
set_option linter.unusedVariables false
set_option maxRecDepth 20000
namespace Go.Proofs.Ytlagakcpjmjdfaa
open Go.RowKit Go.Proofs.YtlagakcpjmjdfaaW.PrintWords
set_option maxHeartbeats 4000000 in
theorem rFg_any (w : World) (v fv : Value) (t : Tb) (F : List Int) (pid tty group : Int) (h : RT w v fv t F) (hl : t.l.length ≤ 400) (ht : ∀ p ∈ t.l, 0 ≤ p.tty ∧ p.tty ≤ 64) :
    Calls Try.prog 42 #[rtv v t.nx fv, .int .i64 pid, .int .i64 tty, .int .i64 group] w (RErr w v fv (fgT t pid tty group)) := by
  obtain ⟨A, c, hv, hc⟩ := h.l.shape
  obtain ⟨A2, c2, hfv, _⟩ := h.f.shape
  subst hv hfv
  have hf0 : Fr NoB w ((w.alloc (.cells #[.slice A t.l.length c, .int .i64 t.nx, .slice A2 F.length c2] 43)).alloc (.cells #[.slice none 0 0, .int .i64 0, .slice none 0 0] 43)) := ((Fr.refl _ _).alloc _).alloc _
  have hB := (Blk.new w 43 [.slice A t.l.length c, .int .i64 t.nx, .slice A2 F.length c2]).alloc (.cells #[.slice none 0 0, .int .i64 0, .slice none 0 0] 43)
  have hZ := Blk.new (w.alloc (.cells #[.slice A t.l.length c, .int .i64 t.nx, .slice A2 F.length c2] 43)) 43 [.slice none 0 0, .int .i64 0, .slice none 0 0]
  rw [World.size_alloc] at hZ
  have HB0 := hid hB
  have HZ0 := hid hZ
  have HF0 := hid hf0
  have HR0 := hid (h.frd hf0)
  have HRW := hid h
  have HL := hid hl
  clear h hf0 hB hZ
  have HAt := hid (rAt_any _ _ _ t.nx t F pid HR0.out (by have := HL.out; omega))
  unfold rtv at HAt
  rcases at_cases t.l pid with ⟨h1, h2⟩ | ⟨i, hi, h1, h2, h3⟩
  · have hr : fgT t pid tty group = (t, 5) := by unfold fgT; rw [h2]
    rw [hr]
    rw [h1] at HAt
    clear hr h1 h2 ht
    unfold rtv
    go_enter Try.func42, Try.ntmps42
    go_wp2_with fail
    refine Calls.mono (HAt.out) ?_
    rintro e' w1 ⟨rfl, hfn⟩
    have HF1 := hid (HF0.out.trans hfn)
    have HR1 := hid (HR0.out.frd hfn)
    have HB1 := hid (HB0.out.fr hfn (fun h => h))
    have HZ1 := hid (HZ0.out.fr hfn (fun h => h))
    clear hfn
    have hb := HB1.out
    have hz := HZ1.out
    have b0 := hb.cell 0 rfl
    have b1 := hb.cell 1 rfl
    have b2 := hb.cell 2 rfl
    have z0 := hz.cell 0 rfl
    have z1 := hz.cell 1 rfl
    have z2 := hz.cell 2 rfl
    have y0 := hz.frozen 0
    have y1 := hz.frozen 1
    have y2 := hz.frozen 2
    have yl := hz.lt
    have bl := hb.lt
    clear hb hz
    go_wp2
    have hfz := HF1.out.then_ ((((Fr.refl (At (w.heap.size + 1)) w1).setAt 0 (.slice A t.l.length c)).setAt 1 (.int .i64 t.nx)).setAt 2 (.slice A2 F.length c2)) (fun k e => .inr (by have e' : k = w.heap.size + 1 := e; omega))
    have hne : ∀ k, OwnB (.slice A t.l.length c) k → ¬ At (w.heap.size + 1) k := fun k hk e => Row.not_blk HR1.out.l HZ1.out (by decide) (by have e' : k = w.heap.size + 1 := e; rw [← e']; exact hk)
    have hne2 : ∀ k, OwnB (.slice A2 F.length c2) k → ¬ At (w.heap.size + 1) k := fun k hk e => Row.not_blk HR1.out.f HZ1.out (by decide) (by have e' : k = w.heap.size + 1 := e; rw [← e']; exact hk)
    refine bodyPost_ret (v := .tuple #[rtv (.slice A t.l.length c) t.nx (.slice A2 F.length c2), .int .i64 5]) (by simp [results, Try.results42, go_sem, z0, z1, z2, rtv]) rfl ⟨_, _, F, rfl, HR1.out.fr ((((Fr.refl (At (w.heap.size + 1)) w1).setAt 0 _).setAt 1 _).setAt 2 _) hne hne2, hfz, fun k hk => .inl hk, fun k hk => .inl hk⟩
  · have hr : fgT t pid tty group = if (tty == 0 || t.l[i].tty != tty) = true then (t, 14) else if hasG t.l group t.l[i].ses then (⟨t.l, t.nx, fun j => if j = tty then group else t.f j⟩, 0) else (t, 8) := by unfold fgT; rw [h2]
    have hti := ht _ (List.getElem_mem hi)
    rw [hr]
    rw [h1] at HAt
    clear hr h1 h2 h3 ht
    cases hc1 : (tty == 0)
    · cases hc2 : (t.l[i].tty != tty)
      · rw [if_neg (by simp)]
        have HHas := hid fun W (hW : Fr NoB w W) => rHas_any W _ _ t.nx t F group t.l[i].ses (HRW.out.frd hW) (by have := HL.out; omega)
        unfold rtv at HHas
        have htt : t.l[i].tty = tty := by simpa using hc2
        have ht0 : ¬ tty = 0 := by simpa using hc1
        obtain ⟨j, rfl⟩ := Int.eq_ofNat_of_zero_le (show 0 ≤ tty by omega)
        have hj : j < 65 := by omega
        have HTT := hid htt
        clear htt hti ht0
        cases hg : hasG t.l group t.l[i].ses
        · rw [hg] at HHas
          rw [if_neg (by decide)]
          clear hg
          unfold rtv
          go_enter Try.func42, Try.ntmps42
          go_wp2_with fail
          refine Calls.mono (HAt.out) ?_
          rintro e' w1 ⟨rfl, hfn⟩
          have HF1 := hid (HF0.out.trans hfn)
          have HR1 := hid (HR0.out.frd hfn)
          have HB1 := hid (HB0.out.fr hfn (fun h => h))
          have HZ1 := hid (HZ0.out.fr hfn (fun h => h))
          clear hfn
          have hb := HB1.out
          have hz := HZ1.out
          have b0 := hb.cell 0 rfl
          have b1 := hb.cell 1 rfl
          have b2 := hb.cell 2 rfl
          have z0 := hz.cell 0 rfl
          have z1 := hz.cell 1 rfl
          have z2 := hz.cell 2 rfl
          have y0 := hz.frozen 0
          have y1 := hz.frozen 1
          have y2 := hz.frozen 2
          have yl := hz.lt
          have bl := hb.lt
          clear hb hz
          obtain ⟨g, c9, h9, _, d0, d1, d2, d3, d4, d5⟩ := PrR.at_ HR1.out.l i hi
          obtain rfl : A = some ⟨g, 0, none⟩ := by injection h9
          clear h9
          go_wp2_with fail
          refine wp_region_still_tail 8 (by kernel_rfl) (by kernel_rfl) ?_
          change wpStill _ _ (World.drew _) _ _ _
          simp only [List.take_succ_cons, List.take_zero, List.drop_succ_cons, List.drop_zero]
          iterate 8 still_step
          refine wpStill_nil ?_
          change wpList _ _ _ _ _ (World.drew _)
          go_wp2_with fail
          clear b0 b1 b2 z0 z1 z2 y0 y1 y2 yl bl
          refine Calls.mono (HHas.out _ (HF1.out.drew)) ?_
          rintro e' w2 ⟨rfl, hfn⟩
          have hfn := ((Fr.refl NoB w1).drew).trans hfn
          have HF2 := hid (HF1.out.trans hfn)
          have HR2 := hid (HR1.out.frd hfn)
          have HB2 := hid (HB1.out.fr hfn (fun h => h))
          have HZ2 := hid (HZ1.out.fr hfn (fun h => h))
          clear hfn
          have hb := HB2.out
          have hz := HZ2.out
          have b0 := hb.cell 0 rfl
          have b1 := hb.cell 1 rfl
          have b2 := hb.cell 2 rfl
          have z0 := hz.cell 0 rfl
          have z1 := hz.cell 1 rfl
          have z2 := hz.cell 2 rfl
          have y0 := hz.frozen 0
          have y1 := hz.frozen 1
          have y2 := hz.frozen 2
          have yl := hz.lt
          have bl := hb.lt
          clear hb hz
          go_wp2
          have hfz := HF2.out.then_ ((((Fr.refl (At (w.heap.size + 1)) w2).setAt 0 (.slice (some ⟨g, 0, none⟩) t.l.length c)).setAt 1 (.int .i64 t.nx)).setAt 2 (.slice A2 F.length c2)) (fun k e => .inr (by have e' : k = w.heap.size + 1 := e; omega))
          have hne : ∀ k, OwnB (.slice (some ⟨g, 0, none⟩) t.l.length c) k → ¬ At (w.heap.size + 1) k := fun k hk e => Row.not_blk HR2.out.l HZ2.out (by decide) (by have e' : k = w.heap.size + 1 := e; rw [← e']; exact hk)
          have hne2 : ∀ k, OwnB (.slice A2 F.length c2) k → ¬ At (w.heap.size + 1) k := fun k hk e => Row.not_blk HR2.out.f HZ2.out (by decide) (by have e' : k = w.heap.size + 1 := e; rw [← e']; exact hk)
          refine bodyPost_ret (v := .tuple #[rtv (.slice (some ⟨g, 0, none⟩) t.l.length c) t.nx (.slice A2 F.length c2), .int .i64 8]) (by simp [results, Try.results42, go_sem, z0, z1, z2, rtv]) rfl ⟨_, _, F, rfl, HR2.out.fr ((((Fr.refl (At (w.heap.size + 1)) w2).setAt 0 _).setAt 1 _).setAt 2 _) hne hne2, hfz, fun k hk => .inl hk, fun k hk => .inl hk⟩
        · rw [hg] at HHas
          rw [if_pos rfl]
          clear hg
          unfold rtv
          go_enter Try.func42, Try.ntmps42
          go_wp2_with fail
          refine Calls.mono (HAt.out) ?_
          rintro e' w1 ⟨rfl, hfn⟩
          have HF1 := hid (HF0.out.trans hfn)
          have HR1 := hid (HR0.out.frd hfn)
          have HB1 := hid (HB0.out.fr hfn (fun h => h))
          have HZ1 := hid (HZ0.out.fr hfn (fun h => h))
          clear hfn
          have hb := HB1.out
          have hz := HZ1.out
          have b0 := hb.cell 0 rfl
          have b1 := hb.cell 1 rfl
          have b2 := hb.cell 2 rfl
          have z0 := hz.cell 0 rfl
          have z1 := hz.cell 1 rfl
          have z2 := hz.cell 2 rfl
          have y0 := hz.frozen 0
          have y1 := hz.frozen 1
          have y2 := hz.frozen 2
          have yl := hz.lt
          have bl := hb.lt
          clear hb hz
          obtain ⟨g, c9, h9, _, d0, d1, d2, d3, d4, d5⟩ := PrR.at_ HR1.out.l i hi
          obtain rfl : A = some ⟨g, 0, none⟩ := by injection h9
          clear h9
          go_wp2_with fail
          refine wp_region_still_tail 8 (by kernel_rfl) (by kernel_rfl) ?_
          change wpStill _ _ (World.drew _) _ _ _
          simp only [List.take_succ_cons, List.take_zero, List.drop_succ_cons, List.drop_zero]
          iterate 8 still_step
          refine wpStill_nil ?_
          change wpList _ _ _ _ _ (World.drew _)
          go_wp2_with fail
          clear b0 b1 b2 z0 z1 z2 y0 y1 y2 yl bl
          refine Calls.mono (HHas.out _ (HF1.out.drew)) ?_
          rintro e' w2 ⟨rfl, hfn⟩
          have hfn := ((Fr.refl NoB w1).drew).trans hfn
          have HF2 := hid (HF1.out.trans hfn)
          have HR2 := hid (HR1.out.frd hfn)
          have HB2 := hid (HB1.out.fr hfn (fun h => h))
          have HZ2 := hid (HZ1.out.fr hfn (fun h => h))
          clear hfn
          have hb := HB2.out
          have hz := HZ2.out
          have b0 := hb.cell 0 rfl
          have b1 := hb.cell 1 rfl
          have b2 := hb.cell 2 rfl
          have z0 := hz.cell 0 rfl
          have z1 := hz.cell 1 rfl
          have z2 := hz.cell 2 rfl
          have y0 := hz.frozen 0
          have y1 := hz.frozen 1
          have y2 := hz.frozen 2
          have yl := hz.lt
          have bl := hb.lt
          clear hb hz
          go_wp2_with fail
          refine Calls.mono (rFr_any _ _ _ t.nx t F j group HR2.out hj) ?_
          rintro e' w3 ⟨fv3, rfl, hr3, hfn⟩
          obtain ⟨A3, c3, hv3, _⟩ := hr3.shape
          rw [List.length_set] at hv3
          subst hv3
          unfold rtv
          have HF3 := hid (HF2.out.trans hfn)
          have HZ3 := hid (HZ2.out.fr hfn (fun h => h))
          have HR3 := hid (HR2.out.setF hr3 hfn hj)
          have HV3 := hid hr3.ge
          have HSZ := hid HF2.out.size
          clear hfn hr3
          clear b0 b1 b2 z0 z1 z2 y0 y1 y2 yl bl
          have hz := HZ3.out
          have z0 := hz.cell 0 rfl
          have z1 := hz.cell 1 rfl
          have z2 := hz.cell 2 rfl
          have y0 := hz.frozen 0
          have y1 := hz.frozen 1
          have y2 := hz.frozen 2
          have yl := hz.lt
          clear hz
          go_wp2
          have hfz := HF3.out.then_ ((((Fr.refl (At (w.heap.size + 1)) w3).setAt 0 (.slice (some ⟨g, 0, none⟩) t.l.length c)).setAt 1 (.int .i64 t.nx)).setAt 2 (.slice A3 F.length c3)) (fun k e => .inr (by have e' : k = w.heap.size + 1 := e; omega))
          have hne : ∀ k, OwnB (.slice (some ⟨g, 0, none⟩) t.l.length c) k → ¬ At (w.heap.size + 1) k := fun k hk e => Row.not_blk HR3.out.l HZ3.out (by decide) (by have e' : k = w.heap.size + 1 := e; rw [← e']; exact hk)
          have hne2 : ∀ k, OwnB (.slice A3 F.length c3) k → ¬ At (w.heap.size + 1) k := fun k hk e => Row.not_blk HR3.out.f HZ3.out (by decide) (by have e' : k = w.heap.size + 1 := e; rw [← e']; exact hk)
          refine bodyPost_ret (v := .tuple #[rtv (.slice (some ⟨g, 0, none⟩) t.l.length c) t.nx (.slice A3 F.length c3), .int .i64 0]) (by simp [results, Try.results42, go_sem, z0, z1, z2, rtv]) rfl ⟨_, _, _, rfl, HR3.out.fr ((((Fr.refl (At (w.heap.size + 1)) w3).setAt 0 _).setAt 1 _).setAt 2 _) hne hne2, hfz, fun k hk => .inl hk, fun k hk => .inr (Nat.le_trans HSZ.out (HV3.out k hk))⟩
      · rw [if_pos (by simp)]
        unfold rtv
        go_enter Try.func42, Try.ntmps42
        go_wp2_with fail
        refine Calls.mono (HAt.out) ?_
        rintro e' w1 ⟨rfl, hfn⟩
        have HF1 := hid (HF0.out.trans hfn)
        have HR1 := hid (HR0.out.frd hfn)
        have HB1 := hid (HB0.out.fr hfn (fun h => h))
        have HZ1 := hid (HZ0.out.fr hfn (fun h => h))
        clear hfn
        have hb := HB1.out
        have hz := HZ1.out
        have b0 := hb.cell 0 rfl
        have b1 := hb.cell 1 rfl
        have b2 := hb.cell 2 rfl
        have z0 := hz.cell 0 rfl
        have z1 := hz.cell 1 rfl
        have z2 := hz.cell 2 rfl
        have y0 := hz.frozen 0
        have y1 := hz.frozen 1
        have y2 := hz.frozen 2
        have yl := hz.lt
        have bl := hb.lt
        clear hb hz
        obtain ⟨g, c9, h9, _, d0, d1, d2, d3, d4, d5⟩ := PrR.at_ HR1.out.l i hi
        obtain rfl : A = some ⟨g, 0, none⟩ := by injection h9
        clear h9
        go_wp2
        have hfz := HF1.out.then_ ((((Fr.refl (At (w.heap.size + 1)) w1).setAt 0 (.slice (some ⟨g, 0, none⟩) t.l.length c)).setAt 1 (.int .i64 t.nx)).setAt 2 (.slice A2 F.length c2)) (fun k e => .inr (by have e' : k = w.heap.size + 1 := e; omega))
        have hne : ∀ k, OwnB (.slice (some ⟨g, 0, none⟩) t.l.length c) k → ¬ At (w.heap.size + 1) k := fun k hk e => Row.not_blk HR1.out.l HZ1.out (by decide) (by have e' : k = w.heap.size + 1 := e; rw [← e']; exact hk)
        have hne2 : ∀ k, OwnB (.slice A2 F.length c2) k → ¬ At (w.heap.size + 1) k := fun k hk e => Row.not_blk HR1.out.f HZ1.out (by decide) (by have e' : k = w.heap.size + 1 := e; rw [← e']; exact hk)
        refine bodyPost_ret (v := .tuple #[rtv (.slice (some ⟨g, 0, none⟩) t.l.length c) t.nx (.slice A2 F.length c2), .int .i64 14]) (by simp [results, Try.results42, go_sem, z0, z1, z2, rtv]) rfl ⟨_, _, F, rfl, HR1.out.fr ((((Fr.refl (At (w.heap.size + 1)) w1).setAt 0 _).setAt 1 _).setAt 2 _) hne hne2, hfz, fun k hk => .inl hk, fun k hk => .inl hk⟩
    · rw [if_pos (by simp)]
      unfold rtv
      go_enter Try.func42, Try.ntmps42
      go_wp2_with fail
      refine Calls.mono (HAt.out) ?_
      rintro e' w1 ⟨rfl, hfn⟩
      have HF1 := hid (HF0.out.trans hfn)
      have HR1 := hid (HR0.out.frd hfn)
      have HB1 := hid (HB0.out.fr hfn (fun h => h))
      have HZ1 := hid (HZ0.out.fr hfn (fun h => h))
      clear hfn
      have hb := HB1.out
      have hz := HZ1.out
      have b0 := hb.cell 0 rfl
      have b1 := hb.cell 1 rfl
      have b2 := hb.cell 2 rfl
      have z0 := hz.cell 0 rfl
      have z1 := hz.cell 1 rfl
      have z2 := hz.cell 2 rfl
      have y0 := hz.frozen 0
      have y1 := hz.frozen 1
      have y2 := hz.frozen 2
      have yl := hz.lt
      have bl := hb.lt
      clear hb hz
      obtain ⟨g, c9, h9, _, d0, d1, d2, d3, d4, d5⟩ := PrR.at_ HR1.out.l i hi
      obtain rfl : A = some ⟨g, 0, none⟩ := by injection h9
      clear h9
      go_wp2
      have hfz := HF1.out.then_ ((((Fr.refl (At (w.heap.size + 1)) w1).setAt 0 (.slice (some ⟨g, 0, none⟩) t.l.length c)).setAt 1 (.int .i64 t.nx)).setAt 2 (.slice A2 F.length c2)) (fun k e => .inr (by have e' : k = w.heap.size + 1 := e; omega))
      have hne : ∀ k, OwnB (.slice (some ⟨g, 0, none⟩) t.l.length c) k → ¬ At (w.heap.size + 1) k := fun k hk e => Row.not_blk HR1.out.l HZ1.out (by decide) (by have e' : k = w.heap.size + 1 := e; rw [← e']; exact hk)
      have hne2 : ∀ k, OwnB (.slice A2 F.length c2) k → ¬ At (w.heap.size + 1) k := fun k hk e => Row.not_blk HR1.out.f HZ1.out (by decide) (by have e' : k = w.heap.size + 1 := e; rw [← e']; exact hk)
      refine bodyPost_ret (v := .tuple #[rtv (.slice (some ⟨g, 0, none⟩) t.l.length c) t.nx (.slice A2 F.length c2), .int .i64 14]) (by simp [results, Try.results42, go_sem, z0, z1, z2, rtv]) rfl ⟨_, _, F, rfl, HR1.out.fr ((((Fr.refl (At (w.heap.size + 1)) w1).setAt 0 _).setAt 1 _).setAt 2 _) hne hne2, hfz, fun k hk => .inl hk, fun k hk => .inl hk⟩
theorem PrR.at2 {w : World} {base g n c : Nat} {l : List Pr} (h : Row Pr.cells 6 51 w base (.slice (some ⟨g, 0, none⟩) n c) l) (k : Nat) (hk : k < l.length) :
    w.cell? ⟨g, k * 6, none⟩ = some (.int .i64 l[k].pid) ∧ w.cell? ⟨g, k * 6 + 1, none⟩ = some (.int .i64 l[k].par) ∧ w.cell? ⟨g, k * 6 + 2, none⟩ = some (.int .i64 l[k].grp) ∧ w.cell? ⟨g, k * 6 + 3, none⟩ = some (.int .i64 l[k].ses) ∧ w.cell? ⟨g, k * 6 + 4, none⟩ = some (.int .i64 l[k].tty) ∧ w.cell? ⟨g, k * 6 + 5, none⟩ = some (.bool l[k].deaf) := by
  obtain ⟨g', c9, h9, _, h1⟩ := PrR.at_ h k hk
  obtain rfl : g = g' := by injection h9 with e _ _; injection e with e; injection e
  exact h1
def grpP (p : Pr) (g : Int) : Pr := ⟨p.pid, p.par, g, p.ses, p.tty, p.deaf⟩
set_option maxHeartbeats 8000000 in
theorem rPgid_any (w : World) (v fv : Value) (t : Tb) (F : List Int) (pid who0 group0 : Int) (h : RT w v fv t F) (hl : t.l.length ≤ 400) :
    Calls Try.prog 39 #[rtv v t.nx fv, .int .i64 pid, .int .i64 who0, .int .i64 group0] w (RErr w v fv (pgidT t pid who0 group0)) := by
  have main : ∀ who, whoOf pid who0 = who → (who0 = 0 ∧ who = pid ∨ who0 ≠ 0 ∧ who = who0) → Calls Try.prog 39 #[rtv v t.nx fv, .int .i64 pid, .int .i64 who0, .int .i64 group0] w (RErr w v fv (pgidW t pid who group0)) := by
    intro who hwho hwc
    clear hwho
    obtain ⟨A, c, hv, hc⟩ := h.l.shape
    obtain ⟨A2, c2, hfv, _⟩ := h.f.shape
    subst hv hfv
    have hf0 : Fr NoB w ((w.alloc (.cells #[.slice A t.l.length c, .int .i64 t.nx, .slice A2 F.length c2] 43)).alloc (.cells #[.slice none 0 0, .int .i64 0, .slice none 0 0] 43)) := ((Fr.refl _ _).alloc _).alloc _
    have hB := (Blk.new w 43 [.slice A t.l.length c, .int .i64 t.nx, .slice A2 F.length c2]).alloc (.cells #[.slice none 0 0, .int .i64 0, .slice none 0 0] 43)
    have hZ := Blk.new (w.alloc (.cells #[.slice A t.l.length c, .int .i64 t.nx, .slice A2 F.length c2] 43)) 43 [.slice none 0 0, .int .i64 0, .slice none 0 0]
    rw [World.size_alloc] at hZ
    have HB0 := hid hB
    have HZ0 := hid hZ
    have HF0 := hid hf0
    have HR0 := hid (h.frd hf0)
    have HRW := hid h
    have HL := hid hl
    clear h hf0 hB hZ
    have HAtI := hid fun W (hW : Fr NoB w W) => rAt_any W _ _ t.nx t F pid (HRW.out.frd hW) (by have := HL.out; omega)
    have HAtK := hid fun W (hW : Fr NoB w W) => rAt_any W _ _ t.nx t F who (HRW.out.frd hW) (by have := HL.out; omega)
    unfold rtv at HAtI HAtK
    have hcI := at_cases t.l pid
    have hcK := at_cases t.l who
    generalize ixP (isPid pid) t.l = nI at HAtI hcI
    generalize ixP (isPid who) t.l = nK at HAtK hcK
    have HCI := hid hcI
    have HCK := hid hcK
    obtain ⟨r, hr0⟩ : ∃ r, r = pgidW t pid who group0 := ⟨_, rfl⟩
    rw [← hr0]
    have HR0r := hid hr0
    clear hcI hcK hr0
    unfold rtv
    go_enter Try.func39, Try.ntmps39
    go_upto_if 14 with (fail)
    go_cut [2] (fun s2 wx => s2 = .int .i64 who ∧ wx = ((w.alloc (.cells #[.slice A t.l.length c, .int .i64 t.nx, .slice A2 F.length c2] 43)).alloc (.cells #[.slice none 0 0, .int .i64 0, .slice none 0 0] 43)))
    case first =>
      rcases hwc with ⟨rfl, rfl⟩ | ⟨h0, rfl⟩
      · go_wp2_with fail
        go_meet
        exact ⟨rfl, rfl⟩
      · have hw0 : (who == 0) = false := by simpa using h0
        go_wp2_with fail
        go_meet
        exact ⟨rfl, rfl⟩
    case rest =>
      obtain ⟨rfl, rfl⟩ := hcut
      clear hwc
      have HSv : Hid (∀ W, Fr NoB ((w.alloc (.cells #[.slice A t.l.length c, .int .i64 t.nx, .slice A2 F.length c2] 43)).alloc (.cells #[.slice none 0 0, .int .i64 0, .slice none 0 0] 43)) W → W.cell? ⟨w.heap.size, 0, none⟩ = some (.slice A t.l.length c) ∧ W.cell? ⟨w.heap.size, 1, none⟩ = some (.int .i64 t.nx) ∧ W.cell? ⟨w.heap.size, 2, none⟩ = some (.slice A2 F.length c2)) := hid fun W hW => ⟨(HB0.out.fr hW (fun h => h)).cell 0 rfl, (HB0.out.fr hW (fun h => h)).cell 1 rfl, (HB0.out.fr hW (fun h => h)).cell 2 rfl⟩
      have HFD := hid (Fr.drew (Fr.refl NoB ((w.alloc (.cells #[.slice A t.l.length c, .int .i64 t.nx, .slice A2 F.length c2] 43)).alloc (.cells #[.slice none 0 0, .int .i64 0, .slice none 0 0] 43))))
      go_wp2_with fail
      go_region_held3 (fun W : World => W.cell? ⟨w.heap.size, 0, none⟩ = some (.slice A t.l.length c) ∧ W.cell? ⟨w.heap.size, 1, none⟩ = some (.int .i64 t.nx) ∧ W.cell? ⟨w.heap.size, 2, none⟩ = some (.slice A2 F.length c2)) (first | exact HSv.out _ HFY.out | exact HSv.out _ HFX.out | exact HSv.out _ HFD.out | fail) (first | (have hx9 := HFX.out; clear hx9; go_at_call 22; refine (HAtK.out _ (HF0.out.trans HFX.out)).mono ?_; rintro e' w2 ⟨rfl, hf2⟩; have HFY := hid (HFX.out.trans hf2); clear hf2) | (go_at_call 22; refine (HAtI.out _ (HF0.out.trans HFD.out)).mono ?_; rintro e' w1 ⟨rfl, hf1⟩; have HFX := hid (HFD.out.trans hf1); clear hf1) | fail)
      have HF2 := hid (HF0.out.trans HFY.out)
      have HR2 := hid (HR0.out.frd HFY.out)
      have HB2 := hid (HB0.out.fr HFY.out (fun h => h))
      have HZ2 := hid (HZ0.out.fr HFY.out (fun h => h))
      have hb := HB2.out
      have hz := HZ2.out
      have b0 := hb.cell 0 rfl
      have b1 := hb.cell 1 rfl
      have b2 := hb.cell 2 rfl
      have z0 := hz.cell 0 rfl
      have z1 := hz.cell 1 rfl
      have z2 := hz.cell 2 rfl
      have y0 := hz.frozen 0
      have y1 := hz.frozen 1
      have y2 := hz.frozen 2
      have yl := hz.lt
      have bl := hb.lt
      clear hb hz
      rcases HCI.out with ⟨rfl, h2⟩ | ⟨i, hi, rfl, h2, h3⟩
      · have HRr := hid (HR0r.out.trans (show pgidW t pid who group0 = (t, 5) by unfold pgidW; rw [h2]))
        clear h2
        go_wp2
        have hfz := HF2.out.then_ ((((Fr.refl (At (w.heap.size + 1)) w2).setAt 0 (.slice A t.l.length c)).setAt 1 (.int .i64 t.nx)).setAt 2 (.slice A2 F.length c2)) (fun k e => .inr (by have e' : k = w.heap.size + 1 := e; omega))
        have hne : ∀ k, OwnB (.slice A t.l.length c) k → ¬ At (w.heap.size + 1) k := fun k hk e => Row.not_blk HR2.out.l HZ2.out (by decide) (by have e' : k = w.heap.size + 1 := e; rw [← e']; exact hk)
        have hne2 : ∀ k, OwnB (.slice A2 F.length c2) k → ¬ At (w.heap.size + 1) k := fun k hk e => Row.not_blk HR2.out.f HZ2.out (by decide) (by have e' : k = w.heap.size + 1 := e; rw [← e']; exact hk)
        rw [HRr.out]
        refine bodyPost_ret (v := .tuple #[rtv (.slice A t.l.length c) t.nx (.slice A2 F.length c2), .int .i64 5]) (by simp [results, Try.results39, go_sem, z0, z1, z2, rtv]) rfl ⟨_, _, F, rfl, HR2.out.fr ((((Fr.refl (At (w.heap.size + 1)) w2).setAt 0 _).setAt 1 _).setAt 2 _) hne hne2, hfz, fun k hk => .inl hk, fun k hk => .inl hk⟩
      rcases HCK.out with ⟨rfl, j2⟩ | ⟨i2, hi2, rfl, j2, j3⟩
      · have HRr := hid (HR0r.out.trans (show pgidW t pid who group0 = (t, 5) by unfold pgidW; rw [h2, j2]))
        clear h2 h3 j2
        go_wp2
        have hfz := HF2.out.then_ ((((Fr.refl (At (w.heap.size + 1)) w2).setAt 0 (.slice A t.l.length c)).setAt 1 (.int .i64 t.nx)).setAt 2 (.slice A2 F.length c2)) (fun k e => .inr (by have e' : k = w.heap.size + 1 := e; omega))
        have hne : ∀ k, OwnB (.slice A t.l.length c) k → ¬ At (w.heap.size + 1) k := fun k hk e => Row.not_blk HR2.out.l HZ2.out (by decide) (by have e' : k = w.heap.size + 1 := e; rw [← e']; exact hk)
        have hne2 : ∀ k, OwnB (.slice A2 F.length c2) k → ¬ At (w.heap.size + 1) k := fun k hk e => Row.not_blk HR2.out.f HZ2.out (by decide) (by have e' : k = w.heap.size + 1 := e; rw [← e']; exact hk)
        rw [HRr.out]
        refine bodyPost_ret (v := .tuple #[rtv (.slice A t.l.length c) t.nx (.slice A2 F.length c2), .int .i64 5]) (by simp [results, Try.results39, go_sem, z0, z1, z2, rtv]) rfl ⟨_, _, F, rfl, HR2.out.fr ((((Fr.refl (At (w.heap.size + 1)) w2).setAt 0 _).setAt 1 _).setAt 2 _) hne hne2, hfz, fun k hk => .inl hk, fun k hk => .inl hk⟩
      have HRr := hid (HR0r.out.trans (show pgidW t pid who group0 = (if (who != pid && t.l[i2].par != pid) = true then (t, 5) else if group0 < 0 then (t, 1) else if (t.l[i2].ses == who || t.l[i2].ses != t.l[i].ses || (grpOf who group0 != who && !hasG t.l (grpOf who group0) t.l[i2].ses)) = true then (t, 8) else (⟨t.l.set i2 (grpP t.l[i2] (grpOf who group0)), t.nx, t.f⟩, 0)) by
        unfold pgidW
        rw [h2, j2]
        simp only [j3]
        rfl))
      have HHas := hid fun W (hW : Fr NoB w W) => rHas_any W _ _ t.nx t F (grpOf who group0) t.l[i2].ses (HRW.out.frd hW) (by have := HL.out; omega)
      unfold rtv at HHas
      clear h2 h3 j2 j3 HR0r HCI HCK HAtI HAtK
      obtain ⟨g, c9, h9, _⟩ := PrR.at_ HR2.out.l i hi
      obtain rfl : A = some ⟨g, 0, none⟩ := by injection h9
      clear h9
      obtain ⟨d0, d1, d2, d3, d4, d5⟩ := PrR.at2 HR2.out.l i hi
      obtain ⟨f0, f1, f2, f3, f4, f5⟩ := PrR.at2 HR2.out.l i2 hi2
      obtain ⟨b42, hb42⟩ : ∃ b, b = (who != pid && t.l[i2].par != pid) := ⟨_, rfl⟩
      have HB42 := hid hb42
      rw [← hb42] at HRr
      clear hb42
      go_upto_region 4 with (fail)
      go_cut [42] (fun s42 wx => s42 = .bool b42 ∧ wx = w2)
      case first =>
        have hb := HB42.out
        cases e1 : (who != pid)
        · rw [e1] at hb
          obtain rfl : b42 = false := hb
          go_wp2_with fail
          go_meet
          exact ⟨rfl, rfl⟩
        · cases e2 : (t.l[i2].par != pid)
          · rw [e1, e2] at hb
            obtain rfl : b42 = false := hb
            go_wp2_with fail
            go_meet
            exact ⟨rfl, rfl⟩
          · rw [e1, e2] at hb
            obtain rfl : b42 = true := hb
            go_wp2_with fail
            go_meet
            exact ⟨rfl, rfl⟩
      case rest =>
        obtain ⟨rfl, hwc2⟩ := hcut
        have hwc3 := hwc2.symm
        clear hwc2
        subst hwc3
        cases b42
        rotate_left
        · have HRr := hid (HRr.out.trans (if_pos rfl))
          go_wp2
          have hfz := HF2.out.then_ ((((Fr.refl (At (w.heap.size + 1)) w2).setAt 0 (.slice (some ⟨g, 0, none⟩) t.l.length c)).setAt 1 (.int .i64 t.nx)).setAt 2 (.slice A2 F.length c2)) (fun k e => .inr (by have e' : k = w.heap.size + 1 := e; omega))
          have hne : ∀ k, OwnB (.slice (some ⟨g, 0, none⟩) t.l.length c) k → ¬ At (w.heap.size + 1) k := fun k hk e => Row.not_blk HR2.out.l HZ2.out (by decide) (by have e' : k = w.heap.size + 1 := e; rw [← e']; exact hk)
          have hne2 : ∀ k, OwnB (.slice A2 F.length c2) k → ¬ At (w.heap.size + 1) k := fun k hk e => Row.not_blk HR2.out.f HZ2.out (by decide) (by have e' : k = w.heap.size + 1 := e; rw [← e']; exact hk)
          rw [HRr.out]
          refine bodyPost_ret (v := .tuple #[rtv (.slice (some ⟨g, 0, none⟩) t.l.length c) t.nx (.slice A2 F.length c2), .int .i64 5]) (by simp [results, Try.results39, go_sem, z0, z1, z2, rtv]) rfl ⟨_, _, F, rfl, HR2.out.fr ((((Fr.refl (At (w.heap.size + 1)) w2).setAt 0 _).setAt 1 _).setAt 2 _) hne hne2, hfz, fun k hk => .inl hk, fun k hk => .inl hk⟩
        have HRr := hid (HRr.out.trans (if_neg (by decide)))
        clear HB42
        by_cases hg : group0 < 0
        · have HRr := hid (HRr.out.trans (if_pos hg))
          go_wp2
          have hfz := HF2.out.then_ ((((Fr.refl (At (w.heap.size + 1)) w2).setAt 0 (.slice (some ⟨g, 0, none⟩) t.l.length c)).setAt 1 (.int .i64 t.nx)).setAt 2 (.slice A2 F.length c2)) (fun k e => .inr (by have e' : k = w.heap.size + 1 := e; omega))
          have hne : ∀ k, OwnB (.slice (some ⟨g, 0, none⟩) t.l.length c) k → ¬ At (w.heap.size + 1) k := fun k hk e => Row.not_blk HR2.out.l HZ2.out (by decide) (by have e' : k = w.heap.size + 1 := e; rw [← e']; exact hk)
          have hne2 : ∀ k, OwnB (.slice A2 F.length c2) k → ¬ At (w.heap.size + 1) k := fun k hk e => Row.not_blk HR2.out.f HZ2.out (by decide) (by have e' : k = w.heap.size + 1 := e; rw [← e']; exact hk)
          rw [HRr.out]
          refine bodyPost_ret (v := .tuple #[rtv (.slice (some ⟨g, 0, none⟩) t.l.length c) t.nx (.slice A2 F.length c2), .int .i64 1]) (by simp [results, Try.results39, go_sem, z0, z1, z2, rtv]) rfl ⟨_, _, F, rfl, HR2.out.fr ((((Fr.refl (At (w.heap.size + 1)) w2).setAt 0 _).setAt 1 _).setAt 2 _) hne hne2, hfz, fun k hk => .inl hk, fun k hk => .inl hk⟩
        have HRr := hid (HRr.out.trans (if_neg hg))
        by_cases hz : group0 = 0
        · subst hz
          have hGe : grpOf who 0 = who := if_pos rfl
          rw [hGe] at HHas HRr
          clear hGe
          have c3 : (who != who) = false := by simp
          cases c1 : (t.l[i2].ses == who)
          · cases c2' : (t.l[i2].ses != t.l[i].ses)
            · have HRr := hid (HRr.out.trans (if_neg (by simp [c1, c2', c3])))
              go_wp2_with fail
              have HFQ2 := hid ((Fr.refl NoB w2).alloc (.cells #[.int .i64 t.l[i2].pid, .int .i64 t.l[i2].par, .int .i64 t.l[i2].grp, .int .i64 t.l[i2].ses, .int .i64 t.l[i2].tty, .bool t.l[i2].deaf] 51))
              have HQ2 := hid (Blk.new w2 51 t.l[i2].cells)
              clear b0 b1 b2 z0 z1 z2 y0 y1 y2 yl bl
              clear d0 d1 d2 d3 d4 d5 f0 f1 f2 f3 f4 f5
              have hq := HQ2.out
              have q3 := hq.cell 3 rfl
              clear hq
              have e0 := (HB2.out.fr HFQ2.out (fun h => h)).cell 0 rfl
              have e3 := (PrR.at2 (HR2.out.frd HFQ2.out).l i hi).2.2.2.1
              go_wp2
              go_quiet (fail)
              rename_i nq
              generalize hw3 : World.drewN _ nq = w3
              have hfn : Fr NoB w2 w3 := by rw [← hw3]; exact HFQ2.out.drewN nq
              have HQ3 : Hid (Blk w3 w2.heap.size 51 t.l[i2].cells) := hid (by rw [← hw3]; exact HQ2.out.fr ((Fr.refl NoB _).drewN nq) (fun h => h))
              clear e0 e3
              have HF23 := hid hfn
              have HF3 := hid (HF2.out.trans hfn)
              have HR3 := hid (HR2.out.frd hfn)
              have HB3 := hid (HB2.out.fr hfn (fun h => h))
              have HZ3 := hid (HZ2.out.fr hfn (fun h => h))
              clear hfn
              have hb := HB3.out
              have hz := HZ3.out
              have b0 := hb.cell 0 rfl
              have b1 := hb.cell 1 rfl
              have b2 := hb.cell 2 rfl
              have z0 := hz.cell 0 rfl
              have z1 := hz.cell 1 rfl
              have z2 := hz.cell 2 rfl
              have y0 := hz.frozen 0
              have y1 := hz.frozen 1
              have y2 := hz.frozen 2
              have yl := hz.lt
              have bl := hb.lt
              clear hb hz
              have hq := HQ3.out
              have q0 := hq.cell 0 rfl
              have q1 := hq.cell 1 rfl
              have q2 := hq.cell 2 rfl
              have q3' := hq.cell 3 rfl
              have q4 := hq.cell 4 rfl
              have q5 := hq.cell 5 rfl
              have x2 := hq.frozen 2
              have x4 := hq.lt
              clear hq
              have n02 : w.heap.size ≠ w2.heap.size := by have := HB2.out.lt; omega
              go_wp2_with fail
              refine Calls.mono (rWith_any _ _ _ t.nx t F i2 (grpP t.l[i2] who) (HR2.out.frd (HF23.out.setCell (p := ⟨w2.heap.size, 2, none⟩) (.inr (Nat.le_refl _)) (.int .i64 who))) HL.out hi2) ?_
              rintro e' w4 ⟨v4, rfl, hr4, hf4⟩
              obtain ⟨A4, c4, hv4, _⟩ := hr4.shape
              rw [List.length_set] at hv4
              subst hv4
              unfold rtv
              have hfn := (HF23.out.setCell (p := ⟨w2.heap.size, 2, none⟩) (.inr (Nat.le_refl _)) (.int .i64 who)).trans hf4
              have HSZ : Hid (w.heap.size ≤ _) := hid (HF2.out.trans (HF23.out.setCell (p := ⟨w2.heap.size, 2, none⟩) (.inr (Nat.le_refl _)) (.int .i64 who))).size
              have HF4 := hid (HF2.out.trans hfn)
              have HZ4 := hid (HZ2.out.fr hfn (fun h => h))
              have HR4 := hid (HR2.out.up hr4 hfn t.nx)
              have HV4 := hid hr4.ge
              clear hfn hf4 hr4 q0 q1 q2 q3' q4 q5 x2 x4
              clear b0 b1 b2 z0 z1 z2 y0 y1 y2 yl bl
              have hz := HZ4.out
              have z0 := hz.cell 0 rfl
              have z1 := hz.cell 1 rfl
              have z2 := hz.cell 2 rfl
              have y0 := hz.frozen 0
              have y1 := hz.frozen 1
              have y2 := hz.frozen 2
              have yl := hz.lt
              clear hz
              go_wp2
              have hfz := HF4.out.then_ ((((Fr.refl (At (w.heap.size + 1)) w4).setAt 0 (.slice A4 t.l.length c4)).setAt 1 (.int .i64 t.nx)).setAt 2 (.slice A2 F.length c2)) (fun k e => .inr (by have e' : k = w.heap.size + 1 := e; omega))
              have hne : ∀ k, OwnB (.slice A4 t.l.length c4) k → ¬ At (w.heap.size + 1) k := fun k hk e => Row.not_blk HR4.out.l HZ4.out (by decide) (by have e' : k = w.heap.size + 1 := e; rw [← e']; exact hk)
              have hne2 : ∀ k, OwnB (.slice A2 F.length c2) k → ¬ At (w.heap.size + 1) k := fun k hk e => Row.not_blk HR4.out.f HZ4.out (by decide) (by have e' : k = w.heap.size + 1 := e; rw [← e']; exact hk)
              rw [HRr.out]
              refine bodyPost_ret (v := .tuple #[rtv (.slice A4 t.l.length c4) t.nx (.slice A2 F.length c2), .int .i64 0]) (by simp [results, Try.results39, go_sem, z0, z1, z2, rtv]) rfl ⟨_, _, F, rfl, HR4.out.fr ((((Fr.refl (At (w.heap.size + 1)) w4).setAt 0 _).setAt 1 _).setAt 2 _) hne hne2, hfz, fun k hk => .inr (Nat.le_trans HSZ.out (HV4.out k hk)), fun k hk => .inl hk⟩
            · have HRr := hid (HRr.out.trans (if_pos (by simp [*])))
              go_wp2_with fail
              have HFQ2 := hid ((Fr.refl NoB w2).alloc (.cells #[.int .i64 t.l[i2].pid, .int .i64 t.l[i2].par, .int .i64 t.l[i2].grp, .int .i64 t.l[i2].ses, .int .i64 t.l[i2].tty, .bool t.l[i2].deaf] 51))
              have HQ2 := hid (Blk.new w2 51 t.l[i2].cells)
              clear b0 b1 b2 z0 z1 z2 y0 y1 y2 yl bl
              clear d0 d1 d2 d3 d4 d5 f0 f1 f2 f3 f4 f5
              have hq := HQ2.out
              have q3 := hq.cell 3 rfl
              clear hq
              have e0 := (HB2.out.fr HFQ2.out (fun h => h)).cell 0 rfl
              have e3 := (PrR.at2 (HR2.out.frd HFQ2.out).l i hi).2.2.2.1
              go_wp2
              go_quiet (fail)
              rename_i nq
              generalize hw3 : World.drewN _ nq = w3
              have hfn : Fr NoB w2 w3 := by rw [← hw3]; exact HFQ2.out.drewN nq
              have HQ3 : Hid (Blk w3 w2.heap.size 51 t.l[i2].cells) := hid (by rw [← hw3]; exact HQ2.out.fr ((Fr.refl NoB _).drewN nq) (fun h => h))
              clear e0 e3
              have HF23 := hid hfn
              have HF3 := hid (HF2.out.trans hfn)
              have HR3 := hid (HR2.out.frd hfn)
              have HB3 := hid (HB2.out.fr hfn (fun h => h))
              have HZ3 := hid (HZ2.out.fr hfn (fun h => h))
              clear hfn
              have hb := HB3.out
              have hz := HZ3.out
              have b0 := hb.cell 0 rfl
              have b1 := hb.cell 1 rfl
              have b2 := hb.cell 2 rfl
              have z0 := hz.cell 0 rfl
              have z1 := hz.cell 1 rfl
              have z2 := hz.cell 2 rfl
              have y0 := hz.frozen 0
              have y1 := hz.frozen 1
              have y2 := hz.frozen 2
              have yl := hz.lt
              have bl := hb.lt
              clear hb hz
              go_wp2
              have hfz := HF3.out.then_ ((((Fr.refl (At (w.heap.size + 1)) w3).setAt 0 (.slice (some ⟨g, 0, none⟩) t.l.length c)).setAt 1 (.int .i64 t.nx)).setAt 2 (.slice A2 F.length c2)) (fun k e => .inr (by have e' : k = w.heap.size + 1 := e; omega))
              have hne : ∀ k, OwnB (.slice (some ⟨g, 0, none⟩) t.l.length c) k → ¬ At (w.heap.size + 1) k := fun k hk e => Row.not_blk HR3.out.l HZ3.out (by decide) (by have e' : k = w.heap.size + 1 := e; rw [← e']; exact hk)
              have hne2 : ∀ k, OwnB (.slice A2 F.length c2) k → ¬ At (w.heap.size + 1) k := fun k hk e => Row.not_blk HR3.out.f HZ3.out (by decide) (by have e' : k = w.heap.size + 1 := e; rw [← e']; exact hk)
              rw [HRr.out]
              refine bodyPost_ret (v := .tuple #[rtv (.slice (some ⟨g, 0, none⟩) t.l.length c) t.nx (.slice A2 F.length c2), .int .i64 8]) (by simp [results, Try.results39, go_sem, z0, z1, z2, rtv]) rfl ⟨_, _, F, rfl, HR3.out.fr ((((Fr.refl (At (w.heap.size + 1)) w3).setAt 0 _).setAt 1 _).setAt 2 _) hne hne2, hfz, fun k hk => .inl hk, fun k hk => .inl hk⟩
          · have HRr := hid (HRr.out.trans (if_pos (by simp [*])))
            go_wp2_with fail
            have HFQ2 := hid ((Fr.refl NoB w2).alloc (.cells #[.int .i64 t.l[i2].pid, .int .i64 t.l[i2].par, .int .i64 t.l[i2].grp, .int .i64 t.l[i2].ses, .int .i64 t.l[i2].tty, .bool t.l[i2].deaf] 51))
            have HQ2 := hid (Blk.new w2 51 t.l[i2].cells)
            clear b0 b1 b2 z0 z1 z2 y0 y1 y2 yl bl
            clear d0 d1 d2 d3 d4 d5 f0 f1 f2 f3 f4 f5
            have hq := HQ2.out
            have q3 := hq.cell 3 rfl
            clear hq
            have e0 := (HB2.out.fr HFQ2.out (fun h => h)).cell 0 rfl
            have e3 := (PrR.at2 (HR2.out.frd HFQ2.out).l i hi).2.2.2.1
            go_wp2
            go_quiet (fail)
            rename_i nq
            generalize hw3 : World.drewN _ nq = w3
            have hfn : Fr NoB w2 w3 := by rw [← hw3]; exact HFQ2.out.drewN nq
            have HQ3 : Hid (Blk w3 w2.heap.size 51 t.l[i2].cells) := hid (by rw [← hw3]; exact HQ2.out.fr ((Fr.refl NoB _).drewN nq) (fun h => h))
            clear e0 e3
            have HF23 := hid hfn
            have HF3 := hid (HF2.out.trans hfn)
            have HR3 := hid (HR2.out.frd hfn)
            have HB3 := hid (HB2.out.fr hfn (fun h => h))
            have HZ3 := hid (HZ2.out.fr hfn (fun h => h))
            clear hfn
            have hb := HB3.out
            have hz := HZ3.out
            have b0 := hb.cell 0 rfl
            have b1 := hb.cell 1 rfl
            have b2 := hb.cell 2 rfl
            have z0 := hz.cell 0 rfl
            have z1 := hz.cell 1 rfl
            have z2 := hz.cell 2 rfl
            have y0 := hz.frozen 0
            have y1 := hz.frozen 1
            have y2 := hz.frozen 2
            have yl := hz.lt
            have bl := hb.lt
            clear hb hz
            go_wp2
            have hfz := HF3.out.then_ ((((Fr.refl (At (w.heap.size + 1)) w3).setAt 0 (.slice (some ⟨g, 0, none⟩) t.l.length c)).setAt 1 (.int .i64 t.nx)).setAt 2 (.slice A2 F.length c2)) (fun k e => .inr (by have e' : k = w.heap.size + 1 := e; omega))
            have hne : ∀ k, OwnB (.slice (some ⟨g, 0, none⟩) t.l.length c) k → ¬ At (w.heap.size + 1) k := fun k hk e => Row.not_blk HR3.out.l HZ3.out (by decide) (by have e' : k = w.heap.size + 1 := e; rw [← e']; exact hk)
            have hne2 : ∀ k, OwnB (.slice A2 F.length c2) k → ¬ At (w.heap.size + 1) k := fun k hk e => Row.not_blk HR3.out.f HZ3.out (by decide) (by have e' : k = w.heap.size + 1 := e; rw [← e']; exact hk)
            rw [HRr.out]
            refine bodyPost_ret (v := .tuple #[rtv (.slice (some ⟨g, 0, none⟩) t.l.length c) t.nx (.slice A2 F.length c2), .int .i64 8]) (by simp [results, Try.results39, go_sem, z0, z1, z2, rtv]) rfl ⟨_, _, F, rfl, HR3.out.fr ((((Fr.refl (At (w.heap.size + 1)) w3).setAt 0 _).setAt 1 _).setAt 2 _) hne hne2, hfz, fun k hk => .inl hk, fun k hk => .inl hk⟩
        · have g0 : (group0 == 0) = false := by simpa using hz
          have hGe : grpOf who group0 = group0 := if_neg hz
          rw [hGe] at HHas HRr
          clear hGe hz
          cases c1 : (t.l[i2].ses == who)
          · cases c2' : (t.l[i2].ses != t.l[i].ses)
            · cases c3 : (group0 != who)
              · have HRr := hid (HRr.out.trans (if_neg (by simp [c1, c2', c3])))
                go_wp2_with fail
                have HFQ2 := hid ((Fr.refl NoB w2).alloc (.cells #[.int .i64 t.l[i2].pid, .int .i64 t.l[i2].par, .int .i64 t.l[i2].grp, .int .i64 t.l[i2].ses, .int .i64 t.l[i2].tty, .bool t.l[i2].deaf] 51))
                have HQ2 := hid (Blk.new w2 51 t.l[i2].cells)
                clear b0 b1 b2 z0 z1 z2 y0 y1 y2 yl bl
                clear d0 d1 d2 d3 d4 d5 f0 f1 f2 f3 f4 f5
                have hq := HQ2.out
                have q3 := hq.cell 3 rfl
                clear hq
                have e0 := (HB2.out.fr HFQ2.out (fun h => h)).cell 0 rfl
                have e3 := (PrR.at2 (HR2.out.frd HFQ2.out).l i hi).2.2.2.1
                go_wp2
                go_quiet (fail)
                rename_i nq
                generalize hw3 : World.drewN _ nq = w3
                have hfn : Fr NoB w2 w3 := by rw [← hw3]; exact HFQ2.out.drewN nq
                have HQ3 : Hid (Blk w3 w2.heap.size 51 t.l[i2].cells) := hid (by rw [← hw3]; exact HQ2.out.fr ((Fr.refl NoB _).drewN nq) (fun h => h))
                clear e0 e3
                have HF23 := hid hfn
                have HF3 := hid (HF2.out.trans hfn)
                have HR3 := hid (HR2.out.frd hfn)
                have HB3 := hid (HB2.out.fr hfn (fun h => h))
                have HZ3 := hid (HZ2.out.fr hfn (fun h => h))
                clear hfn
                have hb := HB3.out
                have hz := HZ3.out
                have b0 := hb.cell 0 rfl
                have b1 := hb.cell 1 rfl
                have b2 := hb.cell 2 rfl
                have z0 := hz.cell 0 rfl
                have z1 := hz.cell 1 rfl
                have z2 := hz.cell 2 rfl
                have y0 := hz.frozen 0
                have y1 := hz.frozen 1
                have y2 := hz.frozen 2
                have yl := hz.lt
                have bl := hb.lt
                clear hb hz
                have hq := HQ3.out
                have q0 := hq.cell 0 rfl
                have q1 := hq.cell 1 rfl
                have q2 := hq.cell 2 rfl
                have q3' := hq.cell 3 rfl
                have q4 := hq.cell 4 rfl
                have q5 := hq.cell 5 rfl
                have x2 := hq.frozen 2
                have x4 := hq.lt
                clear hq
                have n02 : w.heap.size ≠ w2.heap.size := by have := HB2.out.lt; omega
                go_wp2_with fail
                refine Calls.mono (rWith_any _ _ _ t.nx t F i2 (grpP t.l[i2] group0) (HR2.out.frd (HF23.out.setCell (p := ⟨w2.heap.size, 2, none⟩) (.inr (Nat.le_refl _)) (.int .i64 group0))) HL.out hi2) ?_
                rintro e' w4 ⟨v4, rfl, hr4, hf4⟩
                obtain ⟨A4, c4, hv4, _⟩ := hr4.shape
                rw [List.length_set] at hv4
                subst hv4
                unfold rtv
                have hfn := (HF23.out.setCell (p := ⟨w2.heap.size, 2, none⟩) (.inr (Nat.le_refl _)) (.int .i64 group0)).trans hf4
                have HSZ : Hid (w.heap.size ≤ _) := hid (HF2.out.trans (HF23.out.setCell (p := ⟨w2.heap.size, 2, none⟩) (.inr (Nat.le_refl _)) (.int .i64 group0))).size
                have HF4 := hid (HF2.out.trans hfn)
                have HZ4 := hid (HZ2.out.fr hfn (fun h => h))
                have HR4 := hid (HR2.out.up hr4 hfn t.nx)
                have HV4 := hid hr4.ge
                clear hfn hf4 hr4 q0 q1 q2 q3' q4 q5 x2 x4
                clear b0 b1 b2 z0 z1 z2 y0 y1 y2 yl bl
                have hz := HZ4.out
                have z0 := hz.cell 0 rfl
                have z1 := hz.cell 1 rfl
                have z2 := hz.cell 2 rfl
                have y0 := hz.frozen 0
                have y1 := hz.frozen 1
                have y2 := hz.frozen 2
                have yl := hz.lt
                clear hz
                go_wp2
                have hfz := HF4.out.then_ ((((Fr.refl (At (w.heap.size + 1)) w4).setAt 0 (.slice A4 t.l.length c4)).setAt 1 (.int .i64 t.nx)).setAt 2 (.slice A2 F.length c2)) (fun k e => .inr (by have e' : k = w.heap.size + 1 := e; omega))
                have hne : ∀ k, OwnB (.slice A4 t.l.length c4) k → ¬ At (w.heap.size + 1) k := fun k hk e => Row.not_blk HR4.out.l HZ4.out (by decide) (by have e' : k = w.heap.size + 1 := e; rw [← e']; exact hk)
                have hne2 : ∀ k, OwnB (.slice A2 F.length c2) k → ¬ At (w.heap.size + 1) k := fun k hk e => Row.not_blk HR4.out.f HZ4.out (by decide) (by have e' : k = w.heap.size + 1 := e; rw [← e']; exact hk)
                rw [HRr.out]
                refine bodyPost_ret (v := .tuple #[rtv (.slice A4 t.l.length c4) t.nx (.slice A2 F.length c2), .int .i64 0]) (by simp [results, Try.results39, go_sem, z0, z1, z2, rtv]) rfl ⟨_, _, F, rfl, HR4.out.fr ((((Fr.refl (At (w.heap.size + 1)) w4).setAt 0 _).setAt 1 _).setAt 2 _) hne hne2, hfz, fun k hk => .inr (Nat.le_trans HSZ.out (HV4.out k hk)), fun k hk => .inl hk⟩
              · cases hh : hasG t.l group0 t.l[i2].ses
                · rw [hh] at HHas
                  have HRr := hid (HRr.out.trans (if_pos (by simp [*])))
                  clear hh
                  go_wp2_with fail
                  have HFQ2 := hid ((Fr.refl NoB w2).alloc (.cells #[.int .i64 t.l[i2].pid, .int .i64 t.l[i2].par, .int .i64 t.l[i2].grp, .int .i64 t.l[i2].ses, .int .i64 t.l[i2].tty, .bool t.l[i2].deaf] 51))
                  have HQ2 := hid (Blk.new w2 51 t.l[i2].cells)
                  clear b0 b1 b2 z0 z1 z2 y0 y1 y2 yl bl
                  clear d0 d1 d2 d3 d4 d5 f0 f1 f2 f3 f4 f5
                  have hq := HQ2.out
                  have q3 := hq.cell 3 rfl
                  clear hq
                  have HSq : Hid (∀ W, Fr NoB (w2.alloc (.cells #[.int .i64 t.l[i2].pid, .int .i64 t.l[i2].par, .int .i64 t.l[i2].grp, .int .i64 t.l[i2].ses, .int .i64 t.l[i2].tty, .bool t.l[i2].deaf] 51)) W → W.cell? ⟨w2.heap.size, 3, none⟩ = some (.int .i64 t.l[i2].ses) ∧ W.cell? ⟨w.heap.size, 0, none⟩ = some (.slice (some ⟨g, 0, none⟩) t.l.length c) ∧ W.cell? ⟨w.heap.size, 1, none⟩ = some (.int .i64 t.nx) ∧ W.cell? ⟨w.heap.size, 2, none⟩ = some (.slice A2 F.length c2) ∧ W.cell? ⟨g, i * 6 + 3, none⟩ = some (.int .i64 t.l[i].ses)) := hid fun W hW => ⟨(HQ2.out.fr hW (fun h => h)).cell 3 rfl, (HB2.out.fr (HFQ2.out.trans hW) (fun h => h)).cell 0 rfl, (HB2.out.fr (HFQ2.out.trans hW) (fun h => h)).cell 1 rfl, (HB2.out.fr (HFQ2.out.trans hW) (fun h => h)).cell 2 rfl, (PrR.at2 (HR2.out.frd (HFQ2.out.trans hW)).l i hi).2.2.2.1⟩
                  have HFE := hid (Fr.drew (Fr.refl NoB (w2.alloc (.cells #[.int .i64 t.l[i2].pid, .int .i64 t.l[i2].par, .int .i64 t.l[i2].grp, .int .i64 t.l[i2].ses, .int .i64 t.l[i2].tty, .bool t.l[i2].deaf] 51))))
                  go_wp2_with fail
                  go_region_held3 (fun W : World => W.cell? ⟨w2.heap.size, 3, none⟩ = some (.int .i64 t.l[i2].ses) ∧ W.cell? ⟨w.heap.size, 0, none⟩ = some (.slice (some ⟨g, 0, none⟩) t.l.length c) ∧ W.cell? ⟨w.heap.size, 1, none⟩ = some (.int .i64 t.nx) ∧ W.cell? ⟨w.heap.size, 2, none⟩ = some (.slice A2 F.length c2) ∧ W.cell? ⟨g, i * 6 + 3, none⟩ = some (.int .i64 t.l[i].ses)) (first | exact HSq.out _ HFG.out | exact HSq.out _ HFE.out | fail) (first | (go_at_call 48; refine (HHas.out _ (HF2.out.trans (HFQ2.out.trans HFE.out))).mono ?_; rintro e' w3 ⟨rfl, hf3⟩; have HFG := hid (HFE.out.trans hf3); clear hf3) | fail)
                  have hfn : Fr NoB w2 w3 := HFQ2.out.trans HFG.out
                  have HQ3 := hid (HQ2.out.fr HFG.out (fun h => h))
                  have HF23 := hid hfn
                  have HF3 := hid (HF2.out.trans hfn)
                  have HR3 := hid (HR2.out.frd hfn)
                  have HB3 := hid (HB2.out.fr hfn (fun h => h))
                  have HZ3 := hid (HZ2.out.fr hfn (fun h => h))
                  clear hfn
                  have hb := HB3.out
                  have hz := HZ3.out
                  have b0 := hb.cell 0 rfl
                  have b1 := hb.cell 1 rfl
                  have b2 := hb.cell 2 rfl
                  have z0 := hz.cell 0 rfl
                  have z1 := hz.cell 1 rfl
                  have z2 := hz.cell 2 rfl
                  have y0 := hz.frozen 0
                  have y1 := hz.frozen 1
                  have y2 := hz.frozen 2
                  have yl := hz.lt
                  have bl := hb.lt
                  clear hb hz
                  go_wp2
                  have hfz := HF3.out.then_ ((((Fr.refl (At (w.heap.size + 1)) w3).setAt 0 (.slice (some ⟨g, 0, none⟩) t.l.length c)).setAt 1 (.int .i64 t.nx)).setAt 2 (.slice A2 F.length c2)) (fun k e => .inr (by have e' : k = w.heap.size + 1 := e; omega))
                  have hne : ∀ k, OwnB (.slice (some ⟨g, 0, none⟩) t.l.length c) k → ¬ At (w.heap.size + 1) k := fun k hk e => Row.not_blk HR3.out.l HZ3.out (by decide) (by have e' : k = w.heap.size + 1 := e; rw [← e']; exact hk)
                  have hne2 : ∀ k, OwnB (.slice A2 F.length c2) k → ¬ At (w.heap.size + 1) k := fun k hk e => Row.not_blk HR3.out.f HZ3.out (by decide) (by have e' : k = w.heap.size + 1 := e; rw [← e']; exact hk)
                  rw [HRr.out]
                  refine bodyPost_ret (v := .tuple #[rtv (.slice (some ⟨g, 0, none⟩) t.l.length c) t.nx (.slice A2 F.length c2), .int .i64 8]) (by simp [results, Try.results39, go_sem, z0, z1, z2, rtv]) rfl ⟨_, _, F, rfl, HR3.out.fr ((((Fr.refl (At (w.heap.size + 1)) w3).setAt 0 _).setAt 1 _).setAt 2 _) hne hne2, hfz, fun k hk => .inl hk, fun k hk => .inl hk⟩
                · rw [hh] at HHas
                  have HRr := hid (HRr.out.trans (if_neg (by simp [c1, c2', c3, hh])))
                  clear hh
                  go_wp2_with fail
                  have HFQ2 := hid ((Fr.refl NoB w2).alloc (.cells #[.int .i64 t.l[i2].pid, .int .i64 t.l[i2].par, .int .i64 t.l[i2].grp, .int .i64 t.l[i2].ses, .int .i64 t.l[i2].tty, .bool t.l[i2].deaf] 51))
                  have HQ2 := hid (Blk.new w2 51 t.l[i2].cells)
                  clear b0 b1 b2 z0 z1 z2 y0 y1 y2 yl bl
                  clear d0 d1 d2 d3 d4 d5 f0 f1 f2 f3 f4 f5
                  have hq := HQ2.out
                  have q3 := hq.cell 3 rfl
                  clear hq
                  have HSq : Hid (∀ W, Fr NoB (w2.alloc (.cells #[.int .i64 t.l[i2].pid, .int .i64 t.l[i2].par, .int .i64 t.l[i2].grp, .int .i64 t.l[i2].ses, .int .i64 t.l[i2].tty, .bool t.l[i2].deaf] 51)) W → W.cell? ⟨w2.heap.size, 3, none⟩ = some (.int .i64 t.l[i2].ses) ∧ W.cell? ⟨w.heap.size, 0, none⟩ = some (.slice (some ⟨g, 0, none⟩) t.l.length c) ∧ W.cell? ⟨w.heap.size, 1, none⟩ = some (.int .i64 t.nx) ∧ W.cell? ⟨w.heap.size, 2, none⟩ = some (.slice A2 F.length c2) ∧ W.cell? ⟨g, i * 6 + 3, none⟩ = some (.int .i64 t.l[i].ses)) := hid fun W hW => ⟨(HQ2.out.fr hW (fun h => h)).cell 3 rfl, (HB2.out.fr (HFQ2.out.trans hW) (fun h => h)).cell 0 rfl, (HB2.out.fr (HFQ2.out.trans hW) (fun h => h)).cell 1 rfl, (HB2.out.fr (HFQ2.out.trans hW) (fun h => h)).cell 2 rfl, (PrR.at2 (HR2.out.frd (HFQ2.out.trans hW)).l i hi).2.2.2.1⟩
                  have HFE := hid (Fr.drew (Fr.refl NoB (w2.alloc (.cells #[.int .i64 t.l[i2].pid, .int .i64 t.l[i2].par, .int .i64 t.l[i2].grp, .int .i64 t.l[i2].ses, .int .i64 t.l[i2].tty, .bool t.l[i2].deaf] 51))))
                  go_wp2_with fail
                  go_region_held3 (fun W : World => W.cell? ⟨w2.heap.size, 3, none⟩ = some (.int .i64 t.l[i2].ses) ∧ W.cell? ⟨w.heap.size, 0, none⟩ = some (.slice (some ⟨g, 0, none⟩) t.l.length c) ∧ W.cell? ⟨w.heap.size, 1, none⟩ = some (.int .i64 t.nx) ∧ W.cell? ⟨w.heap.size, 2, none⟩ = some (.slice A2 F.length c2) ∧ W.cell? ⟨g, i * 6 + 3, none⟩ = some (.int .i64 t.l[i].ses)) (first | exact HSq.out _ HFG.out | exact HSq.out _ HFE.out | fail) (first | (go_at_call 48; refine (HHas.out _ (HF2.out.trans (HFQ2.out.trans HFE.out))).mono ?_; rintro e' w3 ⟨rfl, hf3⟩; have HFG := hid (HFE.out.trans hf3); clear hf3) | fail)
                  have hfn : Fr NoB w2 w3 := HFQ2.out.trans HFG.out
                  have HQ3 := hid (HQ2.out.fr HFG.out (fun h => h))
                  have HF23 := hid hfn
                  have HF3 := hid (HF2.out.trans hfn)
                  have HR3 := hid (HR2.out.frd hfn)
                  have HB3 := hid (HB2.out.fr hfn (fun h => h))
                  have HZ3 := hid (HZ2.out.fr hfn (fun h => h))
                  clear hfn
                  have hb := HB3.out
                  have hz := HZ3.out
                  have b0 := hb.cell 0 rfl
                  have b1 := hb.cell 1 rfl
                  have b2 := hb.cell 2 rfl
                  have z0 := hz.cell 0 rfl
                  have z1 := hz.cell 1 rfl
                  have z2 := hz.cell 2 rfl
                  have y0 := hz.frozen 0
                  have y1 := hz.frozen 1
                  have y2 := hz.frozen 2
                  have yl := hz.lt
                  have bl := hb.lt
                  clear hb hz
                  have hq := HQ3.out
                  have q0 := hq.cell 0 rfl
                  have q1 := hq.cell 1 rfl
                  have q2 := hq.cell 2 rfl
                  have q3' := hq.cell 3 rfl
                  have q4 := hq.cell 4 rfl
                  have q5 := hq.cell 5 rfl
                  have x2 := hq.frozen 2
                  have x4 := hq.lt
                  clear hq
                  have n02 : w.heap.size ≠ w2.heap.size := by have := HB2.out.lt; omega
                  go_wp2_with fail
                  refine Calls.mono (rWith_any _ _ _ t.nx t F i2 (grpP t.l[i2] group0) (HR2.out.frd (HF23.out.setCell (p := ⟨w2.heap.size, 2, none⟩) (.inr (Nat.le_refl _)) (.int .i64 group0))) HL.out hi2) ?_
                  rintro e' w4 ⟨v4, rfl, hr4, hf4⟩
                  obtain ⟨A4, c4, hv4, _⟩ := hr4.shape
                  rw [List.length_set] at hv4
                  subst hv4
                  unfold rtv
                  have hfn := (HF23.out.setCell (p := ⟨w2.heap.size, 2, none⟩) (.inr (Nat.le_refl _)) (.int .i64 group0)).trans hf4
                  have HSZ : Hid (w.heap.size ≤ _) := hid (HF2.out.trans (HF23.out.setCell (p := ⟨w2.heap.size, 2, none⟩) (.inr (Nat.le_refl _)) (.int .i64 group0))).size
                  have HF4 := hid (HF2.out.trans hfn)
                  have HZ4 := hid (HZ2.out.fr hfn (fun h => h))
                  have HR4 := hid (HR2.out.up hr4 hfn t.nx)
                  have HV4 := hid hr4.ge
                  clear hfn hf4 hr4 q0 q1 q2 q3' q4 q5 x2 x4
                  clear b0 b1 b2 z0 z1 z2 y0 y1 y2 yl bl
                  have hz := HZ4.out
                  have z0 := hz.cell 0 rfl
                  have z1 := hz.cell 1 rfl
                  have z2 := hz.cell 2 rfl
                  have y0 := hz.frozen 0
                  have y1 := hz.frozen 1
                  have y2 := hz.frozen 2
                  have yl := hz.lt
                  clear hz
                  go_wp2
                  have hfz := HF4.out.then_ ((((Fr.refl (At (w.heap.size + 1)) w4).setAt 0 (.slice A4 t.l.length c4)).setAt 1 (.int .i64 t.nx)).setAt 2 (.slice A2 F.length c2)) (fun k e => .inr (by have e' : k = w.heap.size + 1 := e; omega))
                  have hne : ∀ k, OwnB (.slice A4 t.l.length c4) k → ¬ At (w.heap.size + 1) k := fun k hk e => Row.not_blk HR4.out.l HZ4.out (by decide) (by have e' : k = w.heap.size + 1 := e; rw [← e']; exact hk)
                  have hne2 : ∀ k, OwnB (.slice A2 F.length c2) k → ¬ At (w.heap.size + 1) k := fun k hk e => Row.not_blk HR4.out.f HZ4.out (by decide) (by have e' : k = w.heap.size + 1 := e; rw [← e']; exact hk)
                  rw [HRr.out]
                  refine bodyPost_ret (v := .tuple #[rtv (.slice A4 t.l.length c4) t.nx (.slice A2 F.length c2), .int .i64 0]) (by simp [results, Try.results39, go_sem, z0, z1, z2, rtv]) rfl ⟨_, _, F, rfl, HR4.out.fr ((((Fr.refl (At (w.heap.size + 1)) w4).setAt 0 _).setAt 1 _).setAt 2 _) hne hne2, hfz, fun k hk => .inr (Nat.le_trans HSZ.out (HV4.out k hk)), fun k hk => .inl hk⟩
            · have HRr := hid (HRr.out.trans (if_pos (by simp [*])))
              go_wp2_with fail
              have HFQ2 := hid ((Fr.refl NoB w2).alloc (.cells #[.int .i64 t.l[i2].pid, .int .i64 t.l[i2].par, .int .i64 t.l[i2].grp, .int .i64 t.l[i2].ses, .int .i64 t.l[i2].tty, .bool t.l[i2].deaf] 51))
              have HQ2 := hid (Blk.new w2 51 t.l[i2].cells)
              clear b0 b1 b2 z0 z1 z2 y0 y1 y2 yl bl
              clear d0 d1 d2 d3 d4 d5 f0 f1 f2 f3 f4 f5
              have hq := HQ2.out
              have q3 := hq.cell 3 rfl
              clear hq
              have e0 := (HB2.out.fr HFQ2.out (fun h => h)).cell 0 rfl
              have e3 := (PrR.at2 (HR2.out.frd HFQ2.out).l i hi).2.2.2.1
              go_wp2
              go_quiet (fail)
              rename_i nq
              generalize hw3 : World.drewN _ nq = w3
              have hfn : Fr NoB w2 w3 := by rw [← hw3]; exact HFQ2.out.drewN nq
              have HQ3 : Hid (Blk w3 w2.heap.size 51 t.l[i2].cells) := hid (by rw [← hw3]; exact HQ2.out.fr ((Fr.refl NoB _).drewN nq) (fun h => h))
              clear e0 e3
              have HF23 := hid hfn
              have HF3 := hid (HF2.out.trans hfn)
              have HR3 := hid (HR2.out.frd hfn)
              have HB3 := hid (HB2.out.fr hfn (fun h => h))
              have HZ3 := hid (HZ2.out.fr hfn (fun h => h))
              clear hfn
              have hb := HB3.out
              have hz := HZ3.out
              have b0 := hb.cell 0 rfl
              have b1 := hb.cell 1 rfl
              have b2 := hb.cell 2 rfl
              have z0 := hz.cell 0 rfl
              have z1 := hz.cell 1 rfl
              have z2 := hz.cell 2 rfl
              have y0 := hz.frozen 0
              have y1 := hz.frozen 1
              have y2 := hz.frozen 2
              have yl := hz.lt
              have bl := hb.lt
              clear hb hz
              go_wp2
              have hfz := HF3.out.then_ ((((Fr.refl (At (w.heap.size + 1)) w3).setAt 0 (.slice (some ⟨g, 0, none⟩) t.l.length c)).setAt 1 (.int .i64 t.nx)).setAt 2 (.slice A2 F.length c2)) (fun k e => .inr (by have e' : k = w.heap.size + 1 := e; omega))
              have hne : ∀ k, OwnB (.slice (some ⟨g, 0, none⟩) t.l.length c) k → ¬ At (w.heap.size + 1) k := fun k hk e => Row.not_blk HR3.out.l HZ3.out (by decide) (by have e' : k = w.heap.size + 1 := e; rw [← e']; exact hk)
              have hne2 : ∀ k, OwnB (.slice A2 F.length c2) k → ¬ At (w.heap.size + 1) k := fun k hk e => Row.not_blk HR3.out.f HZ3.out (by decide) (by have e' : k = w.heap.size + 1 := e; rw [← e']; exact hk)
              rw [HRr.out]
              refine bodyPost_ret (v := .tuple #[rtv (.slice (some ⟨g, 0, none⟩) t.l.length c) t.nx (.slice A2 F.length c2), .int .i64 8]) (by simp [results, Try.results39, go_sem, z0, z1, z2, rtv]) rfl ⟨_, _, F, rfl, HR3.out.fr ((((Fr.refl (At (w.heap.size + 1)) w3).setAt 0 _).setAt 1 _).setAt 2 _) hne hne2, hfz, fun k hk => .inl hk, fun k hk => .inl hk⟩
          · have HRr := hid (HRr.out.trans (if_pos (by simp [*])))
            go_wp2_with fail
            have HFQ2 := hid ((Fr.refl NoB w2).alloc (.cells #[.int .i64 t.l[i2].pid, .int .i64 t.l[i2].par, .int .i64 t.l[i2].grp, .int .i64 t.l[i2].ses, .int .i64 t.l[i2].tty, .bool t.l[i2].deaf] 51))
            have HQ2 := hid (Blk.new w2 51 t.l[i2].cells)
            clear b0 b1 b2 z0 z1 z2 y0 y1 y2 yl bl
            clear d0 d1 d2 d3 d4 d5 f0 f1 f2 f3 f4 f5
            have hq := HQ2.out
            have q3 := hq.cell 3 rfl
            clear hq
            have e0 := (HB2.out.fr HFQ2.out (fun h => h)).cell 0 rfl
            have e3 := (PrR.at2 (HR2.out.frd HFQ2.out).l i hi).2.2.2.1
            go_wp2
            go_quiet (fail)
            rename_i nq
            generalize hw3 : World.drewN _ nq = w3
            have hfn : Fr NoB w2 w3 := by rw [← hw3]; exact HFQ2.out.drewN nq
            have HQ3 : Hid (Blk w3 w2.heap.size 51 t.l[i2].cells) := hid (by rw [← hw3]; exact HQ2.out.fr ((Fr.refl NoB _).drewN nq) (fun h => h))
            clear e0 e3
            have HF23 := hid hfn
            have HF3 := hid (HF2.out.trans hfn)
            have HR3 := hid (HR2.out.frd hfn)
            have HB3 := hid (HB2.out.fr hfn (fun h => h))
            have HZ3 := hid (HZ2.out.fr hfn (fun h => h))
            clear hfn
            have hb := HB3.out
            have hz := HZ3.out
            have b0 := hb.cell 0 rfl
            have b1 := hb.cell 1 rfl
            have b2 := hb.cell 2 rfl
            have z0 := hz.cell 0 rfl
            have z1 := hz.cell 1 rfl
            have z2 := hz.cell 2 rfl
            have y0 := hz.frozen 0
            have y1 := hz.frozen 1
            have y2 := hz.frozen 2
            have yl := hz.lt
            have bl := hb.lt
            clear hb hz
            go_wp2
            have hfz := HF3.out.then_ ((((Fr.refl (At (w.heap.size + 1)) w3).setAt 0 (.slice (some ⟨g, 0, none⟩) t.l.length c)).setAt 1 (.int .i64 t.nx)).setAt 2 (.slice A2 F.length c2)) (fun k e => .inr (by have e' : k = w.heap.size + 1 := e; omega))
            have hne : ∀ k, OwnB (.slice (some ⟨g, 0, none⟩) t.l.length c) k → ¬ At (w.heap.size + 1) k := fun k hk e => Row.not_blk HR3.out.l HZ3.out (by decide) (by have e' : k = w.heap.size + 1 := e; rw [← e']; exact hk)
            have hne2 : ∀ k, OwnB (.slice A2 F.length c2) k → ¬ At (w.heap.size + 1) k := fun k hk e => Row.not_blk HR3.out.f HZ3.out (by decide) (by have e' : k = w.heap.size + 1 := e; rw [← e']; exact hk)
            rw [HRr.out]
            refine bodyPost_ret (v := .tuple #[rtv (.slice (some ⟨g, 0, none⟩) t.l.length c) t.nx (.slice A2 F.length c2), .int .i64 8]) (by simp [results, Try.results39, go_sem, z0, z1, z2, rtv]) rfl ⟨_, _, F, rfl, HR3.out.fr ((((Fr.refl (At (w.heap.size + 1)) w3).setAt 0 _).setAt 1 _).setAt 2 _) hne hne2, hfz, fun k hk => .inl hk, fun k hk => .inl hk⟩
  unfold pgidT
  by_cases h0 : who0 = 0
  · exact main _ rfl (.inl ⟨h0, by unfold whoOf; rw [if_pos h0]⟩)
  · exact main _ rfl (.inr ⟨h0, by unfold whoOf; rw [if_neg h0]⟩)
end Go.Proofs.Ytlagakcpjmjdfaa
