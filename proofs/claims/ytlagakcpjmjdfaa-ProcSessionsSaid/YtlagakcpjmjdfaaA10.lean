import Derived.Test.YtlagakcpjmjdfaaA9
set_option linter.unusedSimpArgs false
set_option linter.unusedVariables false
set_option maxRecDepth 20000
namespace Go.Proofs.Ytlagakcpjmjdfaa
open Go.RowKit Go.Proofs.YtlagakcpjmjdfaaW.PrintWords
/-! New. -/
def newT : Tb := ⟨[⟨1, 0, 1, 1, 0, false⟩], 2, fun _ => 0⟩
set_option maxHeartbeats 1000000 in
theorem pNew_any (w : World) : Calls Try.prog 7 #[] w fun e w' => ∃ tb S, e = .returned (.pointer (some ⟨tb, 0, none⟩)) ∧ Tab w' tb S newT 0 ∧ Fr NoB w w' ∧ ∀ k, S k → w.heap.size ≤ k := by
  have hmm := @run_makeMap Try.prog
  go_enter Try.func7, Try.ntmps7
  go_wp2
  go_ret
  have w1 : Blk (((((w.alloc (.cells #[.int .i64 1, .int .i64 0, .int .i64 1, .int .i64 1, .int .i64 0, .bool false] 51)).alloc (.cells #[.pointer (some ⟨w.heap.size, 0, none⟩)] 62)).alloc (.map #[] 0)).alloc (.cells #[.slice (some ⟨w.heap.size + 1, 0, none⟩) 1 1, .int .i64 2, .map (some (w.heap.size + 2))] 66))) w.heap.size 51 (⟨1, 0, 1, 1, 0, false⟩ : Pr).cells := (((Blk.new w 51 (⟨1, 0, 1, 1, 0, false⟩ : Pr).cells).alloc _).alloc _).alloc _
  refine ⟨w.heap.size + 3, fun k => w.heap.size ≤ k, rfl, ⟨.slice (some ⟨w.heap.size + 1, 0, none⟩) 1 1, [w.heap.size], w.heap.size + 2, 0, ⟨?_, .inr ⟨w.heap.size + 1, 1, [], rfl, ⟨?_, rfl⟩, Nat.le_refl _, by decide⟩, rfl, fun k h1 h2 => ?_, by simp, ?_⟩, ?_, Nat.le_refl _⟩, (((Fr.refl _ _).alloc _).alloc _).alloc _ |>.alloc _, fun k h => h⟩
  · have := Blk.new (((w.alloc (.cells #[.int .i64 1, .int .i64 0, .int .i64 1, .int .i64 1, .int .i64 0, .bool false] 51)).alloc (.cells #[.pointer (some ⟨w.heap.size, 0, none⟩)] 62)).alloc (.map #[] 0)) 66 [.slice (some ⟨w.heap.size + 1, 0, none⟩) 1 1, .int .i64 2, .map (some (w.heap.size + 2))]
    simp only [World.size_alloc] at this
    exact this
  · have := ((Blk.new (w.alloc (.cells #[.int .i64 1, .int .i64 0, .int .i64 1, .int .i64 1, .int .i64 0, .bool false] 51)) 62 [.pointer (some ⟨w.heap.size, 0, none⟩)]).alloc (.map #[] 0)).alloc (.cells #[.slice (some ⟨w.heap.size + 1, 0, none⟩) 1 1, .int .i64 2, .map (some (w.heap.size + 2))] 66)
    simp only [World.size_alloc] at this
    exact this
  · obtain rfl : k = 0 := by simp at h1; omega
    exact w1
  · have := (MapI.made ((w.alloc (.cells #[.int .i64 1, .int .i64 0, .int .i64 1, .int .i64 1, .int .i64 0, .bool false] 51)).alloc (.cells #[.pointer (some ⟨w.heap.size, 0, none⟩)] 62))).fr ((Fr.refl NoB _).alloc (.cells #[.slice (some ⟨w.heap.size + 1, 0, none⟩) 1 1, .int .i64 2, .map (some (w.heap.size + 2))] 66)) (fun h => h)
    simp only [World.size_alloc] at this
    exact this
  · rintro k (h | h | h | h)
    · omega
    · obtain rfl : w.heap.size + 1 = k := Option.some.inj h
      omega
    · rw [List.mem_singleton] at h; omega
    · omega
theorem Tab.front {w : World} {tb n : Nat} {S : Nat → Prop} {t : Tb} (h : Tab w tb S t n) (tty : Int) (ht : J64 tty) : Calls Try.prog 26 #[.pointer (some ⟨tb, 0, none⟩), .int .i64 tty] w fun e w' => e = .returned (.int .i64 (t.f tty)) ∧ w = w' := by
  obtain ⟨v, bs, mb, mn, hT, hS, hmn⟩ := h
  exact pFront_any w tb mb mn v bs t.l t.nx t.f tty hT ht
theorem Tab.orph {w : World} {tb n : Nat} {S : Nat → Prop} {t : Tb} (h : Tab w tb S t n) (hl : t.l.length ≤ 4096) (g : Int) : Calls Try.prog 24 #[.pointer (some ⟨tb, 0, none⟩), .int .i64 g] w fun e w' => e = .returned (.bool (orphG t.l g)) ∧ Fr NoB w w' := by
  obtain ⟨v, bs, mb, mn, hT, hS, hmn⟩ := h
  exact pOrph_any w tb mb mn v bs t.l t.nx t.f g hT hl
/-! Get. -/
def getT (t : Tb) (pid : Int) : Pr × Bool := match t.l.find? (isPid pid) with
  | none => (⟨0, 0, 0, 0, 0, false⟩, false)
  | some p => (p, true)
def Pr.v (p : Pr) : Value := .agg #[.int .i64 p.pid, .int .i64 p.par, .int .i64 p.grp, .int .i64 p.ses, .int .i64 p.tty, .bool p.deaf]
set_option maxHeartbeats 1000000 in
theorem pGet_any (w : World) (tb n : Nat) (S : Nat → Prop) (t : Tb) (pid : Int) (h : Tab w tb S t n) (hl : t.l.length ≤ 4096) :
    Calls Try.prog 21 #[.pointer (some ⟨tb, 0, none⟩), .int .i64 pid] w fun e w' => e = .returned (.tuple #[(getT t pid).1.v, .bool (getT t pid).2]) ∧ Fr NoB w w' := by
  have hf0 : Fr NoB w (w.alloc (.cells #[.int .i64 0, .int .i64 0, .int .i64 0, .int .i64 0, .int .i64 0, .bool false] 51)) := (Fr.refl _ _).alloc _
  have hz := Blk.new w 51 [.int .i64 0, .int .i64 0, .int .i64 0, .int .i64 0, .int .i64 0, .bool false]
  have HF0 := hid hf0
  have HZ := hid hz
  rcases h.find hl pid with ⟨hq, hF⟩ | ⟨i, a, p, hq, hix, hpp, hF, hB, hP⟩
  · have hr : getT t pid = (⟨0, 0, 0, 0, 0, false⟩, false) := by unfold getT; rw [hq]
    rw [hr]
    have HF := hid hF
    clear hr hq hF h hf0 hz
    go_enter Try.func21, Try.ntmps21
    go_wp2_with fail
    refine (HF.out _ HF0.out).mono ?_
    rintro e' w1 ⟨rfl, hf1⟩
    have hz1 := HZ.out.fr hf1 (fun h => h)
    have z0 := hz1.cell 0 rfl
    have z1 := hz1.cell 1 rfl
    have z2 := hz1.cell 2 rfl
    have z3 := hz1.cell 3 rfl
    have z4 := hz1.cell 4 rfl
    have z5 := hz1.cell 5 rfl
    have y0 := hz1.frozen 0
    have y1 := hz1.frozen 1
    have y2 := hz1.frozen 2
    have y3 := hz1.frozen 3
    have y4 := hz1.frozen 4
    have y5 := hz1.frozen 5
    have zl := hz1.lt
    have HF1 := hid hf1
    have HZ1 := hid hz1
    clear hf1 hz1
    go_wp2
    refine bodyPost_ret (v := .tuple #[.agg #[.int .i64 0, .int .i64 0, .int .i64 0, .int .i64 0, .int .i64 0, .bool false], .bool false]) (by simp [results, Try.results21, go_sem, z0, z1, z2, z3, z4, z5]) rfl ⟨rfl, ?_⟩
    exact (HF0.out.trans HF1.out).then_ ((((((((Fr.refl (At w.heap.size) w1).setAt 0 (.int .i64 0)).setAt 1 (.int .i64 0)).setAt 2 (.int .i64 0)).setAt 3 (.int .i64 0)).setAt 4 (.int .i64 0)).setAt 5 (.bool false))) (fun j e => .inr (by have e' : j = w.heap.size := e; omega))
  · have hr : getT t pid = (p, true) := by unfold getT; rw [hq]
    rw [hr]
    have HF := hid hF
    have HB := hid hB
    clear hr hq hF h hf0 hz hB hP hpp hix
    unfold Pr.v
    go_enter Try.func21, Try.ntmps21
    go_wp2_with fail
    refine (HF.out _ HF0.out).mono ?_
    rintro e' w1 ⟨rfl, hf1⟩
    have hz1 := HZ.out.fr hf1 (fun h => h)
    have hb1 := HB.out _ (HF0.out.trans hf1)
    have x0 := hb1.cell 0 rfl
    have x1 := hb1.cell 1 rfl
    have x2 := hb1.cell 2 rfl
    have x3 := hb1.cell 3 rfl
    have x4 := hb1.cell 4 rfl
    have x5 := hb1.cell 5 rfl
    have z0 := hz1.cell 0 rfl
    have z1 := hz1.cell 1 rfl
    have z2 := hz1.cell 2 rfl
    have z3 := hz1.cell 3 rfl
    have z4 := hz1.cell 4 rfl
    have z5 := hz1.cell 5 rfl
    have y0 := hz1.frozen 0
    have y1 := hz1.frozen 1
    have y2 := hz1.frozen 2
    have y3 := hz1.frozen 3
    have y4 := hz1.frozen 4
    have y5 := hz1.frozen 5
    have zl := hz1.lt
    have HF1 := hid hf1
    have HZ1 := hid hz1
    clear hf1 hz1 hb1
    go_wp2
    refine bodyPost_ret (v := .tuple #[.agg #[.int .i64 p.pid, .int .i64 p.par, .int .i64 p.grp, .int .i64 p.ses, .int .i64 p.tty, .bool p.deaf], .bool true]) (by simp [results, Try.results21, go_sem, z0, z1, z2, z3, z4, z5]) rfl ⟨rfl, ?_⟩
    exact (HF0.out.trans HF1.out).then_ ((((((((Fr.refl (At w.heap.size) w1).setAt 0 (.int .i64 p.pid)).setAt 1 (.int .i64 p.par)).setAt 2 (.int .i64 p.grp)).setAt 3 (.int .i64 p.ses)).setAt 4 (.int .i64 p.tty)).setAt 5 (.bool p.deaf))) (fun j e => .inr (by have e' : j = w.heap.size := e; omega))
/-! May. -/
def mayT (t : Tb) (pid tty : Int) (write tostop : Bool) : Int × List (Int × Int) := match t.l.find? (isPid pid) with
  | none => (2, [])
  | some p => if (tty == 0 || p.tty != tty || p.grp == t.f tty || (write && !tostop)) = true then (0, [])
    else if (p.deaf && write) = true then (0, [])
    else if (p.deaf || orphG t.l p.grp) = true then (2, [])
    else (1, [(p.grp, if write then 7 else 6)])
def MayTo (w : World) (r : Int × List (Int × Int)) (e : Ending) (w' : World) : Prop := ∃ v, e = .returned (.tuple #[.int .i64 r.1, v]) ∧ SgR w' w.heap.size v r.2 ∧ Fr NoB w w'
set_option maxHeartbeats 8000000 in
theorem pMay_any (w : World) (tb n : Nat) (S : Nat → Prop) (t : Tb) (pid tty : Int) (write tostop : Bool) (h : Tab w tb S t n) (hl : t.l.length ≤ 4096) (ht : J64 tty) :
    Calls Try.prog 13 #[.pointer (some ⟨tb, 0, none⟩), .int .i64 pid, .int .i64 tty, .bool write, .bool tostop] w (MayTo w (mayT t pid tty write tostop)) := by
  obtain ⟨v, bs, mb, mn, hT, hS, hmn⟩ := h
  have HT := hid hT
  have HJ := hid ht
  rcases hT.find hl pid with ⟨hq, hF⟩ | ⟨i, hi1, hi2, hq, hix, hF⟩
  · have hr : mayT t pid tty write tostop = (2, []) := by unfold mayT; rw [hq]
    rw [hr]
    have HF := hid hF
    clear hr hq hF hT hS ht
    go_enter Try.func13, Try.ntmps13
    go_wp2_with fail
    refine (HF.out _ (Fr.refl _ _)).mono ?_
    rintro e' w1 ⟨rfl, hf1⟩
    have HF1 := hid hf1
    clear hf1
    go_wp2
    go_ret2
    exact ⟨_, rfl, Row.nil _ _ _ _ _, HF1.out⟩
  · have hr : mayT t pid tty write tostop = (if (tty == 0 || t.l[i].tty != tty || t.l[i].grp == t.f tty || (write && !tostop)) = true then (0, []) else if (t.l[i].deaf && write) = true then (0, []) else if (t.l[i].deaf || orphG t.l t.l[i].grp) = true then (2, []) else (1, [(t.l[i].grp, if write then 7 else 6)])) := by unfold mayT; rw [hq]
    rw [hr]
    have HF := hid hF
    have HB := hid (hT.prc i hi1 hi2)
    have HO := hid fun W (hW : Fr NoB w W) => pOrph_any W tb mb mn v bs t.l t.nx t.f t.l[i].grp (hT.frd hW) hl
    clear hr hq hF hT hS ht hix
    generalize t.l[i] = p at *
    generalize bs[i] = a at *
    obtain ⟨fr, hfr⟩ : ∃ fr, fr = t.f tty := ⟨_, rfl⟩
    rw [← hfr]
    have HFR : Hid (t.f tty = fr) := hid hfr.symm
    clear hfr
    obtain ⟨og, hog⟩ : ∃ og, og = orphG t.l p.grp := ⟨_, rfl⟩
    rw [← hog]
    rw [← hog] at HO
    clear hog
    cases e1 : (tty == 0)
    rotate_left
    · rw [if_pos (by simp)]
      go_enter Try.func13, Try.ntmps13
      go_wp2_with fail
      refine (HF.out _ (Fr.refl _ _)).mono ?_
      rintro e' w1 ⟨rfl, hf1⟩
      have hB1 := HB.out.fr hf1 (fun h => h)
      have c4 := hB1.cell 4 rfl
      have c2 := hB1.cell 2 rfl
      have c5 := hB1.cell 5 rfl
      have hT1 := HT.out.frd hf1
      have t2 := hT1.blk.cell 2 rfl
      have hlk := fun m => (hT1.map.fr ((Fr.refl NoB w1).drewN m) (fun h => h)).look tty HJ.out
      have hlk0 := hT1.map.look tty HJ.out
      rw [HFR.out] at hlk0
      simp only [HFR.out] at hlk
      have HF1 := hid hf1
      have HB1 := hid hB1
      clear hf1 hB1 hT1
      go_wp2
      go_quiet (fail)
      clear hlk hlk0
      go_wp2
      go_ret2
      exact ⟨_, rfl, Row.nil _ _ _ _ _, HF1.out.drewN _⟩
    cases e2 : (p.tty != tty)
    rotate_left
    · rw [if_pos (by simp)]
      go_enter Try.func13, Try.ntmps13
      go_wp2_with fail
      refine (HF.out _ (Fr.refl _ _)).mono ?_
      rintro e' w1 ⟨rfl, hf1⟩
      have hB1 := HB.out.fr hf1 (fun h => h)
      have c4 := hB1.cell 4 rfl
      have c2 := hB1.cell 2 rfl
      have c5 := hB1.cell 5 rfl
      have hT1 := HT.out.frd hf1
      have t2 := hT1.blk.cell 2 rfl
      have hlk := fun m => (hT1.map.fr ((Fr.refl NoB w1).drewN m) (fun h => h)).look tty HJ.out
      have hlk0 := hT1.map.look tty HJ.out
      rw [HFR.out] at hlk0
      simp only [HFR.out] at hlk
      have HF1 := hid hf1
      have HB1 := hid hB1
      clear hf1 hB1 hT1
      go_wp2
      go_quiet (fail)
      clear hlk hlk0
      go_wp2
      go_ret2
      exact ⟨_, rfl, Row.nil _ _ _ _ _, HF1.out.drewN _⟩
    cases e3 : (p.grp == fr)
    rotate_left
    · rw [if_pos (by simp)]
      go_enter Try.func13, Try.ntmps13
      go_wp2_with fail
      refine (HF.out _ (Fr.refl _ _)).mono ?_
      rintro e' w1 ⟨rfl, hf1⟩
      have hB1 := HB.out.fr hf1 (fun h => h)
      have c4 := hB1.cell 4 rfl
      have c2 := hB1.cell 2 rfl
      have c5 := hB1.cell 5 rfl
      have hT1 := HT.out.frd hf1
      have t2 := hT1.blk.cell 2 rfl
      have hlk := fun m => (hT1.map.fr ((Fr.refl NoB w1).drewN m) (fun h => h)).look tty HJ.out
      have hlk0 := hT1.map.look tty HJ.out
      rw [HFR.out] at hlk0
      simp only [HFR.out] at hlk
      have HF1 := hid hf1
      have HB1 := hid hB1
      clear hf1 hB1 hT1
      go_wp2
      go_quiet (fail)
      clear hlk hlk0
      go_wp2
      go_ret2
      exact ⟨_, rfl, Row.nil _ _ _ _ _, HF1.out.drewN _⟩
    cases write
    · rw [if_neg (by simp), if_neg (by simp)]
      cases e5 : p.deaf
      rotate_left
      · rw [if_pos (by simp)]
        go_enter Try.func13, Try.ntmps13
        go_wp2_with fail
        refine (HF.out _ (Fr.refl _ _)).mono ?_
        rintro e' w1 ⟨rfl, hf1⟩
        have hB1 := HB.out.fr hf1 (fun h => h)
        have c4 := hB1.cell 4 rfl
        have c2 := hB1.cell 2 rfl
        have c5 := hB1.cell 5 rfl
        have hT1 := HT.out.frd hf1
        have t2 := hT1.blk.cell 2 rfl
        have hlk := fun m => (hT1.map.fr ((Fr.refl NoB w1).drewN m) (fun h => h)).look tty HJ.out
        have hlk0 := hT1.map.look tty HJ.out
        rw [HFR.out] at hlk0
        simp only [HFR.out] at hlk
        have HF1 := hid hf1
        have HB1 := hid hB1
        clear hf1 hB1 hT1
        go_wp2
        go_quiet (fail)
        clear hlk hlk0
        have k5 := fun m => (HB1.out.drewN m).cell 5 rfl
        have k2 := fun m => (HB1.out.drewN m).cell 2 rfl
        go_wp2
        go_ret2
        exact ⟨_, rfl, Row.nil _ _ _ _ _, HF1.out.drewN _⟩
      cases og
      rotate_left
      · rw [if_pos (by simp)]
        go_enter Try.func13, Try.ntmps13
        go_wp2_with fail
        refine (HF.out _ (Fr.refl _ _)).mono ?_
        rintro e' w1 ⟨rfl, hf1⟩
        have hB1 := HB.out.fr hf1 (fun h => h)
        have c4 := hB1.cell 4 rfl
        have c2 := hB1.cell 2 rfl
        have c5 := hB1.cell 5 rfl
        have hT1 := HT.out.frd hf1
        have t2 := hT1.blk.cell 2 rfl
        have hlk := fun m => (hT1.map.fr ((Fr.refl NoB w1).drewN m) (fun h => h)).look tty HJ.out
        have hlk0 := hT1.map.look tty HJ.out
        rw [HFR.out] at hlk0
        simp only [HFR.out] at hlk
        have HF1 := hid hf1
        have HB1 := hid hB1
        clear hf1 hB1 hT1
        go_wp2
        go_quiet (fail)
        clear hlk hlk0
        have k5 := fun m => (HB1.out.drewN m).cell 5 rfl
        have k2 := fun m => (HB1.out.drewN m).cell 2 rfl
        go_wp2_with fail
        refine (HO.out _ (HF1.out.drewN _)).mono ?_
        rintro e' w2 ⟨rfl, hf2⟩
        have HF2 := hid ((HF1.out.drewN _).trans hf2)
        have HB2 := hid (HB.out.fr HF2.out (fun h => h))
        clear hf2 k5 k2
        go_wp2
        go_ret2
        exact ⟨_, rfl, Row.nil _ _ _ _ _, HF2.out⟩
      rw [if_neg (by simp), if_neg (by simp)]
      go_enter Try.func13, Try.ntmps13
      go_wp2_with fail
      refine (HF.out _ (Fr.refl _ _)).mono ?_
      rintro e' w1 ⟨rfl, hf1⟩
      have hB1 := HB.out.fr hf1 (fun h => h)
      have c4 := hB1.cell 4 rfl
      have c2 := hB1.cell 2 rfl
      have c5 := hB1.cell 5 rfl
      have hT1 := HT.out.frd hf1
      have t2 := hT1.blk.cell 2 rfl
      have hlk := fun m => (hT1.map.fr ((Fr.refl NoB w1).drewN m) (fun h => h)).look tty HJ.out
      have hlk0 := hT1.map.look tty HJ.out
      rw [HFR.out] at hlk0
      simp only [HFR.out] at hlk
      have HF1 := hid hf1
      have HB1 := hid hB1
      clear hf1 hB1 hT1
      go_wp2
      go_quiet (fail)
      clear hlk hlk0
      have k5 := fun m => (HB1.out.drewN m).cell 5 rfl
      have k2 := fun m => (HB1.out.drewN m).cell 2 rfl
      go_wp2_with fail
      refine (HO.out _ (HF1.out.drewN _)).mono ?_
      rintro e' w2 ⟨rfl, hf2⟩
      have HF2 := hid ((HF1.out.drewN _).trans hf2)
      have HB2 := hid (HB.out.fr HF2.out (fun h => h))
      clear hf2 k5 k2
      have HSv : Hid (∀ W, Fr NoB w2 W → W.cell? ⟨a, 2, none⟩ = some (.int .i64 p.grp)) := hid fun W hW => (HB2.out.fr hW (fun h => h)).cell 2 rfl
      have HFD := hid (Fr.drew (Fr.refl NoB w2))
      go_wp2_with fail
      go_region_held3 (fun W : World => W.cell? ⟨a, 2, none⟩ = some (.int .i64 p.grp)) (first | exact HSv.out _ (HFD.out.alloc _) | exact HSv.out _ HFD.out | fail) (fail)
      go_wp2
      go_ret2
      exact ⟨_, rfl, SgR.one (p.grp, 6) (HF2.out.trans HFD.out).size, (HF2.out.trans HFD.out).alloc _⟩
    · cases tostop
      · rw [if_pos (by simp)]
        go_enter Try.func13, Try.ntmps13
        go_wp2_with fail
        refine (HF.out _ (Fr.refl _ _)).mono ?_
        rintro e' w1 ⟨rfl, hf1⟩
        have hB1 := HB.out.fr hf1 (fun h => h)
        have c4 := hB1.cell 4 rfl
        have c2 := hB1.cell 2 rfl
        have c5 := hB1.cell 5 rfl
        have hT1 := HT.out.frd hf1
        have t2 := hT1.blk.cell 2 rfl
        have hlk := fun m => (hT1.map.fr ((Fr.refl NoB w1).drewN m) (fun h => h)).look tty HJ.out
        have hlk0 := hT1.map.look tty HJ.out
        rw [HFR.out] at hlk0
        simp only [HFR.out] at hlk
        have HF1 := hid hf1
        have HB1 := hid hB1
        clear hf1 hB1 hT1
        go_wp2
        go_quiet (fail)
        clear hlk hlk0
        go_wp2
        go_ret2
        exact ⟨_, rfl, Row.nil _ _ _ _ _, HF1.out.drewN _⟩
      rw [if_neg (by simp)]
      cases e5 : p.deaf
      rotate_left
      · rw [if_pos (by simp)]
        go_enter Try.func13, Try.ntmps13
        go_wp2_with fail
        refine (HF.out _ (Fr.refl _ _)).mono ?_
        rintro e' w1 ⟨rfl, hf1⟩
        have hB1 := HB.out.fr hf1 (fun h => h)
        have c4 := hB1.cell 4 rfl
        have c2 := hB1.cell 2 rfl
        have c5 := hB1.cell 5 rfl
        have hT1 := HT.out.frd hf1
        have t2 := hT1.blk.cell 2 rfl
        have hlk := fun m => (hT1.map.fr ((Fr.refl NoB w1).drewN m) (fun h => h)).look tty HJ.out
        have hlk0 := hT1.map.look tty HJ.out
        rw [HFR.out] at hlk0
        simp only [HFR.out] at hlk
        have HF1 := hid hf1
        have HB1 := hid hB1
        clear hf1 hB1 hT1
        go_wp2
        go_quiet (fail)
        clear hlk hlk0
        have k5 := fun m => (HB1.out.drewN m).cell 5 rfl
        have k2 := fun m => (HB1.out.drewN m).cell 2 rfl
        go_wp2
        go_ret2
        exact ⟨_, rfl, Row.nil _ _ _ _ _, HF1.out.drewN _⟩
      rw [if_neg (by simp)]
      cases og
      rotate_left
      · rw [if_pos (by simp)]
        go_enter Try.func13, Try.ntmps13
        go_wp2_with fail
        refine (HF.out _ (Fr.refl _ _)).mono ?_
        rintro e' w1 ⟨rfl, hf1⟩
        have hB1 := HB.out.fr hf1 (fun h => h)
        have c4 := hB1.cell 4 rfl
        have c2 := hB1.cell 2 rfl
        have c5 := hB1.cell 5 rfl
        have hT1 := HT.out.frd hf1
        have t2 := hT1.blk.cell 2 rfl
        have hlk := fun m => (hT1.map.fr ((Fr.refl NoB w1).drewN m) (fun h => h)).look tty HJ.out
        have hlk0 := hT1.map.look tty HJ.out
        rw [HFR.out] at hlk0
        simp only [HFR.out] at hlk
        have HF1 := hid hf1
        have HB1 := hid hB1
        clear hf1 hB1 hT1
        go_wp2
        go_quiet (fail)
        clear hlk hlk0
        have k5 := fun m => (HB1.out.drewN m).cell 5 rfl
        have k2 := fun m => (HB1.out.drewN m).cell 2 rfl
        go_wp2_with fail
        refine (HO.out _ (HF1.out.drewN _)).mono ?_
        rintro e' w2 ⟨rfl, hf2⟩
        have HF2 := hid ((HF1.out.drewN _).trans hf2)
        have HB2 := hid (HB.out.fr HF2.out (fun h => h))
        clear hf2 k5 k2
        go_wp2
        go_ret2
        exact ⟨_, rfl, Row.nil _ _ _ _ _, HF2.out⟩
      rw [if_neg (by simp), if_pos rfl]
      go_enter Try.func13, Try.ntmps13
      go_wp2_with fail
      refine (HF.out _ (Fr.refl _ _)).mono ?_
      rintro e' w1 ⟨rfl, hf1⟩
      have hB1 := HB.out.fr hf1 (fun h => h)
      have c4 := hB1.cell 4 rfl
      have c2 := hB1.cell 2 rfl
      have c5 := hB1.cell 5 rfl
      have hT1 := HT.out.frd hf1
      have t2 := hT1.blk.cell 2 rfl
      have hlk := fun m => (hT1.map.fr ((Fr.refl NoB w1).drewN m) (fun h => h)).look tty HJ.out
      have hlk0 := hT1.map.look tty HJ.out
      rw [HFR.out] at hlk0
      simp only [HFR.out] at hlk
      have HF1 := hid hf1
      have HB1 := hid hB1
      clear hf1 hB1 hT1
      go_wp2
      go_quiet (fail)
      clear hlk hlk0
      have k5 := fun m => (HB1.out.drewN m).cell 5 rfl
      have k2 := fun m => (HB1.out.drewN m).cell 2 rfl
      go_wp2_with fail
      refine (HO.out _ (HF1.out.drewN _)).mono ?_
      rintro e' w2 ⟨rfl, hf2⟩
      have HF2 := hid ((HF1.out.drewN _).trans hf2)
      have HB2 := hid (HB.out.fr HF2.out (fun h => h))
      clear hf2 k5 k2
      have HSv : Hid (∀ W, Fr NoB w2 W → W.cell? ⟨a, 2, none⟩ = some (.int .i64 p.grp)) := hid fun W hW => (HB2.out.fr hW (fun h => h)).cell 2 rfl
      have HFD := hid (Fr.drew (Fr.refl NoB w2))
      go_wp2_with fail
      go_region_held3 (fun W : World => W.cell? ⟨a, 2, none⟩ = some (.int .i64 p.grp)) (first | exact HSv.out _ (HFD.out.alloc _) | exact HSv.out _ HFD.out | fail) (fail)
      go_wp2
      go_ret2
      exact ⟨_, rfl, SgR.one (p.grp, 7) (HF2.out.trans HFD.out).size, (HF2.out.trans HFD.out).alloc _⟩
end Go.Proofs.Ytlagakcpjmjdfaa
