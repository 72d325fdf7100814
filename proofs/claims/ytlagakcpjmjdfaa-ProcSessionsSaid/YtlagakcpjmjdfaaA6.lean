import Derived.Test.YtlagakcpjmjdfaaA5
import Derived.Deep.RegionHeld3
import Derived.Deep.RegionWith
set_option linter.unusedSimpArgs false
set_option linter.unusedVariables false
set_option maxRecDepth 20000
namespace Go.Proofs.Ytlagakcpjmjdfaa
open Go.RowKit Go.Proofs.YtlagakcpjmjdfaaW.PrintWords
/-! Setpgid. -/
def whoOf (pid who : Int) : Int := if who = 0 then pid else who
def grpOf (who group : Int) : Int := if group = 0 then who else group
def pgidW (t : Tb) (pid who group0 : Int) : Tb × Int :=
  match t.l.find? (isPid pid), t.l.find? (isPid who) with
  | some p, some q =>
    if (who != pid && q.par != pid) = true then (t, 5)
    else if group0 < 0 then (t, 1)
    else if (q.ses == who || q.ses != p.ses || (grpOf who group0 != who && !hasG t.l (grpOf who group0) q.ses)) = true then (t, 8)
    else (⟨t.l.set (t.l.findIdx (isPid who)) { q with grp := grpOf who group0 }, t.nx, t.f⟩, 0)
  | _, _ => (t, 5)
def pgidT (t : Tb) (pid who0 group0 : Int) : Tb × Int := pgidW t pid (whoOf pid who0) group0
set_option maxHeartbeats 8000000 in
/-- Behind 'who' and the two processes: as it goes on. -/
theorem pPgid_any (w : World) (tb n : Nat) (S : Nat → Prop) (t : Tb) (pid who0 group0 : Int) (h : Tab w tb S t n) (hl : t.l.length ≤ 4096) :
    Calls Try.prog 11 #[.pointer (some ⟨tb, 0, none⟩), .int .i64 pid, .int .i64 who0, .int .i64 group0] w (ErrTo w tb S n (pgidT t pid who0 group0)) := by
  have H0 := hid h
  have main : ∀ who, whoOf pid who0 = who → (who0 = 0 ∧ who = pid ∨ who0 ≠ 0 ∧ who = who0) → Calls Try.prog 11 #[.pointer (some ⟨tb, 0, none⟩), .int .i64 pid, .int .i64 who0, .int .i64 group0] w (ErrTo w tb S n (pgidW t pid who group0)) := by
    intro who hwho hc
    clear hwho
    rcases h.find hl pid with ⟨hq, hF⟩ | ⟨i, a, p, hq, hix, hpp, hF, hB, hP⟩
    · have hr : pgidW t pid who group0 = (t, 5) := by unfold pgidW; rw [hq]
      rw [hr]
      have HF := hid hF
      have hG : ∃ v : Value, Hid (∀ W, Fr NoB w W → Calls Try.prog 28 #[.pointer (some ⟨tb, 0, none⟩), .int .i64 who] W fun e w' => e = .returned v ∧ Fr NoB W w') := by
        rcases h.find hl who with ⟨_, hG⟩ | ⟨_, a2, _, _, _, _, hG, _⟩
        · exact ⟨_, hG⟩
        · exact ⟨_, hG⟩
      obtain ⟨v2, HG⟩ := hG
      clear hr hq hF h
      rcases hc with ⟨rfl, rfl⟩ | ⟨h0, rfl⟩
      · skip
        go_enter Try.func11, Try.ntmps11
        go_wp2_with fail
        refine (HF.out _ (Fr.refl _ _)).mono ?_
        rintro e' w1 ⟨rfl, hf1⟩
        have HF1 := hid hf1
        clear hf1
        go_wp2_with fail
        refine (HG.out _ HF1.out).mono ?_
        rintro e' w2 ⟨rfl, hf2⟩
        have HF2 := hid (HF1.out.trans hf2)
        clear hf2
        go_wp2
        go_ret
        exact ⟨rfl, H0.out.still HF2.out⟩
      · have hw0 : (who == 0) = false := by simpa using h0
        clear h0
        go_enter Try.func11, Try.ntmps11
        go_wp2_with fail
        refine (HF.out _ (Fr.refl _ _)).mono ?_
        rintro e' w1 ⟨rfl, hf1⟩
        have HF1 := hid hf1
        clear hf1
        go_wp2_with fail
        refine (HG.out _ HF1.out).mono ?_
        rintro e' w2 ⟨rfl, hf2⟩
        have HF2 := hid (HF1.out.trans hf2)
        clear hf2
        go_wp2
        go_ret
        exact ⟨rfl, H0.out.still HF2.out⟩
    · rcases h.find hl who with ⟨hq2, hG⟩ | ⟨i2, a2, q, hq2, hix2, hpp2, hG, hB2, hP2⟩
      · have hr : pgidW t pid who group0 = (t, 5) := by unfold pgidW; rw [hq, hq2]
        rw [hr]
        have HF := hid hF
        have HG := hid hG
        clear hr hF hG h hpp hB hP hq hq2 hix
        rcases hc with ⟨rfl, rfl⟩ | ⟨h0, rfl⟩
        · skip
          go_enter Try.func11, Try.ntmps11
          go_wp2_with fail
          refine (HF.out _ (Fr.refl _ _)).mono ?_
          rintro e' w1 ⟨rfl, hf1⟩
          have HF1 := hid hf1
          clear hf1
          go_wp2_with fail
          refine (HG.out _ HF1.out).mono ?_
          rintro e' w2 ⟨rfl, hf2⟩
          have HF2 := hid (HF1.out.trans hf2)
          clear hf2
          go_wp2
          go_ret
          exact ⟨rfl, H0.out.still HF2.out⟩
        · have hw0 : (who == 0) = false := by simpa using h0
          clear h0
          go_enter Try.func11, Try.ntmps11
          go_wp2_with fail
          refine (HF.out _ (Fr.refl _ _)).mono ?_
          rintro e' w1 ⟨rfl, hf1⟩
          have HF1 := hid hf1
          clear hf1
          go_wp2_with fail
          refine (HG.out _ HF1.out).mono ?_
          rintro e' w2 ⟨rfl, hf2⟩
          have HF2 := hid (HF1.out.trans hf2)
          clear hf2
          go_wp2
          go_ret
          exact ⟨rfl, H0.out.still HF2.out⟩
      · have hr : pgidW t pid who group0 = (if (who != pid && q.par != pid) = true then (t, 5) else if group0 < 0 then (t, 1) else if (q.ses == who || q.ses != p.ses || (grpOf who group0 != who && !hasG t.l (grpOf who group0) q.ses)) = true then (t, 8) else (⟨t.l.set i2 { q with grp := grpOf who group0 }, t.nx, t.f⟩, 0)) := by
          unfold pgidW
          rw [hq, hq2]
          simp only [hix2]
        have HF := hid hF
        have HG := hid hG
        have HBp := hid hB
        have HBq := hid hB2
        have HPq := hid hP2
        have HH := hid (h.has hl (grpOf who group0) q.ses)
        rw [hr]
        clear hr hF hG h hpp hpp2 hB hP hq hq2 hix hix2 hB2 hP2
        cases e12 : (who != pid && q.par != pid)
        rotate_left
        · rw [if_pos rfl]
          have e1 : (who != pid) = true := by cases h1 : (who != pid); rw [h1] at e12; cases e12; rfl
          have e2 : (q.par != pid) = true := by rw [e1] at e12; exact e12
          clear e12
          rcases hc with ⟨rfl, rfl⟩ | ⟨h0, rfl⟩
          · simp at e1
          · have hw0 : (who == 0) = false := by simpa using h0
            clear h0
            go_enter Try.func11, Try.ntmps11
            go_wp2_with fail
            refine (HF.out _ (Fr.refl _ _)).mono ?_
            rintro e' w1 ⟨rfl, hf1⟩
            have HF1 := hid hf1
            clear hf1
            go_wp2_with fail
            refine (HG.out _ HF1.out).mono ?_
            rintro e' w2 ⟨rfl, hf2⟩
            have HF2 := hid (HF1.out.trans hf2)
            clear hf2
            have hA1 := HBp.out _ HF2.out
            have hB1 := HBq.out _ HF2.out
            have p3 := hA1.cell 3 rfl
            have q1 := hB1.cell 1 rfl
            have q3 := hB1.cell 3 rfl
            clear hA1 hB1
            go_wp2
            go_ret
            exact ⟨rfl, H0.out.still HF2.out⟩
        rw [if_neg (by decide)]
        by_cases hg : group0 < 0
        · rw [if_pos hg]
          rcases hc with ⟨rfl, rfl⟩ | ⟨h0, rfl⟩
          · have e1 : (who != who) = false := by simp
            clear e12
            go_enter Try.func11, Try.ntmps11
            go_wp2_with fail
            refine (HF.out _ (Fr.refl _ _)).mono ?_
            rintro e' w1 ⟨rfl, hf1⟩
            have HF1 := hid hf1
            clear hf1
            go_wp2_with fail
            refine (HG.out _ HF1.out).mono ?_
            rintro e' w2 ⟨rfl, hf2⟩
            have HF2 := hid (HF1.out.trans hf2)
            clear hf2
            have hA1 := HBp.out _ HF2.out
            have hB1 := HBq.out _ HF2.out
            have p3 := hA1.cell 3 rfl
            have q1 := hB1.cell 1 rfl
            have q3 := hB1.cell 3 rfl
            clear hA1 hB1
            go_wp2
            go_ret
            exact ⟨rfl, H0.out.still HF2.out⟩
          · have hw0 : (who == 0) = false := by simpa using h0
            clear h0
            cases e1 : (who != pid)
            · clear e12
              go_enter Try.func11, Try.ntmps11
              go_wp2_with fail
              refine (HF.out _ (Fr.refl _ _)).mono ?_
              rintro e' w1 ⟨rfl, hf1⟩
              have HF1 := hid hf1
              clear hf1
              go_wp2_with fail
              refine (HG.out _ HF1.out).mono ?_
              rintro e' w2 ⟨rfl, hf2⟩
              have HF2 := hid (HF1.out.trans hf2)
              clear hf2
              have hA1 := HBp.out _ HF2.out
              have hB1 := HBq.out _ HF2.out
              have p3 := hA1.cell 3 rfl
              have q1 := hB1.cell 1 rfl
              have q3 := hB1.cell 3 rfl
              clear hA1 hB1
              go_wp2
              go_ret
              exact ⟨rfl, H0.out.still HF2.out⟩
            · have e2 : (q.par != pid) = false := by rw [e1] at e12; exact e12
              clear e12
              go_enter Try.func11, Try.ntmps11
              go_wp2_with fail
              refine (HF.out _ (Fr.refl _ _)).mono ?_
              rintro e' w1 ⟨rfl, hf1⟩
              have HF1 := hid hf1
              clear hf1
              go_wp2_with fail
              refine (HG.out _ HF1.out).mono ?_
              rintro e' w2 ⟨rfl, hf2⟩
              have HF2 := hid (HF1.out.trans hf2)
              clear hf2
              have hA1 := HBp.out _ HF2.out
              have hB1 := HBq.out _ HF2.out
              have p3 := hA1.cell 3 rfl
              have q1 := hB1.cell 1 rfl
              have q3 := hB1.cell 3 rfl
              clear hA1 hB1
              go_wp2
              go_ret
              exact ⟨rfl, H0.out.still HF2.out⟩
        rw [if_neg hg]
        rcases hc with ⟨rfl, rfl⟩ | ⟨h0, rfl⟩
        · have e1 : (who != who) = false := by simp
          clear e12
          by_cases hz : group0 = 0
          · subst hz
            have hGe : grpOf who 0 = who := if_pos rfl
            rw [hGe] at HH ⊢
            clear hGe
            have c3 : (who != who) = false := by simp
            cases c1 : (q.ses == who)
            · cases c2 : (q.ses != p.ses)
              · rw [if_neg (by simp)]
                go_enter Try.func11, Try.ntmps11
                go_wp2_with fail
                refine (HF.out _ (Fr.refl _ _)).mono ?_
                rintro e' w1 ⟨rfl, hf1⟩
                have HF1 := hid hf1
                clear hf1
                go_wp2_with fail
                refine (HG.out _ HF1.out).mono ?_
                rintro e' w2 ⟨rfl, hf2⟩
                have HF2 := hid (HF1.out.trans hf2)
                clear hf2
                have hA1 := HBp.out _ HF2.out
                have hB1 := HBq.out _ HF2.out
                have p3 := hA1.cell 3 rfl
                have q1 := hB1.cell 1 rfl
                have q3 := hB1.cell 3 rfl
                clear hA1 hB1
                go_wp2
                go_quiet (fail)
                have hB3 := fun m => HBq.out _ (HF2.out.drewN m)
                have x2 := fun m => (hB3 m).cell 2 rfl
                have x3 := fun m => (hB3 m).frozen 2
                have x4 := fun m => (hB3 m).lt
                have HTo := fun m => hid (HPq.out _ _ { q with grp := who } (HF2.out.drewN m) ((Fr.refl (At a2) _).setAt 2 (.int .i64 who)) ((hB3 m).set 2 (.int .i64 who)))
                clear hB3
                go_wp2
                go_ret
                exact ⟨rfl, (HTo _).out⟩
              · rw [if_pos (by simp)]
                go_enter Try.func11, Try.ntmps11
                go_wp2_with fail
                refine (HF.out _ (Fr.refl _ _)).mono ?_
                rintro e' w1 ⟨rfl, hf1⟩
                have HF1 := hid hf1
                clear hf1
                go_wp2_with fail
                refine (HG.out _ HF1.out).mono ?_
                rintro e' w2 ⟨rfl, hf2⟩
                have HF2 := hid (HF1.out.trans hf2)
                clear hf2
                have hA1 := HBp.out _ HF2.out
                have hB1 := HBq.out _ HF2.out
                have p3 := hA1.cell 3 rfl
                have q1 := hB1.cell 1 rfl
                have q3 := hB1.cell 3 rfl
                clear hA1 hB1
                go_wp2
                go_quiet (fail)
                go_wp2
                go_ret
                exact ⟨rfl, H0.out.still (HF2.out.drewN _)⟩
            · rw [if_pos (by simp)]
              go_enter Try.func11, Try.ntmps11
              go_wp2_with fail
              refine (HF.out _ (Fr.refl _ _)).mono ?_
              rintro e' w1 ⟨rfl, hf1⟩
              have HF1 := hid hf1
              clear hf1
              go_wp2_with fail
              refine (HG.out _ HF1.out).mono ?_
              rintro e' w2 ⟨rfl, hf2⟩
              have HF2 := hid (HF1.out.trans hf2)
              clear hf2
              have hA1 := HBp.out _ HF2.out
              have hB1 := HBq.out _ HF2.out
              have p3 := hA1.cell 3 rfl
              have q1 := hB1.cell 1 rfl
              have q3 := hB1.cell 3 rfl
              clear hA1 hB1
              go_wp2
              go_quiet (fail)
              go_wp2
              go_ret
              exact ⟨rfl, H0.out.still (HF2.out.drewN _)⟩
          · have g0 : (group0 == 0) = false := by simpa using hz
            have hGe : grpOf who group0 = group0 := if_neg hz
            rw [hGe] at HH ⊢
            clear hGe hz
            cases c1 : (q.ses == who)
            · cases c2 : (q.ses != p.ses)
              · cases c3 : (group0 != who)
                · rw [if_neg (by simp)]
                  go_enter Try.func11, Try.ntmps11
                  go_wp2_with fail
                  refine (HF.out _ (Fr.refl _ _)).mono ?_
                  rintro e' w1 ⟨rfl, hf1⟩
                  have HF1 := hid hf1
                  clear hf1
                  go_wp2_with fail
                  refine (HG.out _ HF1.out).mono ?_
                  rintro e' w2 ⟨rfl, hf2⟩
                  have HF2 := hid (HF1.out.trans hf2)
                  clear hf2
                  have hA1 := HBp.out _ HF2.out
                  have hB1 := HBq.out _ HF2.out
                  have p3 := hA1.cell 3 rfl
                  have q1 := hB1.cell 1 rfl
                  have q3 := hB1.cell 3 rfl
                  clear hA1 hB1
                  go_wp2
                  go_quiet (fail)
                  have hB3 := fun m => HBq.out _ (HF2.out.drewN m)
                  have x2 := fun m => (hB3 m).cell 2 rfl
                  have x3 := fun m => (hB3 m).frozen 2
                  have x4 := fun m => (hB3 m).lt
                  have HTo := fun m => hid (HPq.out _ _ { q with grp := group0 } (HF2.out.drewN m) ((Fr.refl (At a2) _).setAt 2 (.int .i64 group0)) ((hB3 m).set 2 (.int .i64 group0)))
                  clear hB3
                  go_wp2
                  go_ret
                  exact ⟨rfl, (HTo _).out⟩
                · cases hh : hasG t.l group0 q.ses
                  · rw [hh] at HH
                    rw [if_pos (by simp)]
                    clear hh
                    go_enter Try.func11, Try.ntmps11
                    go_wp2_with fail
                    refine (HF.out _ (Fr.refl _ _)).mono ?_
                    rintro e' w1 ⟨rfl, hf1⟩
                    have HF1 := hid hf1
                    clear hf1
                    go_wp2_with fail
                    refine (HG.out _ HF1.out).mono ?_
                    rintro e' w2 ⟨rfl, hf2⟩
                    have HF2 := hid (HF1.out.trans hf2)
                    clear hf2
                    have hA1 := HBp.out _ HF2.out
                    have hB1 := HBq.out _ HF2.out
                    have p3 := hA1.cell 3 rfl
                    have q1 := hB1.cell 1 rfl
                    have q3 := hB1.cell 3 rfl
                    clear hA1 hB1
                    have HSv : Hid (∀ W, Fr NoB w2 W → W.cell? ⟨a2, 3, none⟩ = some (.int .i64 q.ses) ∧ W.cell? ⟨a, 3, none⟩ = some (.int .i64 p.ses)) := hid fun W hW => ⟨(HBq.out _ (HF2.out.trans hW)).cell 3 rfl, (HBp.out _ (HF2.out.trans hW)).cell 3 rfl⟩
                    have HFD := hid (Fr.drew (Fr.refl NoB w2))
                    go_wp2_with fail
                    go_region_held3 (fun W : World => W.cell? ⟨a2, 3, none⟩ = some (.int .i64 q.ses) ∧ W.cell? ⟨a, 3, none⟩ = some (.int .i64 p.ses)) (first | exact HSv.out _ HF3.out | exact HSv.out _ HFD.out | fail) (first | (go_at_call 29; refine (HH.out _ (HF2.out.trans HFD.out)).mono ?_; rintro e' w3 ⟨rfl, hf3⟩; have HF3 := hid (HFD.out.trans hf3); clear hf3) | fail)
                    go_wp2
                    go_ret
                    exact ⟨rfl, H0.out.still (HF2.out.trans HF3.out)⟩
                  · rw [hh] at HH
                    rw [if_neg (by simp)]
                    clear hh
                    go_enter Try.func11, Try.ntmps11
                    go_wp2_with fail
                    refine (HF.out _ (Fr.refl _ _)).mono ?_
                    rintro e' w1 ⟨rfl, hf1⟩
                    have HF1 := hid hf1
                    clear hf1
                    go_wp2_with fail
                    refine (HG.out _ HF1.out).mono ?_
                    rintro e' w2 ⟨rfl, hf2⟩
                    have HF2 := hid (HF1.out.trans hf2)
                    clear hf2
                    have hA1 := HBp.out _ HF2.out
                    have hB1 := HBq.out _ HF2.out
                    have p3 := hA1.cell 3 rfl
                    have q1 := hB1.cell 1 rfl
                    have q3 := hB1.cell 3 rfl
                    clear hA1 hB1
                    have HSv : Hid (∀ W, Fr NoB w2 W → W.cell? ⟨a2, 3, none⟩ = some (.int .i64 q.ses) ∧ W.cell? ⟨a, 3, none⟩ = some (.int .i64 p.ses)) := hid fun W hW => ⟨(HBq.out _ (HF2.out.trans hW)).cell 3 rfl, (HBp.out _ (HF2.out.trans hW)).cell 3 rfl⟩
                    have HFD := hid (Fr.drew (Fr.refl NoB w2))
                    go_wp2_with fail
                    go_region_held3 (fun W : World => W.cell? ⟨a2, 3, none⟩ = some (.int .i64 q.ses) ∧ W.cell? ⟨a, 3, none⟩ = some (.int .i64 p.ses)) (first | exact HSv.out _ HF3.out | exact HSv.out _ HFD.out | fail) (first | (go_at_call 29; refine (HH.out _ (HF2.out.trans HFD.out)).mono ?_; rintro e' w3 ⟨rfl, hf3⟩; have HF3 := hid (HFD.out.trans hf3); clear hf3) | fail)
                    have hB3 := HBq.out _ (HF2.out.trans HF3.out)
                    have x2 := hB3.cell 2 rfl
                    have x3 := hB3.frozen 2
                    have x4 := hB3.lt
                    have HTo := hid (HPq.out _ _ { q with grp := group0 } (HF2.out.trans HF3.out) ((Fr.refl (At a2) _).setAt 2 (.int .i64 group0)) (hB3.set 2 (.int .i64 group0)))
                    clear hB3
                    go_wp2
                    go_ret
                    exact ⟨rfl, HTo.out⟩
              · rw [if_pos (by simp)]
                go_enter Try.func11, Try.ntmps11
                go_wp2_with fail
                refine (HF.out _ (Fr.refl _ _)).mono ?_
                rintro e' w1 ⟨rfl, hf1⟩
                have HF1 := hid hf1
                clear hf1
                go_wp2_with fail
                refine (HG.out _ HF1.out).mono ?_
                rintro e' w2 ⟨rfl, hf2⟩
                have HF2 := hid (HF1.out.trans hf2)
                clear hf2
                have hA1 := HBp.out _ HF2.out
                have hB1 := HBq.out _ HF2.out
                have p3 := hA1.cell 3 rfl
                have q1 := hB1.cell 1 rfl
                have q3 := hB1.cell 3 rfl
                clear hA1 hB1
                go_wp2
                go_quiet (fail)
                go_wp2
                go_ret
                exact ⟨rfl, H0.out.still (HF2.out.drewN _)⟩
            · rw [if_pos (by simp)]
              go_enter Try.func11, Try.ntmps11
              go_wp2_with fail
              refine (HF.out _ (Fr.refl _ _)).mono ?_
              rintro e' w1 ⟨rfl, hf1⟩
              have HF1 := hid hf1
              clear hf1
              go_wp2_with fail
              refine (HG.out _ HF1.out).mono ?_
              rintro e' w2 ⟨rfl, hf2⟩
              have HF2 := hid (HF1.out.trans hf2)
              clear hf2
              have hA1 := HBp.out _ HF2.out
              have hB1 := HBq.out _ HF2.out
              have p3 := hA1.cell 3 rfl
              have q1 := hB1.cell 1 rfl
              have q3 := hB1.cell 3 rfl
              clear hA1 hB1
              go_wp2
              go_quiet (fail)
              go_wp2
              go_ret
              exact ⟨rfl, H0.out.still (HF2.out.drewN _)⟩
        · have hw0 : (who == 0) = false := by simpa using h0
          clear h0
          cases e1 : (who != pid)
          · clear e12
            by_cases hz : group0 = 0
            · subst hz
              have hGe : grpOf who 0 = who := if_pos rfl
              rw [hGe] at HH ⊢
              clear hGe
              have c3 : (who != who) = false := by simp
              cases c1 : (q.ses == who)
              · cases c2 : (q.ses != p.ses)
                · rw [if_neg (by simp)]
                  go_enter Try.func11, Try.ntmps11
                  go_wp2_with fail
                  refine (HF.out _ (Fr.refl _ _)).mono ?_
                  rintro e' w1 ⟨rfl, hf1⟩
                  have HF1 := hid hf1
                  clear hf1
                  go_wp2_with fail
                  refine (HG.out _ HF1.out).mono ?_
                  rintro e' w2 ⟨rfl, hf2⟩
                  have HF2 := hid (HF1.out.trans hf2)
                  clear hf2
                  have hA1 := HBp.out _ HF2.out
                  have hB1 := HBq.out _ HF2.out
                  have p3 := hA1.cell 3 rfl
                  have q1 := hB1.cell 1 rfl
                  have q3 := hB1.cell 3 rfl
                  clear hA1 hB1
                  go_wp2
                  go_quiet (fail)
                  have hB3 := fun m => HBq.out _ (HF2.out.drewN m)
                  have x2 := fun m => (hB3 m).cell 2 rfl
                  have x3 := fun m => (hB3 m).frozen 2
                  have x4 := fun m => (hB3 m).lt
                  have HTo := fun m => hid (HPq.out _ _ { q with grp := who } (HF2.out.drewN m) ((Fr.refl (At a2) _).setAt 2 (.int .i64 who)) ((hB3 m).set 2 (.int .i64 who)))
                  clear hB3
                  go_wp2
                  go_ret
                  exact ⟨rfl, (HTo _).out⟩
                · rw [if_pos (by simp)]
                  go_enter Try.func11, Try.ntmps11
                  go_wp2_with fail
                  refine (HF.out _ (Fr.refl _ _)).mono ?_
                  rintro e' w1 ⟨rfl, hf1⟩
                  have HF1 := hid hf1
                  clear hf1
                  go_wp2_with fail
                  refine (HG.out _ HF1.out).mono ?_
                  rintro e' w2 ⟨rfl, hf2⟩
                  have HF2 := hid (HF1.out.trans hf2)
                  clear hf2
                  have hA1 := HBp.out _ HF2.out
                  have hB1 := HBq.out _ HF2.out
                  have p3 := hA1.cell 3 rfl
                  have q1 := hB1.cell 1 rfl
                  have q3 := hB1.cell 3 rfl
                  clear hA1 hB1
                  go_wp2
                  go_quiet (fail)
                  go_wp2
                  go_ret
                  exact ⟨rfl, H0.out.still (HF2.out.drewN _)⟩
              · rw [if_pos (by simp)]
                go_enter Try.func11, Try.ntmps11
                go_wp2_with fail
                refine (HF.out _ (Fr.refl _ _)).mono ?_
                rintro e' w1 ⟨rfl, hf1⟩
                have HF1 := hid hf1
                clear hf1
                go_wp2_with fail
                refine (HG.out _ HF1.out).mono ?_
                rintro e' w2 ⟨rfl, hf2⟩
                have HF2 := hid (HF1.out.trans hf2)
                clear hf2
                have hA1 := HBp.out _ HF2.out
                have hB1 := HBq.out _ HF2.out
                have p3 := hA1.cell 3 rfl
                have q1 := hB1.cell 1 rfl
                have q3 := hB1.cell 3 rfl
                clear hA1 hB1
                go_wp2
                go_quiet (fail)
                go_wp2
                go_ret
                exact ⟨rfl, H0.out.still (HF2.out.drewN _)⟩
            · have g0 : (group0 == 0) = false := by simpa using hz
              have hGe : grpOf who group0 = group0 := if_neg hz
              rw [hGe] at HH ⊢
              clear hGe hz
              cases c1 : (q.ses == who)
              · cases c2 : (q.ses != p.ses)
                · cases c3 : (group0 != who)
                  · rw [if_neg (by simp)]
                    go_enter Try.func11, Try.ntmps11
                    go_wp2_with fail
                    refine (HF.out _ (Fr.refl _ _)).mono ?_
                    rintro e' w1 ⟨rfl, hf1⟩
                    have HF1 := hid hf1
                    clear hf1
                    go_wp2_with fail
                    refine (HG.out _ HF1.out).mono ?_
                    rintro e' w2 ⟨rfl, hf2⟩
                    have HF2 := hid (HF1.out.trans hf2)
                    clear hf2
                    have hA1 := HBp.out _ HF2.out
                    have hB1 := HBq.out _ HF2.out
                    have p3 := hA1.cell 3 rfl
                    have q1 := hB1.cell 1 rfl
                    have q3 := hB1.cell 3 rfl
                    clear hA1 hB1
                    go_wp2
                    go_quiet (fail)
                    have hB3 := fun m => HBq.out _ (HF2.out.drewN m)
                    have x2 := fun m => (hB3 m).cell 2 rfl
                    have x3 := fun m => (hB3 m).frozen 2
                    have x4 := fun m => (hB3 m).lt
                    have HTo := fun m => hid (HPq.out _ _ { q with grp := group0 } (HF2.out.drewN m) ((Fr.refl (At a2) _).setAt 2 (.int .i64 group0)) ((hB3 m).set 2 (.int .i64 group0)))
                    clear hB3
                    go_wp2
                    go_ret
                    exact ⟨rfl, (HTo _).out⟩
                  · cases hh : hasG t.l group0 q.ses
                    · rw [hh] at HH
                      rw [if_pos (by simp)]
                      clear hh
                      go_enter Try.func11, Try.ntmps11
                      go_wp2_with fail
                      refine (HF.out _ (Fr.refl _ _)).mono ?_
                      rintro e' w1 ⟨rfl, hf1⟩
                      have HF1 := hid hf1
                      clear hf1
                      go_wp2_with fail
                      refine (HG.out _ HF1.out).mono ?_
                      rintro e' w2 ⟨rfl, hf2⟩
                      have HF2 := hid (HF1.out.trans hf2)
                      clear hf2
                      have hA1 := HBp.out _ HF2.out
                      have hB1 := HBq.out _ HF2.out
                      have p3 := hA1.cell 3 rfl
                      have q1 := hB1.cell 1 rfl
                      have q3 := hB1.cell 3 rfl
                      clear hA1 hB1
                      have HSv : Hid (∀ W, Fr NoB w2 W → W.cell? ⟨a2, 3, none⟩ = some (.int .i64 q.ses) ∧ W.cell? ⟨a, 3, none⟩ = some (.int .i64 p.ses)) := hid fun W hW => ⟨(HBq.out _ (HF2.out.trans hW)).cell 3 rfl, (HBp.out _ (HF2.out.trans hW)).cell 3 rfl⟩
                      have HFD := hid (Fr.drew (Fr.refl NoB w2))
                      go_wp2_with fail
                      go_region_held3 (fun W : World => W.cell? ⟨a2, 3, none⟩ = some (.int .i64 q.ses) ∧ W.cell? ⟨a, 3, none⟩ = some (.int .i64 p.ses)) (first | exact HSv.out _ HF3.out | exact HSv.out _ HFD.out | fail) (first | (go_at_call 29; refine (HH.out _ (HF2.out.trans HFD.out)).mono ?_; rintro e' w3 ⟨rfl, hf3⟩; have HF3 := hid (HFD.out.trans hf3); clear hf3) | fail)
                      go_wp2
                      go_ret
                      exact ⟨rfl, H0.out.still (HF2.out.trans HF3.out)⟩
                    · rw [hh] at HH
                      rw [if_neg (by simp)]
                      clear hh
                      go_enter Try.func11, Try.ntmps11
                      go_wp2_with fail
                      refine (HF.out _ (Fr.refl _ _)).mono ?_
                      rintro e' w1 ⟨rfl, hf1⟩
                      have HF1 := hid hf1
                      clear hf1
                      go_wp2_with fail
                      refine (HG.out _ HF1.out).mono ?_
                      rintro e' w2 ⟨rfl, hf2⟩
                      have HF2 := hid (HF1.out.trans hf2)
                      clear hf2
                      have hA1 := HBp.out _ HF2.out
                      have hB1 := HBq.out _ HF2.out
                      have p3 := hA1.cell 3 rfl
                      have q1 := hB1.cell 1 rfl
                      have q3 := hB1.cell 3 rfl
                      clear hA1 hB1
                      have HSv : Hid (∀ W, Fr NoB w2 W → W.cell? ⟨a2, 3, none⟩ = some (.int .i64 q.ses) ∧ W.cell? ⟨a, 3, none⟩ = some (.int .i64 p.ses)) := hid fun W hW => ⟨(HBq.out _ (HF2.out.trans hW)).cell 3 rfl, (HBp.out _ (HF2.out.trans hW)).cell 3 rfl⟩
                      have HFD := hid (Fr.drew (Fr.refl NoB w2))
                      go_wp2_with fail
                      go_region_held3 (fun W : World => W.cell? ⟨a2, 3, none⟩ = some (.int .i64 q.ses) ∧ W.cell? ⟨a, 3, none⟩ = some (.int .i64 p.ses)) (first | exact HSv.out _ HF3.out | exact HSv.out _ HFD.out | fail) (first | (go_at_call 29; refine (HH.out _ (HF2.out.trans HFD.out)).mono ?_; rintro e' w3 ⟨rfl, hf3⟩; have HF3 := hid (HFD.out.trans hf3); clear hf3) | fail)
                      have hB3 := HBq.out _ (HF2.out.trans HF3.out)
                      have x2 := hB3.cell 2 rfl
                      have x3 := hB3.frozen 2
                      have x4 := hB3.lt
                      have HTo := hid (HPq.out _ _ { q with grp := group0 } (HF2.out.trans HF3.out) ((Fr.refl (At a2) _).setAt 2 (.int .i64 group0)) (hB3.set 2 (.int .i64 group0)))
                      clear hB3
                      go_wp2
                      go_ret
                      exact ⟨rfl, HTo.out⟩
                · rw [if_pos (by simp)]
                  go_enter Try.func11, Try.ntmps11
                  go_wp2_with fail
                  refine (HF.out _ (Fr.refl _ _)).mono ?_
                  rintro e' w1 ⟨rfl, hf1⟩
                  have HF1 := hid hf1
                  clear hf1
                  go_wp2_with fail
                  refine (HG.out _ HF1.out).mono ?_
                  rintro e' w2 ⟨rfl, hf2⟩
                  have HF2 := hid (HF1.out.trans hf2)
                  clear hf2
                  have hA1 := HBp.out _ HF2.out
                  have hB1 := HBq.out _ HF2.out
                  have p3 := hA1.cell 3 rfl
                  have q1 := hB1.cell 1 rfl
                  have q3 := hB1.cell 3 rfl
                  clear hA1 hB1
                  go_wp2
                  go_quiet (fail)
                  go_wp2
                  go_ret
                  exact ⟨rfl, H0.out.still (HF2.out.drewN _)⟩
              · rw [if_pos (by simp)]
                go_enter Try.func11, Try.ntmps11
                go_wp2_with fail
                refine (HF.out _ (Fr.refl _ _)).mono ?_
                rintro e' w1 ⟨rfl, hf1⟩
                have HF1 := hid hf1
                clear hf1
                go_wp2_with fail
                refine (HG.out _ HF1.out).mono ?_
                rintro e' w2 ⟨rfl, hf2⟩
                have HF2 := hid (HF1.out.trans hf2)
                clear hf2
                have hA1 := HBp.out _ HF2.out
                have hB1 := HBq.out _ HF2.out
                have p3 := hA1.cell 3 rfl
                have q1 := hB1.cell 1 rfl
                have q3 := hB1.cell 3 rfl
                clear hA1 hB1
                go_wp2
                go_quiet (fail)
                go_wp2
                go_ret
                exact ⟨rfl, H0.out.still (HF2.out.drewN _)⟩
          · have e2 : (q.par != pid) = false := by rw [e1] at e12; exact e12
            clear e12
            by_cases hz : group0 = 0
            · subst hz
              have hGe : grpOf who 0 = who := if_pos rfl
              rw [hGe] at HH ⊢
              clear hGe
              have c3 : (who != who) = false := by simp
              cases c1 : (q.ses == who)
              · cases c2 : (q.ses != p.ses)
                · rw [if_neg (by simp)]
                  go_enter Try.func11, Try.ntmps11
                  go_wp2_with fail
                  refine (HF.out _ (Fr.refl _ _)).mono ?_
                  rintro e' w1 ⟨rfl, hf1⟩
                  have HF1 := hid hf1
                  clear hf1
                  go_wp2_with fail
                  refine (HG.out _ HF1.out).mono ?_
                  rintro e' w2 ⟨rfl, hf2⟩
                  have HF2 := hid (HF1.out.trans hf2)
                  clear hf2
                  have hA1 := HBp.out _ HF2.out
                  have hB1 := HBq.out _ HF2.out
                  have p3 := hA1.cell 3 rfl
                  have q1 := hB1.cell 1 rfl
                  have q3 := hB1.cell 3 rfl
                  clear hA1 hB1
                  go_wp2
                  go_quiet (fail)
                  have hB3 := fun m => HBq.out _ (HF2.out.drewN m)
                  have x2 := fun m => (hB3 m).cell 2 rfl
                  have x3 := fun m => (hB3 m).frozen 2
                  have x4 := fun m => (hB3 m).lt
                  have HTo := fun m => hid (HPq.out _ _ { q with grp := who } (HF2.out.drewN m) ((Fr.refl (At a2) _).setAt 2 (.int .i64 who)) ((hB3 m).set 2 (.int .i64 who)))
                  clear hB3
                  go_wp2
                  go_ret
                  exact ⟨rfl, (HTo _).out⟩
                · rw [if_pos (by simp)]
                  go_enter Try.func11, Try.ntmps11
                  go_wp2_with fail
                  refine (HF.out _ (Fr.refl _ _)).mono ?_
                  rintro e' w1 ⟨rfl, hf1⟩
                  have HF1 := hid hf1
                  clear hf1
                  go_wp2_with fail
                  refine (HG.out _ HF1.out).mono ?_
                  rintro e' w2 ⟨rfl, hf2⟩
                  have HF2 := hid (HF1.out.trans hf2)
                  clear hf2
                  have hA1 := HBp.out _ HF2.out
                  have hB1 := HBq.out _ HF2.out
                  have p3 := hA1.cell 3 rfl
                  have q1 := hB1.cell 1 rfl
                  have q3 := hB1.cell 3 rfl
                  clear hA1 hB1
                  go_wp2
                  go_quiet (fail)
                  go_wp2
                  go_ret
                  exact ⟨rfl, H0.out.still (HF2.out.drewN _)⟩
              · rw [if_pos (by simp)]
                go_enter Try.func11, Try.ntmps11
                go_wp2_with fail
                refine (HF.out _ (Fr.refl _ _)).mono ?_
                rintro e' w1 ⟨rfl, hf1⟩
                have HF1 := hid hf1
                clear hf1
                go_wp2_with fail
                refine (HG.out _ HF1.out).mono ?_
                rintro e' w2 ⟨rfl, hf2⟩
                have HF2 := hid (HF1.out.trans hf2)
                clear hf2
                have hA1 := HBp.out _ HF2.out
                have hB1 := HBq.out _ HF2.out
                have p3 := hA1.cell 3 rfl
                have q1 := hB1.cell 1 rfl
                have q3 := hB1.cell 3 rfl
                clear hA1 hB1
                go_wp2
                go_quiet (fail)
                go_wp2
                go_ret
                exact ⟨rfl, H0.out.still (HF2.out.drewN _)⟩
            · have g0 : (group0 == 0) = false := by simpa using hz
              have hGe : grpOf who group0 = group0 := if_neg hz
              rw [hGe] at HH ⊢
              clear hGe hz
              cases c1 : (q.ses == who)
              · cases c2 : (q.ses != p.ses)
                · cases c3 : (group0 != who)
                  · rw [if_neg (by simp)]
                    go_enter Try.func11, Try.ntmps11
                    go_wp2_with fail
                    refine (HF.out _ (Fr.refl _ _)).mono ?_
                    rintro e' w1 ⟨rfl, hf1⟩
                    have HF1 := hid hf1
                    clear hf1
                    go_wp2_with fail
                    refine (HG.out _ HF1.out).mono ?_
                    rintro e' w2 ⟨rfl, hf2⟩
                    have HF2 := hid (HF1.out.trans hf2)
                    clear hf2
                    have hA1 := HBp.out _ HF2.out
                    have hB1 := HBq.out _ HF2.out
                    have p3 := hA1.cell 3 rfl
                    have q1 := hB1.cell 1 rfl
                    have q3 := hB1.cell 3 rfl
                    clear hA1 hB1
                    go_wp2
                    go_quiet (fail)
                    have hB3 := fun m => HBq.out _ (HF2.out.drewN m)
                    have x2 := fun m => (hB3 m).cell 2 rfl
                    have x3 := fun m => (hB3 m).frozen 2
                    have x4 := fun m => (hB3 m).lt
                    have HTo := fun m => hid (HPq.out _ _ { q with grp := group0 } (HF2.out.drewN m) ((Fr.refl (At a2) _).setAt 2 (.int .i64 group0)) ((hB3 m).set 2 (.int .i64 group0)))
                    clear hB3
                    go_wp2
                    go_ret
                    exact ⟨rfl, (HTo _).out⟩
                  · cases hh : hasG t.l group0 q.ses
                    · rw [hh] at HH
                      rw [if_pos (by simp)]
                      clear hh
                      go_enter Try.func11, Try.ntmps11
                      go_wp2_with fail
                      refine (HF.out _ (Fr.refl _ _)).mono ?_
                      rintro e' w1 ⟨rfl, hf1⟩
                      have HF1 := hid hf1
                      clear hf1
                      go_wp2_with fail
                      refine (HG.out _ HF1.out).mono ?_
                      rintro e' w2 ⟨rfl, hf2⟩
                      have HF2 := hid (HF1.out.trans hf2)
                      clear hf2
                      have hA1 := HBp.out _ HF2.out
                      have hB1 := HBq.out _ HF2.out
                      have p3 := hA1.cell 3 rfl
                      have q1 := hB1.cell 1 rfl
                      have q3 := hB1.cell 3 rfl
                      clear hA1 hB1
                      have HSv : Hid (∀ W, Fr NoB w2 W → W.cell? ⟨a2, 3, none⟩ = some (.int .i64 q.ses) ∧ W.cell? ⟨a, 3, none⟩ = some (.int .i64 p.ses)) := hid fun W hW => ⟨(HBq.out _ (HF2.out.trans hW)).cell 3 rfl, (HBp.out _ (HF2.out.trans hW)).cell 3 rfl⟩
                      have HFD := hid (Fr.drew (Fr.refl NoB w2))
                      go_wp2_with fail
                      go_region_held3 (fun W : World => W.cell? ⟨a2, 3, none⟩ = some (.int .i64 q.ses) ∧ W.cell? ⟨a, 3, none⟩ = some (.int .i64 p.ses)) (first | exact HSv.out _ HF3.out | exact HSv.out _ HFD.out | fail) (first | (go_at_call 29; refine (HH.out _ (HF2.out.trans HFD.out)).mono ?_; rintro e' w3 ⟨rfl, hf3⟩; have HF3 := hid (HFD.out.trans hf3); clear hf3) | fail)
                      go_wp2
                      go_ret
                      exact ⟨rfl, H0.out.still (HF2.out.trans HF3.out)⟩
                    · rw [hh] at HH
                      rw [if_neg (by simp)]
                      clear hh
                      go_enter Try.func11, Try.ntmps11
                      go_wp2_with fail
                      refine (HF.out _ (Fr.refl _ _)).mono ?_
                      rintro e' w1 ⟨rfl, hf1⟩
                      have HF1 := hid hf1
                      clear hf1
                      go_wp2_with fail
                      refine (HG.out _ HF1.out).mono ?_
                      rintro e' w2 ⟨rfl, hf2⟩
                      have HF2 := hid (HF1.out.trans hf2)
                      clear hf2
                      have hA1 := HBp.out _ HF2.out
                      have hB1 := HBq.out _ HF2.out
                      have p3 := hA1.cell 3 rfl
                      have q1 := hB1.cell 1 rfl
                      have q3 := hB1.cell 3 rfl
                      clear hA1 hB1
                      have HSv : Hid (∀ W, Fr NoB w2 W → W.cell? ⟨a2, 3, none⟩ = some (.int .i64 q.ses) ∧ W.cell? ⟨a, 3, none⟩ = some (.int .i64 p.ses)) := hid fun W hW => ⟨(HBq.out _ (HF2.out.trans hW)).cell 3 rfl, (HBp.out _ (HF2.out.trans hW)).cell 3 rfl⟩
                      have HFD := hid (Fr.drew (Fr.refl NoB w2))
                      go_wp2_with fail
                      go_region_held3 (fun W : World => W.cell? ⟨a2, 3, none⟩ = some (.int .i64 q.ses) ∧ W.cell? ⟨a, 3, none⟩ = some (.int .i64 p.ses)) (first | exact HSv.out _ HF3.out | exact HSv.out _ HFD.out | fail) (first | (go_at_call 29; refine (HH.out _ (HF2.out.trans HFD.out)).mono ?_; rintro e' w3 ⟨rfl, hf3⟩; have HF3 := hid (HFD.out.trans hf3); clear hf3) | fail)
                      have hB3 := HBq.out _ (HF2.out.trans HF3.out)
                      have x2 := hB3.cell 2 rfl
                      have x3 := hB3.frozen 2
                      have x4 := hB3.lt
                      have HTo := hid (HPq.out _ _ { q with grp := group0 } (HF2.out.trans HF3.out) ((Fr.refl (At a2) _).setAt 2 (.int .i64 group0)) (hB3.set 2 (.int .i64 group0)))
                      clear hB3
                      go_wp2
                      go_ret
                      exact ⟨rfl, HTo.out⟩
                · rw [if_pos (by simp)]
                  go_enter Try.func11, Try.ntmps11
                  go_wp2_with fail
                  refine (HF.out _ (Fr.refl _ _)).mono ?_
                  rintro e' w1 ⟨rfl, hf1⟩
                  have HF1 := hid hf1
                  clear hf1
                  go_wp2_with fail
                  refine (HG.out _ HF1.out).mono ?_
                  rintro e' w2 ⟨rfl, hf2⟩
                  have HF2 := hid (HF1.out.trans hf2)
                  clear hf2
                  have hA1 := HBp.out _ HF2.out
                  have hB1 := HBq.out _ HF2.out
                  have p3 := hA1.cell 3 rfl
                  have q1 := hB1.cell 1 rfl
                  have q3 := hB1.cell 3 rfl
                  clear hA1 hB1
                  go_wp2
                  go_quiet (fail)
                  go_wp2
                  go_ret
                  exact ⟨rfl, H0.out.still (HF2.out.drewN _)⟩
              · rw [if_pos (by simp)]
                go_enter Try.func11, Try.ntmps11
                go_wp2_with fail
                refine (HF.out _ (Fr.refl _ _)).mono ?_
                rintro e' w1 ⟨rfl, hf1⟩
                have HF1 := hid hf1
                clear hf1
                go_wp2_with fail
                refine (HG.out _ HF1.out).mono ?_
                rintro e' w2 ⟨rfl, hf2⟩
                have HF2 := hid (HF1.out.trans hf2)
                clear hf2
                have hA1 := HBp.out _ HF2.out
                have hB1 := HBq.out _ HF2.out
                have p3 := hA1.cell 3 rfl
                have q1 := hB1.cell 1 rfl
                have q3 := hB1.cell 3 rfl
                clear hA1 hB1
                go_wp2
                go_quiet (fail)
                go_wp2
                go_ret
                exact ⟨rfl, H0.out.still (HF2.out.drewN _)⟩
  unfold pgidT
  by_cases h0 : who0 = 0
  · exact main _ rfl (.inl ⟨h0, by unfold whoOf; rw [if_pos h0]⟩)
  · exact main _ rfl (.inr ⟨h0, by unfold whoOf; rw [if_neg h0]⟩)
end Go.Proofs.Ytlagakcpjmjdfaa
