import Derived.Test.YtlagakcpjmjdfaaB2
set_option linter.unusedSimpArgs false
set_option linter.unusedVariables false
set_option maxRecDepth 20000
namespace Go.Proofs.Ytlagakcpjmjdfaa
open Go.RowKit Go.Proofs.YtlagakcpjmjdfaaW.PrintWords
theorem ixP_some (q : Pr → Bool) (l : List Pr) (h : l.any q = true) : ∃ (i : Nat) (hi : i < l.length), ixP q l = i ∧ l.find? q = some l[i] ∧ l.findIdx q = i := by
  have hi : l.findIdx q < l.length := List.findIdx_lt_length_of_exists (by simpa using h)
  exact ⟨l.findIdx q, hi, by unfold ixP; rw [if_pos h], find_at l q hi, rfl⟩
theorem find_none (q : Pr → Bool) (l : List Pr) (h : l.any q = false) : l.find? q = none := by
  rw [List.find?_eq_none]
  simpa using h
set_option maxHeartbeats 8000000 in
theorem rOrph_any (w : World) (v fv : Value) (nx : Int) (t : Tb) (F : List Int) (gr : Int) (h : RT w v fv t F) (hl : t.l.length ≤ 4096) :
    Calls Try.prog 25 #[rtv v nx fv, .int .i64 gr] w fun e w' => e = .returned (.bool (orphG t.l gr)) ∧ Fr NoB w w' := by
  obtain ⟨A, c, hv, hc⟩ := h.l.shape
  subst hv
  obtain ⟨A2, c2, hfv, _⟩ := h.f.shape
  have hf0 : Fr NoB w (w.alloc (.cells #[.slice A t.l.length c, .int .i64 nx, fv] 43)) := (Fr.refl _ _).alloc _
  have HR := hid (h.frd hf0)
  have HBx := hid (Blk.new w 43 [.slice A t.l.length c, .int .i64 nx, fv])
  have HF0 := hid hf0
  have hor : orphG t.l gr = (hasG t.l gr 0 && !t.l.any (keeps t.l gr)) := rfl
  have HO := hid hor
  subst hfv
  clear h hf0 hor
  unfold rtv
  go_enter Try.func25, Try.ntmps25
  go_wp2
  generalize (w.alloc (.cells #[.slice A t.l.length c, .int .i64 nx, .slice A2 F.length c2] 43)) = w1 at HR HF0 HBx ⊢
  go_loopw [5] (fun v5 wr => ∃ k : Nat, k ≤ t.l.length ∧ v5 = .int .i64 k ∧ Hid ((t.l.take k).any (keeps t.l gr) = false) ∧ Hid (Fr NoB w1 wr)) (fun v5 _ => t.l.length - (intOf v5).toNat)
  case atStart => exact ⟨0, Nat.zero_le _, rfl, rfl, Fr.refl _ _⟩
  case round =>
    obtain ⟨k, hk, rfl, HP0, HF⟩ := hrel
    have hbb := HBx.out.fr HF.out (fun h => h)
    have b0 := hbb.cell 0 rfl
    have b1 := hbb.cell 1 rfl
    have b2 := hbb.cell 2 rfl
    have bl := hbb.lt
    clear hbb
    by_cases hkm : k < t.l.length
    · obtain ⟨g, c9, h9, _, c0, c1, c2', c3, c4, c5⟩ := PrR.at_ (HR.out.l.fr HF.out (fun _ _ h => h)) k hkm
      obtain rfl : A = some ⟨g, 0, none⟩ := by injection h9
      have hmiss : (t.l.take (k + 1)).any (keeps t.l gr) = keeps t.l gr t.l[k] := by rw [List.take_succ_eq_append_getElem hkm, List.any_append, HP0.out]; simp
      have hhit : keeps t.l gr t.l[k] = true → orphG t.l gr = false := fun h => by
        rw [HO.out, List.any_eq_true.2 ⟨_, List.getElem_mem hkm, h⟩]
        simp
      have HAt := hid fun W (hW : Fr NoB w1 W) => rAt_any W _ _ nx t F t.l[k].par (HR.out.frd hW) hl
      unfold rtv at HAt
      have hun : keeps t.l gr t.l[k] = (t.l[k].grp == gr && (match t.l.find? (isPid t.l[k].par) with | some q => q.grp != gr && q.ses == t.l[k].ses | none => false)) := rfl
      have HH := hid hhit
      have HM := hid hmiss
      have HUn := hid hun
      clear hhit hmiss h9 hun
      generalize t.l[k] = x at *
      cases hany : t.l.any (isPid x.par)
      · have HA := hid (ixP_none hany)
        have HM2 : Hid ((t.l.take (k + 1)).any (keeps t.l gr) = false) := hid (by rw [HM.out, HUn.out, find_none _ _ hany]; simp)
        rw [HA.out] at HAt
        clear hany HM HH HUn HA
        cases e1 : (x.grp == gr)
        · skip
          go_wp2_with fail
          refine (HAt.out _ (HF.out.alloc _)).mono ?_
          rintro e' w4 ⟨rfl, hf4⟩
          have HF4 := hid ((HF.out.alloc _).trans hf4)
          have hpb := (Blk.new wr 51 x.cells).fr hf4 (fun h => h)
          have x2 := hpb.cell 2 rfl
          have x3 := hpb.cell 3 rfl
          have hbb := HBx.out.fr HF4.out (fun h => h)
          have b0 := hbb.cell 0 rfl
          clear hpb hbb hf4
          go_wp2
          go_quiet (fail)
          go_wp2
          go_roundw
          case rel => exact ⟨k + 1, by omega, by go_num, HM2.out, HF4.out.drewN _⟩
          case measure => simp [intOf]; omega
        · skip
          go_wp2_with fail
          refine (HAt.out _ (HF.out.alloc _)).mono ?_
          rintro e' w4 ⟨rfl, hf4⟩
          have HF4 := hid ((HF.out.alloc _).trans hf4)
          have hpb := (Blk.new wr 51 x.cells).fr hf4 (fun h => h)
          have x2 := hpb.cell 2 rfl
          have x3 := hpb.cell 3 rfl
          have hbb := HBx.out.fr HF4.out (fun h => h)
          have b0 := hbb.cell 0 rfl
          clear hpb hbb hf4
          go_wp2
          go_quiet (fail)
          go_wp2
          go_roundw
          case rel => exact ⟨k + 1, by omega, by go_num, HM2.out, HF4.out.drewN _⟩
          case measure => simp [intOf]; omega
      · obtain ⟨i, hi, hix, hfi, _⟩ := ixP_some _ _ hany
        rw [hix] at HAt
        rw [hfi] at HUn
        have HUn2 : Hid (keeps t.l gr x = (x.grp == gr && (t.l[i].grp != gr && t.l[i].ses == x.ses))) := HUn
        have HQ : Hid (∀ W, Fr NoB w1 W → W.cell? ⟨g, i * 6 + 2, none⟩ = some (.int .i64 t.l[i].grp) ∧ W.cell? ⟨g, i * 6 + 3, none⟩ = some (.int .i64 t.l[i].ses)) := hid fun W hW => by
          obtain ⟨g', c9', h9', _, _, _, d2, d3, _, _⟩ := PrR.at_ (HR.out.l.fr hW (fun _ _ h => h)) i hi
          obtain rfl : g = g' := by injection h9' with e _ _; injection e with e; injection e
          exact ⟨d2, d3⟩
        clear hany hix hfi HUn
        generalize t.l[i] = q at *
        cases e1 : (x.grp == gr)
        · have HM2 : Hid ((t.l.take (k + 1)).any (keeps t.l gr) = false) := hid (by rw [HM.out, HUn2.out, e1]; rfl)
          clear HM HH HUn2
          go_wp2_with fail
          refine (HAt.out _ (HF.out.alloc _)).mono ?_
          rintro e' w4 ⟨rfl, hf4⟩
          have HF4 := hid ((HF.out.alloc _).trans hf4)
          have hpb := (Blk.new wr 51 x.cells).fr hf4 (fun h => h)
          have x2 := hpb.cell 2 rfl
          have x3 := hpb.cell 3 rfl
          have hbb := HBx.out.fr HF4.out (fun h => h)
          have b0 := hbb.cell 0 rfl
          clear hpb hbb hf4
          obtain ⟨q2, q3⟩ := HQ.out _ HF4.out
          go_wp2
          go_quiet (fail)
          go_wp2
          go_roundw
          case rel => exact ⟨k + 1, by omega, by go_num, HM2.out, HF4.out.drewN _⟩
          case measure => simp [intOf]; omega
        · cases e2 : (q.grp != gr)
          · have HM2 : Hid ((t.l.take (k + 1)).any (keeps t.l gr) = false) := hid (by rw [HM.out, HUn2.out, e1, e2]; rfl)
            clear HM HH HUn2
            go_wp2_with fail
            refine (HAt.out _ (HF.out.alloc _)).mono ?_
            rintro e' w4 ⟨rfl, hf4⟩
            have HF4 := hid ((HF.out.alloc _).trans hf4)
            have hpb := (Blk.new wr 51 x.cells).fr hf4 (fun h => h)
            have x2 := hpb.cell 2 rfl
            have x3 := hpb.cell 3 rfl
            have hbb := HBx.out.fr HF4.out (fun h => h)
            have b0 := hbb.cell 0 rfl
            clear hpb hbb hf4
            obtain ⟨q2, q3⟩ := HQ.out _ HF4.out
            go_wp2
            go_quiet (fail)
            go_wp2
            go_roundw
            case rel => exact ⟨k + 1, by omega, by go_num, HM2.out, HF4.out.drewN _⟩
            case measure => simp [intOf]; omega
          · cases e3 : (q.ses == x.ses)
            · have HM2 : Hid ((t.l.take (k + 1)).any (keeps t.l gr) = false) := hid (by rw [HM.out, HUn2.out, e1, e2, e3]; rfl)
              clear HM HH HUn2
              go_wp2_with fail
              refine (HAt.out _ (HF.out.alloc _)).mono ?_
              rintro e' w4 ⟨rfl, hf4⟩
              have HF4 := hid ((HF.out.alloc _).trans hf4)
              have hpb := (Blk.new wr 51 x.cells).fr hf4 (fun h => h)
              have x2 := hpb.cell 2 rfl
              have x3 := hpb.cell 3 rfl
              have hbb := HBx.out.fr HF4.out (fun h => h)
              have b0 := hbb.cell 0 rfl
              clear hpb hbb hf4
              obtain ⟨q2, q3⟩ := HQ.out _ HF4.out
              go_wp2
              go_quiet (fail)
              go_wp2
              go_roundw
              case rel => exact ⟨k + 1, by omega, by go_num, HM2.out, HF4.out.drewN _⟩
              case measure => simp [intOf]; omega
            · have HH2 : Hid (orphG t.l gr = false) := hid (HH.out (by rw [HUn2.out, e1, e2, e3]; rfl))
              clear HM HH HUn2
              go_wp2_with fail
              refine (HAt.out _ (HF.out.alloc _)).mono ?_
              rintro e' w4 ⟨rfl, hf4⟩
              have HF4 := hid ((HF.out.alloc _).trans hf4)
              have hpb := (Blk.new wr 51 x.cells).fr hf4 (fun h => h)
              have x2 := hpb.cell 2 rfl
              have x3 := hpb.cell 3 rfl
              have hbb := HBx.out.fr HF4.out (fun h => h)
              have b0 := hbb.cell 0 rfl
              clear hpb hbb hf4
              obtain ⟨q2, q3⟩ := HQ.out _ HF4.out
              go_wp2
              go_quiet (fail)
              go_wp2
              go_ret
              exact ⟨ret1 HH2.out, (HF0.out.trans HF4.out).drewN _⟩
    · have hp0 := HP0.out
      rw [List.take_of_length_le (by omega)] at hp0
      have HPN : Hid (orphG t.l gr = hasG t.l gr 0) := hid (by rw [HO.out, hp0]; simp)
      have HHas := hid (rHas_any wr _ _ nx t F gr 0 (HR.out.frd HF.out) hl)
      unfold rtv at HHas
      clear hp0
      go_wp2_with fail
      refine HHas.out.mono ?_
      rintro e' w4 ⟨rfl, hf4⟩
      have HF4 := hid ((HF0.out.trans HF.out).trans hf4)
      clear hf4
      go_wp2
      go_ret
      exact ⟨ret1 HPN.out, HF4.out⟩
end Go.Proofs.Ytlagakcpjmjdfaa
