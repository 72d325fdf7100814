import Derived.Test.YteaoafipjaffpaaS5
set_option linter.unusedSimpArgs false
set_option linter.unusedVariables false
namespace Go.Proofs.Yteaoafipjaffpaa
open Go.RowKit Go.Proofs.YteaoafipjaffpaaW.PrintWords
attribute [local go_sem] st_float
set_option maxHeartbeats 4000000 in
theorem best_any (w : World) (b g c d : Nat) (q : List Nat) (got : List Bool) (hB : Blk w b 26 (q.flatMap fw)) (hG : Blk w g 4 (got.flatMap bw)) (hq : ∀ x ∈ q, x < FT.infR) (hlen : got.length = q.length) (hl : q.length ≤ 64) :
    Calls Try.prog 31 #[.slice (some ⟨b, 0, none⟩) q.length c, .slice (some ⟨g, 0, none⟩) q.length d] w fun e w' => e = .returned (.int .i64 (FT.atI (FT.best q got))) ∧ Fr NoB w w' := by
  have hbest : FT.best q got = FT.bestTo q got q.length := rfl
  have HBEST := hid hbest
  clear hbest
  go_enter Try.func31, Try.ntmps31
  go_wp2
  go_loopw [5, 6, 9] (fun v5 v6 v9 wr => ∃ k : Nat, k ≤ q.length ∧ v9 = .int .i64 k ∧ v5 = .int .i64 (FT.atI (FT.bestTo q got k)) ∧ (∃ x, v6 = x) ∧ Fr NoB w wr) (fun _ _ v9 _ => q.length - (intOf v9).toNat)
  case atStart => exact ⟨0, Nat.zero_le _, rfl, rfl, ⟨_, rfl⟩, Fr.refl _ _⟩
  case round =>
    obtain ⟨k, hk, rfl, rfl, ⟨v6, rfl⟩, hf⟩ := hrel
    by_cases hkm : k < q.length
    · have hqc := (hB.fr hf (fun h => h)).cell k (fw_get q k hkm)
      have hgc := (hG.fr hf (fun h => h)).cell k (bw_get got k (by omega))
      have hstep : FT.bestTo q got (k + 1) = if FT.better q got k (FT.bestTo q got k) then some k else FT.bestTo q got k := rfl
      have hlt := FT.bestTo_lt q got k
      have hgd : got.getD k false = got[k] := by rw [List.getD_eq_getElem?_getD, List.getElem?_eq_getElem (by omega)]; rfl
      have hqd : q.getD k 0 = q[k] := by rw [List.getD_eq_getElem?_getD, List.getElem?_eq_getElem (by omega)]; rfl
      have hkf := hq q[k] (List.getElem_mem hkm)
      cases hgk : got[k]'(by omega)
      · cases ha : FT.bestTo q got k with
        | none =>
          have hnew : FT.bestTo q got (k + 1) = some k := by
            rw [hstep, ha]
            unfold FT.better
            rw [hgd, hgk]
            rfl
          have HNEW := hid hnew
          rw [hgk] at hgc
          clear hstep hlt hgd hqd hnew ha hgk
          generalize q[k] = x at *
          have h1 : FT.atI none = -1 := rfl
          rw [h1]
          go_wp2
          repeat (go_quiet (fail); try go_wp2)
          go_roundw
          case rel => exact ⟨k + 1, by omega, by go_num, by rw [HNEW.out]; rfl, ⟨_, rfl⟩, hf.drewN _⟩
          case measure => simp [intOf]; omega
        | some a =>
          obtain ⟨hak, hga⟩ := hlt a ha
          have hqa := (hB.fr hf (fun h => h)).cell a (fw_get q a (by omega))
          have haf := hq (q[a]'(by omega)) (List.getElem_mem _)
          have hqd2 : q.getD a 0 = q[a]'(by omega) := by rw [List.getD_eq_getElem?_getD, List.getElem?_eq_getElem (by omega)]; rfl
          have hnew : FT.bestTo q got (k + 1) = if FT.gtF (FT.frac q[k]) (FT.frac (q[a]'(by omega))) then some k else some a := by
            rw [hstep, ha]
            unfold FT.better
            rw [hgd, hgk, hqd]
            simp only [hqd2, Bool.not_false, Bool.true_and]
          rw [hgk] at hgc
          clear hstep hlt hgd hqd ha hgk hqd2 hga
          generalize q[k] = x at *
          generalize q[a]'(by omega) = y at *
          have hx1 := (FT.ofN_exact (FT.floorN x))
          have r1 := fun w => run_float_arith (P := Try.prog) w .sub 26 .f64 x (FT.ofN (FT.floorN x)) (FT.frac x) (FT.sub_is hkf (FT.floor_fin hkf))
          have r2 := fun w => run_float_arith (P := Try.prog) w .sub 26 .f64 y (FT.ofN (FT.floorN y)) (FT.frac y) (FT.sub_is haf (FT.floor_fin haf))
          clear hx1
          have h1 : FT.atI (some a) = (a : Int) := rfl
          rw [h1]
          have h2 : decide ((a : Int) < 0) = false := by simp only [decide_eq_false_iff_not]; omega
          have HS : Hid (∀ w', Fr NoB wr w' → w'.cell? ⟨g, k, none⟩ = some (.bool false) ∧ w'.cell? ⟨b, k, none⟩ = some (.float .f64 x) ∧ w'.cell? ⟨b, a, none⟩ = some (.float .f64 y)) := hid (fun w' h => ⟨(World.cell?_of_block (h.block g (hG.fr hf (fun h => h)).lt (fun h => h))).trans hgc, (World.cell?_of_block (h.block b (hB.fr hf (fun h => h)).lt (fun h => h))).trans hqc, (World.cell?_of_block (h.block b (hB.fr hf (fun h => h)).lt (fun h => h))).trans hqa⟩)
          have i1 : (0 : Int) ≤ (k : Int) := by omega
          have i2 : (k : Int) < (q.length : Int) := by omega
          have i3 : (0 : Int) ≤ (a : Int) := by omega
          have i4 : (a : Int) < (q.length : Int) := by omega
          cases hcmp : FT.gtF (FT.frac x) (FT.frac y)
          · rw [hcmp] at hnew
            have HNEW := hid hnew
            have hcmp' : (FloatKind.f64.format.order (FT.frac x) (FT.frac y) == some .gt) = false := hcmp
            clear hcmp hnew
            generalize FT.frac x = fx at *
            generalize FT.frac y = fy at *
            go_wp2
            go_region_held3 (fun w' => w'.cell? ⟨g, k, none⟩ = some (.bool false) ∧ w'.cell? ⟨b, k, none⟩ = some (.float .f64 x) ∧ w'.cell? ⟨b, a, none⟩ = some (.float .f64 y)) (first | exact HS.out _ (by repeat (first | with_reducible assumption | with_reducible exact Fr.refl _ _ | with_reducible refine Fr.drew ?_)) | fail) (first | (go_at_call 30; first | (refine (Floor_any x hkf _).mono ?_; rintro e w1 ⟨rfl, rfl⟩) | (refine (Floor_any y haf _).mono ?_; rintro e w1 ⟨rfl, rfl⟩)) | fail)
            go_wp2
            go_roundw
            case rel => exact ⟨k + 1, by omega, by go_num, by rw [HNEW.out]; rfl, ⟨_, rfl⟩, by repeat (first | with_reducible assumption | with_reducible exact Fr.refl _ _ | with_reducible refine Fr.drew ?_)⟩
            case measure => simp [intOf]; omega
          · rw [hcmp] at hnew
            have HNEW := hid hnew
            have hcmp' : (FloatKind.f64.format.order (FT.frac x) (FT.frac y) == some .gt) = true := hcmp
            clear hcmp hnew
            generalize FT.frac x = fx at *
            generalize FT.frac y = fy at *
            go_wp2
            go_region_held3 (fun w' => w'.cell? ⟨g, k, none⟩ = some (.bool false) ∧ w'.cell? ⟨b, k, none⟩ = some (.float .f64 x) ∧ w'.cell? ⟨b, a, none⟩ = some (.float .f64 y)) (first | exact HS.out _ (by repeat (first | with_reducible assumption | with_reducible exact Fr.refl _ _ | with_reducible refine Fr.drew ?_)) | fail) (first | (go_at_call 30; first | (refine (Floor_any x hkf _).mono ?_; rintro e w1 ⟨rfl, rfl⟩) | (refine (Floor_any y haf _).mono ?_; rintro e w1 ⟨rfl, rfl⟩)) | fail)
            go_wp2
            go_roundw
            case rel => exact ⟨k + 1, by omega, by go_num, by rw [HNEW.out]; rfl, ⟨_, rfl⟩, by repeat (first | with_reducible assumption | with_reducible exact Fr.refl _ _ | with_reducible refine Fr.drew ?_)⟩
            case measure => simp [intOf]; omega
      · have hnew : FT.bestTo q got (k + 1) = FT.bestTo q got k := by
          rw [hstep]
          unfold FT.better
          rw [hgd, hgk]
          rfl
        have HNEW := hid hnew
        rw [hgk] at hgc
        clear hstep hlt hgd hqd hnew hgk
        generalize q[k] = x at *
        generalize FT.bestTo q got k = at0 at *
        go_wp2
        repeat (go_quiet (fail); try go_wp2)
        go_roundw
        case rel => exact ⟨k + 1, by omega, by go_num, by rw [HNEW.out], ⟨_, rfl⟩, hf.drewN _⟩
        case measure => simp [intOf]; omega
    · obtain rfl : k = q.length := by omega
      go_wp2
      go_ret
      exact ⟨by rw [HBEST.out]; rfl, hf⟩
end Go.Proofs.Yteaoafipjaffpaa
