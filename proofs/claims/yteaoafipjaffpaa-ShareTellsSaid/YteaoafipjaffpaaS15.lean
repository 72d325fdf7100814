import Derived.Test.YteaoafipjaffpaaS14
set_option linter.unusedSimpArgs false
set_option linter.unusedVariables false
namespace Go.Proofs.Yteaoafipjaffpaa
open Go.RowKit Go.Proofs.YteaoafipjaffpaaW.PrintWords
attribute [local go_sem] st_float
theorem OB.iv {w : World} {g : Nat} {xs : List Nat} (h : OB w g xs) : IV w (some ⟨g, 0, none⟩) xs :=
  ⟨fun k hk => ⟨_, rfl, h.lt, by rw [add_at]; exact h.cell k hk⟩⟩
theorem same_is (w : World) (A B : Option Addr) (c d n m : Nat) (x : List Nat) (hx : IV w A x) (hy : IV w B x) (hn : x.length = n) (hm : x.length = m) (hl : x.length ≤ 4096) :
    Calls Try.prog 12 #[.slice A n c, .slice B m d] w fun e w' => e = .returned (.bool true) ∧ Fr NoB w w' := by
  refine (rSame_any w A B c d n m x x hx hy hn hm hl hl).mono ?_
  rintro e w1 ⟨rfl, hf⟩
  exact ⟨by simp, hf⟩
set_option maxHeartbeats 8000000 in
theorem tells_walk (n : Int) (A : Option Addr) (c : Nat) (l : List Nat) (w : World) (hn : (Lit.int .i64 n).wf = true) (hV : FV w A l) (hW : FT.Ws l) :
    Calls Try.prog 3 #[.int .i64 n, .slice A l.length c] w fun e w' => e = .returned (.bool true) ∧ Below w.heap.size w w' := by
  by_cases h70 : 70 < l.length
  · have h1 : decide ((l.length : Int) > 70) = true := by simp only [decide_eq_true_eq]; omega
    generalize l.length = m at *
    clear h70
    go_enter Try.func3, Try.ntmps3
    go_wp2_with (go_at_call 8; refine (awake_any w).mono ?_; rintro e w1 ⟨rfl, hf⟩)
    go_ret
    exact ⟨rfl, hf.below0⟩
  · have h1 : decide ((l.length : Int) > 70) = false := by simp only [decide_eq_false_iff_not]; omega
    by_cases hl : l.length = 0 ∨ 64 < l.length
    · have ht := fun w => Together_none w A c l (by omega) hl
      have hr := fun w => rTogether_none w A c l hl
      have hs := fun w (hV : FV w A l) => Shares_none w A c l n hV hW (by omega) (by rcases hl with h | h; exact .inl h; exact .inr (.inl h))
      have hrs := fun w (hV : FV w A l) => rShares_none w A c l n hV hW (by rcases hl with h | h; exact .inl h; exact .inr (.inl h))
      have HT := hid ht
      have HR := hid hr
      have HS := hid hs
      have HRS := hid hrs
      clear ht hr hs hrs hl h70
      generalize l.length = m at *
      go_enter Try.func3, Try.ntmps3
      go_wp2_with first
        | (go_at_call 9; refine (HT.out w).mono ?_; rintro e w1 ⟨rfl, hf1⟩)
        | (go_at_call 10; refine (HR.out w1).mono ?_; rintro e w2 ⟨rfl, hf2⟩)
      refine wp_loop_rounds 1 ?_
      rw [rounds_succ]
      go_wp2_with first
        | (go_at_call 13; refine (HS.out w2 (hV.fr0 (hf1.trans hf2))).mono ?_; rintro e w3 ⟨rfl, hf3⟩)
        | (go_at_call 14; refine (HRS.out w3 (hV.fr0 ((hf1.trans hf2).trans hf3))).mono ?_; rintro e w4 ⟨rfl, hf4⟩)
        | (go_at_call 12; refine (same_is w4 none none 0 0 0 0 [] (IV.nil _ _) (IV.nil _ _) rfl rfl (by simp)).mono ?_; rintro e w5 ⟨rfl, hf5⟩)
        | (go_at_call 8; refine (awake_any w5).mono ?_; rintro e w6 ⟨rfl, hf6⟩)
      go_ret
      exact ⟨rfl, (((((hf1.trans hf2).trans hf3).trans hf4).trans hf5).trans hf6).below0⟩
    · have hne : l ≠ [] := by intro h; subst h; simp at hl
      have hT := (FT.tgL_ok hW hne).le
      have htl := FT.tgL_len l
      have ht := fun w (hV : FV w A l) => Together_any w A c l hV hW (by omega) (by omega)
      have hr := fun w (hV : FV w A l) => rTogether_any w A c l hV hW (by omega) (by omega)
      have hm1 : 1 ≤ l.length := by omega
      have hm2 : l.length ≤ 64 := by omega
      have hnn : ((l.length : Int) != (l.length : Int)) = false := by simp
      by_cases hr5 : n < 0 ∨ 512 < n
      · have hs := fun w (hV : FV w A l) => Shares_none w A c l n hV hW (by omega) (by rcases hr5 with h | h; exact .inr (.inr (.inl h)); exact .inr (.inr (.inr h)))
        have hrs := fun w (hV : FV w A l) => rShares_none w A c l n hV hW (by rcases hr5 with h | h; exact .inr (.inr (.inl h)); exact .inr (.inr (.inr h)))
        have HT := hid ht
        have HR := hid hr
        have HSH := hid hs
        have HRS := hid hrs
        clear ht hr hs hrs hl h70 hr5
        generalize FT.tgL l = t at *
        generalize l.length = m at *
        go_enter Try.func3, Try.ntmps3
        go_wp2_with first
          | (go_at_call 9; refine (HT.out w hV).mono ?_; rintro e w1 ⟨⟨b1, rfl, hb1, hB1⟩, hf1⟩)
          | (go_at_call 10; refine (HR.out w1 (hV.fr0 hf1)).mono ?_; rintro e w2 ⟨⟨B, d, rfl, hB2⟩, hf2⟩)
        have hB1 := hB1.fr hf2 (fun h => h)
        have hV2 := (hV.fr0 hf1).fr0 hf2
        have hF2 := hf1.trans hf2
        go_loopw [7] (fun v7 wr => ∃ k : Nat, k ≤ m ∧ v7 = .int .i64 k ∧ Fr NoB w2 wr) (fun v7 _ => m - (intOf v7).toNat)
        case atStart => exact ⟨0, Nat.zero_le _, rfl, Fr.refl _ _⟩
        case round =>
          obtain ⟨k, hk, rfl, hf⟩ := hrel
          by_cases hkm : k < m
          · have hc1 := (hB1.fr hf (fun h => h)).cell k (fw_get t k (by omega))
            obtain ⟨ad, rfl, hlt, hc2⟩ := (hB2.fr0 hf).at_ k (by omega)
            have hxo := hT (t[k]'(by omega)) (List.getElem_mem _)
            generalize t[k]'(by omega) = x at *
            have hx64 : x < 18446744073709551616 := Nat.lt_of_le_of_lt hxo (by decide)
            have hxx := ordI_self x
            have HS : Hid (∀ w', Fr NoB wr w' → w'.cell? ⟨b1, k, none⟩ = some (.float .f64 x) ∧ w'.cell? (ad.add k) = some (.float .f64 x)) := hid (fun w' h => ⟨(World.cell?_of_block (h.block b1 (hB1.fr hf (fun h => h)).lt (fun h => h))).trans hc1, (World.cell?_of_block (by rw [block_add']; exact h.block ad.block hlt (fun h => h))).trans hc2⟩)
            have i1 : (0 : Int) ≤ (k : Int) := by omega
            have i2 : (k : Int) < (m : Int) := by omega
            go_wp2_with fail
            go_region_held3 (fun w' => w'.cell? ⟨b1, k, none⟩ = some (.float .f64 x) ∧ w'.cell? (ad.add k) = some (.float .f64 x)) (first | exact HS.out _ (by repeat (first | with_reducible assumption | with_reducible exact Fr.refl _ _ | with_reducible refine Fr.drew ?_)) | fail) (first | (go_at_call 11; refine (rOrder_is x x 0 hx64 hx64 hxx _).mono ?_; rintro e w3 ⟨rfl, rfl⟩) | fail)
            go_wp2
            go_roundw
            case rel => exact ⟨k + 1, by omega, by go_num, by repeat (first | with_reducible assumption | with_reducible exact Fr.refl _ _ | with_reducible refine Fr.drew ?_)⟩
            case measure => simp [intOf]; omega
          · obtain rfl : k = m := by omega
            obtain ⟨m, rfl⟩ : ∃ m, m = k := ⟨_, rfl⟩
            have hVr := hV2.fr0 hf
            go_wp2_with first
              | (go_at_call 13; refine (HSH.out wr hVr).mono ?_; rintro e w3 ⟨rfl, hf3⟩)
              | (go_at_call 14; refine (HRS.out w3 (hVr.fr0 hf3)).mono ?_; rintro e w4 ⟨rfl, hf4⟩)
              | (go_at_call 12; refine (same_is w4 none none 0 0 0 0 [] (IV.nil _ _) (IV.nil _ _) rfl rfl (by simp)).mono ?_; rintro e w5 ⟨rfl, hf5⟩)
              | (go_at_call 8; refine (awake_any w5).mono ?_; rintro e w6 ⟨rfl, hf6⟩)
            go_ret
            exact ⟨rfl, (((((hF2.trans hf).trans hf3).trans hf4).trans hf5).trans hf6).below0⟩
      · obtain ⟨N, rfl⟩ : ∃ N : Nat, n = N := ⟨n.toNat, by omega⟩
        have hN : N ≤ 512 := by omega
        have hs := fun w (hV : FV w A l) => Shares_any w A c l N hV hW (by omega) (by omega) hN
        have hrs := fun w (hV : FV w A l) => rShares_any w A c l N hV hW (by omega) (by omega) hN
        obtain ⟨_, hrl⟩ := FT.shares_sum N l hne
        have HT := hid ht
        have HR := hid hr
        have HSH := hid hs
        have HRS := hid hrs
        clear ht hr hs hrs hl h70 hr5 hne
        generalize FT.tgL l = t at *
        generalize FT.sharesL N l = r at *
        generalize l.length = m at *
        go_enter Try.func3, Try.ntmps3
        go_wp2_with first
          | (go_at_call 9; refine (HT.out w hV).mono ?_; rintro e w1 ⟨⟨b1, rfl, hb1, hB1⟩, hf1⟩)
          | (go_at_call 10; refine (HR.out w1 (hV.fr0 hf1)).mono ?_; rintro e w2 ⟨⟨B, d, rfl, hB2⟩, hf2⟩)
        have hB1 := hB1.fr hf2 (fun h => h)
        have hV2 := (hV.fr0 hf1).fr0 hf2
        have hF2 := hf1.trans hf2
        go_loopw [7] (fun v7 wr => ∃ k : Nat, k ≤ m ∧ v7 = .int .i64 k ∧ Fr NoB w2 wr) (fun v7 _ => m - (intOf v7).toNat)
        case atStart => exact ⟨0, Nat.zero_le _, rfl, Fr.refl _ _⟩
        case round =>
          obtain ⟨k, hk, rfl, hf⟩ := hrel
          by_cases hkm : k < m
          · have hc1 := (hB1.fr hf (fun h => h)).cell k (fw_get t k (by omega))
            obtain ⟨ad, rfl, hlt, hc2⟩ := (hB2.fr0 hf).at_ k (by omega)
            have hxo := hT (t[k]'(by omega)) (List.getElem_mem _)
            generalize t[k]'(by omega) = x at *
            have hx64 : x < 18446744073709551616 := Nat.lt_of_le_of_lt hxo (by decide)
            have hxx := ordI_self x
            have HS : Hid (∀ w', Fr NoB wr w' → w'.cell? ⟨b1, k, none⟩ = some (.float .f64 x) ∧ w'.cell? (ad.add k) = some (.float .f64 x)) := hid (fun w' h => ⟨(World.cell?_of_block (h.block b1 (hB1.fr hf (fun h => h)).lt (fun h => h))).trans hc1, (World.cell?_of_block (by rw [block_add']; exact h.block ad.block hlt (fun h => h))).trans hc2⟩)
            have i1 : (0 : Int) ≤ (k : Int) := by omega
            have i2 : (k : Int) < (m : Int) := by omega
            go_wp2_with fail
            go_region_held3 (fun w' => w'.cell? ⟨b1, k, none⟩ = some (.float .f64 x) ∧ w'.cell? (ad.add k) = some (.float .f64 x)) (first | exact HS.out _ (by repeat (first | with_reducible assumption | with_reducible exact Fr.refl _ _ | with_reducible refine Fr.drew ?_)) | fail) (first | (go_at_call 11; refine (rOrder_is x x 0 hx64 hx64 hxx _).mono ?_; rintro e w3 ⟨rfl, rfl⟩) | fail)
            go_wp2
            go_roundw
            case rel => exact ⟨k + 1, by omega, by go_num, by repeat (first | with_reducible assumption | with_reducible exact Fr.refl _ _ | with_reducible refine Fr.drew ?_)⟩
            case measure => simp [intOf]; omega
          · obtain rfl : k = m := by omega
            obtain ⟨m, rfl⟩ : ∃ m, m = k := ⟨_, rfl⟩
            have hVr := hV2.fr0 hf
            go_wp2_with first
              | (go_at_call 13; refine (HSH.out wr hVr).mono ?_; rintro e w3 ⟨⟨b3, rfl, hb3, hB3⟩, hf3⟩)
              | (go_at_call 14; refine (HRS.out w3 (hVr.fr0 hf3)).mono ?_; rintro e w4 ⟨⟨b4, d4, rfl, hB4⟩, hf4⟩)
              | (go_at_call 12; refine (same_is w4 _ _ _ _ m m r (IV.of_blk (hB3.fr hf4 (fun h => h))) hB4.iv hrl hrl (by omega)).mono ?_; rintro e w5 ⟨rfl, hf5⟩)
              | (go_at_call 8; refine (awake_any w5).mono ?_; rintro e w6 ⟨rfl, hf6⟩)
            go_ret
            exact ⟨rfl, (((((hF2.trans hf).trans hf3).trans hf4).trans hf5).trans hf6).below0⟩
end Go.Proofs.Yteaoafipjaffpaa
