import Derived.Test.YteaoafipjaffpaaS12
set_option linter.unusedSimpArgs false
set_option linter.unusedVariables false
namespace Go.Proofs.Yteaoafipjaffpaa
open Go.RowKit Go.Proofs.YteaoafipjaffpaaW.PrintWords
attribute [local go_sem] st_float
theorem fw_one (x : Nat) : ∀ u ∈ fw x, u.oneCell' = true := by intro u hu; simp [fw] at hu; subst hu; rfl
theorem iw_one (x : Nat) : ∀ u ∈ iw x, u.oneCell' = true := by intro u hu; simp [iw] at hu; subst hu; rfl
theorem sz_alloc (w : World) (o : Obj) : (w.alloc o).heap.size = w.heap.size + 1 := Array.size_push ..
theorem FV.of_row {e : TypeId} {w : World} {base : Nat} {A : Option Addr} {n c : Nat} {xs : List Nat} (h : Row fw 1 e w base (.slice A n c) xs) : FV w A xs := by
  refine ⟨fun k hk => ?_⟩
  obtain ⟨g, c', hv, _, _⟩ := h.ptr (by omega)
  injection hv with h1 h2 h3
  subst h1
  subst h2
  have h4 := Row.cell h fw_len k hk 0 (by omega) (u := .float .f64 xs[k]) rfl
  rw [Nat.mul_one, Nat.add_zero] at h4
  exact ⟨_, rfl, (cell_lt h4 : g < w.heap.size), by rw [add_at]; exact h4⟩
theorem IV.of_row {e : TypeId} {w : World} {base : Nat} {A : Option Addr} {n c : Nat} {xs : List Nat} (h : Row iw 1 e w base (.slice A n c) xs) : IV w A xs := by
  refine ⟨fun k hk => ?_⟩
  obtain ⟨g, c', hv, _, _⟩ := h.ptr (by omega)
  injection hv with h1 h2 h3
  subst h1
  subst h2
  have h4 := Row.cell h iw_len k hk 0 (by omega) (u := .int .i64 xs[k]) rfl
  rw [Nat.mul_one, Nat.add_zero] at h4
  exact ⟨_, rfl, (cell_lt h4 : g < w.heap.size), by rw [add_at]; exact h4⟩
def tgE (s : Bool) (m b : Nat) : Nat := if s then (if FT.isI b then FT.ONE else 0) else if m = 0 then FT.ONE else FT.fdiv (FT.count b) m
theorem tgE_eq (l : List Nat) : FT.tgL l = l.map (tgE (l.any FT.isI) (FT.mostL l)) := by
  unfold FT.tgL FT.onesL
  split
  · rename_i h
    refine List.map_congr_left fun b _ => ?_
    unfold tgE
    rw [if_pos h]
  · rename_i h
    split
    · rename_i h2
      refine List.map_congr_left fun b _ => ?_
      unfold tgE
      rw [if_neg h, if_pos h2]
      rfl
    · rename_i h2
      refine List.map_congr_left fun b _ => ?_
      unfold tgE
      rw [if_neg h, if_neg h2]
theorem map_snoc {α β : Type} (f : α → β) (l : List α) (k : Nat) (h : k < l.length) : (l.take k).map f ++ [f l[k]] = (l.take (k + 1)).map f := by
  rw [List.take_succ_eq_append_getElem h, List.map_append]
  rfl
theorem rTogether_none (w : World) (A : Option Addr) (c : Nat) (l : List Nat) (hn : l.length = 0 ∨ 64 < l.length) :
    Calls Try.prog 10 #[.slice A l.length c] w fun e w' => e = .returned (.slice none 0 0) ∧ Fr NoB w w' := by
  generalize l.length = n at *
  rcases hn with h | h
  · subst h
    go_enter Try.func10, Try.ntmps10
    go_wp2
    go_ret
    exact ⟨rfl, Fr.refl _ _⟩
  · have h0 : decide ((n : Int) < 1) = false := by simp only [decide_eq_false_iff_not]; omega
    have h1 : decide ((n : Int) > 64) = true := by simp only [decide_eq_true_eq]; omega
    go_enter Try.func10, Try.ntmps10
    go_wp2
    go_ret
    exact ⟨rfl, Fr.refl _ _⟩
theorem gt_of {a b : Nat} (ha : a ≤ FT.infR) (hb : b ≤ FT.infR) (r : Bool) (h : decide (b < a) = r) : (FloatKind.f64.format.order a b == some .gt) = r := by
  rw [← h]; exact FT.gtF_pos ha hb
set_option maxHeartbeats 8000000 in
theorem rTogether_any (w : World) (A : Option Addr) (c : Nat) (l : List Nat) (hV : FV w A l) (hW : FT.Ws l) (h1 : 1 ≤ l.length) (h2 : l.length ≤ 64) :
    Calls Try.prog 10 #[.slice A l.length c] w fun e w' => (∃ B d, e = .returned (.slice B l.length d) ∧ FV w' B (FT.tgL l)) ∧ Fr NoB w w' := by
  have h3 : decide ((l.length : Int) < 1) = false := by simp only [decide_eq_false_iff_not]; omega
  have h4 : decide ((l.length : Int) > 64) = false := by simp only [decide_eq_false_iff_not]; omega
  have htg := tgE_eq l
  have hml := FT.mostL_le hW
  have hdv : ∀ x ∈ l, l.any FT.isI = false → FT.mostL l ≠ 0 → FT.D.div (FT.count x) (FT.mostL l) = some (FT.fdiv (FT.count x) (FT.mostL l)) := fun x hx hi h0 => (FT.div_count hW hi h0 hx).1
  obtain ⟨S, hs⟩ : ∃ S, l.any FT.isI = S := ⟨_, rfl⟩
  obtain ⟨M, hmo⟩ : ∃ M, FT.mostL l = M := ⟨_, rfl⟩
  rw [hs, hmo] at htg hdv
  rw [hmo] at hml
  obtain ⟨E, hE⟩ : ∃ E, tgE S M = E := ⟨_, rfl⟩
  rw [hE] at htg
  have HTG := hid htg
  have HDV := hid hdv
  clear htg hdv
  cases S
  · by_cases hM : M = 0
    · subst hM
      go_enter Try.func10, Try.ntmps10
      go_wp2_with fail
      go_loopw [4, 5, 6] (fun v4 v5 v6 wr => ∃ k : Nat, k ≤ l.length ∧ v6 = .int .i64 k ∧ v4 = .bool ((l.take k).any FT.isI) ∧ v5 = .float .f64 (FT.mostL (l.take k)) ∧ Fr NoB w wr) (fun _ _ v6 _ => l.length - (intOf v6).toNat)
      case atStart => exact ⟨0, Nat.zero_le _, rfl, rfl, rfl, Fr.refl _ _⟩
      case round =>
        obtain ⟨k, hk, rfl, rfl, rfl, hf⟩ := hrel
        by_cases hkm : k < l.length
        · obtain ⟨ad, rfl, hlt, hc⟩ := (hV.fr0 hf).at_ k hkm
          have hc1 : ∀ w', Fr NoB wr w' → w'.cell? (ad.add k) = some (.float .f64 l[k]) := fun w' h => (World.cell?_of_block (by rw [block_add']; exact h.block _ hlt (fun h => h))).trans hc
          have HC1 := hid hc1
          clear hc1
          have hst := FT.mostL_take l k hkm
          have hsa : (l.take (k + 1)).any FT.isI = ((l.take k).any FT.isI || FT.isI l[k]) := by rw [List.take_succ_eq_append_getElem hkm, List.any_append]; simp
          have hx := hW _ (List.getElem_mem hkm)
          have hm := FT.mostL_le (hW.take k)
          have hcx := FT.count_le hx
          have HST := hid hst
          have HSA := hid hsa
          clear hst hsa
          generalize FT.mostL (l.take k) = m0 at *
          generalize (l.take k).any FT.isI = s0 at *
          generalize l[k] = x at *
          by_cases hlt2 : m0 < FT.count x
          · have hgt := gt_of hcx hm true (by simpa using hlt2)
            have HMX : Hid (max m0 (FT.count x) = FT.count x) := hid (Nat.max_eq_right (by omega))
            clear hlt2
            cases s0
            · go_wp2_with first | (go_at_call 26; refine (rinf_any x hx wr).mono ?_; rintro e w1 ⟨rfl, hf1⟩; have hc' := HC1.out w1 hf1) | (go_at_call 19; refine (rCount_any x hx _).mono ?_; rintro e w2 ⟨rfl, rfl⟩)
              go_roundw
              case rel => exact ⟨k + 1, by omega, by go_num, by rw [HSA.out]; rfl, by rw [HST.out, HMX.out], hf.trans hf1⟩
              case measure => simp [intOf]; omega
            · go_wp2_with first | (go_at_call 19; refine (rCount_any x hx _).mono ?_; rintro e w2 ⟨rfl, rfl⟩)
              go_roundw
              case rel => exact ⟨k + 1, by omega, by go_num, by rw [HSA.out]; rfl, by rw [HST.out, HMX.out], hf⟩
              case measure => simp [intOf]; omega
          · have hgt := gt_of hcx hm false (by simpa using hlt2)
            have HMX : Hid (max m0 (FT.count x) = m0) := hid (Nat.max_eq_left (by omega))
            clear hlt2
            cases s0
            · go_wp2_with first | (go_at_call 26; refine (rinf_any x hx wr).mono ?_; rintro e w1 ⟨rfl, hf1⟩; have hc' := HC1.out w1 hf1) | (go_at_call 19; refine (rCount_any x hx _).mono ?_; rintro e w2 ⟨rfl, rfl⟩)
              go_roundw
              case rel => exact ⟨k + 1, by omega, by go_num, by rw [HSA.out]; rfl, by rw [HST.out, HMX.out], hf.trans hf1⟩
              case measure => simp [intOf]; omega
            · go_wp2_with first | (go_at_call 19; refine (rCount_any x hx _).mono ?_; rintro e w2 ⟨rfl, rfl⟩)
              go_roundw
              case rel => exact ⟨k + 1, by omega, by go_num, by rw [HSA.out]; rfl, by rw [HST.out, HMX.out], hf⟩
              case measure => simp [intOf]; omega
        · obtain rfl : k = l.length := by omega
          rw [List.take_length]
          obtain ⟨wo, rfl⟩ : ∃ wo : World, wo = wr := ⟨_, rfl⟩
          rw [hs, hmo]
          go_wp2_with fail
          go_loopw [3, 7, 8] (fun v3 v7 v8 wr => ∃ k : Nat, k ≤ l.length ∧ v7 = .int .i64 k ∧ (∃ x, v8 = x) ∧ Row fw 1 26 wr w.heap.size v3 ((l.take k).map E) ∧ Fr NoB w wr) (fun _ v7 _ _ => l.length - (intOf v7).toNat)
          case atStart => exact ⟨0, Nat.zero_le _, rfl, ⟨_, rfl⟩, Row.nil _ _ _ _ _, hf⟩
          case round =>
            clear hf
            obtain ⟨k, hk, rfl, ⟨v8, rfl⟩, hrow, hf⟩ := hrel
            by_cases hkm : k < l.length
            · obtain ⟨ad, rfl, hlt, hc⟩ := (hV.fr0 hf).at_ k hkm
              have hsn := map_snoc E l k hkm
              have hx := hW _ (List.getElem_mem hkm)
              have hlen : ((l.take k).map E).length = k := by rw [List.length_map, List.length_take]; omega
              have hxm : l[k] ∈ l := List.getElem_mem hkm
              have HSN := hid hsn
              clear hsn
              generalize (l.take k).map E = xs at *
              generalize l[k] = x at *
              have HV : Hid (E x = FT.ONE) := hid (by rw [← hE]; rfl)
              have hz : (FloatKind.f64.format.order 0 0 == some .eq) = true := by decide
              have hz2 : (FloatKind.f64.format.order 0 0 == some .gt) = false := by decide
              go_wp2_with (at_builtin; refine row_app fw_len fw_one w.heap.size rfl _ _ 22 26 _ 8 rfl Try.underlying22 info_f64 (by kernel_rfl) (by decide) (by decide) u3 xs FT.ONE rfl rfl hrow hf.size (by omega) ?_; intro v3 w3 hr3 hf3 hat3; rw [← HV.out, HSN.out] at hr3)
              go_roundw
              case rel => exact ⟨k + 1, by omega, by go_num, ⟨_, rfl⟩, hr3, Fr.own_lt hf hf3 hrow (Nat.le_refl _)⟩
              case measure => simp [intOf]; omega
            · obtain rfl : k = l.length := by omega
              rw [List.take_length] at hrow
              obtain ⟨A', c', hv, hc'⟩ := hrow.shape
              subst hv
              rw [List.length_map] at hrow
              simp only [List.length_map]
              go_wp2
              go_ret
              exact ⟨⟨A', c', rfl, by rw [HTG.out]; exact FV.of_row hrow⟩, hf⟩
    · have hm0 : (FloatKind.f64.format.order M 0 == some .eq) = false := by
        have := FT.eqF_pos (a := M) (b := 0) hml (by decide)
        unfold FT.eqF at this
        rw [this]
        simpa using hM
      have hm1 : (FloatKind.f64.format.order M 0 == some .gt) = true := gt_of hml (by decide) true (by simp; omega)
      have HM := hid hM
      clear hM
      go_enter Try.func10, Try.ntmps10
      go_wp2_with fail
      go_loopw [4, 5, 6] (fun v4 v5 v6 wr => ∃ k : Nat, k ≤ l.length ∧ v6 = .int .i64 k ∧ v4 = .bool ((l.take k).any FT.isI) ∧ v5 = .float .f64 (FT.mostL (l.take k)) ∧ Fr NoB w wr) (fun _ _ v6 _ => l.length - (intOf v6).toNat)
      case atStart => exact ⟨0, Nat.zero_le _, rfl, rfl, rfl, Fr.refl _ _⟩
      case round =>
        obtain ⟨k, hk, rfl, rfl, rfl, hf⟩ := hrel
        by_cases hkm : k < l.length
        · obtain ⟨ad, rfl, hlt, hc⟩ := (hV.fr0 hf).at_ k hkm
          have hc1 : ∀ w', Fr NoB wr w' → w'.cell? (ad.add k) = some (.float .f64 l[k]) := fun w' h => (World.cell?_of_block (by rw [block_add']; exact h.block _ hlt (fun h => h))).trans hc
          have HC1 := hid hc1
          clear hc1
          have hst := FT.mostL_take l k hkm
          have hsa : (l.take (k + 1)).any FT.isI = ((l.take k).any FT.isI || FT.isI l[k]) := by rw [List.take_succ_eq_append_getElem hkm, List.any_append]; simp
          have hx := hW _ (List.getElem_mem hkm)
          have hm := FT.mostL_le (hW.take k)
          have hcx := FT.count_le hx
          have HST := hid hst
          have HSA := hid hsa
          clear hst hsa
          generalize FT.mostL (l.take k) = m0 at *
          generalize (l.take k).any FT.isI = s0 at *
          generalize l[k] = x at *
          by_cases hlt2 : m0 < FT.count x
          · have hgt := gt_of hcx hm true (by simpa using hlt2)
            have HMX : Hid (max m0 (FT.count x) = FT.count x) := hid (Nat.max_eq_right (by omega))
            clear hlt2
            cases s0
            · go_wp2_with first | (go_at_call 26; refine (rinf_any x hx wr).mono ?_; rintro e w1 ⟨rfl, hf1⟩; have hc' := HC1.out w1 hf1) | (go_at_call 19; refine (rCount_any x hx _).mono ?_; rintro e w2 ⟨rfl, rfl⟩)
              go_roundw
              case rel => exact ⟨k + 1, by omega, by go_num, by rw [HSA.out]; rfl, by rw [HST.out, HMX.out], hf.trans hf1⟩
              case measure => simp [intOf]; omega
            · go_wp2_with first | (go_at_call 19; refine (rCount_any x hx _).mono ?_; rintro e w2 ⟨rfl, rfl⟩)
              go_roundw
              case rel => exact ⟨k + 1, by omega, by go_num, by rw [HSA.out]; rfl, by rw [HST.out, HMX.out], hf⟩
              case measure => simp [intOf]; omega
          · have hgt := gt_of hcx hm false (by simpa using hlt2)
            have HMX : Hid (max m0 (FT.count x) = m0) := hid (Nat.max_eq_left (by omega))
            clear hlt2
            cases s0
            · go_wp2_with first | (go_at_call 26; refine (rinf_any x hx wr).mono ?_; rintro e w1 ⟨rfl, hf1⟩; have hc' := HC1.out w1 hf1) | (go_at_call 19; refine (rCount_any x hx _).mono ?_; rintro e w2 ⟨rfl, rfl⟩)
              go_roundw
              case rel => exact ⟨k + 1, by omega, by go_num, by rw [HSA.out]; rfl, by rw [HST.out, HMX.out], hf.trans hf1⟩
              case measure => simp [intOf]; omega
            · go_wp2_with first | (go_at_call 19; refine (rCount_any x hx _).mono ?_; rintro e w2 ⟨rfl, rfl⟩)
              go_roundw
              case rel => exact ⟨k + 1, by omega, by go_num, by rw [HSA.out]; rfl, by rw [HST.out, HMX.out], hf⟩
              case measure => simp [intOf]; omega
        · obtain rfl : k = l.length := by omega
          rw [List.take_length]
          obtain ⟨wo, rfl⟩ : ∃ wo : World, wo = wr := ⟨_, rfl⟩
          rw [hs, hmo]
          go_wp2_with fail
          go_loopw [3, 7, 8] (fun v3 v7 v8 wr => ∃ k : Nat, k ≤ l.length ∧ v7 = .int .i64 k ∧ (∃ x, v8 = x) ∧ Row fw 1 26 wr w.heap.size v3 ((l.take k).map E) ∧ Fr NoB w wr) (fun _ v7 _ _ => l.length - (intOf v7).toNat)
          case atStart => exact ⟨0, Nat.zero_le _, rfl, ⟨_, rfl⟩, Row.nil _ _ _ _ _, hf⟩
          case round =>
            clear hf
            obtain ⟨k, hk, rfl, ⟨v8, rfl⟩, hrow, hf⟩ := hrel
            by_cases hkm : k < l.length
            · obtain ⟨ad, rfl, hlt, hc⟩ := (hV.fr0 hf).at_ k hkm
              have hsn := map_snoc E l k hkm
              have hx := hW _ (List.getElem_mem hkm)
              have hlen : ((l.take k).map E).length = k := by rw [List.length_map, List.length_take]; omega
              have hxm : l[k] ∈ l := List.getElem_mem hkm
              have HSN := hid hsn
              clear hsn
              generalize (l.take k).map E = xs at *
              generalize l[k] = x at *
              have HV : Hid (E x = FT.fdiv (FT.count x) M) := hid (by rw [← hE]; unfold tgE; rw [if_neg (by simp), if_neg HM.out])
              have hdv := HDV.out x hxm (by trivial) HM.out
              have hrun := fun w => run_float_arith (P := Try.prog) w .quo 26 .f64 (FT.count x) M _ hdv
              clear hdv
              generalize FT.fdiv (FT.count x) M = y at *
              go_wp2_with first | (go_at_call 19; refine (rCount_any x hx _).mono ?_; rintro e w2 ⟨rfl, rfl⟩) | (at_builtin; refine row_app fw_len fw_one w.heap.size rfl _ _ 22 26 _ 8 rfl Try.underlying22 info_f64 (by kernel_rfl) (by decide) (by decide) u3 xs y rfl rfl hrow hf.size (by omega) ?_; intro v3 w3 hr3 hf3 hat3; rw [← HV.out, HSN.out] at hr3)
              go_roundw
              case rel => exact ⟨k + 1, by omega, by go_num, ⟨_, rfl⟩, hr3, Fr.own_lt hf hf3 hrow (Nat.le_refl _)⟩
              case measure => simp [intOf]; omega
            · obtain rfl : k = l.length := by omega
              rw [List.take_length] at hrow
              obtain ⟨A', c', hv, hc'⟩ := hrow.shape
              subst hv
              rw [List.length_map] at hrow
              simp only [List.length_map]
              go_wp2
              go_ret
              exact ⟨⟨A', c', rfl, by rw [HTG.out]; exact FV.of_row hrow⟩, hf⟩
  · 
    go_enter Try.func10, Try.ntmps10
    go_wp2_with fail
    go_loopw [4, 5, 6] (fun v4 v5 v6 wr => ∃ k : Nat, k ≤ l.length ∧ v6 = .int .i64 k ∧ v4 = .bool ((l.take k).any FT.isI) ∧ v5 = .float .f64 (FT.mostL (l.take k)) ∧ Fr NoB w wr) (fun _ _ v6 _ => l.length - (intOf v6).toNat)
    case atStart => exact ⟨0, Nat.zero_le _, rfl, rfl, rfl, Fr.refl _ _⟩
    case round =>
      obtain ⟨k, hk, rfl, rfl, rfl, hf⟩ := hrel
      by_cases hkm : k < l.length
      · obtain ⟨ad, rfl, hlt, hc⟩ := (hV.fr0 hf).at_ k hkm
        have hc1 : ∀ w', Fr NoB wr w' → w'.cell? (ad.add k) = some (.float .f64 l[k]) := fun w' h => (World.cell?_of_block (by rw [block_add']; exact h.block _ hlt (fun h => h))).trans hc
        have HC1 := hid hc1
        clear hc1
        have hst := FT.mostL_take l k hkm
        have hsa : (l.take (k + 1)).any FT.isI = ((l.take k).any FT.isI || FT.isI l[k]) := by rw [List.take_succ_eq_append_getElem hkm, List.any_append]; simp
        have hx := hW _ (List.getElem_mem hkm)
        have hm := FT.mostL_le (hW.take k)
        have hcx := FT.count_le hx
        have HST := hid hst
        have HSA := hid hsa
        clear hst hsa
        generalize FT.mostL (l.take k) = m0 at *
        generalize (l.take k).any FT.isI = s0 at *
        generalize l[k] = x at *
        by_cases hlt2 : m0 < FT.count x
        · have hgt := gt_of hcx hm true (by simpa using hlt2)
          have HMX : Hid (max m0 (FT.count x) = FT.count x) := hid (Nat.max_eq_right (by omega))
          clear hlt2
          cases s0
          · go_wp2_with first | (go_at_call 26; refine (rinf_any x hx wr).mono ?_; rintro e w1 ⟨rfl, hf1⟩; have hc' := HC1.out w1 hf1) | (go_at_call 19; refine (rCount_any x hx _).mono ?_; rintro e w2 ⟨rfl, rfl⟩)
            go_roundw
            case rel => exact ⟨k + 1, by omega, by go_num, by rw [HSA.out]; rfl, by rw [HST.out, HMX.out], hf.trans hf1⟩
            case measure => simp [intOf]; omega
          · go_wp2_with first | (go_at_call 19; refine (rCount_any x hx _).mono ?_; rintro e w2 ⟨rfl, rfl⟩)
            go_roundw
            case rel => exact ⟨k + 1, by omega, by go_num, by rw [HSA.out]; rfl, by rw [HST.out, HMX.out], hf⟩
            case measure => simp [intOf]; omega
        · have hgt := gt_of hcx hm false (by simpa using hlt2)
          have HMX : Hid (max m0 (FT.count x) = m0) := hid (Nat.max_eq_left (by omega))
          clear hlt2
          cases s0
          · go_wp2_with first | (go_at_call 26; refine (rinf_any x hx wr).mono ?_; rintro e w1 ⟨rfl, hf1⟩; have hc' := HC1.out w1 hf1) | (go_at_call 19; refine (rCount_any x hx _).mono ?_; rintro e w2 ⟨rfl, rfl⟩)
            go_roundw
            case rel => exact ⟨k + 1, by omega, by go_num, by rw [HSA.out]; rfl, by rw [HST.out, HMX.out], hf.trans hf1⟩
            case measure => simp [intOf]; omega
          · go_wp2_with first | (go_at_call 19; refine (rCount_any x hx _).mono ?_; rintro e w2 ⟨rfl, rfl⟩)
            go_roundw
            case rel => exact ⟨k + 1, by omega, by go_num, by rw [HSA.out]; rfl, by rw [HST.out, HMX.out], hf⟩
            case measure => simp [intOf]; omega
      · obtain rfl : k = l.length := by omega
        rw [List.take_length]
        obtain ⟨wo, rfl⟩ : ∃ wo : World, wo = wr := ⟨_, rfl⟩
        rw [hs, hmo]
        go_wp2_with fail
        go_loopw [3, 7, 8] (fun v3 v7 v8 wr => ∃ k : Nat, k ≤ l.length ∧ v7 = .int .i64 k ∧ (∃ x, v8 = x) ∧ Row fw 1 26 wr w.heap.size v3 ((l.take k).map E) ∧ Fr NoB w wr) (fun _ v7 _ _ => l.length - (intOf v7).toNat)
        case atStart => exact ⟨0, Nat.zero_le _, rfl, ⟨_, rfl⟩, Row.nil _ _ _ _ _, hf⟩
        case round =>
          clear hf
          obtain ⟨k, hk, rfl, ⟨v8, rfl⟩, hrow, hf⟩ := hrel
          by_cases hkm : k < l.length
          · obtain ⟨ad, rfl, hlt, hc⟩ := (hV.fr0 hf).at_ k hkm
            have hsn := map_snoc E l k hkm
            have hx := hW _ (List.getElem_mem hkm)
            have hlen : ((l.take k).map E).length = k := by rw [List.length_map, List.length_take]; omega
            have hxm : l[k] ∈ l := List.getElem_mem hkm
            have HSN := hid hsn
            clear hsn
            generalize (l.take k).map E = xs at *
            generalize l[k] = x at *
            cases hix : FT.isI x
            · have HV : Hid (E x = 0) := hid (by rw [← hE]; unfold tgE; rw [if_pos rfl, hix]; rfl)
              go_wp2_with first | (go_at_call 26; refine (rinf_any x hx wr).mono ?_; rintro e w1 ⟨rfl, hf1⟩; have hrow1 := hrow.fr_lt hf1 (fun k hk => hk.elim); have hF1 := hf.trans hf1) | (at_builtin; refine row_app fw_len fw_one w.heap.size rfl _ _ 22 26 _ 8 rfl Try.underlying22 info_f64 (by kernel_rfl) (by decide) (by decide) u3 xs 0 rfl rfl hrow1 hF1.size (by omega) ?_; intro v3 w3 hr3 hf3 hat3; rw [← HV.out, HSN.out] at hr3)
              go_roundw
              case rel => exact ⟨k + 1, by omega, by go_num, ⟨_, rfl⟩, hr3, Fr.own_lt hF1 hf3 hrow1 (Nat.le_refl _)⟩
              case measure => simp [intOf]; omega
            · have HV : Hid (E x = FT.ONE) := hid (by rw [← hE]; unfold tgE; rw [if_pos rfl, hix]; rfl)
              go_wp2_with first | (go_at_call 26; refine (rinf_any x hx wr).mono ?_; rintro e w1 ⟨rfl, hf1⟩; have hrow1 := hrow.fr_lt hf1 (fun k hk => hk.elim); have hF1 := hf.trans hf1) | (at_builtin; refine row_app fw_len fw_one w.heap.size rfl _ _ 22 26 _ 8 rfl Try.underlying22 info_f64 (by kernel_rfl) (by decide) (by decide) u3 xs FT.ONE rfl rfl hrow1 hF1.size (by omega) ?_; intro v3 w3 hr3 hf3 hat3; rw [← HV.out, HSN.out] at hr3)
              go_roundw
              case rel => exact ⟨k + 1, by omega, by go_num, ⟨_, rfl⟩, hr3, Fr.own_lt hF1 hf3 hrow1 (Nat.le_refl _)⟩
              case measure => simp [intOf]; omega
          · obtain rfl : k = l.length := by omega
            rw [List.take_length] at hrow
            obtain ⟨A', c', hv, hc'⟩ := hrow.shape
            subst hv
            rw [List.length_map] at hrow
            simp only [List.length_map]
            go_wp2
            go_ret
            exact ⟨⟨A', c', rfl, by rw [HTG.out]; exact FV.of_row hrow⟩, hf⟩
end Go.Proofs.Yteaoafipjaffpaa
