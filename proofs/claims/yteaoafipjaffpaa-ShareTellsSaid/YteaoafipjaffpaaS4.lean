import Derived.Test.YteaoafipjaffpaaS3
set_option linter.unusedSimpArgs false
set_option linter.unusedVariables false
namespace Go.Proofs.Yteaoafipjaffpaa
open Go.RowKit Go.Proofs.YteaoafipjaffpaaW.PrintWords
attribute [local go_sem] st_float
theorem asks_inf : Asks 23 FT.isI := isInf_any
theorem asks_one : Asks 25 fun _ => true := lit1_any
theorem Together_none (w : World) (A : Option Addr) (c : Nat) (l : List Nat) (hl : l.length ≤ 4096) (hn : l.length = 0 ∨ 64 < l.length) :
    Calls Try.prog 9 #[.slice A l.length c] w fun e w' => e = .returned (.slice none 0 0) ∧ Fr NoB w w' := by
  generalize l.length = n at *
  rcases hn with h | h
  · subst h
    go_enter Try.func9, Try.ntmps9
    go_wp2
    go_ret
    exact ⟨rfl, Fr.refl _ _⟩
  · have h0 : ((n : Int) == 0) = false := by
      simp only [beq_eq_false_iff_ne, ne_eq]; omega
    have h1 : decide ((n : Int) > 64) = true := by simp only [decide_eq_true_eq]; omega
    go_enter Try.func9, Try.ntmps9
    go_wp2
    go_ret
    exact ⟨rfl, Fr.refl _ _⟩
set_option maxHeartbeats 4000000 in
theorem Together_any (w : World) (A : Option Addr) (c : Nat) (l : List Nat) (hV : FV w A l) (hW : FT.Ws l) (h1 : 1 ≤ l.length) (h2 : l.length ≤ 64) :
    Calls Try.prog 9 #[.slice A l.length c] w fun e w' => (∃ b, e = .returned (.slice (some ⟨b, 0, none⟩) l.length l.length) ∧ w.heap.size ≤ b ∧ Blk w' b 26 ((FT.tgL l).flatMap fw)) ∧ Fr NoB w w' := by
  have h0 : ((l.length : Int) == 0) = false := by
    simp only [beq_eq_false_iff_ne, ne_eq]; omega
  have h3 : decide ((l.length : Int) > 64) = false := by simp only [decide_eq_false_iff_not]; omega
  cases hi : l.any FT.isI
  · by_cases hm : FT.mostL l = 0
    · have ht : FT.tgL l = FT.onesL (fun _ => true) l := by unfold FT.tgL; rw [hi, hm]; rfl
      have HT := hid ht
      have HI := hid hi
      have HM := hid hm
      clear ht hm
      go_enter Try.func9, Try.ntmps9
      go_wp2_with (go_at_call 22; refine (cf_any w A c l hV (by omega)).mono ?_; rintro e w1 ⟨rfl, hf⟩)
      go_loopw [3, 5, 23] (fun v3 v5 v23 wr => ∃ k : Nat, k ≤ l.length ∧ v23 = .int .i64 k ∧ v3 = .float .f64 (FT.mostL (l.take k)) ∧ (∃ x, v5 = x) ∧ Fr NoB w wr) (fun _ _ v23 _ => l.length - (intOf v23).toNat)
      case atStart => exact ⟨0, Nat.zero_le _, rfl, rfl, ⟨_, rfl⟩, by assumption⟩
      case round =>
        obtain ⟨k, hk, rfl, rfl, ⟨v5, rfl⟩, hf⟩ := hrel
        by_cases hkm : k < l.length
        · obtain ⟨ad, rfl, hlt, hc⟩ := (hV.fr0 hf).at_ k hkm
          have hst := FT.mostL_take l k hkm
          have hmx := fun ts t (w : World) => FT.max_run (P := Try.prog) ts t (FT.mostL (l.take k)) (FT.count l[k]) (FT.mostL_le (hW.take k)) (FT.count_le (hW _ (List.getElem_mem hkm))) w
          have HST := hid hst
          clear hst
          generalize FT.mostL (l.take k) = m at *
          generalize l[k] = x at *
          go_wp2_with (go_at_call 18; refine (Count_any x wr).mono ?_; rintro e w1 ⟨rfl, rfl⟩)
          go_roundw
          case rel => exact ⟨k + 1, by omega, by go_num, by rw [HST.out], ⟨_, rfl⟩, hf⟩
          case measure => simp [intOf]; omega
        · obtain rfl : k = l.length := by omega
          have htl := List.take_length (l := l)
          rw [htl]
          rw [HM.out]
          go_wp2_with (go_at_call 24; refine (ones_any 25 (.inr rfl) _ asks_one wr _ c l (hV.fr0 hf) (by omega)).mono ?_; rintro e w2 ⟨rfl, hB, hf2⟩)
          go_ret
          exact ⟨⟨_, rfl, hf.size, by rw [HT.out]; exact hB⟩, hf.trans hf2⟩
    · have hmk := make_f64 l.length (by omega)
      have ht : FT.tgL l = fillL (fun b => FT.fdiv (FT.count b) (FT.mostL l)) l l.length := by
        rw [fillL_all]
        unfold FT.tgL; rw [hi, if_neg hm]; rfl
      have hdv := fun (x : Nat) (hx : x ∈ l) => (FT.div_count hW hi hm hx).1
      have hm' : (FloatKind.f64.format.order (FT.mostL l) 0 == some .eq) = false := by
        have := FT.eqF_pos (a := FT.mostL l) (b := 0) (FT.mostL_le hW) (by decide)
        unfold FT.eqF at this
        rw [this]
        simpa using hm
      have HT := hid ht
      have HI := hid hi
      have HM := hid hm
      have HDV := hid hdv
      clear ht hm hdv
      go_enter Try.func9, Try.ntmps9
      go_wp2_with (go_at_call 22; refine (cf_any w A c l hV (by omega)).mono ?_; rintro e w1 ⟨rfl, hf⟩)
      go_loopw [3, 5, 23] (fun v3 v5 v23 wr => ∃ k : Nat, k ≤ l.length ∧ v23 = .int .i64 k ∧ v3 = .float .f64 (FT.mostL (l.take k)) ∧ (∃ x, v5 = x) ∧ Fr NoB w wr) (fun _ _ v23 _ => l.length - (intOf v23).toNat)
      case atStart => exact ⟨0, Nat.zero_le _, rfl, rfl, ⟨_, rfl⟩, by assumption⟩
      case round =>
        obtain ⟨k, hk, rfl, rfl, ⟨v5, rfl⟩, hf⟩ := hrel
        by_cases hkm : k < l.length
        · obtain ⟨ad, rfl, hlt, hc⟩ := (hV.fr0 hf).at_ k hkm
          have hst := FT.mostL_take l k hkm
          have hmx := fun ts t (w : World) => FT.max_run (P := Try.prog) ts t (FT.mostL (l.take k)) (FT.count l[k]) (FT.mostL_le (hW.take k)) (FT.count_le (hW _ (List.getElem_mem hkm))) w
          have HST := hid hst
          clear hst
          generalize FT.mostL (l.take k) = m at *
          generalize l[k] = x at *
          go_wp2_with (go_at_call 18; refine (Count_any x wr).mono ?_; rintro e w1 ⟨rfl, rfl⟩)
          go_roundw
          case rel => exact ⟨k + 1, by omega, by go_num, by rw [HST.out], ⟨_, rfl⟩, hf⟩
          case measure => simp [intOf]; omega
        · obtain rfl : k = l.length := by omega
          have htl := List.take_length (l := l)
          rw [htl]
          generalize FT.mostL l = most at *
          generalize hb : wr.heap.size = b at *
          have hle := hf.size
          go_wp2
          obtain ⟨wo, rfl⟩ : ∃ wo : World, wo = wr := ⟨_, rfl⟩
          go_loopw [7, 8, 41] (fun v7 v8 v41 wr => ∃ k : Nat, k ≤ l.length ∧ v41 = .int .i64 k ∧ (∃ x, v7 = x) ∧ (∃ x, v8 = x) ∧ Blk wr b 26 ((fillL (fun b => FT.fdiv (FT.count b) most) l k).flatMap fw) ∧ Fr NoB wo wr) (fun _ _ v41 _ => l.length - (intOf v41).toNat)
          case atStart =>
            refine ⟨0, Nat.zero_le _, rfl, ⟨_, rfl⟩, ⟨_, rfl⟩, ?_, (Fr.refl _ _).alloc _⟩
            rw [fillL_zero, ← hb]
            exact Blk.new _ _ _
          case round =>
            obtain ⟨k, hk, rfl, ⟨v7, rfl⟩, ⟨v8, rfl⟩, hB, hf3⟩ := hrel
            by_cases hkm : k < l.length
            · obtain ⟨ad, rfl, hlt, hc⟩ := ((hV.fr0 hf).fr0 hf3).at_ k hkm
              have hset := fillL_set (fun b => FT.fdiv (FT.count b) most) l k hkm
              have hlen := fillL_len (fun b => FT.fdiv (FT.count b) most) l k hk
              have hdv := HDV.out l[k] (List.getElem_mem hkm)
              generalize l[k] = x at *
              generalize h2 : fillL (fun b => FT.fdiv (FT.count b) most) l (k + 1) = l2 at *
              generalize fillL (fun b => FT.fdiv (FT.count b) most) l k = l1 at *
              have hrun := fun w => run_float_arith (P := Try.prog) w .quo 26 .f64 (FT.count x) most (FT.fdiv (FT.count x) most) hdv
              have HSET := hid hset
              have HB := hid hb
              have H2 := hid h2
              clear hset hb h2 hdv
              have hcell := hB.cell k (fw_get l1 k (by omega))
              have hfz := hB.frozen k
              have hwset := (hB.set k (.float .f64 (FT.fdiv (FT.count x) most))).eq (fw_set l1 k (by omega) _)
              go_wp2_with (go_at_call 18; refine (Count_any x wr).mono ?_; rintro e w1 ⟨rfl, rfl⟩)
              go_roundw
              case rel => exact ⟨k + 1, by omega, by go_num, ⟨_, rfl⟩, ⟨_, rfl⟩, by rw [H2.out, ← HSET.out]; exact hwset, hf3.setCell (.inr (by simp [HB.out])) _⟩
              case measure => simp [intOf]; omega
            · obtain rfl : k = l.length := by omega
              go_wp2
              go_ret
              exact ⟨⟨_, rfl, by omega, by rw [HT.out]; exact hB⟩, hf.trans hf3⟩
  · have ht : FT.tgL l = FT.onesL FT.isI l := by unfold FT.tgL; rw [hi]; rfl
    have HT := hid ht
    have HI := hid hi
    clear ht
    go_enter Try.func9, Try.ntmps9
    go_wp2_with first | (go_at_call 22; refine (cf_any w A c l hV (by omega)).mono ?_; rintro e w1 ⟨rfl, hf⟩) | (go_at_call 24; refine (ones_any 23 (.inl rfl) _ asks_inf _ _ c l (hV.fr0 hf) (by omega)).mono ?_; rintro e w2 ⟨rfl, hB, hf2⟩)
    go_ret
    exact ⟨⟨_, rfl, hf.size, by rw [HT.out]; exact hB⟩, hf.trans hf2⟩
end Go.Proofs.Yteaoafipjaffpaa
