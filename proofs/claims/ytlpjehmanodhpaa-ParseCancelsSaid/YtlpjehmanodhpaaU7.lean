import Derived.Test.YtlpjehmanodhpaaU6
import Derived.StillTailTactics
set_option linter.unusedSimpArgs false
set_option linter.unusedVariables false
namespace Go.Proofs.Ytlpjehmanodhpaa
open Go.RowKit Go.Proofs.YtlpjehmanodhpaaW.PrintWords
theorem info_u8 : (Try.prog.info? 5).map (fun i => (i.zero, i.size, i.bytes)) = some (some (.int .u8 0), 1, 1) := by kernel_rfl
theorem drop_take_at {l : List Int} {p m : Nat} : (l.take (p + m)).drop p = (l.drop p).take m := by
  rw [List.drop_take]; congr 1; omega
theorem elem_drop {l L : List Int} {p : Nat} (hL : l.drop p = L) (j : Nat) (hj : j < L.length) : ∃ h : p + j < l.length, l[p + j] = L[j] := by
  subst hL
  rw [List.length_drop] at hj
  exact ⟨by omega, by simp⟩
theorem add_pos (ad : Addr) {n : Nat} (h : n ≠ 0) : ad.add n = ⟨ad.block, ad.off + n, none⟩ := by simp [Addr.add, h]
theorem dec1_of (c : Int) (r : List Int) (h : ¬ c < 128) (n : Nat) (hn : cnt (c :: r) = n) : dec1 (c :: r) = if n = 0 then (65533, 1) else if (n : Int) = need c then (formV (c :: r) n, n) else (65533, n) := by
  simp only [dec1, if_neg h, hn]
theorem At_cases (c : Int) (r : List Int) (n : Nat) (h1 : n = 0 ∨ beginsL ((c :: r).take n) = true) (hn : cnt (c :: r) = n) (hlow : ¬ c < 128) (hn4 : n ≤ 4) (hnr : n ≤ r.length + 1) :
    (n = 0 ∧ dec1 (c :: r) = (65533, 1)) ∨
    (n = 2 ∧ c < 224 ∧ ∃ x r', r = x :: r' ∧ dec1 (c :: r) = (c % 32 * 64 + x % 64, 2)) ∨
    (n = 3 ∧ 224 ≤ c ∧ c < 240 ∧ ∃ x y r', r = x :: y :: r' ∧ dec1 (c :: r) = (c % 16 * 4096 + x % 64 * 64 + y % 64, 3)) ∨
    (n = 4 ∧ 240 ≤ c ∧ ∃ x y z r', r = x :: y :: z :: r' ∧ dec1 (c :: r) = (c % 8 * 262144 + x % 64 * 4096 + y % 64 * 64 + z % 64, 4)) ∨
    (n = 1 ∧ dec1 (c :: r) = (65533, 1)) ∨ (n = 2 ∧ 224 ≤ c ∧ dec1 (c :: r) = (65533, 2)) ∨ (n = 3 ∧ 240 ≤ c ∧ dec1 (c :: r) = (65533, 3)) := by
  have hd := dec1_of c r hlow n hn
  rcases h1 with rfl | h1
  · exact .inl ⟨rfl, by simpa using hd⟩
  · rcases Nat.eq_zero_or_pos n with rfl | hpos
    · exact .inl ⟨rfl, by simpa using hd⟩
    obtain ⟨m, rfl⟩ : ∃ m, n = m + 1 := ⟨n - 1, by omega⟩
    rw [List.take_succ_cons] at h1
    simp only [beginsL, Bool.and_eq_true, decide_eq_true_eq, List.length_take] at h1
    have h2 := of_decide_eq_true h1.1
    have h3 := h1.2.1
    have hneed : (c < 224 ∧ need c = 2) ∨ (224 ≤ c ∧ c < 240 ∧ need c = 3) ∨ (240 ≤ c ∧ need c = 4) := by unfold need; split <;> (try split) <;> omega
    rw [if_neg (by omega)] at hd
    by_cases hfull : ((m + 1 : Nat) : Int) = need c
    · rw [if_pos hfull] at hd
      rcases hneed with ⟨ha, hb⟩ | ⟨ha, ha', hb⟩ | ⟨ha, hb⟩
      · obtain rfl : m = 1 := by omega
        match r, hnr with
        | x :: r', _ => exact .inr (.inl ⟨rfl, ha, x, r', rfl, by rw [hd]; simp [formV, val, lead, ha]⟩)
      · obtain rfl : m = 2 := by omega
        match r, hnr with
        | x :: y :: r', _ =>
          refine .inr (.inr (.inl ⟨rfl, ha, ha', x, y, r', rfl, ?_⟩))
          rw [hd]
          simp only [formV, val, lead, List.take_succ_cons, List.take_zero, List.foldl_cons, List.foldl_nil]
          rw [if_neg (by omega), if_pos ha']
          exact Prod.ext (by show (_ : Int) = _; omega) rfl
      · obtain rfl : m = 3 := by omega
        match r, hnr with
        | x :: y :: z :: r', _ =>
          refine .inr (.inr (.inr (.inl ⟨rfl, ha, x, y, z, r', rfl, ?_⟩)))
          rw [hd]
          simp only [formV, val, lead, List.take_succ_cons, List.take_zero, List.foldl_cons, List.foldl_nil]
          rw [if_neg (by omega), if_neg (by omega)]
          exact Prod.ext (by show (_ : Int) = _; omega) rfl
    · rw [if_neg hfull] at hd
      rcases (show m = 0 ∨ (m = 1 ∧ 224 ≤ c) ∨ (m = 2 ∧ 240 ≤ c) from by omega) with rfl | ⟨rfl, h⟩ | ⟨rfl, h⟩
      · exact .inr (.inr (.inr (.inr (.inl ⟨rfl, hd⟩))))
      · exact .inr (.inr (.inr (.inr (.inr (.inl ⟨rfl, h, hd⟩)))))
      · exact .inr (.inr (.inr (.inr (.inr (.inr ⟨rfl, h, hd⟩)))))
set_option maxHeartbeats 8000000 in
set_option maxRecDepth 100000 in
theorem At_any (w : World) (A : Option Addr) (cap : Nat) (l : List Int) (p : Nat) (c : Int) (r : List Int) (hL : l.drop p = c :: r) (hC : Kd.C (Kd.int .u8) w A l.length l) (hcap : l.length ≤ cap) (hr : ∀ x ∈ l, 0 ≤ x ∧ x ≤ 255) (hl : l.length ≤ 1000000000000) :
    Calls Try.prog 36 #[.slice A l.length cap, .int .i64 p] w fun e w' => e = .returned (.agg #[.int .i64 (dec1 (c :: r)).1, .int .i64 (dec1 (c :: r)).2]) ∧ Fr NoB w w' := by
  have hlen : l.length = p + (r.length + 1) := by
    have := congrArg List.length hL
    rw [List.length_drop, List.length_cons] at this
    omega
  have helem : ∀ j (hj : j < (c :: r).length), ∃ ad, A = some ad ∧ (∀ o, (w.alloc o).cell? (ad.add (p + j)) = some (.int .u8 ((c :: r)[j]))) ∧ 0 ≤ (c :: r)[j] ∧ (c :: r)[j] ≤ 255 := by
    intro j hj
    obtain ⟨h1, h2⟩ := elem_drop hL j hj
    obtain ⟨ad, e, hc⟩ := C_at hC (p + j) h1
    rw [h2] at hc
    exact ⟨ad, e, fun o => pw_cell_below (below_alloc (Below.refl _ _) o) hc, by rw [← h2]; exact hr _ (List.getElem_mem h1)⟩
  obtain ⟨ad, e, hc0, hc1, hc2⟩ := helem 0 (by simp)
  subst e
  simp only [List.getElem_cons_zero, Nat.add_zero] at hc0 hc1 hc2
  by_cases hlow : c < 128
  · have HD : Hid (dec1 (c :: r) = (c, 1)) := dec1_low c r hlow
    clear helem hL
    have hL := hid hlen
    have hp : (p : Int) < l.length := by omega
    go_enter Try.func36, Try.ntmps36
    go_wp2
    exact bodyPost_ret (v := .agg #[.int .i64 c, .int .i64 1]) (by simp [results, Try.results36, go_sem]) rfl ⟨by rw [HD.out]; rfl, by repeat (first | with_reducible exact Fr.refl _ _ | with_reducible refine Fr.alloc ?_ _ | with_reducible refine Fr.drew ?_)⟩
  · have hp : (p : Int) < l.length := by omega
    have HL := hid hL
    have HLen := hid hlen
    clear hL hlen
    go_enter Try.func36, Try.ntmps36
    go_wp2
    go_loop [5] (fun v5 => ∃ n : Nat, n ≤ 4 ∧ n ≤ r.length + 1 ∧ v5 = .int .i64 n ∧ Aside0 (cntF (c :: r) (4 - n) n = cnt (c :: r) ∧ (n = 0 ∨ beginsL ((c :: r).take n) = true))) (fun v5 => 4 - (intOf v5).toNat)
    case atStart => exact ⟨0, by omega, by omega, rfl, ⟨rfl, .inl rfl⟩⟩
    case round =>
      obtain ⟨n, hn4, hnr, rfl, ⟨hcn, hbn⟩⟩ := hrel
      by_cases hgo : n < r.length + 1 ∧ n < 4
      · obtain ⟨hg1, hg2⟩ := hgo
        have hpn : (p : Int) + n < l.length := by rw [HLen.out]; omega
        obtain ⟨A', hcut, hA', hC'⟩ := cut_int (P := Try.prog) (k := .u8) 22 5 _ _ Try.underlying22 info_u8 (some ad) cap l (p : Int) ((p : Int) + n + 1) (by omega) (by omega) (by omega) hcap
        have e1 : (l.take ((p : Int) + n + 1).toNat).drop (p : Int).toNat = c :: r.take n := by
          rw [show ((p : Int) + n + 1).toNat = p + (n + 1) from by omega, Int.toNat_natCast, drop_take_at, HL.out, List.take_succ_cons]
        rw [e1] at hcut hA' hC'
        obtain ⟨m, hm⟩ : ∃ m, m = (c :: r.take n).length := ⟨_, rfl⟩
        obtain ⟨cap', hcap'⟩ : ∃ x, x = cap - (p : Int).toNat := ⟨_, rfl⟩
        rw [← hm, ← hcap'] at hcut hC'
        rw [← hm] at hA'
        have hCw : Kd.C (Kd.int .u8) (w.alloc (.cells #[.int .i64 0, .int .i64 0] 60)) A' m (c :: r.take n) := hA' _ (Kd.C_alloc hC _)
        have hrr : ∀ x ∈ c :: r.take n, 0 ≤ x ∧ x ≤ 255 := by
          intro x hx
          refine hr x (List.mem_of_mem_drop (i := p) ?_)
          rw [HL.out]
          rcases List.mem_cons.1 hx with rfl | hx
          · exact List.mem_cons_self
          · exact List.mem_cons_of_mem _ (List.mem_of_mem_take hx)
        have hlt : (r.take n).length ≤ 1000000000000 := by rw [List.length_take]; omega
        have hm' : m = (r.take n).length + 1 := hm
        have HM := hid hm'
        clear hA' e1 hm hm' hcap' hC'
        have HBN := hid hbn
        have HCN := hid hcn
        clear hbn hcn
        have HE := hid helem
        clear helem
        by_cases hB : beginsL (c :: r.take n) = true
        · have HB := hid hB
          clear hB HE
          go_wp2_with fail
          refine (begins_any _ A' cap' c (r.take n) m HM.out hCw hrr hlt).mono ?_
          rintro e w' ⟨rfl, rfl⟩
          rw [HB.out]
          go_wp2
          go_round
          case rel =>
            refine ⟨n + 1, by omega, by omega, by go_num, ⟨?_, .inr ?_⟩⟩
            · rw [← HCN.out]
              rw [show 4 - n = (4 - (n + 1)) + 1 from by omega]
              conv => rhs; unfold cntF
              rw [if_pos ⟨by simp; omega, by rw [List.take_succ_cons]; exact HB.out⟩]
            · rw [List.take_succ_cons]; exact HB.out
          case measure => simp [intOf]; omega
        · have HB : Hid (beginsL (c :: r.take n) = false) := Bool.eq_false_iff.2 hB
          have hcnt : cnt (c :: r) = n := by
            rw [← HCN.out, show 4 - n = (3 - n) + 1 from by omega]
            unfold cntF
            rw [if_neg (by rw [List.take_succ_cons, HB.out]; simp)]
          clear hB
          rcases At_cases c r n HBN.out hcnt (by omega) hn4 hnr with ⟨hn, hD⟩ | ⟨hn, hc3, x, r', hx, hD⟩ | ⟨hn, hc3, hc4, x, y, r', hx, hD⟩ | ⟨hn, hc3, x, y, z, r', hx, hD⟩ | ⟨hn, hD⟩ | ⟨hn, hc3, hD⟩ | ⟨hn, hc3, hD⟩
          all_goals
            have HD := hid hD
            clear hD hcnt
          · have hq0 : ((n : Int) == 0) = true := by rw [hn]; rfl
            have hq2 : ((n : Int) == 2) = false := by rw [hn]; rfl
            have hq3 : ((n : Int) == 3) = false := by rw [hn]; rfl
            have hq4 : ((n : Int) == 4) = false := by rw [hn]; rfl
            have HN := hid hn
            clear hn HE
            go_wp2_with fail
            refine (begins_any _ A' cap' c (r.take n) m HM.out hCw hrr hlt).mono ?_
            rintro e w' ⟨rfl, rfl⟩
            rw [HB.out]
            go_wp2
            exact bodyPost_ret (v := .agg #[.int .i64 (dec1 (c :: r)).1, .int .i64 (dec1 (c :: r)).2]) (by rw [HD.out]; simp [results, Try.results36, go_sem]; try (have := HN.out; omega)) rfl ⟨rfl, by repeat (first | with_reducible exact Fr.refl _ _ | with_reducible refine Fr.alloc ?_ _ | with_reducible refine Fr.drew ?_)⟩
          · have hq0 : ((n : Int) == 0) = false := by rw [hn]; rfl
            have hq2 : ((n : Int) == 2) = true := by rw [hn]; rfl
            have hq3 : ((n : Int) == 3) = false := by rw [hn]; rfl
            have hq4 : ((n : Int) == 4) = false := by rw [hn]; rfl
            obtain ⟨ad0, e0, hx0, hy0, hz0⟩ := HE.out 1 (by rw [hx]; simp)
            obtain rfl := Option.some.inj e0
            simp only [hx, List.getElem_cons_succ, List.getElem_cons_zero] at hx0 hy0 hz0
            simp only [add_pos ad (show p + 1 ≠ 0 from by omega)] at hx0
            have hq10 : (p : Int) + 1 < l.length := by rw [HLen.out, hx]; simp; omega
            have HN := hid hn
            clear hn HE e0 hx
            go_wp2_with fail
            refine (begins_any _ A' cap' c (r.take n) m HM.out hCw hrr hlt).mono ?_
            rintro e w' ⟨rfl, rfl⟩
            rw [HB.out]
            go_wp2
            exact bodyPost_ret (v := .agg #[.int .i64 (dec1 (c :: r)).1, .int .i64 (dec1 (c :: r)).2]) (by rw [HD.out]; simp [results, Try.results36, go_sem]; try (have := HN.out; omega)) rfl ⟨rfl, by repeat (first | with_reducible exact Fr.refl _ _ | with_reducible refine Fr.alloc ?_ _ | with_reducible refine Fr.drew ?_)⟩
          · have hq0 : ((n : Int) == 0) = false := by rw [hn]; rfl
            have hq2 : ((n : Int) == 2) = false := by rw [hn]; rfl
            have hq3 : ((n : Int) == 3) = true := by rw [hn]; rfl
            have hq4 : ((n : Int) == 4) = false := by rw [hn]; rfl
            obtain ⟨ad0, e0, hx0, hy0, hz0⟩ := HE.out 1 (by rw [hx]; simp)
            obtain rfl := Option.some.inj e0
            obtain ⟨ad1, e1, hx1, hy1, hz1⟩ := HE.out 2 (by rw [hx]; simp)
            obtain rfl := Option.some.inj e1
            simp only [hx, List.getElem_cons_succ, List.getElem_cons_zero] at hx0 hy0 hz0 hx1 hy1 hz1
            simp only [add_pos ad (show p + 1 ≠ 0 from by omega)] at hx0
            simp only [add_pos ad (show p + 2 ≠ 0 from by omega)] at hx1
            have hq10 : (p : Int) + 1 < l.length := by rw [HLen.out, hx]; simp; omega
            have hq11 : (p : Int) + 2 < l.length := by rw [HLen.out, hx]; simp; omega
            have HN := hid hn
            clear hn HE e0 e1 hx
            go_wp2_with fail
            refine (begins_any _ A' cap' c (r.take n) m HM.out hCw hrr hlt).mono ?_
            rintro e w' ⟨rfl, rfl⟩
            rw [HB.out]
            go_wp2
            have hw0 : IntKind.i64.wrap ((p : Int) + 1) = (p : Int) + 1 := IntWalk.i64_in _ (by omega)
            have hv0 : (0 : Int) ≤ (p : Int) + 1 := by omega
            have ht0 : ((p : Int) + 1).toNat = p + 1 := by omega
            have hw1 : IntKind.i64.wrap ((p : Int) + 2) = (p : Int) + 2 := IntWalk.i64_in _ (by omega)
            have hv1 : (0 : Int) ≤ (p : Int) + 2 := by omega
            have ht1 : ((p : Int) + 2).toNat = p + 2 := by omega
            have hm : c.tmod 16 = c % 16 := Int.tmod_eq_emod_of_nonneg hc1
            have hm0 : x.tmod 64 = x % 64 := Int.tmod_eq_emod_of_nonneg hy0
            have hm1 : y.tmod 64 = y % 64 := Int.tmod_eq_emod_of_nonneg hy1
            have hs0 : IntKind.i64.wrap (c % 16 * 4096) = c % 16 * 4096 := IntWalk.i64_in _ (by omega)
            have hp0 : IntKind.i64.wrap (x % 64 * 64) = x % 64 * 64 := IntWalk.i64_in _ (by omega)
            have hs1 : IntKind.i64.wrap (c % 16 * 4096 + x % 64 * 64) = c % 16 * 4096 + x % 64 * 64 := IntWalk.i64_in _ (by omega)
            have hs2 : IntKind.i64.wrap (c % 16 * 4096 + x % 64 * 64 + y % 64) = c % 16 * 4096 + x % 64 * 64 + y % 64 := IntWalk.i64_in _ (by omega)
            refine wp_region_still_tail 21 (by kernel_rfl) (by kernel_rfl) ?_
            change wpStill _ _ (World.drew _) _ _ _
            simp only [List.take_succ_cons, List.take_zero, List.drop_succ_cons, List.drop_zero]
            repeat still_step
            refine wpStill_nil ?_
            change wpList _ _ _ _ _ (World.drew _)
            go_wp2
            exact bodyPost_ret (v := .agg #[.int .i64 (dec1 (c :: r)).1, .int .i64 (dec1 (c :: r)).2]) (by rw [HD.out]; simp [results, Try.results36, go_sem]; try (have := HN.out; omega)) rfl ⟨rfl, by repeat (first | with_reducible exact Fr.refl _ _ | with_reducible refine Fr.alloc ?_ _ | with_reducible refine Fr.drew ?_)⟩
          · have hq0 : ((n : Int) == 0) = false := by rw [hn]; rfl
            have hq2 : ((n : Int) == 2) = false := by rw [hn]; rfl
            have hq3 : ((n : Int) == 3) = false := by rw [hn]; rfl
            have hq4 : ((n : Int) == 4) = true := by rw [hn]; rfl
            obtain ⟨ad0, e0, hx0, hy0, hz0⟩ := HE.out 1 (by rw [hx]; simp)
            obtain rfl := Option.some.inj e0
            obtain ⟨ad1, e1, hx1, hy1, hz1⟩ := HE.out 2 (by rw [hx]; simp)
            obtain rfl := Option.some.inj e1
            obtain ⟨ad2, e2, hx2, hy2, hz2⟩ := HE.out 3 (by rw [hx]; simp)
            obtain rfl := Option.some.inj e2
            simp only [hx, List.getElem_cons_succ, List.getElem_cons_zero] at hx0 hy0 hz0 hx1 hy1 hz1 hx2 hy2 hz2
            simp only [add_pos ad (show p + 1 ≠ 0 from by omega)] at hx0
            simp only [add_pos ad (show p + 2 ≠ 0 from by omega)] at hx1
            simp only [add_pos ad (show p + 3 ≠ 0 from by omega)] at hx2
            have hq10 : (p : Int) + 1 < l.length := by rw [HLen.out, hx]; simp; omega
            have hq11 : (p : Int) + 2 < l.length := by rw [HLen.out, hx]; simp; omega
            have hq12 : (p : Int) + 3 < l.length := by rw [HLen.out, hx]; simp; omega
            have HN := hid hn
            clear hn HE e0 e1 e2 hx
            go_wp2_with fail
            refine (begins_any _ A' cap' c (r.take n) m HM.out hCw hrr hlt).mono ?_
            rintro e w' ⟨rfl, rfl⟩
            rw [HB.out]
            go_wp2
            have hw0 : IntKind.i64.wrap ((p : Int) + 1) = (p : Int) + 1 := IntWalk.i64_in _ (by omega)
            have hv0 : (0 : Int) ≤ (p : Int) + 1 := by omega
            have ht0 : ((p : Int) + 1).toNat = p + 1 := by omega
            have hw1 : IntKind.i64.wrap ((p : Int) + 2) = (p : Int) + 2 := IntWalk.i64_in _ (by omega)
            have hv1 : (0 : Int) ≤ (p : Int) + 2 := by omega
            have ht1 : ((p : Int) + 2).toNat = p + 2 := by omega
            have hw2 : IntKind.i64.wrap ((p : Int) + 3) = (p : Int) + 3 := IntWalk.i64_in _ (by omega)
            have hv2 : (0 : Int) ≤ (p : Int) + 3 := by omega
            have ht2 : ((p : Int) + 3).toNat = p + 3 := by omega
            have hm : c.tmod 8 = c % 8 := Int.tmod_eq_emod_of_nonneg hc1
            have hm0 : x.tmod 64 = x % 64 := Int.tmod_eq_emod_of_nonneg hy0
            have hm1 : y.tmod 64 = y % 64 := Int.tmod_eq_emod_of_nonneg hy1
            have hm2 : z.tmod 64 = z % 64 := Int.tmod_eq_emod_of_nonneg hy2
            have hs0 : IntKind.i64.wrap (c % 8 * 262144) = c % 8 * 262144 := IntWalk.i64_in _ (by omega)
            have hp0 : IntKind.i64.wrap (x % 64 * 4096) = x % 64 * 4096 := IntWalk.i64_in _ (by omega)
            have hs1 : IntKind.i64.wrap (c % 8 * 262144 + x % 64 * 4096) = c % 8 * 262144 + x % 64 * 4096 := IntWalk.i64_in _ (by omega)
            have hp1 : IntKind.i64.wrap (y % 64 * 64) = y % 64 * 64 := IntWalk.i64_in _ (by omega)
            have hs2 : IntKind.i64.wrap (c % 8 * 262144 + x % 64 * 4096 + y % 64 * 64) = c % 8 * 262144 + x % 64 * 4096 + y % 64 * 64 := IntWalk.i64_in _ (by omega)
            have hs3 : IntKind.i64.wrap (c % 8 * 262144 + x % 64 * 4096 + y % 64 * 64 + z % 64) = c % 8 * 262144 + x % 64 * 4096 + y % 64 * 64 + z % 64 := IntWalk.i64_in _ (by omega)
            refine wp_region_still_tail 30 (by kernel_rfl) (by kernel_rfl) ?_
            change wpStill _ _ (World.drew _) _ _ _
            simp only [List.take_succ_cons, List.take_zero, List.drop_succ_cons, List.drop_zero]
            repeat still_step
            refine wpStill_nil ?_
            change wpList _ _ _ _ _ (World.drew _)
            go_wp2
            exact bodyPost_ret (v := .agg #[.int .i64 (dec1 (c :: r)).1, .int .i64 (dec1 (c :: r)).2]) (by rw [HD.out]; simp [results, Try.results36, go_sem]; try (have := HN.out; omega)) rfl ⟨rfl, by repeat (first | with_reducible exact Fr.refl _ _ | with_reducible refine Fr.alloc ?_ _ | with_reducible refine Fr.drew ?_)⟩
          · have hq0 : ((n : Int) == 0) = false := by rw [hn]; rfl
            have hq2 : ((n : Int) == 2) = false := by rw [hn]; rfl
            have hq3 : ((n : Int) == 3) = false := by rw [hn]; rfl
            have hq4 : ((n : Int) == 4) = false := by rw [hn]; rfl
            have HN := hid hn
            clear hn HE
            go_wp2_with fail
            refine (begins_any _ A' cap' c (r.take n) m HM.out hCw hrr hlt).mono ?_
            rintro e w' ⟨rfl, rfl⟩
            rw [HB.out]
            go_wp2
            exact bodyPost_ret (v := .agg #[.int .i64 (dec1 (c :: r)).1, .int .i64 (dec1 (c :: r)).2]) (by rw [HD.out]; simp [results, Try.results36, go_sem]; try (have := HN.out; omega)) rfl ⟨rfl, by repeat (first | with_reducible exact Fr.refl _ _ | with_reducible refine Fr.alloc ?_ _ | with_reducible refine Fr.drew ?_)⟩
          · have hq0 : ((n : Int) == 0) = false := by rw [hn]; rfl
            have hq2 : ((n : Int) == 2) = true := by rw [hn]; rfl
            have hq3 : ((n : Int) == 3) = false := by rw [hn]; rfl
            have hq4 : ((n : Int) == 4) = false := by rw [hn]; rfl
            have HN := hid hn
            clear hn HE
            go_wp2_with fail
            refine (begins_any _ A' cap' c (r.take n) m HM.out hCw hrr hlt).mono ?_
            rintro e w' ⟨rfl, rfl⟩
            rw [HB.out]
            go_wp2
            exact bodyPost_ret (v := .agg #[.int .i64 (dec1 (c :: r)).1, .int .i64 (dec1 (c :: r)).2]) (by rw [HD.out]; simp [results, Try.results36, go_sem]; try (have := HN.out; omega)) rfl ⟨rfl, by repeat (first | with_reducible exact Fr.refl _ _ | with_reducible refine Fr.alloc ?_ _ | with_reducible refine Fr.drew ?_)⟩
          · have hq0 : ((n : Int) == 0) = false := by rw [hn]; rfl
            have hq2 : ((n : Int) == 2) = false := by rw [hn]; rfl
            have hq3 : ((n : Int) == 3) = true := by rw [hn]; rfl
            have hq4 : ((n : Int) == 4) = false := by rw [hn]; rfl
            have HN := hid hn
            clear hn HE
            go_wp2_with fail
            refine (begins_any _ A' cap' c (r.take n) m HM.out hCw hrr hlt).mono ?_
            rintro e w' ⟨rfl, rfl⟩
            rw [HB.out]
            go_wp2
            exact bodyPost_ret (v := .agg #[.int .i64 (dec1 (c :: r)).1, .int .i64 (dec1 (c :: r)).2]) (by rw [HD.out]; simp [results, Try.results36, go_sem]; try (have := HN.out; omega)) rfl ⟨rfl, by repeat (first | with_reducible exact Fr.refl _ _ | with_reducible refine Fr.alloc ?_ _ | with_reducible refine Fr.drew ?_)⟩
      · have hcnt : cnt (c :: r) = n := by
          rw [← hcn]
          rcases Nat.lt_or_ge n 4 with h4 | h4
          · rw [show 4 - n = (3 - n) + 1 from by omega]
            unfold cntF
            rw [if_neg (by simp; omega)]
          · obtain rfl : n = 4 := by omega
            rfl
        have HBN := hid hbn
        have HE := hid helem
        clear hbn helem hcn
        by_cases hpn : (p : Int) + n < l.length
        · have hn4' : n = 4 := by
            rw [HLen.out] at hpn; omega
          have hq4 : ¬ ((n : Int) < 4) := by omega
          rcases At_cases c r n HBN.out hcnt (by omega) hn4 hnr with ⟨hn, hD⟩ | ⟨hn, hc3, x, r', hx, hD⟩ | ⟨hn, hc3, hc4, x, y, r', hx, hD⟩ | ⟨hn, hc3, x, y, z, r', hx, hD⟩ | ⟨hn, hD⟩ | ⟨hn, hc3, hD⟩ | ⟨hn, hc3, hD⟩
          all_goals
            have HD := hid hD
            clear hD hcnt
          · exact absurd (hn.symm.trans hn4') (by decide)
          · exact absurd (hn.symm.trans hn4') (by decide)
          · exact absurd (hn.symm.trans hn4') (by decide)
          · have hq0 : ((n : Int) == 0) = false := by rw [hn]; rfl
            have hq2 : ((n : Int) == 2) = false := by rw [hn]; rfl
            have hq3 : ((n : Int) == 3) = false := by rw [hn]; rfl
            have hq4 : ((n : Int) == 4) = true := by rw [hn]; rfl
            obtain ⟨ad0, e0, hx0, hy0, hz0⟩ := HE.out 1 (by rw [hx]; simp)
            obtain rfl := Option.some.inj e0
            obtain ⟨ad1, e1, hx1, hy1, hz1⟩ := HE.out 2 (by rw [hx]; simp)
            obtain rfl := Option.some.inj e1
            obtain ⟨ad2, e2, hx2, hy2, hz2⟩ := HE.out 3 (by rw [hx]; simp)
            obtain rfl := Option.some.inj e2
            simp only [hx, List.getElem_cons_succ, List.getElem_cons_zero] at hx0 hy0 hz0 hx1 hy1 hz1 hx2 hy2 hz2
            simp only [add_pos ad (show p + 1 ≠ 0 from by omega)] at hx0
            simp only [add_pos ad (show p + 2 ≠ 0 from by omega)] at hx1
            simp only [add_pos ad (show p + 3 ≠ 0 from by omega)] at hx2
            have hq10 : (p : Int) + 1 < l.length := by rw [HLen.out, hx]; simp; omega
            have hq11 : (p : Int) + 2 < l.length := by rw [HLen.out, hx]; simp; omega
            have hq12 : (p : Int) + 3 < l.length := by rw [HLen.out, hx]; simp; omega
            have HN := hid hn
            clear hn HE e0 e1 e2 hx
            go_wp2
            have hw0 : IntKind.i64.wrap ((p : Int) + 1) = (p : Int) + 1 := IntWalk.i64_in _ (by omega)
            have hv0 : (0 : Int) ≤ (p : Int) + 1 := by omega
            have ht0 : ((p : Int) + 1).toNat = p + 1 := by omega
            have hw1 : IntKind.i64.wrap ((p : Int) + 2) = (p : Int) + 2 := IntWalk.i64_in _ (by omega)
            have hv1 : (0 : Int) ≤ (p : Int) + 2 := by omega
            have ht1 : ((p : Int) + 2).toNat = p + 2 := by omega
            have hw2 : IntKind.i64.wrap ((p : Int) + 3) = (p : Int) + 3 := IntWalk.i64_in _ (by omega)
            have hv2 : (0 : Int) ≤ (p : Int) + 3 := by omega
            have ht2 : ((p : Int) + 3).toNat = p + 3 := by omega
            have hm : c.tmod 8 = c % 8 := Int.tmod_eq_emod_of_nonneg hc1
            have hm0 : x.tmod 64 = x % 64 := Int.tmod_eq_emod_of_nonneg hy0
            have hm1 : y.tmod 64 = y % 64 := Int.tmod_eq_emod_of_nonneg hy1
            have hm2 : z.tmod 64 = z % 64 := Int.tmod_eq_emod_of_nonneg hy2
            have hs0 : IntKind.i64.wrap (c % 8 * 262144) = c % 8 * 262144 := IntWalk.i64_in _ (by omega)
            have hp0 : IntKind.i64.wrap (x % 64 * 4096) = x % 64 * 4096 := IntWalk.i64_in _ (by omega)
            have hs1 : IntKind.i64.wrap (c % 8 * 262144 + x % 64 * 4096) = c % 8 * 262144 + x % 64 * 4096 := IntWalk.i64_in _ (by omega)
            have hp1 : IntKind.i64.wrap (y % 64 * 64) = y % 64 * 64 := IntWalk.i64_in _ (by omega)
            have hs2 : IntKind.i64.wrap (c % 8 * 262144 + x % 64 * 4096 + y % 64 * 64) = c % 8 * 262144 + x % 64 * 4096 + y % 64 * 64 := IntWalk.i64_in _ (by omega)
            have hs3 : IntKind.i64.wrap (c % 8 * 262144 + x % 64 * 4096 + y % 64 * 64 + z % 64) = c % 8 * 262144 + x % 64 * 4096 + y % 64 * 64 + z % 64 := IntWalk.i64_in _ (by omega)
            refine wp_region_still_tail 30 (by kernel_rfl) (by kernel_rfl) ?_
            change wpStill _ _ (World.drew _) _ _ _
            simp only [List.take_succ_cons, List.take_zero, List.drop_succ_cons, List.drop_zero]
            repeat still_step
            refine wpStill_nil ?_
            change wpList _ _ _ _ _ (World.drew _)
            go_wp2
            exact bodyPost_ret (v := .agg #[.int .i64 (dec1 (c :: r)).1, .int .i64 (dec1 (c :: r)).2]) (by rw [HD.out]; simp [results, Try.results36, go_sem]; try (have := HN.out; omega)) rfl ⟨rfl, by repeat (first | with_reducible exact Fr.refl _ _ | with_reducible refine Fr.alloc ?_ _ | with_reducible refine Fr.drew ?_)⟩
          · exact absurd (hn.symm.trans hn4') (by decide)
          · exact absurd (hn.symm.trans hn4') (by decide)
          · exact absurd (hn.symm.trans hn4') (by decide)
        · have hpn' : ¬ ((p : Int) + n < l.length) := hpn
          clear hgo
          rcases At_cases c r n HBN.out hcnt (by omega) hn4 hnr with ⟨hn, hD⟩ | ⟨hn, hc3, x, r', hx, hD⟩ | ⟨hn, hc3, hc4, x, y, r', hx, hD⟩ | ⟨hn, hc3, x, y, z, r', hx, hD⟩ | ⟨hn, hD⟩ | ⟨hn, hc3, hD⟩ | ⟨hn, hc3, hD⟩
          all_goals
            have HD := hid hD
            clear hD hcnt
          · have hq0 : ((n : Int) == 0) = true := by rw [hn]; rfl
            have hq2 : ((n : Int) == 2) = false := by rw [hn]; rfl
            have hq3 : ((n : Int) == 3) = false := by rw [hn]; rfl
            have hq4 : ((n : Int) == 4) = false := by rw [hn]; rfl
            have HN := hid hn
            clear hn HE
            go_wp2
            exact bodyPost_ret (v := .agg #[.int .i64 (dec1 (c :: r)).1, .int .i64 (dec1 (c :: r)).2]) (by rw [HD.out]; simp [results, Try.results36, go_sem]; try (have := HN.out; omega)) rfl ⟨rfl, by repeat (first | with_reducible exact Fr.refl _ _ | with_reducible refine Fr.alloc ?_ _ | with_reducible refine Fr.drew ?_)⟩
          · have hq0 : ((n : Int) == 0) = false := by rw [hn]; rfl
            have hq2 : ((n : Int) == 2) = true := by rw [hn]; rfl
            have hq3 : ((n : Int) == 3) = false := by rw [hn]; rfl
            have hq4 : ((n : Int) == 4) = false := by rw [hn]; rfl
            obtain ⟨ad0, e0, hx0, hy0, hz0⟩ := HE.out 1 (by rw [hx]; simp)
            obtain rfl := Option.some.inj e0
            simp only [hx, List.getElem_cons_succ, List.getElem_cons_zero] at hx0 hy0 hz0
            simp only [add_pos ad (show p + 1 ≠ 0 from by omega)] at hx0
            have hq10 : (p : Int) + 1 < l.length := by rw [HLen.out, hx]; simp; omega
            have HN := hid hn
            clear hn HE e0 hx
            go_wp2
            exact bodyPost_ret (v := .agg #[.int .i64 (dec1 (c :: r)).1, .int .i64 (dec1 (c :: r)).2]) (by rw [HD.out]; simp [results, Try.results36, go_sem]; try (have := HN.out; omega)) rfl ⟨rfl, by repeat (first | with_reducible exact Fr.refl _ _ | with_reducible refine Fr.alloc ?_ _ | with_reducible refine Fr.drew ?_)⟩
          · have hq0 : ((n : Int) == 0) = false := by rw [hn]; rfl
            have hq2 : ((n : Int) == 2) = false := by rw [hn]; rfl
            have hq3 : ((n : Int) == 3) = true := by rw [hn]; rfl
            have hq4 : ((n : Int) == 4) = false := by rw [hn]; rfl
            obtain ⟨ad0, e0, hx0, hy0, hz0⟩ := HE.out 1 (by rw [hx]; simp)
            obtain rfl := Option.some.inj e0
            obtain ⟨ad1, e1, hx1, hy1, hz1⟩ := HE.out 2 (by rw [hx]; simp)
            obtain rfl := Option.some.inj e1
            simp only [hx, List.getElem_cons_succ, List.getElem_cons_zero] at hx0 hy0 hz0 hx1 hy1 hz1
            simp only [add_pos ad (show p + 1 ≠ 0 from by omega)] at hx0
            simp only [add_pos ad (show p + 2 ≠ 0 from by omega)] at hx1
            have hq10 : (p : Int) + 1 < l.length := by rw [HLen.out, hx]; simp; omega
            have hq11 : (p : Int) + 2 < l.length := by rw [HLen.out, hx]; simp; omega
            have HN := hid hn
            clear hn HE e0 e1 hx
            go_wp2
            have hw0 : IntKind.i64.wrap ((p : Int) + 1) = (p : Int) + 1 := IntWalk.i64_in _ (by omega)
            have hv0 : (0 : Int) ≤ (p : Int) + 1 := by omega
            have ht0 : ((p : Int) + 1).toNat = p + 1 := by omega
            have hw1 : IntKind.i64.wrap ((p : Int) + 2) = (p : Int) + 2 := IntWalk.i64_in _ (by omega)
            have hv1 : (0 : Int) ≤ (p : Int) + 2 := by omega
            have ht1 : ((p : Int) + 2).toNat = p + 2 := by omega
            have hm : c.tmod 16 = c % 16 := Int.tmod_eq_emod_of_nonneg hc1
            have hm0 : x.tmod 64 = x % 64 := Int.tmod_eq_emod_of_nonneg hy0
            have hm1 : y.tmod 64 = y % 64 := Int.tmod_eq_emod_of_nonneg hy1
            have hs0 : IntKind.i64.wrap (c % 16 * 4096) = c % 16 * 4096 := IntWalk.i64_in _ (by omega)
            have hp0 : IntKind.i64.wrap (x % 64 * 64) = x % 64 * 64 := IntWalk.i64_in _ (by omega)
            have hs1 : IntKind.i64.wrap (c % 16 * 4096 + x % 64 * 64) = c % 16 * 4096 + x % 64 * 64 := IntWalk.i64_in _ (by omega)
            have hs2 : IntKind.i64.wrap (c % 16 * 4096 + x % 64 * 64 + y % 64) = c % 16 * 4096 + x % 64 * 64 + y % 64 := IntWalk.i64_in _ (by omega)
            refine wp_region_still_tail 21 (by kernel_rfl) (by kernel_rfl) ?_
            change wpStill _ _ (World.drew _) _ _ _
            simp only [List.take_succ_cons, List.take_zero, List.drop_succ_cons, List.drop_zero]
            repeat still_step
            refine wpStill_nil ?_
            change wpList _ _ _ _ _ (World.drew _)
            go_wp2
            exact bodyPost_ret (v := .agg #[.int .i64 (dec1 (c :: r)).1, .int .i64 (dec1 (c :: r)).2]) (by rw [HD.out]; simp [results, Try.results36, go_sem]; try (have := HN.out; omega)) rfl ⟨rfl, by repeat (first | with_reducible exact Fr.refl _ _ | with_reducible refine Fr.alloc ?_ _ | with_reducible refine Fr.drew ?_)⟩
          · have hq0 : ((n : Int) == 0) = false := by rw [hn]; rfl
            have hq2 : ((n : Int) == 2) = false := by rw [hn]; rfl
            have hq3 : ((n : Int) == 3) = false := by rw [hn]; rfl
            have hq4 : ((n : Int) == 4) = true := by rw [hn]; rfl
            obtain ⟨ad0, e0, hx0, hy0, hz0⟩ := HE.out 1 (by rw [hx]; simp)
            obtain rfl := Option.some.inj e0
            obtain ⟨ad1, e1, hx1, hy1, hz1⟩ := HE.out 2 (by rw [hx]; simp)
            obtain rfl := Option.some.inj e1
            obtain ⟨ad2, e2, hx2, hy2, hz2⟩ := HE.out 3 (by rw [hx]; simp)
            obtain rfl := Option.some.inj e2
            simp only [hx, List.getElem_cons_succ, List.getElem_cons_zero] at hx0 hy0 hz0 hx1 hy1 hz1 hx2 hy2 hz2
            simp only [add_pos ad (show p + 1 ≠ 0 from by omega)] at hx0
            simp only [add_pos ad (show p + 2 ≠ 0 from by omega)] at hx1
            simp only [add_pos ad (show p + 3 ≠ 0 from by omega)] at hx2
            have hq10 : (p : Int) + 1 < l.length := by rw [HLen.out, hx]; simp; omega
            have hq11 : (p : Int) + 2 < l.length := by rw [HLen.out, hx]; simp; omega
            have hq12 : (p : Int) + 3 < l.length := by rw [HLen.out, hx]; simp; omega
            have HN := hid hn
            clear hn HE e0 e1 e2 hx
            go_wp2
            have hw0 : IntKind.i64.wrap ((p : Int) + 1) = (p : Int) + 1 := IntWalk.i64_in _ (by omega)
            have hv0 : (0 : Int) ≤ (p : Int) + 1 := by omega
            have ht0 : ((p : Int) + 1).toNat = p + 1 := by omega
            have hw1 : IntKind.i64.wrap ((p : Int) + 2) = (p : Int) + 2 := IntWalk.i64_in _ (by omega)
            have hv1 : (0 : Int) ≤ (p : Int) + 2 := by omega
            have ht1 : ((p : Int) + 2).toNat = p + 2 := by omega
            have hw2 : IntKind.i64.wrap ((p : Int) + 3) = (p : Int) + 3 := IntWalk.i64_in _ (by omega)
            have hv2 : (0 : Int) ≤ (p : Int) + 3 := by omega
            have ht2 : ((p : Int) + 3).toNat = p + 3 := by omega
            have hm : c.tmod 8 = c % 8 := Int.tmod_eq_emod_of_nonneg hc1
            have hm0 : x.tmod 64 = x % 64 := Int.tmod_eq_emod_of_nonneg hy0
            have hm1 : y.tmod 64 = y % 64 := Int.tmod_eq_emod_of_nonneg hy1
            have hm2 : z.tmod 64 = z % 64 := Int.tmod_eq_emod_of_nonneg hy2
            have hs0 : IntKind.i64.wrap (c % 8 * 262144) = c % 8 * 262144 := IntWalk.i64_in _ (by omega)
            have hp0 : IntKind.i64.wrap (x % 64 * 4096) = x % 64 * 4096 := IntWalk.i64_in _ (by omega)
            have hs1 : IntKind.i64.wrap (c % 8 * 262144 + x % 64 * 4096) = c % 8 * 262144 + x % 64 * 4096 := IntWalk.i64_in _ (by omega)
            have hp1 : IntKind.i64.wrap (y % 64 * 64) = y % 64 * 64 := IntWalk.i64_in _ (by omega)
            have hs2 : IntKind.i64.wrap (c % 8 * 262144 + x % 64 * 4096 + y % 64 * 64) = c % 8 * 262144 + x % 64 * 4096 + y % 64 * 64 := IntWalk.i64_in _ (by omega)
            have hs3 : IntKind.i64.wrap (c % 8 * 262144 + x % 64 * 4096 + y % 64 * 64 + z % 64) = c % 8 * 262144 + x % 64 * 4096 + y % 64 * 64 + z % 64 := IntWalk.i64_in _ (by omega)
            refine wp_region_still_tail 30 (by kernel_rfl) (by kernel_rfl) ?_
            change wpStill _ _ (World.drew _) _ _ _
            simp only [List.take_succ_cons, List.take_zero, List.drop_succ_cons, List.drop_zero]
            repeat still_step
            refine wpStill_nil ?_
            change wpList _ _ _ _ _ (World.drew _)
            go_wp2
            exact bodyPost_ret (v := .agg #[.int .i64 (dec1 (c :: r)).1, .int .i64 (dec1 (c :: r)).2]) (by rw [HD.out]; simp [results, Try.results36, go_sem]; try (have := HN.out; omega)) rfl ⟨rfl, by repeat (first | with_reducible exact Fr.refl _ _ | with_reducible refine Fr.alloc ?_ _ | with_reducible refine Fr.drew ?_)⟩
          · have hq0 : ((n : Int) == 0) = false := by rw [hn]; rfl
            have hq2 : ((n : Int) == 2) = false := by rw [hn]; rfl
            have hq3 : ((n : Int) == 3) = false := by rw [hn]; rfl
            have hq4 : ((n : Int) == 4) = false := by rw [hn]; rfl
            have HN := hid hn
            clear hn HE
            go_wp2
            exact bodyPost_ret (v := .agg #[.int .i64 (dec1 (c :: r)).1, .int .i64 (dec1 (c :: r)).2]) (by rw [HD.out]; simp [results, Try.results36, go_sem]; try (have := HN.out; omega)) rfl ⟨rfl, by repeat (first | with_reducible exact Fr.refl _ _ | with_reducible refine Fr.alloc ?_ _ | with_reducible refine Fr.drew ?_)⟩
          · have hq0 : ((n : Int) == 0) = false := by rw [hn]; rfl
            have hq2 : ((n : Int) == 2) = true := by rw [hn]; rfl
            have hq3 : ((n : Int) == 3) = false := by rw [hn]; rfl
            have hq4 : ((n : Int) == 4) = false := by rw [hn]; rfl
            have HN := hid hn
            clear hn HE
            go_wp2
            exact bodyPost_ret (v := .agg #[.int .i64 (dec1 (c :: r)).1, .int .i64 (dec1 (c :: r)).2]) (by rw [HD.out]; simp [results, Try.results36, go_sem]; try (have := HN.out; omega)) rfl ⟨rfl, by repeat (first | with_reducible exact Fr.refl _ _ | with_reducible refine Fr.alloc ?_ _ | with_reducible refine Fr.drew ?_)⟩
          · have hq0 : ((n : Int) == 0) = false := by rw [hn]; rfl
            have hq2 : ((n : Int) == 2) = false := by rw [hn]; rfl
            have hq3 : ((n : Int) == 3) = true := by rw [hn]; rfl
            have hq4 : ((n : Int) == 4) = false := by rw [hn]; rfl
            have HN := hid hn
            clear hn HE
            go_wp2
            exact bodyPost_ret (v := .agg #[.int .i64 (dec1 (c :: r)).1, .int .i64 (dec1 (c :: r)).2]) (by rw [HD.out]; simp [results, Try.results36, go_sem]; try (have := HN.out; omega)) rfl ⟨rfl, by repeat (first | with_reducible exact Fr.refl _ _ | with_reducible refine Fr.alloc ?_ _ | with_reducible refine Fr.drew ?_)⟩
end Go.Proofs.Ytlpjehmanodhpaa
