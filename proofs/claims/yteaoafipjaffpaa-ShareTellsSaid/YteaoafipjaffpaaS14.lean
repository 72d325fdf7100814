import Derived.Test.YteaoafipjaffpaaS13
import Derived.Test.YteaoafipjaffpaaF8
set_option linter.unusedSimpArgs false
set_option linter.unusedVariables false
namespace Go.Proofs.Yteaoafipjaffpaa
open Go.RowKit Go.Proofs.YteaoafipjaffpaaW.PrintWords
attribute [local go_sem] st_float
theorem cmp_gtr (t : TypeId) (a b : Nat) : binOp .gtr t (.float .f64 a) (.float .f64 b) = pure (.bool (FT.gtF a b)) := binOp_float_cmp_gtr t .f64 a b
attribute [local go_sem high] cmp_gtr
theorem rShares_none (w : World) (A : Option Addr) (c : Nat) (l : List Nat) (n : Int) (hV : FV w A l) (hW : FT.Ws l) (hn : l.length = 0 ∨ 64 < l.length ∨ n < 0 ∨ 512 < n) :
    Calls Try.prog 14 #[.int .i64 n, .slice A l.length c] w fun e w' => e = .returned (.slice none 0 0) ∧ Fr NoB w w' := by
  by_cases h1 : l.length = 0 ∨ 64 < l.length
  · go_enter Try.func14, Try.ntmps14
    go_wp2_with (go_at_call 10; refine (rTogether_none w A c l h1).mono ?_; rintro e w1 ⟨rfl, hf⟩)
    go_ret
    exact ⟨rfl, hf⟩
  · have h0 : ((l.length : Int) == 0) = false := by simp only [beq_eq_false_iff_ne, ne_eq]; omega
    by_cases h2 : n < 0
    · have h2' : decide (n < 0) = true := by simpa using h2
      clear h2
      go_enter Try.func14, Try.ntmps14
      go_wp2_with (go_at_call 10; refine (rTogether_any w A c l hV hW (by omega) (by omega)).mono ?_; rintro e w1 ⟨⟨B, d, rfl, hB⟩, hf⟩)
      go_ret
      exact ⟨rfl, hf⟩
    · have h2' : decide (n < 0) = false := by simpa using h2
      have h3' : decide (n > 512) = true := by simp only [decide_eq_true_eq]; omega
      clear hn h2
      go_enter Try.func14, Try.ntmps14
      go_wp2_with (go_at_call 10; refine (rTogether_any w A c l hV hW (by omega) (by omega)).mono ?_; rintro e w1 ⟨⟨B, d, rfl, hB⟩, hf⟩)
      go_ret
      exact ⟨rfl, hf⟩
theorem conv_int (x : Nat) (hx : x < FT.infR) (hz : FT.floorN x ≤ 4096) (w : World) : (convert 26 3 (.float .f64 x)).run Try.prog w = .ok (.int .i64 (FT.floorN x)) w := by
  refine run_convert_float_int w 26 3 .f64 .i64 _ _ (by kernel_rfl) Try.underlying3 ?_
  have hd : (FloatKind.f64.decode x).toInt .zero = some (FT.floorN x : Int) := FT.toInt_of hx
  unfold floatToIntVal
  rw [hd]
  simp only []
  rw [if_pos]
  constructor
  · show (-9223372036854775808 : Int) ≤ _
    omega
  · show _ ≤ (9223372036854775807 : Int)
    omega
theorem of_nat (n : Nat) : floatOfInt .f64 (n : Int) = FT.ofN n := by
  show FT.D.write (.number (decide ((n : Int) < 0)) (n : Int).natAbs 0) = _
  rw [show decide ((n : Int) < 0) = false by simp only [decide_eq_false_iff_not]; omega, show (n : Int).natAbs = n by omega]
  rfl
/-- Cells of a block that read as whole numbers, none frozen. -/
structure OB (w : World) (g : Nat) (xs : List Nat) : Prop where
  lt : g < w.heap.size
  cell : ∀ k (h : k < xs.length), w.cell? ⟨g, k, none⟩ = some (.int .i64 xs[k])
  fz : ∀ k, w.frozen? ⟨g, k, none⟩ = false
theorem OB.fr {S : Nat → Prop} {w w' : World} {g : Nat} {xs : List Nat} (h : OB w g xs) (hf : Fr S w w') (hs : ¬ S g) : OB w' g xs :=
  ⟨Nat.lt_of_lt_of_le h.lt hf.size, fun k hk => (World.cell?_of_block (hf.block g h.lt hs)).trans (h.cell k hk), fun k => (World.frozen?_of_block (hf.block g h.lt hs)).trans (h.fz k)⟩
theorem OB.of_row {e : TypeId} {w : World} {base g c : Nat} {xs : List Nat} (h : Row iw 1 e w base (.slice (some ⟨g, 0, none⟩) xs.length c) xs) (h0 : 0 < xs.length) : OB w g xs := by
  refine ⟨(h.lt g rfl).2, fun k hk => ?_, fun k => h.frozen k⟩
  have h4 := Row.cell h iw_len k hk 0 (by omega) (u := .int .i64 xs[k]) rfl
  rw [Nat.mul_one, Nat.add_zero] at h4
  exact h4
theorem OB.other {w : World} {g : Nat} {xs : List Nat} (h : OB w g xs) {p : Addr} (hp : g ≠ p.block) (v : Value) : OB (w.setCell p v) g xs :=
  h.fr (S := fun k => k = p.block) ⟨rfl, rfl, rfl, by simp [World.setCell], fun i _ hn => Below.heap_setCell w p v i hn⟩ (fun e => hp e)
theorem OB.set {w : World} {g : Nat} {xs : List Nat} (h : OB w g xs) (a : Nat) (ha : a < xs.length) (y : Nat) : OB (w.setCell ⟨g, a, none⟩ (.int .i64 y)) g (xs.set a y) := by
  refine ⟨by rw [sz_setCell]; exact h.lt, fun k hk => ?_, fun k => ?_⟩
  · rw [List.length_set] at hk
    by_cases hka : k = a
    · subst hka
      rw [List.getElem_set_self]
      exact World.cell?_setCell_same' w _ _ (by rw [h.cell k ha]; rfl)
    · rw [List.getElem_set_ne (fun e => hka e.symm)]
      exact (World.cell?_setCell_other w _ _ _ (fun e => by injection e with _ e2 _; exact hka e2.symm)).trans (h.cell k hk)
  · rw [World.frozen?_setCell]; exact h.fz k
theorem tail_facts2 (w : World) (o g a m : Nat) (got : List Bool) (out : List Nat) (y : Nat) (hO : OB w o out) (hG : Blk w g 4 (got.flatMap bw)) (ha : a < m) (h1 : got.length = m) (h2 : out.length = m) (hgo : o ≠ g) (hy : out.getD a 0 = y) :
    (w.cell? ⟨g, a, none⟩).isSome = true ∧ w.frozen? ⟨g, a, none⟩ = false ∧ (w.setCell ⟨g, a, none⟩ (.bool true)).cell? ⟨o, a, none⟩ = some (.int .i64 y) ∧ (w.setCell ⟨g, a, none⟩ (.bool true)).frozen? ⟨o, a, none⟩ = false ∧
    OB ((w.setCell ⟨g, a, none⟩ (.bool true)).setCell ⟨o, a, none⟩ (.int .i64 ((y : Int) + 1))) o (out.set a (y + 1)) ∧ Blk ((w.setCell ⟨g, a, none⟩ (.bool true)).setCell ⟨o, a, none⟩ (.int .i64 ((y : Int) + 1))) g 4 ((got.set a true).flatMap bw) := by
  have hyd : out.getD a 0 = out[a]'(by omega) := FT.getD_lt _ _ _ (by omega)
  have hO6 := (hO.other (p := ⟨g, a, none⟩) hgo (.bool true))
  have hG6 := (hG.set a (.bool true)).eq (bw_set _ a (by omega) true)
  have hc := hO6.cell a (by omega)
  rw [← hyd, hy] at hc
  refine ⟨by rw [hG.cell a (bw_get _ a (by omega))]; rfl, hG.frozen a, hc, hO6.fz a, ?_, ?_⟩
  · exact hO6.set a (by omega) (y + 1)
  · exact hG6.other (p := ⟨o, a, none⟩) (fun h => hgo h.symm) _
set_option maxHeartbeats 8000000 in
set_option maxRecDepth 20000 in
theorem rShares_any (w : World) (A : Option Addr) (c : Nat) (l : List Nat) (n : Nat) (hV : FV w A l) (hW : FT.Ws l) (h1 : 1 ≤ l.length) (h2 : l.length ≤ 64) (hn : n ≤ 512) :
    Calls Try.prog 14 #[.int .i64 n, .slice A l.length c] w fun e w' => (∃ b d, e = .returned (.slice (some ⟨b, 0, none⟩) l.length d) ∧ OB w' b (FT.sharesL n l)) ∧ Fr NoB w w' := by
  have hmk2 := make_bool l.length (by omega)
  have hne : l ≠ [] := by intro h; subst h; simp at h1
  have hT := FT.tgL_ok hW hne
  have htl := FT.tgL_len l
  have hS : FT.sharesL n l = FT.sharesQ n (FT.quotasL n (FT.tgL l)) := rfl
  obtain ⟨hQ, hs1, hs2⟩ := FT.quotas_ok hn hT (by omega)
  have hql := FT.quotasL_len n (FT.tgL l)
  rw [htl] at hql
  have h0 : ((l.length : Int) == 0) = false := by simp only [beq_eq_false_iff_ne, ne_eq]; omega
  have h3 : decide ((n : Int) < 0) = false := by simp only [decide_eq_false_iff_not]; omega
  have h4 : decide ((n : Int) > 512) = false := by simp only [decide_eq_false_iff_not]; omega
  have ht0 := fun w (A : Option Addr) (hV : FV w A l) (c : Nat) => rTogether_any w A c l hV hW h1 h2
  have hadd := FT.sum_add hT.le (by omega)
  have hqo := fun x (hx : x ∈ FT.tgL l) => FT.quota_ok hn (hT.le x hx) hs1 hs2
  have hqg : ∀ k (hk : k < (FT.tgL l).length), (FT.quotasL n (FT.tgL l)).getD k 0 = FT.quota n (FT.sumL (FT.tgL l)) (FT.tgL l)[k] := by
    intro k hk
    rw [FT.getD_lt _ _ _ (by rw [FT.quotasL_len]; exact hk)]
    simp [FT.quotasL]
  generalize FT.quotasL n (FT.tgL l) = q at *
  rw [hS]
  clear hS hT hne
  generalize FT.tgL l = t at *
  generalize hm : l.length = m at *
  have HT0 := hid ht0
  have HADD := hid hadd
  have HQO := hid hqo
  have HQG := hid hqg
  have HQ := hid hQ
  clear ht0 hadd hqo hqg hQ
  have hof := of_nat n
  go_enter Try.func14, Try.ntmps14
  go_wp2_with (go_at_call 10; refine (HT0.out w A hV c).mono ?_; rintro e w1 ⟨⟨B, d, rfl, hB⟩, hF1⟩)
  clear hV hW HT0
  go_loopw [6, 7] (fun v6 v7 wr => ∃ k : Nat, k ≤ m ∧ v7 = .int .i64 k ∧ v6 = .float .f64 (FT.sumL (t.take k)) ∧ w1 = wr) (fun _ v7 _ => m - (intOf v7).toNat)
  case atStart => exact ⟨0, Nat.zero_le _, rfl, rfl, rfl⟩
  case round =>
    obtain ⟨k, hk, rfl, rfl, rfl⟩ := hrel
    by_cases hkm : k < m
    · obtain ⟨ad, rfl, hlt, hc⟩ := hB.at_ k (by omega)
      have ha := HADD.out k (by omega)
      have hrun := fun w => run_float_arith (P := Try.prog) w .add 26 .f64 (FT.sumL (t.take k)) (t[k]'(by omega)) (FT.sumL (t.take (k + 1))) ha
      clear ha
      generalize hS : FT.sumL (t.take (k + 1)) = s1 at *
      have HS := hid hS
      clear hS
      generalize FT.sumL (t.take k) = s0 at *
      generalize t[k]'(by omega) = x at *
      go_wp2
      go_roundw
      case rel => exact ⟨k + 1, by omega, by go_num, by rw [HS.out], by trivial⟩
      case measure => simp [intOf]; omega
    · obtain rfl : k = m := by omega
      obtain ⟨m, rfl⟩ : ∃ m, m = k := ⟨_, rfl⟩
      rw [List.take_of_length_le (by omega)]
      generalize FT.sumL t = s at *
      clear hk hkm
      go_wp2_with fail
      go_loopw [8, 9, 10, 11, 12, 13, 14] (fun v8 v9 v10 v11 v12 v13 v14 wr => ∃ k : Nat, k ≤ m ∧ v11 = .int .i64 k ∧ v10 = .int .i64 (FT.leftTo n q k) ∧ (∃ x, v12 = x) ∧ (∃ x, v13 = x) ∧ (∃ x, v14 = x) ∧ Row fw 1 26 wr w1.heap.size v9 ((q.take k).map FT.frac) ∧ Row iw 1 3 wr w1.heap.size v8 (FT.outTo n q k) ∧ Fr NoB w1 wr) (fun _ _ _ v11 _ _ _ _ => m - (intOf v11).toNat)
      case atStart => exact ⟨0, Nat.zero_le _, rfl, rfl, ⟨_, rfl⟩, ⟨_, rfl⟩, ⟨_, rfl⟩, Row.nil _ _ _ _ _, Row.nil _ _ _ _ _, Fr.refl _ _⟩
      case round =>
        obtain ⟨k, hk, rfl, rfl, ⟨v12, rfl⟩, ⟨v13, rfl⟩, ⟨v14, rfl⟩, hr9, hr8, hf⟩ := hrel
        by_cases hkm : k < m
        · obtain ⟨ad, rfl, hlt, hc⟩ := (hB.fr0 hf).at_ k (by omega)
          obtain ⟨q1, q2, _⟩ := HQO.out (t[k]'(by omega)) (List.getElem_mem _)
          have hqk := HQG.out k (by omega)
          have hqd := FT.getD_lt q k 0 (by omega)
          have hkf := HQ.out.fin (q[k]'(by omega)) (List.getElem_mem _)
          have hfl := HQ.out.floor (q[k]'(by omega)) (List.getElem_mem _)
          have hle := FT.leftTo_le n q k
          have hleft : FT.leftTo n q (k + 1) = FT.leftTo n q k - FT.floorN (q.getD k 0) := rfl
          have hos := FT.outTo_succ n q k
          have hfs := map_snoc FT.frac q k (by omega)
          have hl9 : ((q.take k).map FT.frac).length = k := by rw [List.length_map, List.length_take]; omega
          have hl8 := FT.outTo_len n q k
          rw [← hqk] at q2
          rw [hqd] at hleft hos q2
          clear hqk hqd
          generalize t[k]'(by omega) = x at *
          generalize q[k]'(by omega) = y at *
          have hrun1 := fun w => run_float_arith (P := Try.prog) w .mul 26 .f64 (FT.ofN n) x _ q1
          have hrun2 := fun w => run_float_arith (P := Try.prog) w .quo 26 .f64 _ s _ q2
          have hcv := conv_int y hkf (by omega)
          have hof2 := of_nat (FT.floorN y)
          have hrun3 := fun w => run_float_arith (P := Try.prog) w .sub 26 .f64 y (FT.ofN (FT.floorN y)) (FT.frac y) (FT.sub_is hkf (FT.floor_fin hkf))
          generalize FT.frac y = fy at *
          generalize FT.floorN y = z at *
          generalize h5 : FT.leftTo n q (k + 1) = lf at *
          generalize FT.leftTo n q k = left0 at *
          generalize FT.fmul (FT.ofN n) x = z1 at *
          have H5 := hid h5
          have HLEFT := hid hleft
          have HOS := hid hos
          have HFS := hid hfs
          clear h5 hleft hos hfs q1 q2
          generalize (q.take k).map FT.frac = xs at *
          generalize FT.outTo n q k = os at *
          by_cases hz : left0 < z
          · have hmin : min z left0 = left0 := by omega
            have hz' : decide ((z : Int) > (left0 : Int)) = true := by simp only [decide_eq_true_eq]; omega
            have HMIN := hid hmin
            clear hmin
            go_wp2_with first
              | (at_builtin; refine row_app fw_len fw_one w1.heap.size rfl _ _ 22 26 _ 8 rfl Try.underlying22 info_f64 (by kernel_rfl) (by decide) (by decide) u9 xs fy rfl rfl hr9 hf.size (by omega) ?_; intro v3 w3 hr3 hf3 hat3; have hr83 := hr8.fr hf3 (hr8.apart hr9 (by decide)); have hF3 := Fr.own_lt hf hf3 hr9 (Nat.le_refl _))
              | (at_builtin; refine row_app iw_len iw_one w1.heap.size rfl _ _ 28 3 _ 8 rfl Try.underlying28 info_i64 (by kernel_rfl) (by decide) (by decide) u8 os left0 rfl rfl hr83 hF3.size (by omega) ?_; intro v4 w4 hr4 hf4 hat4; have hr94 := hr3.fr hf4 (hr3.apart hr83 (by decide)); have hF4 := Fr.own_lt hF3 hf4 hr83 (Nat.le_refl _))
            go_roundw
            case rel => exact ⟨k + 1, by omega, by go_num, by rw [H5.out, HLEFT.out]; go_num, ⟨_, rfl⟩, ⟨_, rfl⟩, ⟨_, rfl⟩, by rw [← HFS.out]; exact hr94, by rw [HOS.out, HMIN.out]; exact hr4, hF4⟩
            case measure => simp [intOf]; omega
          · have hmin : min z left0 = z := by omega
            have hz' : decide ((z : Int) > (left0 : Int)) = false := by simp only [decide_eq_false_iff_not]; omega
            have HMIN := hid hmin
            clear hmin
            go_wp2_with first
              | (at_builtin; refine row_app fw_len fw_one w1.heap.size rfl _ _ 22 26 _ 8 rfl Try.underlying22 info_f64 (by kernel_rfl) (by decide) (by decide) u9 xs fy rfl rfl hr9 hf.size (by omega) ?_; intro v3 w3 hr3 hf3 hat3; have hr83 := hr8.fr hf3 (hr8.apart hr9 (by decide)); have hF3 := Fr.own_lt hf hf3 hr9 (Nat.le_refl _))
              | (at_builtin; refine row_app iw_len iw_one w1.heap.size rfl _ _ 28 3 _ 8 rfl Try.underlying28 info_i64 (by kernel_rfl) (by decide) (by decide) u8 os z rfl rfl hr83 hF3.size (by omega) ?_; intro v4 w4 hr4 hf4 hat4; have hr94 := hr3.fr hf4 (hr3.apart hr83 (by decide)); have hF4 := Fr.own_lt hF3 hf4 hr83 (Nat.le_refl _))
            go_roundw
            case rel => exact ⟨k + 1, by omega, by go_num, by rw [H5.out, HLEFT.out]; go_num, ⟨_, rfl⟩, ⟨_, rfl⟩, ⟨_, rfl⟩, by rw [← HFS.out]; exact hr94, by rw [HOS.out, HMIN.out]; exact hr4, hF4⟩
            case measure => simp [intOf]; omega
        · obtain rfl : k = m := by omega
          obtain ⟨m, rfl⟩ : ∃ m, m = k := ⟨_, rfl⟩
          have htq : (q.take m).map FT.frac = q.map FT.frac := by rw [List.take_of_length_le (by omega)]
          rw [htq] at hr9
          have hsq : FT.sharesQ n q = (FT.give q (FT.leftTo n q m) (List.replicate m false, FT.outTo n q m)).2 := by
            unfold FT.sharesQ
            rw [hql]
          have hsum := FT.sumL_outTo n q m
          have hle := FT.leftTo_le n q m
          have hOL := FT.outTo_len n q m
          generalize FT.leftTo n q m = L at *
          generalize FT.outTo n q m = out0 at *
          have HSQ := hid hsq
          clear hsq htq hk hkm
          obtain ⟨g9, c9, hv9, hb9, _⟩ := hr9.ptr (by rw [List.length_map]; omega)
          subst hv9
          obtain ⟨g8, c8, hv8, hb8, _⟩ := hr8.ptr (by omega)
          subst hv8
          have hg98 : g9 ≠ g8 := fun e => hr9.apart hr8 (by decide) g9 rfl (by rw [e]; rfl)
          have hO0 := OB.of_row hr8 (by omega)
          have hA0 : ∀ i, i < m → wr.cell? ⟨g9, i, none⟩ = some (.float .f64 (FT.frac (q.getD i 0))) := by
            intro i hi
            have h4 := Row.cell hr9 fw_len i (by rw [List.length_map]; omega) 0 (by omega) (u := .float .f64 (FT.frac (q.getD i 0))) (by rw [List.getElem_map, FT.getD_lt q i 0 (by omega)]; rfl)
            rw [Nat.mul_one, Nat.add_zero] at h4
            exact h4
          have hg9l : g9 < wr.heap.size := (hr9.lt g9 rfl).2
          rw [hOL] at hr8 ⊢
          rw [List.length_map, hql] at hr9 ⊢
          obtain ⟨wo, rfl⟩ : ∃ wo : World, wo = wr := ⟨_, rfl⟩
          have hF4 := hF1.trans hf
          have hw8 : w.heap.size ≤ g8 := by have := hF1.size; omega
          clear hr9 hr8 hb9 hf hF1 hB HADD HQO HQG hof h0 h3 h4
          generalize hg0 : wo.heap.size = g0 at *
          go_wp2_with fail
          go_loopw [10, 15, 16, 17, 18] (fun v10 v15 v16 v17 v18 wr => ∃ (j g : Nat), j ≤ L ∧ v10 = .int .i64 ((L - j : Nat) : Int) ∧ v15 = .slice (some ⟨g, 0, none⟩) m m ∧ v16 = .int .i64 (FT.cntT (FT.give q j (List.replicate m false, out0)).1) ∧ (∃ x, v17 = x) ∧ (∃ x, v18 = x) ∧ OB wr g8 (FT.give q j (List.replicate m false, out0)).2 ∧ Blk wr g 4 ((FT.give q j (List.replicate m false, out0)).1.flatMap bw) ∧ g0 ≤ g ∧ Fr (At g8) wo wr) (fun v10 _ _ _ _ _ => (intOf v10).toNat)
          case atStart =>
            refine ⟨0, g0, Nat.zero_le _, rfl, rfl, by simp only [FT.give]; rw [FT.cntT_rep]; rfl, ⟨_, rfl⟩, ⟨_, rfl⟩, hO0.fr ((Fr.refl NoB _).alloc _) (fun h => h), ?_, Nat.le_refl _, (Fr.refl _ _).alloc _⟩
            rw [← hg0]
            exact Blk.new _ _ _
          case round =>
            obtain ⟨j, g, hj, rfl, rfl, rfl, ⟨v17, rfl⟩, ⟨v18, rfl⟩, hO4, hG4, hgg, hf4⟩ := hrel
            have HG0 := hid hg0
            clear hg0
            obtain ⟨hl1, hl2⟩ := FT.give_len q j (List.replicate m false, out0)
            have hsm := FT.give_sum q (by omega) j (List.replicate m false, out0) (by simp; omega) (by simp only []; omega)
            rw [List.length_replicate] at hl1
            simp only [] at hl2 hsm
            by_cases hjL : j < L
            · have hm' : ∀ x ∈ (FT.give q j (List.replicate m false, out0)).2, x ≤ 1024 := fun x hx => by have := FT.mem_sum hx; omega
              obtain ⟨r, hr⟩ : ∃ r, L - j = r + 1 := ⟨L - j - 1, by omega⟩
              have hLr : L - (j + 1) = r := by omega
              have hr5 : r ≤ 512 := by omega
              rw [hr, show ((r + 1 : Nat) : Int) = (r : Int) + 1 from rfl]
              have HLR := hid hLr
              have HJL := hid hjL
              clear hr hLr hj hjL hsum hle hsm
              have hA4 : ∀ w', Fr (At g8) wo w' → ∀ i, i < m → w'.cell? ⟨g9, i, none⟩ = some (.float .f64 (FT.frac (q.getD i 0))) := fun w' h i hi => (World.cell?_of_block (h.block g9 (by rw [HG0.out]; exact hg9l) (fun h => hg98 h))).trans (hA0 i hi)
              have HA4 := hid hA4
              clear hA4 hA0
              have hba := FT.best_all q (FT.give q j (List.replicate m false, out0)).1 (by omega)
              rw [hql] at hba
              by_cases hcm : FT.cntT (FT.give q j (List.replicate m false, out0)).1 = m
              · have hb := hba.2 hcm
                obtain ⟨a5, hba5⟩ := FT.best_fresh q m hql.symm (by omega)
                have ha5 := FT.best_lt hba5
                rw [hql] at ha5
                have hstep := FT.give_none hb (by rw [hl1]; exact hba5)
                rw [hl1] at hstep
                rw [hcm]
                clear hba hb hcm
                generalize hs2 : FT.give q (j + 1) (List.replicate m false, out0) = s2 at *
                have HS2 := hid hs2
                clear hs2
                generalize FT.give q j (List.replicate m false, out0) = s1 at *
                obtain ⟨got1, out1⟩ := s1
                dsimp only at hl1 hl2 hm' hG4 hO4 hstep
                obtain ⟨got5, hge⟩ : ∃ got5, List.replicate m false = got5 := ⟨_, rfl⟩
                rw [hge] at hstep hba5
                have hyb : out1.getD a5 0 ≤ 1024 := by
                  rw [FT.getD_lt _ _ _ (by omega)]
                  exact hm' _ (List.getElem_mem _)
                generalize hy : out1.getD a5 0 = y at *
                have HSTEP := hid hstep
                have HY := hid hy
                have HBA := hid hba5
                clear hstep hy hm' hba5
                have hceq : ((m : Int) == (m : Int)) = true := by simp
                generalize hg5 : wr.heap.size = g5 at *
                have hg05 : g0 ≤ g5 := by have := hf4.size; rw [HG0.out] at this; omega
                go_wp2_with fail
                have hG5 : Blk (wr.alloc (.cells (got5.flatMap bw).toArray 4)) g5 4 (got5.flatMap bw) := by rw [← hg5]; exact Blk.new _ _ _
                have hF5 : Fr (At g8) wo (wr.alloc (.cells (got5.flatMap bw).toArray 4)) := hf4.alloc _
                have hO5 : OB (wr.alloc (.cells (got5.flatMap bw).toArray 4)) g8 out1 := hO4.fr ((Fr.refl NoB _).alloc _) (fun h => h)
                have hgo5 : g8 ≠ g5 := by have := hO4.lt; omega
                have hgl5 : got5.length = m := by rw [← hge, List.length_replicate]
                have hol5 : out1.length = m := by omega
                have HCT : Hid (FT.cntT got5 = 0) := hid (by rw [← hge]; exact FT.cntT_rep m)
                generalize wr.alloc (.cells (got5.flatMap bw).toArray 4) = w5 at *
                have HA5 : Hid (∀ w', Fr NoB w5 w' → ∀ i, i < m → w'.cell? ⟨g9, i, none⟩ = some (.float .f64 (FT.frac (q.getD i 0)))) := hid (fun w' h => HA4.out w' (hF5.then_ h (fun _ h => h.elim)))
                clear hf4 hO4 hG4 hg5 hge
                go_loopw [17, 18] (fun v17 v18 wr => ∃ i : Nat, i ≤ m ∧ v18 = .int .i64 i ∧ v17 = .int .i64 (FT.atI (FT.bestTo q got5 i)) ∧ Fr NoB w5 wr) (fun _ v18 _ => m - (intOf v18).toNat)
                case atStart => exact ⟨0, Nat.zero_le _, rfl, rfl, Fr.refl _ _⟩
                case round =>
                  obtain ⟨i, hi, rfl, rfl, hf6⟩ := hrel
                  by_cases him : i < m
                  · have hgc := (hG5.fr hf6 (fun h => h)).cell i (bw_get got5 i (by omega))
                    have hac := HA5.out wr hf6 i him
                    have hstep : FT.bestTo q got5 (i + 1) = if FT.better q got5 i (FT.bestTo q got5 i) then some i else FT.bestTo q got5 i := rfl
                    have hlt := FT.bestTo_lt q got5 i
                    have hgd : got5.getD i false = got5[i]'(by omega) := FT.getD_lt _ _ _ (by omega)
                    have i1 : (0 : Int) ≤ (i : Int) := by omega
                    have i2 : (i : Int) < (m : Int) := by omega
                    cases hgk : got5[i]'(by omega)
                    · rw [hgk] at hgc
                      cases ha : FT.bestTo q got5 i with
                      | none =>
                        have hnew : FT.bestTo q got5 (i + 1) = some i := by
                          rw [hstep, ha]
                          unfold FT.better
                          rw [hgd, hgk]
                          rfl
                        have HNEW := hid hnew
                        clear hstep hlt hgd hnew ha hgk
                        have h1 : FT.atI none = -1 := rfl
                        rw [h1]
                        generalize FT.frac (q.getD i 0) = fx at *
                        go_wp2
                        repeat (go_quiet (fail); try go_wp2)
                        go_roundw
                        case rel => exact ⟨i + 1, by omega, by go_num, by rw [HNEW.out]; rfl, hf6.drewN _⟩
                        case measure => simp [intOf]; omega
                      | some a =>
                        obtain ⟨hak, hga⟩ := hlt a ha
                        have haa := HA5.out wr hf6 a (by omega)
                        have hnew : FT.bestTo q got5 (i + 1) = if FT.gtF (FT.frac (q.getD i 0)) (FT.frac (q.getD a 0)) then some i else some a := by
                          rw [hstep, ha]
                          unfold FT.better
                          rw [hgd, hgk]
                          simp only [Bool.not_false, Bool.true_and]
                        clear hstep hlt hgd ha hgk hga
                        have h1 : FT.atI (some a) = (a : Int) := rfl
                        rw [h1]
                        have h2 : decide ((a : Int) < 0) = false := by simp only [decide_eq_false_iff_not]; omega
                        have i3 : (0 : Int) ≤ (a : Int) := by omega
                        have i4 : (a : Int) < (m : Int) := by omega
                        generalize FT.frac (q.getD i 0) = fx at *
                        generalize FT.frac (q.getD a 0) = fy at *
                        cases hcmp : FT.gtF fx fy
                        · rw [hcmp] at hnew
                          have HNEW := hid hnew
                          clear hnew
                          go_wp2
                          repeat (go_quiet (fail); try go_wp2)
                          go_roundw
                          case rel => exact ⟨i + 1, by omega, by go_num, by rw [HNEW.out]; rfl, hf6.drewN _⟩
                          case measure => simp [intOf]; omega
                        · rw [hcmp] at hnew
                          have HNEW := hid hnew
                          clear hnew
                          go_wp2
                          repeat (go_quiet (fail); try go_wp2)
                          go_roundw
                          case rel => exact ⟨i + 1, by omega, by go_num, by rw [HNEW.out]; rfl, hf6.drewN _⟩
                          case measure => simp [intOf]; omega
                    · rw [hgk] at hgc
                      have hnew : FT.bestTo q got5 (i + 1) = FT.bestTo q got5 i := by
                        rw [hstep]
                        unfold FT.better
                        rw [hgd, hgk]
                        rfl
                      have HNEW := hid hnew
                      clear hstep hlt hgd hnew hgk
                      generalize FT.bestTo q got5 i = at0 at *
                      go_wp2
                      repeat (go_quiet (fail); try go_wp2)
                      go_roundw
                      case rel => exact ⟨i + 1, by omega, by go_num, by rw [HNEW.out], hf6.drewN _⟩
                      case measure => simp [intOf]; omega
                  · obtain rfl : i = m := by omega
                    obtain ⟨m, rfl⟩ : ∃ m, m = i := ⟨_, rfl⟩
                    have hbe : FT.bestTo q got5 m = some a5 := by
                      have := HBA.out
                      unfold FT.best at this
                      rwa [hql] at this
                    rw [hbe]
                    have h1 : FT.atI (some a5) = (a5 : Int) := rfl
                    rw [h1]
                    have i3 : (0 : Int) ≤ (a5 : Int) := by omega
                    have i4 : (a5 : Int) < (m : Int) := by omega
                    obtain ⟨f1, f2, f3, f4, f5, f6⟩ := tail_facts2 wr g8 g5 a5 m got5 out1 y (hO5.fr hf6 (fun h => h)) (hG5.fr hf6 (fun h => h)) ha5 hgl5 hol5 hgo5 HY.out
                    obtain ⟨f1v, f1⟩ := Option.isSome_iff_exists.1 f1
                    have HGL := hid hgl5
                    clear hbe h1 hgl5 hol5 hql htl hm hmk2 hOL hs1 hs2 hl1 hl2
                    go_wp2
                    go_roundw
                    case rel => exact ⟨j + 1, g5, HJL.out, by rw [HLR.out], rfl, by rw [HS2.out, HSTEP.out]; simp only []; rw [FT.cntT_set got5 a5 (by rw [HGL.out]; exact ha5) (FT.bestTo_lt q got5 q.length a5 HBA.out).2, HCT.out]; go_num, ⟨_, rfl⟩, ⟨_, rfl⟩, by rw [HS2.out, HSTEP.out]; exact f5, by rw [HS2.out, HSTEP.out]; exact f6, hg05, Fr.setCell (p := ⟨g8, a5, none⟩) (Fr.setCell (p := ⟨g5, a5, none⟩) (hF5.then_ hf6 (fun _ h => h.elim)) (.inr (by rw [HG0.out]; exact hg05)) _) (.inl (show At g8 g8 from rfl)) _⟩
                    case measure => simp [intOf]
              · cases hb : FT.best q (FT.give q j (List.replicate m false, out0)).1 with
                | none => exact (hcm (hba.1 hb)).elim
                | some a5 =>
                  have ha5 := FT.best_lt hb
                  rw [hql] at ha5
                  have hstep := FT.give_some hb
                  generalize hs2 : FT.give q (j + 1) (List.replicate m false, out0) = s2 at *
                  have HS2 := hid hs2
                  clear hs2
                  generalize FT.give q j (List.replicate m false, out0) = s1 at *
                  obtain ⟨got5, out1⟩ := s1
                  dsimp only at hl1 hl2 hm' hG4 hO4 hstep hb hcm hba
                  dsimp only
                  have hyb : out1.getD a5 0 ≤ 1024 := by
                    rw [FT.getD_lt _ _ _ (by omega)]
                    exact hm' _ (List.getElem_mem _)
                  generalize hy : out1.getD a5 0 = y at *
                  have HSTEP := hid hstep
                  have HY := hid hy
                  have HBA := hid hb
                  have hcl := FT.cntT_le got5
                  clear hstep hy hm' hb hba
                  obtain ⟨ct, hct⟩ : ∃ ct, FT.cntT got5 = ct := ⟨_, rfl⟩
                  rw [hct] at hcm hcl ⊢
                  have hceq : ((ct : Int) == (m : Int)) = false := by simp only [beq_eq_false_iff_ne, ne_eq]; omega
                  have HCT := hid hct
                  have hct5 : ct ≤ 64 := by omega
                  clear hct hcm hcl
                  obtain ⟨g5, rfl⟩ : ∃ g5, g5 = g := ⟨_, rfl⟩
                  obtain ⟨w5, rfl⟩ : ∃ w5 : World, w5 = wr := ⟨_, rfl⟩
                  have hg05 : g0 ≤ g5 := hgg
                  have hG5 := hG4
                  have hF5 := hf4
                  have hO5 := hO4
                  have hgo5 : g8 ≠ g5 := by have := hO0.lt; have := HG0.out; omega
                  have hgl5 : got5.length = m := hl1
                  have hol5 : out1.length = m := by omega
                  have HA5 : Hid (∀ w', Fr NoB w5 w' → ∀ i, i < m → w'.cell? ⟨g9, i, none⟩ = some (.float .f64 (FT.frac (q.getD i 0)))) := hid (fun w' h => HA4.out w' (hF5.then_ h (fun _ h => h.elim)))
                  clear hf4 hO4 hG4
                  go_wp2_with fail
                  go_loopw [17, 18] (fun v17 v18 wr => ∃ i : Nat, i ≤ m ∧ v18 = .int .i64 i ∧ v17 = .int .i64 (FT.atI (FT.bestTo q got5 i)) ∧ Fr NoB w5 wr) (fun _ v18 _ => m - (intOf v18).toNat)
                  case atStart => exact ⟨0, Nat.zero_le _, rfl, rfl, Fr.refl _ _⟩
                  case round =>
                    obtain ⟨i, hi, rfl, rfl, hf6⟩ := hrel
                    by_cases him : i < m
                    · have hgc := (hG5.fr hf6 (fun h => h)).cell i (bw_get got5 i (by omega))
                      have hac := HA5.out wr hf6 i him
                      have hstep : FT.bestTo q got5 (i + 1) = if FT.better q got5 i (FT.bestTo q got5 i) then some i else FT.bestTo q got5 i := rfl
                      have hlt := FT.bestTo_lt q got5 i
                      have hgd : got5.getD i false = got5[i]'(by omega) := FT.getD_lt _ _ _ (by omega)
                      have i1 : (0 : Int) ≤ (i : Int) := by omega
                      have i2 : (i : Int) < (m : Int) := by omega
                      cases hgk : got5[i]'(by omega)
                      · rw [hgk] at hgc
                        cases ha : FT.bestTo q got5 i with
                        | none =>
                          have hnew : FT.bestTo q got5 (i + 1) = some i := by
                            rw [hstep, ha]
                            unfold FT.better
                            rw [hgd, hgk]
                            rfl
                          have HNEW := hid hnew
                          clear hstep hlt hgd hnew ha hgk
                          have h1 : FT.atI none = -1 := rfl
                          rw [h1]
                          generalize FT.frac (q.getD i 0) = fx at *
                          go_wp2
                          repeat (go_quiet (fail); try go_wp2)
                          go_roundw
                          case rel => exact ⟨i + 1, by omega, by go_num, by rw [HNEW.out]; rfl, hf6.drewN _⟩
                          case measure => simp [intOf]; omega
                        | some a =>
                          obtain ⟨hak, hga⟩ := hlt a ha
                          have haa := HA5.out wr hf6 a (by omega)
                          have hnew : FT.bestTo q got5 (i + 1) = if FT.gtF (FT.frac (q.getD i 0)) (FT.frac (q.getD a 0)) then some i else some a := by
                            rw [hstep, ha]
                            unfold FT.better
                            rw [hgd, hgk]
                            simp only [Bool.not_false, Bool.true_and]
                          clear hstep hlt hgd ha hgk hga
                          have h1 : FT.atI (some a) = (a : Int) := rfl
                          rw [h1]
                          have h2 : decide ((a : Int) < 0) = false := by simp only [decide_eq_false_iff_not]; omega
                          have i3 : (0 : Int) ≤ (a : Int) := by omega
                          have i4 : (a : Int) < (m : Int) := by omega
                          generalize FT.frac (q.getD i 0) = fx at *
                          generalize FT.frac (q.getD a 0) = fy at *
                          cases hcmp : FT.gtF fx fy
                          · rw [hcmp] at hnew
                            have HNEW := hid hnew
                            clear hnew
                            go_wp2
                            repeat (go_quiet (fail); try go_wp2)
                            go_roundw
                            case rel => exact ⟨i + 1, by omega, by go_num, by rw [HNEW.out]; rfl, hf6.drewN _⟩
                            case measure => simp [intOf]; omega
                          · rw [hcmp] at hnew
                            have HNEW := hid hnew
                            clear hnew
                            go_wp2
                            repeat (go_quiet (fail); try go_wp2)
                            go_roundw
                            case rel => exact ⟨i + 1, by omega, by go_num, by rw [HNEW.out]; rfl, hf6.drewN _⟩
                            case measure => simp [intOf]; omega
                      · rw [hgk] at hgc
                        have hnew : FT.bestTo q got5 (i + 1) = FT.bestTo q got5 i := by
                          rw [hstep]
                          unfold FT.better
                          rw [hgd, hgk]
                          rfl
                        have HNEW := hid hnew
                        clear hstep hlt hgd hnew hgk
                        generalize FT.bestTo q got5 i = at0 at *
                        go_wp2
                        repeat (go_quiet (fail); try go_wp2)
                        go_roundw
                        case rel => exact ⟨i + 1, by omega, by go_num, by rw [HNEW.out], hf6.drewN _⟩
                        case measure => simp [intOf]; omega
                    · obtain rfl : i = m := by omega
                      obtain ⟨m, rfl⟩ : ∃ m, m = i := ⟨_, rfl⟩
                      have hbe : FT.bestTo q got5 m = some a5 := by
                        have := HBA.out
                        unfold FT.best at this
                        rwa [hql] at this
                      rw [hbe]
                      have h1 : FT.atI (some a5) = (a5 : Int) := rfl
                      rw [h1]
                      have i3 : (0 : Int) ≤ (a5 : Int) := by omega
                      have i4 : (a5 : Int) < (m : Int) := by omega
                      obtain ⟨f1, f2, f3, f4, f5, f6⟩ := tail_facts2 wr g8 g5 a5 m got5 out1 y (hO5.fr hf6 (fun h => h)) (hG5.fr hf6 (fun h => h)) ha5 hgl5 hol5 hgo5 HY.out
                      obtain ⟨f1v, f1⟩ := Option.isSome_iff_exists.1 f1
                      have HGL := hid hgl5
                      clear hbe h1 hgl5 hol5 hql htl hm hmk2 hOL hs1 hs2 hl1 hl2
                      go_wp2
                      go_roundw
                      case rel => exact ⟨j + 1, g5, HJL.out, by rw [HLR.out], rfl, by rw [HS2.out, HSTEP.out]; simp only []; rw [FT.cntT_set got5 a5 (by rw [HGL.out]; exact ha5) (FT.bestTo_lt q got5 q.length a5 HBA.out).2, HCT.out]; go_num, ⟨_, rfl⟩, ⟨_, rfl⟩, by rw [HS2.out, HSTEP.out]; exact f5, by rw [HS2.out, HSTEP.out]; exact f6, hg05, Fr.setCell (p := ⟨g8, a5, none⟩) (Fr.setCell (p := ⟨g5, a5, none⟩) (hF5.then_ hf6 (fun _ h => h.elim)) (.inr (by rw [HG0.out]; exact hg05)) _) (.inl (show At g8 g8 from rfl)) _⟩
                      case measure => simp [intOf]
            · obtain rfl : j = L := by omega
              rw [Nat.sub_self]
              go_wp2
              go_ret
              exact ⟨⟨g8, c8, rfl, by rw [HSQ.out]; exact hO4⟩, hF4.then_ hf4 (fun k hk => .inr (by have hk : k = g8 := hk; omega))⟩
end Go.Proofs.Yteaoafipjaffpaa
