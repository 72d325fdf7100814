import Derived.Test.YteaoafipjaffpaaS7
set_option linter.unusedSimpArgs false
set_option linter.unusedVariables false
namespace Go.Proofs.Yteaoafipjaffpaa
open Go.RowKit Go.Proofs.YteaoafipjaffpaaW.PrintWords
attribute [local go_sem] st_float
theorem quotas_n (w : World) (g c n m : Nat) (t : List Nat) (hm : t.length = m) (hB : Blk w g 26 (t.flatMap fw)) (hT : FT.Tok t) (hl : m ≤ 64) (hn : n ≤ 512) :
    Calls Try.prog 29 #[.int .i64 n, .slice (some ⟨g, 0, none⟩) m c] w fun e w' => e = .returned (.slice (some ⟨w.heap.size, 0, none⟩) m m) ∧ Blk w' w.heap.size 26 ((FT.quotasL n t).flatMap fw) ∧ Fr NoB w w' := by
  subst hm
  exact quotas_any w g c n t hB hT hl hn
theorem best_n (w : World) (b g c d m : Nat) (q : List Nat) (got : List Bool) (hm : q.length = m) (hB : Blk w b 26 (q.flatMap fw)) (hG : Blk w g 4 (got.flatMap bw)) (hq : ∀ x ∈ q, x < FT.infR) (hlen : got.length = m) (hl : m ≤ 64) (at_ : Option Nat) (ha : FT.best q got = at_) (k : Int) (hk : FT.atI at_ = k) :
    Calls Try.prog 31 #[.slice (some ⟨b, 0, none⟩) m c, .slice (some ⟨g, 0, none⟩) m d] w fun e w' => e = .returned (.int .i64 k) ∧ Fr NoB w w' := by
  subst hm
  subst ha
  subst hk
  exact best_any w b g c d q got hB hG hq hlen hl
/-- out, filled with whole parts up to k. -/
def outF (n : Nat) (q : List Nat) (k : Nat) : List Nat := FT.outTo n q k ++ List.replicate (q.length - k) 0
theorem outF_len (n : Nat) (q : List Nat) (k : Nat) (h : k ≤ q.length) : (outF n q k).length = q.length := by simp [outF, FT.outTo_len]; omega
theorem outF_set (n : Nat) (q : List Nat) (k : Nat) (h : k < q.length) : (outF n q k).set k (min (FT.floorN (q.getD k 0)) (FT.leftTo n q k)) = outF n q (k + 1) := by
  unfold outF
  rw [List.set_append_right _ _ (by rw [FT.outTo_len]; omega), FT.outTo_len, Nat.sub_self, FT.outTo_succ, List.append_assoc, show q.length - k = q.length - (k + 1) + 1 by omega, List.replicate_succ]
  rfl
theorem outF_zero (n : Nat) (q : List Nat) : outF n q 0 = List.replicate q.length 0 := by simp [outF, FT.outTo]
theorem outF_all (n : Nat) (q : List Nat) : outF n q q.length = FT.outTo n q q.length := by simp [outF]
theorem tail_facts (w : World) (o g a m : Nat) (got : List Bool) (out : List Nat) (y : Nat) (hO : Blk w o 3 (out.flatMap iw)) (hG : Blk w g 4 (got.flatMap bw)) (ha : a < m) (h1 : got.length = m) (h2 : out.length = m) (hgo : o ≠ g) (hy : out.getD a 0 = y) :
    (w.cell? ⟨g, a, none⟩).isSome = true ∧ w.frozen? ⟨g, a, none⟩ = false ∧ (w.setCell ⟨g, a, none⟩ (.bool true)).cell? ⟨o, a, none⟩ = some (.int .i64 y) ∧ (w.setCell ⟨g, a, none⟩ (.bool true)).frozen? ⟨o, a, none⟩ = false ∧
    Blk ((w.setCell ⟨g, a, none⟩ (.bool true)).setCell ⟨o, a, none⟩ (.int .i64 ((y : Int) + 1))) o 3 ((out.set a (y + 1)).flatMap iw) ∧ Blk ((w.setCell ⟨g, a, none⟩ (.bool true)).setCell ⟨o, a, none⟩ (.int .i64 ((y : Int) + 1))) g 4 ((got.set a true).flatMap bw) := by
  have hyd : out.getD a 0 = out[a]'(by omega) := by rw [List.getD_eq_getElem?_getD, List.getElem?_eq_getElem (by omega)]; rfl
  have hO6 := (hO.other (p := ⟨g, a, none⟩) hgo (.bool true))
  have hG6 := (hG.set a (.bool true)).eq (bw_set _ a (by omega) true)
  have hc := hO6.cell a (iw_get _ a (by omega))
  rw [← hyd, hy] at hc
  refine ⟨by rw [hG.cell a (bw_get _ a (by omega))]; rfl, hG.frozen a, hc, hO6.frozen a, ?_, ?_⟩
  · exact (hO6.set a (.int .i64 ((y + 1 : Nat) : Int))).eq (iw_set _ a (by omega) _)
  · exact hG6.other (p := ⟨o, a, none⟩) (fun h => hgo h.symm) _
set_option maxHeartbeats 8000000 in
theorem Shares_any (w : World) (A : Option Addr) (c : Nat) (l : List Nat) (n : Nat) (hV : FV w A l) (hW : FT.Ws l) (h1 : 1 ≤ l.length) (h2 : l.length ≤ 64) (hn : n ≤ 512) :
    Calls Try.prog 13 #[.int .i64 n, .slice A l.length c] w fun e w' => (∃ b, e = .returned (.slice (some ⟨b, 0, none⟩) l.length l.length) ∧ w.heap.size ≤ b ∧ Blk w' b 3 ((FT.sharesL n l).flatMap iw)) ∧ Fr NoB w w' := by
  have hnil := fun (w : World) (a : Option Addr) (n c : Nat) => Lib.run_eql_slice_nil (P := Try.prog) w 22 26 a n c 0 0 Try.underlying22
  have hmk1 := make_i64 l.length (by omega)
  have hmk2 := make_bool l.length (by omega)
  have hne : l ≠ [] := by intro h; subst h; simp at h1
  have hT := FT.tgL_ok hW hne
  have htl := FT.tgL_len l
  have hS : FT.sharesL n l = FT.sharesQ n (FT.quotasL n (FT.tgL l)) := rfl
  obtain ⟨hQ, _, _⟩ := FT.quotas_ok hn hT (by omega)
  have hql := FT.quotasL_len n (FT.tgL l)
  rw [htl] at hql
  have h3 : decide ((n : Int) < 0) = false := by simp only [decide_eq_false_iff_not]; omega
  have h4 : decide ((n : Int) > 512) = false := by simp only [decide_eq_false_iff_not]; omega
  have ht0 := fun w (A : Option Addr) (hV : FV w A l) (c : Nat) => Together_any w A c l hV hW h1 h2
  have hq0 := fun w (g c : Nat) hB => quotas_n w g c n l.length (FT.tgL l) htl hB hT h2 hn
  generalize FT.quotasL n (FT.tgL l) = q at *
  rw [hS]
  clear hS hT htl hne
  generalize FT.tgL l = t at *
  generalize hm : l.length = m at *
  have HT0 := hid ht0
  have HQ0 := hid hq0
  clear ht0 hq0
  go_enter Try.func13, Try.ntmps13
  go_wp2_with first | (go_at_call 9; refine (HT0.out w A hV c).mono ?_; rintro e w1 ⟨⟨b1, rfl, hb1, hB1⟩, hf1⟩) | (go_at_call 29; refine (HQ0.out w1 b1 m hB1).mono ?_; rintro e w2 ⟨rfl, hB2, hf2⟩; generalize w1.heap.size = b2 at *)
  have hF2 := hf1.trans hf2
  obtain ⟨o, ho⟩ : ∃ o, o = w2.heap.size := ⟨_, rfl⟩
  have HO := hid ho
  have HM := hid hm
  have hb2o := hB2.lt
  rw [← ho] at hb2o ⊢
  clear hB1 hb1 hf1 hf2 hV hW hm HT0 HQ0 ho
  go_loopw [8, 9, 10, 34] (fun v8 v9 v10 v34 wr => ∃ k : Nat, k ≤ m ∧ v34 = .int .i64 k ∧ v8 = .int .i64 (FT.leftTo n q k) ∧ (∃ x, v9 = x) ∧ (∃ x, v10 = x) ∧ Blk wr o 3 ((outF n q k).flatMap iw) ∧ Fr NoB w2 wr) (fun _ _ _ v34 _ => m - (intOf v34).toNat)
  case atStart =>
    refine ⟨0, Nat.zero_le _, rfl, rfl, ⟨_, rfl⟩, ⟨_, rfl⟩, ?_, (Fr.refl _ _).alloc _⟩
    rw [outF_zero, hql, HO.out]
    exact Blk.new _ _ _
  case round =>
    obtain ⟨k, hk, rfl, rfl, ⟨v9, rfl⟩, ⟨v10, rfl⟩, hO, hf⟩ := hrel
    by_cases hkm : k < m
    · have hqc := (hB2.fr hf (fun h => h)).cell k (fw_get q k (by omega))
      have hkf := hQ.fin q[k] (List.getElem_mem (by omega))
      have hfl := hQ.floor q[k] (List.getElem_mem (by omega))
      have hqd : q.getD k 0 = q[k] := by rw [List.getD_eq_getElem?_getD, List.getElem?_eq_getElem (by omega)]; rfl
      have hset := outF_set n q k (by omega)
      have hlen := outF_len n q k (by omega)
      have hle := FT.leftTo_le n q k
      have hleft : FT.leftTo n q (k + 1) = FT.leftTo n q k - FT.floorN (q.getD k 0) := rfl
      rw [hqd] at hset hleft
      clear hqd
      have hcv := conv_floor (FT.floorN q[k]) (by omega)
      generalize q[k] = x at *
      generalize h2 : outF n q (k + 1) = l2 at *
      generalize outF n q k = l1 at *
      generalize h3 : FT.leftTo n q (k + 1) = lf at *
      generalize FT.leftTo n q k = left0 at *
      have hfr := fun w => Floor_any x hkf w
      generalize FT.floorN x = z at *
      have H2 := hid h2
      have H3 := hid h3
      have HLEFT := hid hleft
      have hcell := hO.cell k (iw_get l1 k (by omega))
      have hfz := hO.frozen k
      clear h2 h3 hleft hQ
      by_cases hz : left0 < z
      · have hmin : min z left0 = left0 := by omega
        have hz' : ((left0 : Int) < (z : Int)) := by omega
        rw [hmin] at hset
        have hwset := (hO.set k (.int .i64 (left0 : Nat))).eq (iw_set l1 k (by omega) _)
        have HSET := hid hset
        clear hset hmin
        go_wp2_with (go_at_call 30; refine (hfr wr).mono ?_; rintro e w1 ⟨rfl, rfl⟩)
        go_roundw
        case rel => exact ⟨k + 1, by omega, by go_num, by rw [H3.out, HLEFT.out]; go_num, ⟨_, rfl⟩, ⟨_, rfl⟩, by rw [H2.out, ← HSET.out]; exact hwset, hf.setCell (.inr (by simp [HO.out])) _⟩
        case measure => simp [intOf]; omega
      · have hmin : min z left0 = z := by omega
        have hz' : ¬ ((left0 : Int) < (z : Int)) := by omega
        rw [hmin] at hset
        have hwset := (hO.set k (.int .i64 (z : Nat))).eq (iw_set l1 k (by omega) _)
        have HSET := hid hset
        clear hset hmin
        go_wp2_with (go_at_call 30; refine (hfr wr).mono ?_; rintro e w1 ⟨rfl, rfl⟩)
        go_roundw
        case rel => exact ⟨k + 1, by omega, by go_num, by rw [H3.out, HLEFT.out]; go_num, ⟨_, rfl⟩, ⟨_, rfl⟩, by rw [H2.out, ← HSET.out]; exact hwset, hf.setCell (.inr (by simp [HO.out])) _⟩
        case measure => simp [intOf]; omega
    · obtain rfl : k = m := by omega
      obtain ⟨w3, rfl⟩ : ∃ w3 : World, w3 = wr := ⟨_, rfl⟩
      have hall : outF n q k = FT.outTo n q k := by
        have := outF_all n q
        rw [hql] at this
        exact this
      rw [hall] at hO
      have hsq : FT.sharesQ n q = (FT.give q (FT.leftTo n q k) (List.replicate k false, FT.outTo n q k)).2 := by
        unfold FT.sharesQ
        rw [hql]
      have hsum := FT.sumL_outTo n q k
      have hle := FT.leftTo_le n q k
      have hOL := FT.outTo_len n q k
      clear hall hk hkm
      generalize FT.leftTo n q k = L at *
      generalize FT.outTo n q k = out0 at *
      have HSQ := hid hsq
      clear hsq
      obtain ⟨g, hg⟩ : ∃ g, w3.heap.size = g := ⟨_, rfl⟩
      have hgo : o ≠ g := by have := hO.lt; omega
      have HG0 := hid hg
      have hb2g : b2 ≠ g := by have := (hB2.fr hf (fun h => h)).lt; omega
      obtain ⟨m, rfl⟩ : ∃ m, m = k := ⟨_, rfl⟩
      have hB3 := hB2.fr hf (fun h => h)
      have hF3 := hF2.trans hf
      have ho2 : w.heap.size ≤ o := by have := hF2.size; have := HO.out; omega
      have hgw : w.heap.size ≤ g := by have := hF3.size; omega
      clear hB2 hF2 hf HO
      go_wp2
      go_loopw [8, 12] (fun v8 v12 wr => ∃ j : Nat, j ≤ L ∧ v8 = .int .i64 ((L - j : Nat) : Int) ∧ (∃ x, v12 = x) ∧ Blk wr o 3 ((FT.give q j (List.replicate m false, out0)).2.flatMap iw) ∧ Blk wr g 4 ((FT.give q j (List.replicate m false, out0)).1.flatMap bw) ∧ Fr (At o) w3 wr) (fun v8 _ _ => (intOf v8).toNat)
      case atStart =>
        refine ⟨0, Nat.zero_le _, rfl, ⟨_, rfl⟩, hO.fr ((Fr.refl NoB _).alloc _) (fun h => h), ?_, (Fr.refl _ _).alloc _⟩
        rw [← HG0.out]
        exact Blk.new _ _ _
      case round =>
        obtain ⟨j, hj, rfl, ⟨v12, rfl⟩, hO4, hG4, hf4⟩ := hrel
        clear hg
        obtain ⟨hl1, hl2⟩ := FT.give_len q j (List.replicate m false, out0)
        have hsm := FT.give_sum q (by omega) j (List.replicate m false, out0) (by simp; omega) (by simp only []; omega)
        rw [List.length_replicate] at hl1
        simp only [] at hl2 hsm
        by_cases hjL : j < L
        · have hb4 := hB3.fr hf4 (fun h => by have h : b2 = o := h; omega)
          have hqf := hQ.fin
          have hm' : ∀ x ∈ (FT.give q j (List.replicate m false, out0)).2, x ≤ 1024 := fun x hx => by have := FT.mem_sum hx; omega
          obtain ⟨r, hr⟩ : ∃ r, L - j = r + 1 := ⟨L - j - 1, by omega⟩
          have hLr : L - (j + 1) = r := by omega
          have hr5 : r ≤ 512 := by omega
          rw [hr]
          have HLR := hid hLr
          have HJL := hid hjL
          clear hr hLr hj hjL hsum hle
          cases hb : FT.best q (FT.give q j (List.replicate m false, out0)).1 with
          | some a =>
            have ha := FT.best_lt hb
            rw [hql] at ha
            have hstep := FT.give_some hb
            generalize hs2 : FT.give q (j + 1) (List.replicate m false, out0) = s2 at *
            have HS2 := hid hs2
            clear hs2
            generalize FT.give q j (List.replicate m false, out0) = s1 at *
            obtain ⟨got1, out1⟩ := s1
            simp only [] at *
            have hyb : out1.getD a 0 ≤ 1024 := by
              have hyd : out1.getD a 0 = out1[a]'(by omega) := by rw [List.getD_eq_getElem?_getD, List.getElem?_eq_getElem (by omega)]; rfl
              rw [hyd]
              exact hm' _ (List.getElem_mem _)
            generalize hy : out1.getD a 0 = y at *
            have HSTEP := hid hstep
            have HY := hid hy
            clear hstep hy hm' hsm
            have ha1 : (0 : Int) ≤ (a : Int) := by omega
            have ha2 : (a : Int) < (m : Int) := by omega
            have ha3 : decide ((a : Int) < 0) = false := by simp only [decide_eq_false_iff_not]; omega
            go_wp2_with (go_at_call 31; refine (best_n wr b2 g m m m q got1 hql hb4 hG4 hqf hl1 h2 (some a) hb (a : Int) rfl).mono ?_; rintro e w5 ⟨rfl, hf5⟩; obtain ⟨f1, f2, f3, f4, f5, f6⟩ := tail_facts w5 o g a m got1 out1 y (hO4.fr hf5 (fun h => h)) (hG4.fr hf5 (fun h => h)) ha hl1 (by omega) hgo HY.out; obtain ⟨f1v, f1⟩ := Option.isSome_iff_exists.1 f1)
            go_roundw
            case rel => exact ⟨j + 1, HJL.out, by rw [HLR.out], ⟨_, rfl⟩, by rw [HS2.out, HSTEP.out]; exact f5, by rw [HS2.out, HSTEP.out]; exact f6, Fr.setCell (p := ⟨o, a, none⟩) (Fr.setCell (p := ⟨g, a, none⟩) (hf4.then_ hf5 (fun _ h => h.elim)) (.inr (by simp [HG0.out])) _) (.inl (show At o o from rfl)) _⟩
            case measure => simp [intOf]
          | none =>
            obtain ⟨a, hba⟩ := FT.best_fresh q m hql.symm (by omega)
            have ha := FT.best_lt hba
            rw [hql] at ha
            have hstep := FT.give_none hb (by rw [hl1]; exact hba)
            rw [hl1] at hstep
            generalize hs2 : FT.give q (j + 1) (List.replicate m false, out0) = s2 at *
            have HS2 := hid hs2
            clear hs2
            generalize FT.give q j (List.replicate m false, out0) = s1 at *
            obtain ⟨got1, out1⟩ := s1
            simp only [] at *
            have hyb : out1.getD a 0 ≤ 1024 := by
              have hyd : out1.getD a 0 = out1[a]'(by omega) := by rw [List.getD_eq_getElem?_getD, List.getElem?_eq_getElem (by omega)]; rfl
              rw [hyd]
              exact hm' _ (List.getElem_mem _)
            generalize hy : out1.getD a 0 = y at *
            have HSTEP := hid hstep
            have HY := hid hy
            clear hstep hy hm' hsm
            have ha1 : (0 : Int) ≤ (a : Int) := by omega
            have ha2 : (a : Int) < (m : Int) := by omega
            have ha3 : decide ((a : Int) < 0) = false := by simp only [decide_eq_false_iff_not]; omega
            have hgs : w3.heap.size ≤ g := by rw [← HG0.out]; exact Nat.le_refl _
            go_wp2_with first | (go_at_call 31; refine (best_n wr b2 g m m m q got1 hql hb4 hG4 hqf hl1 h2 none hb (-1) rfl).mono ?_; rintro e w4 ⟨rfl, hf5⟩; have hG5 := hG4.fr hf5 (fun h => h); have hcl := clear_got w4 g m m got1 hG5 hl1 (by omega); have hG6 := cleared w4 g m got1 hG5 hl1; have hF6 := Fr.setCells (S := At o) (b := g) (.inr hgs) (List.replicate m (.bool false)) 0 w4 (hf4.then_ hf5 (fun _ h => h.elim)); have hX := Fr.setCells (S := At g) (b := g) (w := w4) (.inl rfl) (List.replicate m (.bool false)) 0 w4 (Fr.refl _ _); have hO6 := (hO4.fr hf5 (fun h => h)).fr hX (fun h => hgo h); have hb6 := (hb4.fr hf5 (fun h => h)).fr hX (fun h => hb2g h); generalize w4.setCells g 0 (List.replicate m (.bool false)) = w6 at *; clear hX hf5 hG5) | (go_at_call 31; refine (best_n w6 b2 g m m m q (List.replicate m false) hql hb6 hG6 hqf (by simp) h2 (some a) hba (a : Int) rfl).mono ?_; rintro e w5 ⟨rfl, hf5⟩; obtain ⟨f1, f2, f3, f4, f5, f6⟩ := tail_facts w5 o g a m (List.replicate m false) out1 y (hO6.fr hf5 (fun h => h)) (hG6.fr hf5 (fun h => h)) ha (by simp) (by omega) hgo HY.out; obtain ⟨f1v, f1⟩ := Option.isSome_iff_exists.1 f1)
            go_roundw
            case rel => exact ⟨j + 1, HJL.out, by rw [HLR.out], ⟨_, rfl⟩, by rw [HS2.out, HSTEP.out]; exact f5, by rw [HS2.out, HSTEP.out]; exact f6, Fr.setCell (p := ⟨o, a, none⟩) (Fr.setCell (p := ⟨g, a, none⟩) (hF6.then_ hf5 (fun _ h => h.elim)) (.inr (by simp [HG0.out])) _) (.inl (show At o o from rfl)) _⟩
            case measure => simp [intOf]
        · obtain rfl : j = L := by omega
          rw [Nat.sub_self]
          go_wp2
          go_ret
          exact ⟨⟨_, rfl, ho2, by rw [HSQ.out]; exact hO4⟩, hF3.then_ hf4 (fun k hk => .inr (by have hk : k = o := hk; omega))⟩
end Go.Proofs.Yteaoafipjaffpaa
