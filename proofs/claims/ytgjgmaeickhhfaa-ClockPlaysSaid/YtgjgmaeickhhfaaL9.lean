import Derived.Test.YtgjgmaeickhhfaaL8
set_option linter.unusedSimpArgs false
set_option linter.unusedVariables false
namespace Go.Proofs.Ytgjgmaeickhhfaa
open Go.RowKit Go.Proofs.YtgjgmaeickhhfaaW.PrintWords
theorem CkTo.same {b : Nat} {v r : Value} {now : Int} {xs : List Tm} {w w1 : World} (h : Ck w b now v xs) (hf : Fr NoB w w1) : CkTo b v r now xs w (.returned r) w1 :=
  ⟨rfl, v, h.fr hf (fun h => h) (fun _ _ h => h), hf.mono (fun _ h => h.elim), fun k hk => .inl hk⟩
set_option maxHeartbeats 4000000 in
theorem Set_no (w : World) (b : Nat) (now : Int) (v : Value) (xs : List Tm) (e i ticks : Int) (h : Ck w b now v xs) (hl : xs.length ≤ 1024) (hno : setE xs e i ticks ≠ 0) :
    Calls Try.prog 8 #[.pointer (some ⟨b, 0, none⟩), .int .i64 e, .int .i64 i, .int .i64 ticks] w (CkTo b v (.int .i64 (setE xs e i ticks)) now xs w) := by
  have hmf : ∀ (fn : Fn) (first cap : Array Value) (w : World), (Instr.makeFunc fn first cap).run Try.prog w = .ok (.func fn first cap) w := fun _ _ _ _ => rfl
  have HC := hid h
  have hF := ((Fr.refl NoB w).alloc (.cells #[.int .i64 e] 3)).alloc (.cells #[.int .i64 i] 3)
  have HF := hid hF
  by_cases he : e < 0
  · have HR : Hid (setE xs e i ticks = 1) := (show _ = _ by unfold setE; rw [if_pos (.inl he)])
    have he' : decide (e < 0) = true := by simp [he]
    clear h hno hF hl he
    go_enter Try.func8, Try.ntmps8
    go_wp2
    go_ret
    rw [HR.out]
    exact CkTo.same HC.out HF.out
  have he' : decide (e < 0) = false := by simpa using he
  by_cases hi : i < 0
  · have HR : Hid (setE xs e i ticks = 1) := (show _ = _ by unfold setE; rw [if_pos (.inr hi)])
    have hi' : decide (i < 0) = true := by simp [hi]
    clear h hno hF hl he hi
    go_enter Try.func8, Try.ntmps8
    go_wp2
    go_ret
    rw [HR.out]
    exact CkTo.same HC.out HF.out
  have hi' : decide (i < 0) = false := by simpa using hi
  by_cases ht : ticks < 1
  · have HR : Hid (setE xs e i ticks = 2) := (show _ = _ by unfold setE; rw [if_neg (by omega), if_pos (.inl ht)])
    have ht' : decide (ticks < 1) = true := by simp [ht]
    clear h hno hF hl he hi ht
    go_enter Try.func8, Try.ntmps8
    go_wp2
    go_ret
    rw [HR.out]
    exact CkTo.same HC.out HF.out
  have ht' : decide (ticks < 1) = false := by simpa using ht
  by_cases hu : ticks > 1073741824
  · have HR : Hid (setE xs e i ticks = 2) := (show _ = _ by unfold setE; rw [if_neg (by omega), if_pos (.inr hu)])
    have hu' : decide (ticks > 1073741824) = true := by simpa using hu
    clear h hno hF hl he hi ht hu
    go_enter Try.func8, Try.ntmps8
    go_wp2
    go_ret
    rw [HR.out]
    exact CkTo.same HC.out HF.out
  have hu' : decide (ticks > 1073741824) = false := by simpa using hu
  have h3 : setE xs e i ticks = if xs.length = 1024 ∧ xs.any (isIt e i) = false then 3 else 0 := by
    unfold setE
    rw [if_neg (by omega), if_neg (by omega)]
  by_cases hf : xs.length = 1024 ∧ xs.any (isIt e i) = false
  · have HR : Hid (setE xs e i ticks = 3) := (show _ = _ by rw [h3, if_pos hf])
    obtain ⟨h1024, hany⟩ := hf
    have c1 := (h.fr hF (fun h => h) (fun _ _ h => h)).blk.cell 1 rfl
    obtain ⟨A, c, rfl⟩ := h.sv.shape
    have hlt := h.blk.lt
    have hB1 := (Blk.new w 3 [.int .i64 e]).alloc (.cells #[.int .i64 i] 3)
    have hB2 := Blk.new (w.alloc (.cells #[.int .i64 e] 3)) 3 [.int .i64 i]
    have hP := pred_set _ NoB w.heap.size (w.heap.size + 1) e i (hB1.cell 0 rfl) (by have := hB2.cell 0 rfl; rwa [World.size_alloc] at this) hB1.lt (by have := hB2.lt; rwa [World.size_alloc] at this) (fun h => h) (fun h => h)
    have hS := (h.fr hF (fun h => h) (fun _ _ h => h)).sv
    have hcf := cf_any _ _ _ _ _ _ _ hS hP (by omega)
    rw [hany] at hcf
    have HCF := hid hcf
    have hn : ((xs.length : Int) == 1024) = true := by rw [beq_iff_eq]; omega
    clear h hno hF hl he hi ht hu h3 hany hB1 hB2 hP hS hcf h1024
    go_enter Try.func8, Try.ntmps8
    go_wp2_with (go_at_call 20; refine HCF.out.mono ?_; rintro e' w1 ⟨rfl, hf1⟩)
    go_ret
    rw [HR.out]
    exact CkTo.same HC.out (HF.out.trans hf1)
  · rw [h3, if_neg hf] at hno
    exact absurd rfl hno
set_option maxHeartbeats 8000000 in
theorem Set_ok (w : World) (b : Nat) (now : Int) (v : Value) (xs : List Tm) (e i ticks : Int) (h : Ck w b now v xs) (hl : xs.length ≤ 1024) (hs : Sorted xs) (h0 : 0 ≤ now) (h9 : now ≤ 1073741824) (hok : setE xs e i ticks = 0) :
    Calls Try.prog 8 #[.pointer (some ⟨b, 0, none⟩), .int .i64 e, .int .i64 i, .int .i64 ticks] w (CkTo b v (.int .i64 0) now (putT ⟨e, i, now + ticks⟩ (outT e i xs)) w) := by
  have hmf : ∀ (fn : Fn) (first cap : Array Value) (w : World), (Instr.makeFunc fn first cap).run Try.prog w = .ok (.func fn first cap) w := fun _ _ _ _ => rfl
  have HC := hid h
  have hF := ((Fr.refl NoB w).alloc (.cells #[.int .i64 e] 3)).alloc (.cells #[.int .i64 i] 3)
  have HF := hid hF
  have he : ¬ e < 0 := fun he => by unfold setE at hok; rw [if_pos (.inl he)] at hok; omega
  have hi : ¬ i < 0 := fun hi => by unfold setE at hok; rw [if_pos (.inr hi)] at hok; omega
  have ht : ¬ ticks < 1 := fun ht => by unfold setE at hok; rw [if_neg (by omega), if_pos (.inl ht)] at hok; omega
  have hu : ¬ ticks > 1073741824 := fun hu => by unfold setE at hok; rw [if_neg (by omega), if_pos (.inr hu)] at hok; omega
  have hfull : ¬ (xs.length = 1024 ∧ xs.any (isIt e i) = false) := fun hf => by unfold setE at hok; rw [if_neg (by omega), if_neg (by omega), if_pos hf] at hok; omega
  have he' : decide (e < 0) = false := by simpa using he
  have hi' : decide (i < 0) = false := by simpa using hi
  have ht' : decide (ticks < 1) = false := by simpa using ht
  have hu' : decide (ticks > 1073741824) = false := by simpa using hu
  have c1 := (h.fr hF (fun h => h) (fun _ _ h => h)).blk.cell 1 rfl
  obtain ⟨A, c, rfl⟩ := h.sv.shape
  have hlt := h.blk.lt
  have HB1 := hid ((Blk.new w 3 [.int .i64 e]).alloc (.cells #[.int .i64 i] 3))
  have HB2 : Hid (Blk ((w.alloc (.cells #[.int .i64 e] 3)).alloc (.cells #[.int .i64 i] 3)) (w.heap.size + 1) 3 [.int .i64 i]) := by
    have := Blk.new (w.alloc (.cells #[.int .i64 e] 3)) 3 [.int .i64 i]
    rwa [World.size_alloc] at this
  have HY : Hid ((xs.filter fun x => !(isIt e i x)) = outT e i xs) := rfl
  have hyl : (outT e i xs).length ≤ 1024 := Nat.le_trans (List.length_filter_le _ _) hl
  have HYS := hid (filter_sorted (fun x => !(isIt e i x)) hs)
  rw [HY.out] at HYS
  have HYN : Hid (∀ x ∈ outT e i xs, x.env ≠ e ∨ x.id ≠ i) := fun x hx => outT_ne hx
  by_cases hn : xs.length = 1024
  · have hany : xs.any (isIt e i) = true := by
      cases hh : xs.any (isIt e i)
      · exact absurd ⟨hn, hh⟩ hfull
      · rfl
    have hP := pred_set _ NoB w.heap.size (w.heap.size + 1) e i (HB1.out.cell 0 rfl) (HB2.out.cell 0 rfl) HB1.out.lt HB2.out.lt (fun h => h) (fun h => h)
    have hS := (h.fr hF (fun h => h) (fun _ _ h => h)).sv
    have hcf := cf_any _ _ _ _ _ _ _ hS hP (by omega)
    rw [hany] at hcf
    have HCF := hid hcf
    have hn' : ((xs.length : Int) == 1024) = true := by rw [beq_iff_eq]; omega
    have HN := hid hn
    clear h hF hok hfull hany hP hS hcf he hi ht hu hs hn
    generalize outT e i xs = ys at *
    go_enter Try.func8, Try.ntmps8
    go_wp2_with fail
    refine HCF.out.mono ?_
    rintro e' w1 ⟨rfl, hf1⟩
    clear HCF
    go_wp2_with fail
    have hC1 := HC.out.fr (HF.out.trans hf1) (fun h => h) (fun _ _ h => h)
    have hP1 := pred_set w1 (OwnB (.slice A xs.length c)) w.heap.size (w.heap.size + 1) e i ((World.cell?_of_block (hf1.block w.heap.size HB1.out.lt (fun h => h))).trans (HB1.out.cell 0 rfl)) ((World.cell?_of_block (hf1.block (w.heap.size + 1) HB2.out.lt (fun h => h))).trans (HB2.out.cell 0 rfl)) (Nat.lt_of_lt_of_le HB1.out.lt hf1.size) (Nat.lt_of_lt_of_le HB2.out.lt hf1.size) (fun hk => by have := HC.out.sv.lt _ hk; omega) (fun hk => by have := HC.out.sv.lt _ hk; omega)
    refine (drop_any w1 b now _ xs 19 _ (isIt e i) hC1 hP1 (by omega)).mono ?_
    rintro e' w2 ⟨rfl, v2, hC2, hf2, ho2⟩
    rw [HY.out] at hC2
    obtain ⟨A2, c2, rfl⟩ := hC2.sv.shape
    have hq1 : Blk w2 w.heap.size 3 [.int .i64 e] := (HB1.out.fr hf1 (fun h => h)).fr hf2 (fun hk => by rcases hk with hk | hk; (have := HC.out.blk.lt; omega); have := HC.out.sv.lt _ hk; omega)
    have hq2 : Blk w2 (w.heap.size + 1) 3 [.int .i64 i] := (HB2.out.fr hf1 (fun h => h)).fr hf2 (fun hk => by rcases hk with hk | hk; (have := HC.out.blk.lt; omega); have := HC.out.sv.lt _ hk; omega)
    have d1 := hq1.cell 0 rfl
    have d2 := hq2.cell 0 rfl
    have d3 := hC2.blk.cell 0 rfl
    have d4 := hC2.blk.cell 1 rfl
    have l1 := hq1.lt
    have l2 := hq2.lt
    have l3 := hC2.blk.lt
    have HC2 := hid hC2
    have HF2 := hid hf2
    have HO2 := hid ho2
    have HF1 := hid hf1
    clear hC1 hP1 hC2 hf2 ho2 hf1 hq1 hq2
    go_wp2
    have HSv : Hid (∀ w', Fr NoB w2 w' → w'.cell? ⟨w.heap.size, 0, none⟩ = some (.int .i64 e) ∧ w'.cell? ⟨w.heap.size + 1, 0, none⟩ = some (.int .i64 i) ∧ w'.cell? ⟨b, 0, none⟩ = some (.int .i64 now)) := fun w' hf => ⟨(World.cell?_of_block (hf.block _ l1 (fun h => h))).trans d1, (World.cell?_of_block (hf.block _ l2 (fun h => h))).trans d2, (World.cell?_of_block (hf.block _ l3 (fun h => h))).trans d3⟩
    have hsum : IntKind.i64.wrap (now + ticks) = now + ticks := IntWalk.i64_in _ (by have := of_decide_eq_false hu'; have := of_decide_eq_false ht'; omega)
    go_region_held3 (fun w' => w'.cell? ⟨w.heap.size, 0, none⟩ = some (.int .i64 e) ∧ w'.cell? ⟨w.heap.size + 1, 0, none⟩ = some (.int .i64 i) ∧ w'.cell? ⟨b, 0, none⟩ = some (.int .i64 now)) (first | exact HSv.out _ (Fr.drew (Fr.refl _ _)) | exact HSv.out _ (Fr.alloc (Fr.drew (Fr.refl _ _)) _) | exact HSv.out _ (Fr.drew (Fr.alloc (Fr.refl _ _) _)) | fail) (fail)
    go_wp2
    have hB3 := (Blk.new w2 33 (Tm.mk e i (now + ticks)).cells).drew
    have hF3 : Fr NoB w2 (w2.alloc (.cells #[.int .i64 e, .int .i64 i, .int .i64 (now + ticks)] 33)).drew := ((Fr.refl _ w2).alloc _).drew
    change Blk (w2.alloc (.cells #[.int .i64 e, .int .i64 i, .int .i64 (now + ticks)] 33)).drew w2.heap.size 33 (Tm.mk e i (now + ticks)).cells at hB3
    generalize hw3 : (w2.alloc (.cells #[.int .i64 e, .int .i64 i, .int .i64 (now + ticks)] 33)).drew = w3 at hB3 hF3 ⊢
    clear hw3 HSv d1 d2 d3 d4 hsum
    have HB3 := hid hB3
    have HF3 := hid hF3
    have HSv : Hid (∀ w', Fr NoB w3 w' → Fr NoB w3 w' ∧ w'.cell? ⟨b, 1, none⟩ = some (.slice A2 ys.length c2) ∧ w'.cell? ⟨w2.heap.size, 0, none⟩ = some (.int .i64 e) ∧ w'.cell? ⟨w2.heap.size, 1, none⟩ = some (.int .i64 i) ∧ w'.cell? ⟨w2.heap.size, 2, none⟩ = some (.int .i64 (now + ticks))) := fun w' hf => by
      have hb := HB3.out.fr hf (fun h => h)
      exact ⟨hf, (HC2.out.blk.fr (HF3.out.trans hf) (fun h => h)).cell 1 rfl, hb.cell 0 rfl, hb.cell 1 rfl, hb.cell 2 rfl⟩
    have HSV : Hid (∀ w', Fr NoB w3 w' → SV w' (.slice A2 ys.length c2) ys) := fun w' hf => HC2.out.sv.fr (HF3.out.trans hf) (fun _ _ h => h)
    have HTL := hid (tw_len ⟨e, i, now + ticks⟩ ys)
    have HLO := hid (tw_lo ⟨e, i, now + ticks⟩ ys)
    have HHI := hid (tw_hi ⟨e, i, now + ticks⟩ ys HYS.out)
    have HPT := hid (putT_take ⟨e, i, now + ticks⟩ ys)
    generalize (ys.takeWhile (fun x => decide (Lt x ⟨e, i, now + ticks⟩))).length = m at HTL HLO HHI HPT
    clear hB3 hF3
    go_region_held3 (fun w' => Fr NoB w3 w' ∧ w'.cell? ⟨b, 1, none⟩ = some (.slice A2 ys.length c2) ∧ w'.cell? ⟨w2.heap.size, 0, none⟩ = some (.int .i64 e) ∧ w'.cell? ⟨w2.heap.size, 1, none⟩ = some (.int .i64 i) ∧ w'.cell? ⟨w2.heap.size, 2, none⟩ = some (.int .i64 (now + ticks))) (first | exact HSv.out _ (Fr.drew (Fr.refl _ _)) | exact HSv.out _ (Fr.trans (Fr.drew (Fr.refl _ _)) (by assumption)) | exact HSv.out _ (by assumption) | fail) (first | (go_at_call 22; refine (bsf_any _ _ ys ⟨e, i, now + ticks⟩ (HSV.out _ (Fr.drew (Fr.refl _ _))) (by omega) m HTL.out HLO.out HHI.out).mono ?_; rintro e' w4 ⟨⟨bb, rfl⟩, hf4⟩) | fail)
    go_wp2
    obtain ⟨hF4, g1, g2, g3, g4⟩ := (show Fr NoB w3 w4 ∧ _ by assumption)
    have hC4 : Ck w4 b now (.slice A2 ys.length c2) ys := HC2.out.fr (HF3.out.trans hF4) (fun h => h) (fun _ _ h => h)
    have hB4 := HB3.out.fr hF4 (fun h => h)
    have HC4 := hid hC4
    have HF4 := hid hF4
    have HB4 := hid hB4
    have l4 := hC4.blk.lt
    have HNE : Hid (¬ OwnB (.slice A2 ys.length c2) w4.heap.size) := fun hk => by have := HC4.out.sv.lt _ hk; omega
    clear hF4 hC4 hB4 HSv HSV HLO HHI
    have HSI : Hid (SV (w4.alloc (.cells #[.int .i64 e, .int .i64 i, .int .i64 (now + ticks)] 33)).drew (.slice A2 ys.length c2) ys) := HC4.out.sv.fr (((Fr.refl NoB w4).alloc _).drew) (fun _ _ h => h)
    have HBI : Hid (Blk (w4.alloc (.cells #[.int .i64 e, .int .i64 i, .int .i64 (now + ticks)] 33)).drew w4.heap.size 33 (Tm.mk e i (now + ticks)).cells) := (Blk.new w4 33 (Tm.mk e i (now + ticks)).cells).drew
    have hIns := ins_any _ _ ys m ⟨e, i, now + ticks⟩ w4.heap.size HSI.out HTL.out (by omega) HBI.out HNE.out
    rw [← HPT.out] at hIns
    have HIns := hid hIns
    clear hIns
    go_region_with (go_at_call 24; refine HIns.out.mono ?_; rintro e' w5 ⟨v5, rfl, hV5, hf5, ho5⟩; obtain ⟨A5, c5, rfl⟩ := hV5.shape; have hB5 := (HC4.out.blk.fr (((Fr.refl NoB w4).alloc _).drew) (fun h => h)).fr hf5 HC4.out.ne; have p1 := hB5.cell 1 rfl; have p2 := hB5.frozen 1)
    all_goals
      go_wp2
      go_ret
      have hsz : w.heap.size ≤ w1.heap.size := Nat.le_trans HF.out.size HF1.out.size
      have hsz4 : w1.heap.size ≤ w4.heap.size := Nat.le_trans (Nat.le_trans HF2.out.size HF3.out.size) HF4.out.size
      have hf6 : Fr (CkB b (.slice A xs.length c)) w (w4.alloc (.cells #[.int .i64 e, .int .i64 i, .int .i64 (now + ticks)] 33)).drew :=
        ((((((HF.out.trans HF1.out).mono (S2 := CkB b (.slice A xs.length c)) (fun _ h => h.elim)).trans HF2.out).then_ HF3.out (fun _ h => h.elim)).then_ HF4.out (fun _ h => h.elim)).alloc _).drew
      have hf7 := hf6.then_ hf5 (fun k hk => (HO2.out k hk).imp (fun h => .inr h) (fun h => Nat.le_trans hsz h))
      refine ⟨rfl, _, Ck.store hB5 hV5, hf7.setCell (p := ⟨b, 1, none⟩) (.inl (.inl rfl)) _, fun k hk => ?_⟩
      rcases ho5 k hk with h5 | h5
      · exact (HO2.out k h5).imp id (fun h => Nat.le_trans hsz h)
      · have h6 : w4.heap.size ≤ k := Nat.le_trans (Fr.size (((Fr.refl NoB w4).alloc _).drew)) h5
        exact .inr (by omega)
  · have hn' : ((xs.length : Int) == 1024) = false := by rw [beq_eq_false_iff_ne]; omega
    clear h hF hok hfull he hi ht hu hs
    generalize outT e i xs = ys at *
    go_enter Try.func8, Try.ntmps8
    go_wp2_with fail
    generalize hw1 : (w.alloc (.cells #[.int .i64 e] 3)).alloc (.cells #[.int .i64 i] 3) = w1
    have hf1 : Fr NoB ((w.alloc (.cells #[.int .i64 e] 3)).alloc (.cells #[.int .i64 i] 3)) w1 := hw1 ▸ Fr.refl _ _
    clear hw1
    have hC1 := HC.out.fr (HF.out.trans hf1) (fun h => h) (fun _ _ h => h)
    have hP1 := pred_set w1 (OwnB (.slice A xs.length c)) w.heap.size (w.heap.size + 1) e i ((World.cell?_of_block (hf1.block w.heap.size HB1.out.lt (fun h => h))).trans (HB1.out.cell 0 rfl)) ((World.cell?_of_block (hf1.block (w.heap.size + 1) HB2.out.lt (fun h => h))).trans (HB2.out.cell 0 rfl)) (Nat.lt_of_lt_of_le HB1.out.lt hf1.size) (Nat.lt_of_lt_of_le HB2.out.lt hf1.size) (fun hk => by have := HC.out.sv.lt _ hk; omega) (fun hk => by have := HC.out.sv.lt _ hk; omega)
    refine (drop_any w1 b now _ xs 19 _ (isIt e i) hC1 hP1 (by omega)).mono ?_
    rintro e' w2 ⟨rfl, v2, hC2, hf2, ho2⟩
    rw [HY.out] at hC2
    obtain ⟨A2, c2, rfl⟩ := hC2.sv.shape
    have hq1 : Blk w2 w.heap.size 3 [.int .i64 e] := (HB1.out.fr hf1 (fun h => h)).fr hf2 (fun hk => by rcases hk with hk | hk; (have := HC.out.blk.lt; omega); have := HC.out.sv.lt _ hk; omega)
    have hq2 : Blk w2 (w.heap.size + 1) 3 [.int .i64 i] := (HB2.out.fr hf1 (fun h => h)).fr hf2 (fun hk => by rcases hk with hk | hk; (have := HC.out.blk.lt; omega); have := HC.out.sv.lt _ hk; omega)
    have d1 := hq1.cell 0 rfl
    have d2 := hq2.cell 0 rfl
    have d3 := hC2.blk.cell 0 rfl
    have d4 := hC2.blk.cell 1 rfl
    have l1 := hq1.lt
    have l2 := hq2.lt
    have l3 := hC2.blk.lt
    have HC2 := hid hC2
    have HF2 := hid hf2
    have HO2 := hid ho2
    have HF1 := hid hf1
    clear hC1 hP1 hC2 hf2 ho2 hf1 hq1 hq2
    go_wp2
    have HSv : Hid (∀ w', Fr NoB w2 w' → w'.cell? ⟨w.heap.size, 0, none⟩ = some (.int .i64 e) ∧ w'.cell? ⟨w.heap.size + 1, 0, none⟩ = some (.int .i64 i) ∧ w'.cell? ⟨b, 0, none⟩ = some (.int .i64 now)) := fun w' hf => ⟨(World.cell?_of_block (hf.block _ l1 (fun h => h))).trans d1, (World.cell?_of_block (hf.block _ l2 (fun h => h))).trans d2, (World.cell?_of_block (hf.block _ l3 (fun h => h))).trans d3⟩
    have hsum : IntKind.i64.wrap (now + ticks) = now + ticks := IntWalk.i64_in _ (by have := of_decide_eq_false hu'; have := of_decide_eq_false ht'; omega)
    go_region_held3 (fun w' => w'.cell? ⟨w.heap.size, 0, none⟩ = some (.int .i64 e) ∧ w'.cell? ⟨w.heap.size + 1, 0, none⟩ = some (.int .i64 i) ∧ w'.cell? ⟨b, 0, none⟩ = some (.int .i64 now)) (first | exact HSv.out _ (Fr.drew (Fr.refl _ _)) | exact HSv.out _ (Fr.alloc (Fr.drew (Fr.refl _ _)) _) | exact HSv.out _ (Fr.drew (Fr.alloc (Fr.refl _ _) _)) | fail) (fail)
    go_wp2
    have hB3 := (Blk.new w2 33 (Tm.mk e i (now + ticks)).cells).drew
    have hF3 : Fr NoB w2 (w2.alloc (.cells #[.int .i64 e, .int .i64 i, .int .i64 (now + ticks)] 33)).drew := ((Fr.refl _ w2).alloc _).drew
    change Blk (w2.alloc (.cells #[.int .i64 e, .int .i64 i, .int .i64 (now + ticks)] 33)).drew w2.heap.size 33 (Tm.mk e i (now + ticks)).cells at hB3
    generalize hw3 : (w2.alloc (.cells #[.int .i64 e, .int .i64 i, .int .i64 (now + ticks)] 33)).drew = w3 at hB3 hF3 ⊢
    clear hw3 HSv d1 d2 d3 d4 hsum
    have HB3 := hid hB3
    have HF3 := hid hF3
    have HSv : Hid (∀ w', Fr NoB w3 w' → Fr NoB w3 w' ∧ w'.cell? ⟨b, 1, none⟩ = some (.slice A2 ys.length c2) ∧ w'.cell? ⟨w2.heap.size, 0, none⟩ = some (.int .i64 e) ∧ w'.cell? ⟨w2.heap.size, 1, none⟩ = some (.int .i64 i) ∧ w'.cell? ⟨w2.heap.size, 2, none⟩ = some (.int .i64 (now + ticks))) := fun w' hf => by
      have hb := HB3.out.fr hf (fun h => h)
      exact ⟨hf, (HC2.out.blk.fr (HF3.out.trans hf) (fun h => h)).cell 1 rfl, hb.cell 0 rfl, hb.cell 1 rfl, hb.cell 2 rfl⟩
    have HSV : Hid (∀ w', Fr NoB w3 w' → SV w' (.slice A2 ys.length c2) ys) := fun w' hf => HC2.out.sv.fr (HF3.out.trans hf) (fun _ _ h => h)
    have HTL := hid (tw_len ⟨e, i, now + ticks⟩ ys)
    have HLO := hid (tw_lo ⟨e, i, now + ticks⟩ ys)
    have HHI := hid (tw_hi ⟨e, i, now + ticks⟩ ys HYS.out)
    have HPT := hid (putT_take ⟨e, i, now + ticks⟩ ys)
    generalize (ys.takeWhile (fun x => decide (Lt x ⟨e, i, now + ticks⟩))).length = m at HTL HLO HHI HPT
    clear hB3 hF3
    go_region_held3 (fun w' => Fr NoB w3 w' ∧ w'.cell? ⟨b, 1, none⟩ = some (.slice A2 ys.length c2) ∧ w'.cell? ⟨w2.heap.size, 0, none⟩ = some (.int .i64 e) ∧ w'.cell? ⟨w2.heap.size, 1, none⟩ = some (.int .i64 i) ∧ w'.cell? ⟨w2.heap.size, 2, none⟩ = some (.int .i64 (now + ticks))) (first | exact HSv.out _ (Fr.drew (Fr.refl _ _)) | exact HSv.out _ (Fr.trans (Fr.drew (Fr.refl _ _)) (by assumption)) | exact HSv.out _ (by assumption) | fail) (first | (go_at_call 22; refine (bsf_any _ _ ys ⟨e, i, now + ticks⟩ (HSV.out _ (Fr.drew (Fr.refl _ _))) (by omega) m HTL.out HLO.out HHI.out).mono ?_; rintro e' w4 ⟨⟨bb, rfl⟩, hf4⟩) | fail)
    go_wp2
    obtain ⟨hF4, g1, g2, g3, g4⟩ := (show Fr NoB w3 w4 ∧ _ by assumption)
    have hC4 : Ck w4 b now (.slice A2 ys.length c2) ys := HC2.out.fr (HF3.out.trans hF4) (fun h => h) (fun _ _ h => h)
    have hB4 := HB3.out.fr hF4 (fun h => h)
    have HC4 := hid hC4
    have HF4 := hid hF4
    have HB4 := hid hB4
    have l4 := hC4.blk.lt
    have HNE : Hid (¬ OwnB (.slice A2 ys.length c2) w4.heap.size) := fun hk => by have := HC4.out.sv.lt _ hk; omega
    clear hF4 hC4 hB4 HSv HSV HLO HHI
    have HSI : Hid (SV (w4.alloc (.cells #[.int .i64 e, .int .i64 i, .int .i64 (now + ticks)] 33)).drew (.slice A2 ys.length c2) ys) := HC4.out.sv.fr (((Fr.refl NoB w4).alloc _).drew) (fun _ _ h => h)
    have HBI : Hid (Blk (w4.alloc (.cells #[.int .i64 e, .int .i64 i, .int .i64 (now + ticks)] 33)).drew w4.heap.size 33 (Tm.mk e i (now + ticks)).cells) := (Blk.new w4 33 (Tm.mk e i (now + ticks)).cells).drew
    have hIns := ins_any _ _ ys m ⟨e, i, now + ticks⟩ w4.heap.size HSI.out HTL.out (by omega) HBI.out HNE.out
    rw [← HPT.out] at hIns
    have HIns := hid hIns
    clear hIns
    go_region_with (go_at_call 24; refine HIns.out.mono ?_; rintro e' w5 ⟨v5, rfl, hV5, hf5, ho5⟩; obtain ⟨A5, c5, rfl⟩ := hV5.shape; have hB5 := (HC4.out.blk.fr (((Fr.refl NoB w4).alloc _).drew) (fun h => h)).fr hf5 HC4.out.ne; have p1 := hB5.cell 1 rfl; have p2 := hB5.frozen 1)
    all_goals
      go_wp2
      go_ret
      have hsz : w.heap.size ≤ w1.heap.size := Nat.le_trans HF.out.size HF1.out.size
      have hsz4 : w1.heap.size ≤ w4.heap.size := Nat.le_trans (Nat.le_trans HF2.out.size HF3.out.size) HF4.out.size
      have hf6 : Fr (CkB b (.slice A xs.length c)) w (w4.alloc (.cells #[.int .i64 e, .int .i64 i, .int .i64 (now + ticks)] 33)).drew :=
        ((((((HF.out.trans HF1.out).mono (S2 := CkB b (.slice A xs.length c)) (fun _ h => h.elim)).trans HF2.out).then_ HF3.out (fun _ h => h.elim)).then_ HF4.out (fun _ h => h.elim)).alloc _).drew
      have hf7 := hf6.then_ hf5 (fun k hk => (HO2.out k hk).imp (fun h => .inr h) (fun h => Nat.le_trans hsz h))
      refine ⟨rfl, _, Ck.store hB5 hV5, hf7.setCell (p := ⟨b, 1, none⟩) (.inl (.inl rfl)) _, fun k hk => ?_⟩
      rcases ho5 k hk with h5 | h5
      · exact (HO2.out k h5).imp id (fun h => Nat.le_trans hsz h)
      · have h6 : w4.heap.size ≤ k := Nat.le_trans (Fr.size (((Fr.refl NoB w4).alloc _).drew)) h5
        exact .inr (by omega)
end Go.Proofs.Ytgjgmaeickhhfaa
