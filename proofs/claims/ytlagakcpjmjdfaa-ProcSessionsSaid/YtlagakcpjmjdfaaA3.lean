import Derived.Test.YtlagakcpjmjdfaaA2
set_option linter.unusedSimpArgs false
set_option linter.unusedVariables false
set_option maxRecDepth 20000
namespace Go.Proofs.Ytlagakcpjmjdfaa
open Go.RowKit Go.Proofs.YtlagakcpjmjdfaaW.PrintWords
set_option maxHeartbeats 2000000 in
theorem pOrph1_any (w : World) (a b c : Nat) (p : Pr) (g : Int) (tb mb mn : Nat) (v : Value) (bs : List Nat) (l : List Pr) (nx : Int) (f : Int → Int) (ht : PT w tb v bs l nx mb mn f) (hl : l.length ≤ 4096)
    (h : Blk w a 51 p.cells) (hb : w.cell? ⟨b, 0, none⟩ = some (.int .i64 g)) (hc : w.cell? ⟨c, 0, none⟩ = some (.pointer (some ⟨tb, 0, none⟩))) :
    Calls Try.prog 47 #[.pointer (some ⟨a, 0, none⟩), .pointer (some ⟨b, 0, none⟩), .pointer (some ⟨c, 0, none⟩)] w fun e w' => e = .returned (.bool (keeps l g p)) ∧ Fr NoB w w' := by
  have c1 := h.cell 1 rfl
  have c2 := h.cell 2 rfl
  have c3 := h.cell 3 rfl
  have hb2 := hb
  cases h1 : (p.grp != g)
  · have e1 : (p.grp == g) = true := by simpa [bne] using h1
    rcases PtrTo.cases bs (isPid p.par) l ht.len with ⟨hp, hq, _⟩ | ⟨i, hi1, hi2, hp, hq, _, _⟩
    · have hr : keeps l g p = false := by unfold keeps; rw [e1, hq]; rfl
      have HFi : Hid (∀ W, Fr NoB w W → Calls Try.prog 28 #[.pointer (some ⟨tb, 0, none⟩), .int .i64 p.par] W fun e w' => e = .returned (.pointer none) ∧ Fr NoB W w') := hid fun W hW => by rw [← hp]; exact pFind_any W tb mb mn v bs l nx f p.par (ht.frd hW) hl
      have HR := hid hr
      clear hr hp hq ht h e1
      go_enter Try.func47, Try.ntmps47
      go_wp2
      go_quiet (fail)
      go_wp2_with fail
      refine wp_region_still_tail 5 (by kernel_rfl) (by kernel_rfl) ?_
      change wpStill _ _ (World.drew _) _ _ _
      simp only [List.take_succ_cons, List.take_zero, List.drop_succ_cons, List.drop_zero]
      iterate 5 still_step
      refine wpStill_nil ?_
      change wpList _ _ _ _ _ (World.drew _)
      go_wp2_with fail
      refine (HFi.out _ (by repeat (first | with_reducible exact Fr.refl _ _ | with_reducible refine Fr.drewN ?_ _ | with_reducible refine Fr.drew ?_))).mono ?_
      rintro e' w1 ⟨rfl, hf1⟩
      have HF1 := hid hf1
      clear hf1
      go_wp2
      go_quiet (fail)
      go_wp2
      go_ret
      exact ⟨ret1 HR.out, (((Fr.refl NoB w).drewN _).drew.trans HF1.out).drewN _⟩
    · have HFi : Hid (∀ W, Fr NoB w W → Calls Try.prog 28 #[.pointer (some ⟨tb, 0, none⟩), .int .i64 p.par] W fun e w' => e = .returned (.pointer (some ⟨bs[i], 0, none⟩)) ∧ Fr NoB W w') := hid fun W hW => by rw [← hp]; exact pFind_any W tb mb mn v bs l nx f p.par (ht.frd hW) hl
      have HQ := hid (ht.prc i hi1 hi2)
      have hr : keeps l g p = (l[i].grp != g && l[i].ses == p.ses) := by unfold keeps; rw [e1, hq]; rfl
      have HR := hid hr
      have HA := hid h
      have HB := hid hb
      clear hr hp hq ht h e1
      generalize l[i] = q at *
      generalize bs[i] = qa at *
      cases h5 : (q.grp != g)
      · skip
        go_enter Try.func47, Try.ntmps47
        go_wp2
        go_quiet (fail)
        go_wp2_with fail
        refine wp_region_still_tail 5 (by kernel_rfl) (by kernel_rfl) ?_
        change wpStill _ _ (World.drew _) _ _ _
        simp only [List.take_succ_cons, List.take_zero, List.drop_succ_cons, List.drop_zero]
        iterate 5 still_step
        refine wpStill_nil ?_
        change wpList _ _ _ _ _ (World.drew _)
        go_wp2_with fail
        refine (HFi.out _ (by repeat (first | with_reducible exact Fr.refl _ _ | with_reducible refine Fr.drewN ?_ _ | with_reducible refine Fr.drew ?_))).mono ?_
        rintro e' w1 ⟨rfl, hf1⟩
        have hf2 := ((Fr.refl NoB w).drewN _).drew.trans hf1
        have d2 := (HQ.out.fr hf2 (fun h => h)).cell 2 rfl
        have d3 := (HQ.out.fr hf2 (fun h => h)).cell 3 rfl
        have d4 := (HA.out.fr hf2 (fun h => h)).cell 3 rfl
        have d5 := cellK HB.out hf2
        have HF1 := hid hf2
        clear hf1 hf2
        go_wp2
        go_quiet (fail)
        go_wp2
        go_ret
        exact ⟨ret1 (by rw [HR.out, h5]; rfl), HF1.out.drewN _⟩
      · skip
        go_enter Try.func47, Try.ntmps47
        go_wp2
        go_quiet (fail)
        go_wp2_with fail
        refine wp_region_still_tail 5 (by kernel_rfl) (by kernel_rfl) ?_
        change wpStill _ _ (World.drew _) _ _ _
        simp only [List.take_succ_cons, List.take_zero, List.drop_succ_cons, List.drop_zero]
        iterate 5 still_step
        refine wpStill_nil ?_
        change wpList _ _ _ _ _ (World.drew _)
        go_wp2_with fail
        refine (HFi.out _ (by repeat (first | with_reducible exact Fr.refl _ _ | with_reducible refine Fr.drewN ?_ _ | with_reducible refine Fr.drew ?_))).mono ?_
        rintro e' w1 ⟨rfl, hf1⟩
        have hf2 := ((Fr.refl NoB w).drewN _).drew.trans hf1
        have d2 := (HQ.out.fr hf2 (fun h => h)).cell 2 rfl
        have d3 := (HQ.out.fr hf2 (fun h => h)).cell 3 rfl
        have d4 := (HA.out.fr hf2 (fun h => h)).cell 3 rfl
        have d5 := cellK HB.out hf2
        have HF1 := hid hf2
        clear hf1 hf2
        go_wp2
        go_quiet (fail)
        go_wp2
        go_ret
        exact ⟨ret1 (by rw [HR.out, h5]; rfl), HF1.out.drewN _⟩
  · have hr : keeps l g p = false := by
      unfold keeps
      rw [show (p.grp == g) = false by simpa [bne] using h1]
      rfl
    have HR := hid hr
    clear hr ht h
    go_enter Try.func47, Try.ntmps47
    go_wp2
    go_quiet (fail)
    go_wp2
    go_ret
    exact ⟨ret1 HR.out, (Fr.refl _ w).drewN _⟩
set_option maxHeartbeats 2000000 in
theorem pOrph_any (w : World) (tb mb mn : Nat) (v : Value) (bs : List Nat) (l : List Pr) (nx : Int) (f : Int → Int) (g : Int) (h : PT w tb v bs l nx mb mn f) (hl : l.length ≤ 4096) :
    Calls Try.prog 24 #[.pointer (some ⟨tb, 0, none⟩), .int .i64 g] w fun e w' => e = .returned (.bool (orphG l g)) ∧ Fr NoB w w' := by
  have hf0 : Fr NoB w ((w.alloc (.cells #[.pointer (some ⟨tb, 0, none⟩)] 22)).alloc (.cells #[.int .i64 g] 3)) := ((Fr.refl _ _).alloc _).alloc _
  have hb1 := (Blk.new w 22 [.pointer (some ⟨tb, 0, none⟩)]).alloc (.cells #[.int .i64 g] 3)
  have hb2 := Blk.new (w.alloc (.cells #[.pointer (some ⟨tb, 0, none⟩)] 22)) 3 [.int .i64 g]
  rw [World.size_alloc] at hb2
  have h1 := h.frd hf0
  have HHas := hid (pHas_any _ tb mb mn v bs l nx f g 0 h1 hl)
  have HSome : Hid (∀ W, Fr NoB _ W → Calls Try.prog 46 #[.pointer (some ⟨tb, 0, none⟩), .func (.func 47) #[] #[.pointer (some ⟨w.heap.size + 1, 0, none⟩), .pointer (some ⟨w.heap.size, 0, none⟩)]] W fun e w' => e = .returned (.bool (l.any (keeps l g))) ∧ Fr NoB W w') := hid fun W hW =>
    pSome_any W tb mb mn v bs l nx f 47 #[.pointer (some ⟨w.heap.size + 1, 0, none⟩), .pointer (some ⟨w.heap.size, 0, none⟩)] (keeps l g) (h1.frd hW) hl ⟨fun args w => by kernel_rfl, fun W2 hW2 k a b => pOrph1_any W2 bs[k] (w.heap.size + 1) w.heap.size l[k] g tb mb mn v bs l nx f (h1.frd (hW.trans hW2)) hl ((h1.prc k a b).fr (hW.trans hW2) (fun h => h)) ((hb2.fr (hW.trans hW2) (fun h => h)).cell 0 rfl) ((hb1.fr (hW.trans hW2) (fun h => h)).cell 0 rfl)⟩
  have HF0 := hid hf0
  have HB1 := hid hb1
  have HB2 := hid hb2
  clear h h1 hf0 hb1 hb2
  have hr : orphG l g = (hasG l g 0 && !l.any (keeps l g)) := rfl
  cases hh : hasG l g 0
  · rw [hh] at HHas hr
    have HR := hid hr
    clear hr
    go_enter Try.func24, Try.ntmps24
    go_wp2_with fail
    refine HHas.out.mono ?_
    rintro e' w1 ⟨rfl, hf1⟩
    have HF1 := hid (HF0.out.trans hf1)
    clear hf1
    go_wp2
    go_ret
    exact ⟨ret1 HR.out, HF1.out⟩
  · rw [hh] at HHas hr
    have HR := hid hr
    clear hr
    generalize l.any (keeps l g) = kq at *
    go_enter Try.func24, Try.ntmps24
    go_wp2_with fail
    refine HHas.out.mono ?_
    rintro e' w1 ⟨rfl, hf1⟩
    have d0 := (HB1.out.fr hf1 (fun h => h)).cell 0 rfl
    have HF1 := hid hf1
    clear hf1
    go_wp2_with fail
    refine (HSome.out _ HF1.out).mono ?_
    rintro e' w2 ⟨rfl, hf2⟩
    have HF2 := hid ((HF0.out.trans HF1.out).trans hf2)
    clear hf2
    go_wp2
    go_ret
    exact ⟨ret1 HR.out, HF2.out⟩
end Go.Proofs.Ytlagakcpjmjdfaa
