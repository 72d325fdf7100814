import Derived.Test.YtlagakcpjmjdfaaA7
set_option linter.unusedSimpArgs false
set_option linter.unusedVariables false
set_option maxRecDepth 20000
namespace Go.Proofs.Ytlagakcpjmjdfaa
open Go.RowKit Go.Proofs.YtlagakcpjmjdfaaW.PrintWords
theorem TabTo.up {w w' : World} {tb n m : Nat} {S : Nat → Prop} {t : Tb} (h : TabTo w tb S t n w') (hm : n ≤ m) : TabTo w tb S t m w' := by
  obtain ⟨S', ⟨v, bs, mb, mn, h1, h2, h3⟩, h4, h5⟩ := h
  exact ⟨S', ⟨v, bs, mb, mn, h1, h2, Nat.le_trans h3 hm⟩, h4, h5⟩
theorem ErrTo.up {w : World} {tb n m : Nat} {S : Nat → Prop} {r : Tb × Int} {e : Ending} {w' : World} (h : ErrTo w tb S n r e w') (hm : n ≤ m) : ErrTo w tb S m r e w' := ⟨h.1, h.2.up hm⟩
/-- As Tab.find, with the table laid open. -/
theorem PT.find {w : World} {tb mb mn : Nat} {v : Value} {bs : List Nat} {l : List Pr} {nx : Int} {f : Int → Int} (hT : PT w tb v bs l nx mb mn f) (hl : l.length ≤ 4096) (pid : Int) :
    (l.find? (isPid pid) = none ∧ ∀ W, Fr NoB w W → Calls Try.prog 28 #[.pointer (some ⟨tb, 0, none⟩), .int .i64 pid] W fun e w' => e = .returned (.pointer none) ∧ Fr NoB W w') ∨
    ∃ (i : Nat) (h1 : i < bs.length) (h2 : i < l.length), l.find? (isPid pid) = some l[i] ∧ l.findIdx (isPid pid) = i ∧
      (∀ W, Fr NoB w W → Calls Try.prog 28 #[.pointer (some ⟨tb, 0, none⟩), .int .i64 pid] W fun e w' => e = .returned (.pointer (some ⟨bs[i], 0, none⟩)) ∧ Fr NoB W w') := by
  rcases PtrTo.cases bs (isPid pid) l hT.len with ⟨hp, hq, _⟩ | ⟨i, hi1, hi2, hp, hq, hpq, hix⟩
  · exact .inl ⟨hq, fun W hW => by rw [← hp]; exact pFind_any W tb mb mn v bs l nx f pid (hT.frd hW) hl⟩
  · exact .inr ⟨i, hi1, hi2, hq, hix, fun W hW => by rw [← hp]; exact pFind_any W tb mb mn v bs l nx f pid (hT.frd hW) hl⟩
/-! Foreground. -/
def fgT (t : Tb) (pid tty group : Int) : Tb × Int := match t.l.find? (isPid pid) with
  | none => (t, 5)
  | some p => if (tty == 0 || p.tty != tty) = true then (t, 14) else if hasG t.l group p.ses then (⟨t.l, t.nx, fun j => if j = tty then group else t.f j⟩, 0) else (t, 8)
set_option maxHeartbeats 2000000 in
theorem pFg_any (w : World) (tb n : Nat) (S : Nat → Prop) (t : Tb) (pid tty group : Int) (h : Tab w tb S t n) (hl : t.l.length ≤ 4096) (ht : J64 tty) (hg : J64 group) (hn : n ≤ 1000) :
    Calls Try.prog 41 #[.pointer (some ⟨tb, 0, none⟩), .int .i64 pid, .int .i64 tty, .int .i64 group] w (ErrTo w tb S (n + 1) (fgT t pid tty group)) := by
  have H0 := hid h
  have HJ := hid ht
  have HJ2 := hid hg
  obtain ⟨v, bs, mb, mn, hT, hS, hmn⟩ := h
  have HT := hid hT
  have HS := hid hS
  have hmx : mn < 1002 := by omega
  rcases hT.find hl pid with ⟨hq, hF⟩ | ⟨i, hi1, hi2, hq, hix, hF⟩
  · have hr : fgT t pid tty group = (t, 5) := by unfold fgT; rw [hq]
    rw [hr]
    have HF := hid hF
    clear hr hq hF hT hS ht hg
    go_enter Try.func41, Try.ntmps41
    go_wp2_with fail
    refine (HF.out _ (Fr.refl _ _)).mono ?_
    rintro e' w1 ⟨rfl, hf1⟩
    have HF1 := hid hf1
    clear hf1
    go_wp2
    go_ret
    exact ⟨rfl, (H0.out.still HF1.out).up (Nat.le_succ n)⟩
  · have hr : fgT t pid tty group = (if (tty == 0 || t.l[i].tty != tty) = true then (t, 14) else if hasG t.l group t.l[i].ses then (⟨t.l, t.nx, fun j => if j = tty then group else t.f j⟩, 0) else (t, 8)) := by unfold fgT; rw [hq]
    rw [hr]
    have HF := hid hF
    have HB := hid (hT.prc i hi1 hi2)
    have hH := H0.out.has hl group t.l[i].ses
    clear hr hq hF hT hS ht hg hix
    generalize t.l[i] = p at *
    generalize bs[i] = a at *
    cases e1 : (tty == 0 || p.tty != tty)
    rotate_left
    · rw [if_pos rfl]
      clear hH
      cases e2 : (tty == 0)
      · rw [e2] at e1
        have e3 : (p.tty != tty) = true := e1
        clear e1
        go_enter Try.func41, Try.ntmps41
        go_wp2_with fail
        refine (HF.out _ (Fr.refl _ _)).mono ?_
        rintro e' w1 ⟨rfl, hf1⟩
        have hB1 := HB.out.fr hf1 (fun h => h)
        have c4 := hB1.cell 4 rfl
        have HF1 := hid hf1
        clear hf1 hB1
        go_wp2
        go_ret
        exact ⟨rfl, (H0.out.still HF1.out).up (Nat.le_succ n)⟩
      · clear e1
        go_enter Try.func41, Try.ntmps41
        go_wp2_with fail
        refine (HF.out _ (Fr.refl _ _)).mono ?_
        rintro e' w1 ⟨rfl, hf1⟩
        have HF1 := hid hf1
        clear hf1
        go_wp2
        go_ret
        exact ⟨rfl, (H0.out.still HF1.out).up (Nat.le_succ n)⟩
    · rw [if_neg (by decide)]
      have e2 : (tty == 0) = false := by cases h2 : (tty == 0); rfl; rw [h2] at e1; cases e1
      have e3 : (p.tty != tty) = false := by rw [e2] at e1; exact e1
      clear e1
      cases hh : hasG t.l group p.ses
      · simp only [hh] at hH
        have HH := hid hH
        clear hH hh
        rw [if_neg (by decide)]
        go_enter Try.func41, Try.ntmps41
        go_wp2_with fail
        refine (HF.out _ (Fr.refl _ _)).mono ?_
        rintro e' w1 ⟨rfl, hf1⟩
        have hB1 := HB.out.fr hf1 (fun h => h)
        have c4 := hB1.cell 4 rfl
        have c3 := hB1.cell 3 rfl
        have HF1 := hid hf1
        clear hf1 hB1
        go_wp2_with fail
        refine (HH.out _ HF1.out).mono ?_
        rintro e' w2 ⟨rfl, hf2⟩
        have HF2 := hid (HF1.out.trans hf2)
        clear hf2
        go_wp2
        go_ret
        exact ⟨rfl, (H0.out.still HF2.out).up (Nat.le_succ n)⟩
      · simp only [hh] at hH
        have HH := hid hH
        clear hH hh
        rw [if_pos rfl]
        go_enter Try.func41, Try.ntmps41
        go_wp2_with fail
        refine (HF.out _ (Fr.refl _ _)).mono ?_
        rintro e' w1 ⟨rfl, hf1⟩
        have hB1 := HB.out.fr hf1 (fun h => h)
        have c4 := hB1.cell 4 rfl
        have c3 := hB1.cell 3 rfl
        have HF1 := hid hf1
        clear hf1 hB1
        go_wp2_with fail
        refine (HH.out _ HF1.out).mono ?_
        rintro e' w2 ⟨rfl, hf2⟩
        have HF2 := hid (HF1.out.trans hf2)
        have HT2 := hid (HT.out.frd HF2.out)
        have d2 := HT2.out.blk.cell 2 rfl
        clear hf2
        go_wp2_with (refine MapI.put HT2.out.map (by unfold maxLen; omega) rfl (.tmp 39) (.tmp 40) (.tmp 41) rfl tty group HJ.out HJ2.out rfl rfl rfl ?_; intro w3 hm3 hf3; have HM3 := hid hm3; have HF3 := hid hf3; clear hm3 hf3)
        have hTo : TabTo w tb S ⟨t.l, t.nx, fun j => if j = tty then group else t.f j⟩ (n + 1) w3 :=
          (TabTo.of (S := S) (t := ⟨t.l, t.nx, fun j => if j = tty then group else t.f j⟩) (HT2.out.mapFr HF3.out HM3.out) (by omega) (HF3.out.mono (fun k e => HS.out k (.inr (.inr (.inr e))))) (fun k hk => .inl (HS.out k hk))).from HF2.out
        have HTo := hid hTo
        clear hTo
        go_wp2
        go_ret
        exact ⟨rfl, HTo.out⟩
/-! Attach. -/
def attT (t : Tb) (pid tty : Int) : Tb × Int := match t.l.find? (isPid pid) with
  | none => (t, 5)
  | some p => if tty < 1 ∨ 64 < tty then (t, 1) else if (p.ses != pid || p.tty != 0 || sesOf t.l tty != 0) = true then (t, 8)
    else (⟨giveL pid tty t.l, t.nx, fun j => if j = tty then p.grp else t.f j⟩, 0)
set_option maxHeartbeats 4000000 in
theorem pAtt_any (w : World) (tb n : Nat) (S : Nat → Prop) (t : Tb) (pid tty : Int) (h : Tab w tb S t n) (hl : t.l.length ≤ 4096) (hg : ∀ p ∈ t.l, J64 p.grp) (hn : n ≤ 1000) :
    Calls Try.prog 10 #[.pointer (some ⟨tb, 0, none⟩), .int .i64 pid, .int .i64 tty] w (ErrTo w tb S (n + 1) (attT t pid tty)) := by
  have H0 := hid h
  have HX := hid (Blk.new w 3 [.int .i64 tty])
  obtain ⟨v, bs, mb, mn, hT, hS, hmn⟩ := h
  have HT := hid hT
  have HS := hid hS
  have hmx : mn < 1002 := by omega
  rcases hT.find hl pid with ⟨hq, hF⟩ | ⟨i, hi1, hi2, hq, hix, hF⟩
  · have hr : attT t pid tty = (t, 5) := by unfold attT; rw [hq]
    rw [hr]
    have HF := hid hF
    clear hr hq hF hT hS hg
    go_enter Try.func10, Try.ntmps10
    go_wp2_with fail
    refine (HF.out _ (Fr.alloc (Fr.refl _ _) _)).mono ?_
    rintro e' w1 ⟨rfl, hf1⟩
    have b0 := (HX.out.fr hf1 (fun h => h)).cell 0 rfl
    have HF1 := hid ((Fr.alloc (Fr.refl NoB w) _).trans hf1)
    clear hf1
    go_wp2
    go_ret
    exact ⟨rfl, (H0.out.still HF1.out).up (Nat.le_succ n)⟩
  · have hr : attT t pid tty = (if tty < 1 ∨ 64 < tty then (t, 1) else if (t.l[i].ses != pid || t.l[i].tty != 0 || sesOf t.l tty != 0) = true then (t, 8) else (⟨giveL pid tty t.l, t.nx, fun j => if j = tty then t.l[i].grp else t.f j⟩, 0)) := by unfold attT; rw [hq]
    rw [hr]
    have HF := hid hF
    have HB := hid (hT.prc i hi1 hi2)
    have hgi := hg _ (List.getElem_mem hi2)
    have HGI := hid hgi
    have hll : (giveL pid tty t.l).length = t.l.length := giveL_len _ _ _
    have HGV : Hid (∀ (h : i < (giveL pid tty t.l).length), (giveL pid tty t.l)[i].grp = t.l[i].grp) := hid fun h => by
      simp only [giveL, List.getElem_map]
      split <;> rfl
    have HLL := hid hll
    clear hr hq hF hT hS hg hix hgi hll
    generalize t.l[i] = p at *
    by_cases h1 : tty < 1
    · rw [if_pos (.inl h1)]
      go_enter Try.func10, Try.ntmps10
      go_wp2_with fail
      refine (HF.out _ (Fr.alloc (Fr.refl _ _) _)).mono ?_
      rintro e' w1 ⟨rfl, hf1⟩
      have b0 := (HX.out.fr hf1 (fun h => h)).cell 0 rfl
      have HF1 := hid ((Fr.alloc (Fr.refl NoB w) _).trans hf1)
      clear hf1
      go_wp2
      go_ret
      exact ⟨rfl, (H0.out.still HF1.out).up (Nat.le_succ n)⟩
    by_cases h2 : 64 < tty
    · rw [if_pos (.inr h2)]
      go_enter Try.func10, Try.ntmps10
      go_wp2_with fail
      refine (HF.out _ (Fr.alloc (Fr.refl _ _) _)).mono ?_
      rintro e' w1 ⟨rfl, hf1⟩
      have b0 := (HX.out.fr hf1 (fun h => h)).cell 0 rfl
      have HF1 := hid ((Fr.alloc (Fr.refl NoB w) _).trans hf1)
      clear hf1
      go_wp2
      go_ret
      exact ⟨rfl, (H0.out.still HF1.out).up (Nat.le_succ n)⟩
    rw [if_neg (by omega)]
    have hj : J64 tty := ⟨by omega, by omega⟩
    have HJ := hid hj
    clear hj
    cases e1 : (p.ses != pid)
    rotate_left
    · rw [if_pos (by simp)]
      go_enter Try.func10, Try.ntmps10
      go_wp2_with fail
      refine (HF.out _ (Fr.alloc (Fr.refl _ _) _)).mono ?_
      rintro e' w1 ⟨rfl, hf1⟩
      have b0 := (HX.out.fr hf1 (fun h => h)).cell 0 rfl
      have HF1 := hid ((Fr.alloc (Fr.refl NoB w) _).trans hf1)
      have hB1 := HB.out.fr HF1.out (fun h => h)
      have c4 := hB1.cell 4 rfl
      have c3 := hB1.cell 3 rfl
      clear hB1
      clear hf1
      go_wp2
      go_ret
      exact ⟨rfl, (H0.out.still HF1.out).up (Nat.le_succ n)⟩
    cases e2 : (p.tty != 0)
    rotate_left
    · rw [if_pos (by simp)]
      go_enter Try.func10, Try.ntmps10
      go_wp2_with fail
      refine (HF.out _ (Fr.alloc (Fr.refl _ _) _)).mono ?_
      rintro e' w1 ⟨rfl, hf1⟩
      have b0 := (HX.out.fr hf1 (fun h => h)).cell 0 rfl
      have HF1 := hid ((Fr.alloc (Fr.refl NoB w) _).trans hf1)
      have hB1 := HB.out.fr HF1.out (fun h => h)
      have c4 := hB1.cell 4 rfl
      have c3 := hB1.cell 3 rfl
      clear hB1
      clear hf1
      go_wp2
      go_ret
      exact ⟨rfl, (H0.out.still HF1.out).up (Nat.le_succ n)⟩
    obtain ⟨se, hse⟩ : ∃ se, se = sesOf t.l tty := ⟨_, rfl⟩
    rw [← hse]
    have HSE : Hid (sesOf t.l tty = se) := hid hse.symm
    clear hse
    cases e3 : (se != 0)
    rotate_left
    · rw [if_pos (by simp)]
      go_enter Try.func10, Try.ntmps10
      go_wp2_with fail
      refine (HF.out _ (Fr.alloc (Fr.refl _ _) _)).mono ?_
      rintro e' w1 ⟨rfl, hf1⟩
      have b0 := (HX.out.fr hf1 (fun h => h)).cell 0 rfl
      have HF1 := hid ((Fr.alloc (Fr.refl NoB w) _).trans hf1)
      have hB1 := HB.out.fr HF1.out (fun h => h)
      have c4 := hB1.cell 4 rfl
      have c3 := hB1.cell 3 rfl
      clear hB1
      have HX1 := hid (HX.out.fr hf1 (fun h => h))
      clear hf1
      go_wp2_with fail
      refine (pSes_any _ tb mb mn v bs t.l t.nx t.f tty (HT.out.frd HF1.out) hl).mono ?_
      rintro e' w2 ⟨rfl, hf2⟩
      rw [HSE.out]
      have HF2 := hid (HF1.out.trans hf2)
      have HX2 := hid (HX1.out.fr hf2 (fun h => h))
      clear hf2
      go_wp2
      go_ret
      exact ⟨rfl, (H0.out.still HF2.out).up (Nat.le_succ n)⟩
    · rw [if_neg (by simp)]
      go_enter Try.func10, Try.ntmps10
      go_wp2_with fail
      refine (HF.out _ (Fr.alloc (Fr.refl _ _) _)).mono ?_
      rintro e' w1 ⟨rfl, hf1⟩
      have b0 := (HX.out.fr hf1 (fun h => h)).cell 0 rfl
      have HF1 := hid ((Fr.alloc (Fr.refl NoB w) _).trans hf1)
      have hB1 := HB.out.fr HF1.out (fun h => h)
      have c4 := hB1.cell 4 rfl
      have c3 := hB1.cell 3 rfl
      clear hB1
      have HX1 := hid (HX.out.fr hf1 (fun h => h))
      clear hf1
      go_wp2_with fail
      refine (pSes_any _ tb mb mn v bs t.l t.nx t.f tty (HT.out.frd HF1.out) hl).mono ?_
      rintro e' w2 ⟨rfl, hf2⟩
      rw [HSE.out]
      have HF2 := hid (HF1.out.trans hf2)
      have HX2 := hid (HX1.out.fr hf2 (fun h => h))
      clear hf2
      have HT2 := hid (HT.out.frd HF2.out)
      have HB2 := hid (HB.out.fr HF2.out (fun h => h))
      have hxn : ∀ b ∈ bs, b ≠ w.heap.size := fun b hb e => by
        obtain ⟨k, hk, rfl⟩ := List.getElem_of_mem hb
        have := (HT.out.prc k hk (by have := HT.out.len; omega)).lt
        omega
      have HE := hid (pEach_any w2 tb mb mn v bs t.l t.nx t.f pid tty 32 #[.pointer (some ⟨w.heap.size, 0, none⟩)] HT2.out hl ⟨fun args w => by kernel_rfl, fun W a p hW hB => pAtt1_any W a w.heap.size p tty hB ((HX2.out.fr hW (fun hb => hxn _ hb rfl)).cell 0 rfl)⟩)
      have HXN := hid hxn
      clear hxn
      go_wp2_with fail
      refine HE.out.mono ?_
      rintro e' w3 ⟨rfl, hT3, hf3⟩
      have hB3 := hT3.prc i hi1 (by rw [HLL.out]; exact hi2)
      have d2 := hB3.cell 2 rfl
      rw [HGV.out] at d2
      have HX3 := hid (HX2.out.fr hf3 (fun hb => HXN.out _ hb rfl))
      have x0 := HX3.out.cell 0 rfl
      have t2 := hT3.blk.cell 2 rfl
      have HT3 := hid hT3
      have HF3 := hid hf3
      clear hT3 hf3 hB3
      generalize bs[i] = a at *
      go_wp2_with fail
      refine wp_region_still_tail 9 (by kernel_rfl) (by kernel_rfl) ?_
      change wpStill _ _ (World.drew _) _ _ _
      simp only [List.take_succ_cons, List.take_zero, List.drop_succ_cons, List.drop_zero]
      iterate 9 still_step
      refine wpStill_nil ?_
      change wpList _ _ _ _ _ (World.drew _)
      go_wp2_with (refine MapI.put (HT3.out.map.fr (Fr.drew (Fr.refl NoB w3)) (fun h => h)) (by unfold maxLen; omega) rfl (.tmp 48) (.tmp 49) (.tmp 53) rfl tty p.grp HJ.out HGI.out rfl rfl rfl ?_; intro w4 hm4 hf4; have HM4 := hid hm4; have HF4 := hid hf4; clear hm4 hf4)
      have hTo : TabTo w tb S ⟨giveL pid tty t.l, t.nx, fun j => if j = tty then p.grp else t.f j⟩ (n + 1) w4 :=
        (TabTo.of (S := S) (t := ⟨giveL pid tty t.l, t.nx, fun j => if j = tty then p.grp else t.f j⟩) ((HT3.out.frd (Fr.drew (Fr.refl NoB w3))).mapFr HF4.out HM4.out) (by omega) (((HF3.out.mono (fun k hk => HS.out k (.inr (.inr (.inl hk))))).drew).trans (HF4.out.mono (fun k e => HS.out k (.inr (.inr (.inr e)))))) (fun k hk => .inl (HS.out k hk))).from HF2.out
      have HTo := hid hTo
      clear hTo
      go_wp2
      go_ret
      exact ⟨rfl, HTo.out⟩
end Go.Proofs.Ytlagakcpjmjdfaa
