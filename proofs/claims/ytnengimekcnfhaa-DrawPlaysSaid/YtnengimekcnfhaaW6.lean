import Derived.Test.YtnengimekcnfhaaW2
set_option linter.unusedSimpArgs false
set_option linter.unusedVariables false
set_option maxRecDepth 20000
namespace Go.Proofs.Ytnengimekcnfhaa
open Go.RowKit Go.Proofs.YtnengimekcnfhaaW.PrintWords
set_option maxHeartbeats 4000000 in
/-- slices.Delete of one window. -/
theorem w_del1_any (w : World) (g c : Nat) (xs : List Wn) (rest : List Value) (k : Nat) (hV : WnV w g xs rest c) (hxc : xs.length ≤ c) (hcm : c ≤ maxLen) (hk : k < xs.length) (hl : xs.length ≤ 4096) (j : Nat) (hj : Hid (j = k + 1)) :
    Calls Try.prog 62 #[.slice (some ⟨g, 0, none⟩) xs.length c, .int .i64 k, .int .i64 j] w (WnTo (.slice (some ⟨g, 0, none⟩) xs.length c) (xs.take k ++ xs.drop j) w) := by
  have hj' := hj.out
  have hjl : j ≤ xs.length := by omega
  have hne : ((k : Int) == (j : Int)) = false := by rw [beq_eq_false_iff_ne]; omega
  obtain ⟨i0, hi, hz0, hz1, hz2⟩ := info_parts infoWn
  obtain ⟨ad, hcut, had⟩ := cut_lo (P := Try.prog) 48 73 i0 Try.underlying48 hi g xs.length c j hjl
  have HV := hid hV
  have hgl := WnV.lt hV
  have hB0 := hid (Vec.blk hV)
  have hm2 : c ≤ 9223372036854775807 := hcm
  have hsrc : ∀ (i : Nat) (u : Value), ((xs.drop j).flatMap Wn.cells)[i]? = some u → w.cell? (ad.add i) = some u := by
    intro i u hu
    by_cases hjc : j < c
    · obtain rfl := had hjc
      rw [hz1]
      exact Vec.src hV Wn.cells_len j hjl (xs.drop j) (List.prefix_refl _) i u hu
    · rw [List.drop_of_length_le (by omega)] at hu
      simp at hu
  have HSrc := hid hsrc
  clear hsrc hV hcm had
  have hfitA : 0 + k * i0.size + ((xs.drop j).flatMap Wn.cells).length ≤ (xs.flatMap Wn.cells ++ rest).length := by
    rw [List.length_append, flat_len Wn.cells_len, flat_len Wn.cells_len, List.length_drop, hz1]
    omega
  have HFA := hid hfitA
  clear hfitA
  have HLA : Hid (((xs.drop j).flatMap Wn.cells).length = (xs.length - j) * i0.size) := by
    show _ = _
    rw [flat_len Wn.cells_len, List.length_drop, hz1]
  have hzl : Hid ((xs.take k ++ xs.drop j ++ xs.drop (xs.length - 1)).length = xs.length) := by
    show _ = _
    rw [List.length_append, List.length_append, List.length_drop, List.length_drop, List.length_take]
    omega
  have hconv : ∀ w3 : World, Hid (Blk w3 g 73 ((xs.flatMap Wn.cells ++ rest).take (0 + k * i0.size) ++ (xs.drop j).flatMap Wn.cells ++ (xs.flatMap Wn.cells ++ rest).drop (0 + k * i0.size + ((xs.drop j).flatMap Wn.cells).length))) → Hid (WnV w3 g (xs.take k ++ xs.drop j ++ xs.drop (xs.length - 1)) rest c) := by
    intro w3 h3
    have h4 := h3.out
    rw [hz1, Nat.zero_add, flat_take Wn.cells_len xs rest k (by omega), flat_len Wn.cells_len, List.length_drop, show k * 7 + (xs.length - j) * 7 = (xs.length - 1) * 7 by omega, flat_drop Wn.cells_len xs rest _ (by omega), ← List.append_assoc, ← List.flatMap_append, ← List.flatMap_append] at h4
    refine ⟨h4, ?_⟩
    have := Vec.len HV.out
    rw [hzl.out]
    exact this
  have HConv := hid hconv
  clear hconv
  have hfit : (xs.length - 1) * 7 + ((List.replicate (xs.length - (xs.length - 1)) ()).flatMap (fun _ => [Value.int .i64 0, .int .i64 0, .int .i64 0, .int .i64 0, .int .i64 0, .int .i64 0, .bool false])).length ≤ ((xs.take k ++ xs.drop j ++ xs.drop (xs.length - 1)).flatMap Wn.cells ++ rest).length := by
    rw [zerosWn_len, List.length_append, flat_len Wn.cells_len, hzl.out]
    omega
  have HFit := hid hfit
  have hkl : k + (xs.length - j) = xs.length - 1 := by omega
  have HKL := hid hkl
  have hkc : k ≤ c := by omega
  have hkj : k ≤ j := by omega
  clear hfit hz0 hz1 hz2 hkl hj'
  go_enter Try.func62, Try.ntmps62
  go_wp2
  refine wp_region_still_tail 6 (by kernel_rfl) (by kernel_rfl) ?_
  change wpStill _ _ (World.drew _) _ _ _
  simp only [List.take_succ_cons, List.take_zero, List.drop_succ_cons, List.drop_zero]
  iterate 6 still_step
  refine wpStill_nil ?_
  change wpList _ _ _ _ _ (World.drew _)
  go_wp2_with first
    | (at_builtin; go_must (refine wpList_append_blk rfl (.tmp 22) (.tmp 25) 48 rfl 73 i0 Try.underlying48 hi g 0 k c ad (xs.length - j) (c - j) rfl rfl 73 _ ((xs.drop j).flatMap Wn.cells) hB0 HLA.out HSrc.out (flat_one Wn.one _) (by omega) HFA.out ?_); intro w3 hB3 hf3; have hV3 := HConv.out w3 hB3; have hB4 := hid (Vec.blk hV3.out); clear hB3; rw [HKL.out])
    | ((with_reducible refine at_bi .clear ?_); go_must (refine wpList_clear_blk rfl (.tmp 31) 48 rfl 73 Wn.zero Try.underlying48 zeroWn g ((xs.length - 1) * 7) (xs.length - (xs.length - 1)) (c - (xs.length - 1)) rfl (by omega) 73 _ _ (zero_cells _ [.int .i64 0, .int .i64 0, .int .i64 0, .int .i64 0, .int .i64 0, .int .i64 0, .bool false] 7 _ rfl rfl (by omega)) hB4 (zerosWn _) HFit.out ?_); intro w4 hB5 hf4)
  go_ret
  have hz4 := WnV.cleared (m := xs.length - 1) hV3.out (by rw [hzl.out]; omega) rfl (by rw [hzl.out]; exact hB5)
  have hln : (xs.take k ++ xs.drop j).length = xs.length - 1 := by rw [List.length_append, List.length_take, List.length_drop]; have := hj.out; omega
  rw [List.take_left' hln] at hz4
  refine ⟨_, rfl, .inr ⟨g, c, _, by rw [hln]; rfl, hz4, by rw [hln]; omega, hm2⟩, (((Fr.refl _ w).drew.trans hf3).trans hf4).mono (fun k hk => congrArg some hk.symm), fun k hk => .inl ?_⟩
  exact hk
end Go.Proofs.Ytnengimekcnfhaa
set_option linter.unusedSimpArgs false
set_option linter.unusedVariables false
set_option maxRecDepth 20000
namespace Go.Proofs.Ytnengimekcnfhaa
open Go.RowKit Go.Proofs.YtnengimekcnfhaaW.PrintWords
theorem swith_none (w : World) (b : Nat) (scr : Rc) (v : Value) (xs : List Wn) (next id : Int) (fn : Nat) (lb : Array Value) (h : SK w b scr v xs next) (hl : xs.length ≤ 4096) (hg : getW xs id = none) :
    Calls Try.prog 60 #[.pointer (some ⟨b, 0, none⟩), .int .i64 id, .func (.func fn) #[] lb] w fun e w' => e = .returned (.int .i64 5) ∧ Fr NoB w w' := by
  have HAT := hid (sat_any _ b scr v xs next id h hl)
  rw [idAt_none hg] at HAT
  clear h hg
  go_enter Try.func60, Try.ntmps60
  go_wp2_with fail
  refine HAT.out.mono ?_
  rintro e' w1 ⟨rfl, hf1⟩
  go_wp2
  go_ret
  exact ⟨rfl, hf1⟩
theorem swith_some (w : World) (b : Nat) (scr : Rc) (v : Value) (xs : List Wn) (next id : Int) (fn : Nat) (lb : Array Value) (h : SK w b scr v xs next) (hl : xs.length ≤ 4096) (k : Nat) (hi : idAt id xs = k) (r : Int) (R : World → Prop)
    (eg : ∀ args w, (callFunc fn args).run Try.prog w = .ok (.enter fn args) w) (hdo : ∀ W, Fr NoB w W → Calls Try.prog fn (#[.int .i64 k] ++ lb) W fun e w' => e = .returned (.int .i64 r) ∧ R w') :
    Calls Try.prog 60 #[.pointer (some ⟨b, 0, none⟩), .int .i64 id, .func (.func fn) #[] lb] w fun e w' => e = .returned (.int .i64 r) ∧ R w' := by
  have HAT := hid (sat_any _ b scr v xs next id h hl)
  rw [hi] at HAT
  have HDO := hid hdo
  clear h hi hdo
  go_enter Try.func60, Try.ntmps60
  go_wp2_with fail
  refine HAT.out.mono ?_
  rintro e' w1 ⟨rfl, hf1⟩
  have HF1 := hid hf1
  clear hf1
  go_wp2_with fail
  refine (HDO.out _ HF1.out).mono ?_
  rintro e' w2 ⟨rfl, hR⟩
  have HR := hid hR
  clear hR
  go_wp2
  go_ret
  exact ⟨rfl, HR.out⟩
/-- Windows without that at place k. -/
def outAt (xs : List Wn) (k : Nat) : List Wn := xs.take k ++ xs.drop (k + 1)
/-- Where the windows lie, if there is one. -/
theorem WnS.vec {w : World} {v : Value} {xs : List Wn} (h : WnS w v xs) (hx : 0 < xs.length) : ∃ g c rest, v = .slice (some ⟨g, 0, none⟩) xs.length c ∧ WnV w g xs rest c ∧ xs.length ≤ c ∧ c ≤ maxLen := by
  rcases h with ⟨_, rfl⟩ | h
  · simp at hx
  · exact h
set_option maxHeartbeats 4000000 in
theorem sDrop1_any (w : World) (b p : Nat) (scr : Rc) (v : Value) (xs : List Wn) (next : Int) (h : SK w b scr v xs next) (hl : xs.length ≤ 256) (k : Nat) (hk : k < xs.length) (hpB : Blk w p 29 [.pointer (some ⟨b, 0, none⟩)]) :
    Calls Try.prog 61 #[.int .i64 k, .pointer (some ⟨p, 0, none⟩)] w (SKto b scr v (outAt xs k) next (.int .i64 0) w) := by
  obtain ⟨g, c, rest, rfl, hV, hxc, hcm⟩ := h.row.vec (by omega)
  have HK := hid h
  have c4 := h.blk.cell 4 rfl
  have hlt := h.blk.lt
  have hp := hpB.cell 0 rfl
  have hpl := hpB.lt
  have HPB := hid hpB
  have hNP : Hid (¬ OwnB (.slice (some ⟨g, 0, none⟩) xs.length c) p) := hid (h.row.ne hpB (by decide))
  have hVd : WnV w.drew g xs rest c := Vec.fr hV (Fr.drew (Fr.refl NoB w)) (fun h => h)
  have HDel : Hid (Calls Try.prog 62 #[.slice (some ⟨g, 0, none⟩) xs.length c, .int .i64 k, .int .i64 ((k + 1 : Nat) : Int)] w.drew (WnTo (.slice (some ⟨g, 0, none⟩) xs.length c) (outAt xs k) w.drew)) := hid (w_del1_any w.drew g c xs rest k hVd hxc hcm hk (by omega) (k + 1) rfl)
  rw [show ((k + 1 : Nat) : Int) = (k : Int) + 1 from by omega] at HDel
  have hw : IntKind.i64.wrap ((k : Int) + 1) = (k : Int) + 1 := IntWalk.i64_in _ (by omega)
  have hNE : Hid (¬ OwnB (.slice (some ⟨g, 0, none⟩) xs.length c) b) := hid (h.row.ne h.blk (by decide))
  clear h hV hVd hxc hcm hk hpB
  go_enter Try.func61, Try.ntmps61
  go_wp2_with fail
  go_region_with (go_at_call 62; refine HDel.out.mono ?_; rintro e' w5 ⟨v5, rfl, hV5, hf5, ho5⟩; obtain ⟨A5, c5, hv5, _, _⟩ := hV5.shape; have hB5 := (HK.out.blk.fr (Fr.drew (Fr.refl NoB w)) (fun h => h)).fr hf5 hNE.out; have p4 := hB5.cell 4 rfl; have y4 := hB5.frozen 4; have y6 := hB5.lt; have pP := ((HPB.out.fr (Fr.drew (Fr.refl NoB w)) (fun h => h)).fr hf5 hNP.out).cell 0 rfl; rw [hv5])
  all_goals
    go_wp2
    go_ret
    have hFa : Fr (SB b (.slice (some ⟨g, 0, none⟩) xs.length c)) w w.drew := (Fr.drew (Fr.refl NoB w)).mono (fun _ h => h.elim)
    have hFb := hFa.then_ hf5 (fun k hk => .inl (.inr hk))
    refine ⟨rfl, .slice A5 (outAt xs k).length c5, ⟨hB5.set 4 _, ?_⟩, hFb.setCell (p := ⟨b, 4, none⟩) (.inl (.inl rfl)) _, fun k hk => ?_⟩
    · rw [← hv5]
      exact hV5.fr ((Fr.refl (At b) w5).setAt 4 _) (fun k hk he => hV5.ne hB5 (by decide) (by have he' : k = b := he; subst he'; exact hk))
    · rw [← hv5] at hk
      exact ho5 k hk
section
variable {α : Type} {f : α → List Value} {sz : Nat} {w : World} {g : Nat} {T : TypeId} {xs : List α} {rest : List Value} {c : Nat}
/-- One cell of one element is written. -/
theorem Vec.set1 (h : Vec f sz w g T xs rest c) (hn : ∀ x, (f x).length = sz) (k j : Nat) (hk : k < xs.length) (hj : j < sz) (v : Value) (x : α) (hx : f x = (f xs[k]).set j v) : Vec f sz (w.setCell ⟨g, k * sz + j, none⟩ v) g T (xs.set k x) rest c := by
  have hlt : k * sz + j < xs.length * sz := by
    have : (k + 1) * sz ≤ xs.length * sz := Nat.mul_le_mul_right _ hk
    rw [Nat.add_mul] at this
    omega
  refine ⟨Blk.eq (h.blk.set (k * sz + j) v) ?_, by rw [List.length_set]; exact h.len⟩
  rw [List.set_append_left _ _ (by rw [flat_len hn]; exact hlt)]
  congr 1
  exact flat_set hn xs k j hk hj v x hx
end
def Wn.hide (t : Wn) (h : Bool) : Wn := ⟨t.id, t.env, t.x, t.y, t.w, t.h, h⟩
def Wn.at_ (t : Wn) (r : Rc) : Wn := ⟨t.id, t.env, r.x, r.y, r.w, r.h, t.hid⟩
theorem WnV.hide {w : World} {g : Nat} {xs : List Wn} {rest : List Value} {c : Nat} (h : WnV w g xs rest c) (k : Nat) (hk : k < xs.length) (b : Bool) : WnV (w.setCell ⟨g, k * 7 + 6, none⟩ (.bool b)) g (xs.set k (xs[k].hide b)) rest c :=
  Vec.set1 h Wn.cells_len k 6 hk (by omega) (.bool b) _ rfl
theorem WnV.at_ {w : World} {g : Nat} {xs : List Wn} {rest : List Value} {c : Nat} (h : WnV w g xs rest c) (k : Nat) (hk : k < xs.length) (r : Rc) :
    WnV ((((w.setCell ⟨g, k * 7 + 2, none⟩ (.int .i64 r.x)).setCell ⟨g, k * 7 + 3, none⟩ (.int .i64 r.y)).setCell ⟨g, k * 7 + 4, none⟩ (.int .i64 r.w)).setCell ⟨g, k * 7 + 5, none⟩ (.int .i64 r.h)) g (xs.set k (xs[k].at_ r)) rest c := by
  have h1 := Vec.set1 h Wn.cells_len k 2 hk (by omega) (.int .i64 r.x) ⟨xs[k].id, xs[k].env, r.x, xs[k].y, xs[k].w, xs[k].h, xs[k].hid⟩ rfl
  have h2 := Vec.set1 h1 Wn.cells_len k 3 (by simpa using hk) (by omega) (.int .i64 r.y) ⟨xs[k].id, xs[k].env, r.x, r.y, xs[k].w, xs[k].h, xs[k].hid⟩ (by rw [List.getElem_set_self]; rfl)
  have h3 := Vec.set1 h2 Wn.cells_len k 4 (by simpa using hk) (by omega) (.int .i64 r.w) ⟨xs[k].id, xs[k].env, r.x, r.y, r.w, xs[k].h, xs[k].hid⟩ (by rw [List.getElem_set_self]; rfl)
  have h4 := Vec.set1 h3 Wn.cells_len k 5 (by simpa using hk) (by omega) (.int .i64 r.h) (xs[k].at_ r) (by rw [List.getElem_set_self]; rfl)
  rw [List.set_set, List.set_set, List.set_set] at h4
  exact h4
theorem SB.sub {w : World} {b : Nat} {v : Value} : ∀ k, OwnB v k → SB b v k := fun k h => .inr h
set_option maxHeartbeats 4000000 in
theorem sHide1_any (w : World) (b p q : Nat) (scr : Rc) (v : Value) (xs : List Wn) (next : Int) (hd : Bool) (h : SK w b scr v xs next) (k : Nat) (hk : k < xs.length) (hpB : Blk w p 29 [.pointer (some ⟨b, 0, none⟩)]) (hqB : Blk w q 4 [.bool hd]) :
    Calls Try.prog 64 #[.int .i64 k, .pointer (some ⟨q, 0, none⟩), .pointer (some ⟨p, 0, none⟩)] w (SKto b scr v (xs.set k (xs[k].hide hd)) next (.int .i64 0) w) := by
  obtain ⟨g, c, rest, rfl, hV, hxc, hcm⟩ := h.row.vec (by omega)
  have HK := hid h
  have c4 := h.blk.cell 4 rfl
  have hlt := h.blk.lt
  have hp := hpB.cell 0 rfl
  have hpl := hpB.lt
  have hq := hqB.cell 0 rfl
  have hql := hqB.lt
  obtain ⟨k0, k1, k2, k3, k4, k5, k6⟩ := WnV.cells hV k hk
  have k6f := WnV.frozen hV (k * 7 + 6)
  have hgl := WnV.lt hV
  have HV := hid hV
  have HC := hid (And.intro hxc hcm)
  clear h hV hxc hcm
  go_enter Try.func64, Try.ntmps64
  go_wp2_with fail
  refine wp_region_still_tail 8 (by kernel_rfl) (by kernel_rfl) ?_
  change wpStill _ _ (World.drew _) _ _ _
  simp only [List.take_succ_cons, List.take_zero, List.drop_succ_cons, List.drop_zero]
  iterate 8 still_step
  refine wpStill_nil ?_
  change wpList _ _ _ _ _ (World.drew _)
  go_wp2
  go_ret
  have hs := WnV.hide HV.out k hk hd
  have hne : ¬ OwnB (.slice (some ⟨g, 0, none⟩) xs.length c) b := HK.out.row.ne HK.out.blk (by decide)
  have hF := ((Fr.refl (SB b (.slice (some ⟨g, 0, none⟩) xs.length c)) w).setCell (p := ⟨g, k * 7 + 6, none⟩) (.inl (.inr rfl)) (.bool hd)).drew
  have hB2 := (HK.out.blk.other (p := ⟨g, k * 7 + 6, none⟩) (fun e => hne (e ▸ rfl)) (.bool hd)).drew
  exact ⟨rfl, _, ⟨hB2, .inr ⟨g, c, rest, by rw [List.length_set], hs.fr (Fr.drew (Fr.refl NoB _)) (fun h => h), by rw [List.length_set]; exact HC.out.1, HC.out.2⟩⟩, hF, fun j hj => .inl hj⟩
end Go.Proofs.Ytnengimekcnfhaa
set_option linter.unusedSimpArgs false
set_option linter.unusedVariables false
set_option maxRecDepth 20000
namespace Go.Proofs.Ytnengimekcnfhaa
open Go.RowKit Go.Proofs.YtnengimekcnfhaaW.PrintWords
theorem SKto.from {b : Nat} {scr : Rc} {v : Value} {xs : List Wn} {next : Int} {r : Value} {w w1 w2 : World} {e : Ending} (hf : Fr NoB w w1) (h : SKto b scr v xs next r w1 e w2) : SKto b scr v xs next r w e w2 := by
  obtain ⟨he, v', h1, h2, h3⟩ := h
  exact ⟨he, v', h1, (hf.mono (fun _ h => h.elim)).trans h2, fun k hk => (h3 k hk).imp id (Nat.le_trans hf.size)⟩
set_option maxHeartbeats 4000000 in
theorem sMove1_any (w : World) (b p q : Nat) (scr : Rc) (v : Value) (xs : List Wn) (next : Int) (r : Rc) (h : SK w b scr v xs next) (k : Nat) (hk : k < xs.length) (hpB : Blk w p 29 [.pointer (some ⟨b, 0, none⟩)]) (hqB : Blk w q 23 r.cells) :
    Calls Try.prog 65 #[.int .i64 k, .pointer (some ⟨p, 0, none⟩), .pointer (some ⟨q, 0, none⟩)] w (SKto b scr v (if Fits scr r then xs.set k (xs[k].at_ r) else xs) next (.int .i64 (if Fits scr r then 0 else 2)) w) := by
  have HFI := hid (sfits_any w b scr v xs next r h)
  unfold Rc.v at HFI
  have hp := hpB.cell 0 rfl
  have hpl := hpB.lt
  have HPB := hid hpB
  have HQB := hid hqB
  have hq0 := hqB.cell 0 rfl
  have hq1 := hqB.cell 1 rfl
  have hq2 := hqB.cell 2 rfl
  have hq3 := hqB.cell 3 rfl
  have hql := hqB.lt
  obtain ⟨g, c, rest, rfl, hV, hxc, hcm⟩ := h.row.vec (by omega)
  have HK := hid h
  have HV := hid hV
  have HC := hid (And.intro hxc hcm)
  by_cases hfit : Fits scr r
  · rw [if_pos hfit, if_pos hfit]
    have t1 : decide (Fits scr r) = true := decide_eq_true hfit
    rw [t1] at HFI
    clear h hV hxc hcm hpB hqB hfit t1
    go_enter Try.func65, Try.ntmps65
    go_wp2_with fail
    refine HFI.out.mono ?_
    rintro e' w1 ⟨rfl, hf1⟩
    have hK1 := HK.out.frd hf1
    have c4 := hK1.blk.cell 4 rfl
    have hlt := hK1.blk.lt
    have hV1 := HV.out.fr hf1 (fun h => h)
    obtain ⟨k0, k1, k2, k3, k4, k5, k6⟩ := WnV.cells hV1 k hk
    have f2 := WnV.frozen hV1 (k * 7 + 2)
    have f3 := WnV.frozen hV1 (k * 7 + 3)
    have f4 := WnV.frozen hV1 (k * 7 + 4)
    have f5 := WnV.frozen hV1 (k * 7 + 5)
    have hgl := WnV.lt hV1
    have p0 := (HPB.out.fr hf1 (fun h => h)).cell 0 rfl
    have p0l := (HPB.out.fr hf1 (fun h => h)).lt
    have hQ1 := HQB.out.fr hf1 (fun h => h)
    have z0 := hQ1.cell 0 rfl
    have z1 := hQ1.cell 1 rfl
    have z2 := hQ1.cell 2 rfl
    have z3 := hQ1.cell 3 rfl
    have zl := hQ1.lt
    have HK1 := hid hK1
    have HV1 := hid hV1
    have HF1 := hid hf1
    clear hK1 hV1 hQ1 hf1
    go_wp2_with fail
    refine wp_region_still_tail 8 (by kernel_rfl) (by kernel_rfl) ?_
    change wpStill _ _ (World.drew _) _ _ _
    simp only [List.take_succ_cons, List.take_zero, List.drop_succ_cons, List.drop_zero]
    iterate 8 still_step
    refine wpStill_nil ?_
    change wpList _ _ _ _ _ (World.drew _)
    go_wp2
    go_ret
    have hs := WnV.at_ HV1.out k hk r
    have hne : ¬ OwnB (.slice (some ⟨g, 0, none⟩) xs.length c) b := HK1.out.row.ne HK1.out.blk (by decide)
    have hS : SB b (.slice (some ⟨g, 0, none⟩) xs.length c) g := .inr rfl
    have hF := (((((HF1.out.mono (fun _ h => h.elim)).setCell (S := SB b (.slice (some ⟨g, 0, none⟩) xs.length c)) (p := ⟨g, k * 7 + 2, none⟩) (.inl hS) (.int .i64 r.x)).setCell (p := ⟨g, k * 7 + 3, none⟩) (.inl hS) (.int .i64 r.y)).setCell (p := ⟨g, k * 7 + 4, none⟩) (.inl hS) (.int .i64 r.w)).setCell (p := ⟨g, k * 7 + 5, none⟩) (.inl hS) (.int .i64 r.h)).drew
    have hbg : b ≠ g := fun e => hne (e ▸ rfl)
    have hB2 := ((((HK1.out.blk.other (p := ⟨g, k * 7 + 2, none⟩) hbg (.int .i64 r.x)).other (p := ⟨g, k * 7 + 3, none⟩) hbg (.int .i64 r.y)).other (p := ⟨g, k * 7 + 4, none⟩) hbg (.int .i64 r.w)).other (p := ⟨g, k * 7 + 5, none⟩) hbg (.int .i64 r.h)).drew
    exact ⟨rfl, _, ⟨hB2, .inr ⟨g, c, rest, by rw [List.length_set], hs.fr (Fr.drew (Fr.refl NoB _)) (fun h => h), by rw [List.length_set]; exact HC.out.1, HC.out.2⟩⟩, hF, fun j hj => .inl hj⟩
  · rw [if_neg hfit, if_neg hfit]
    have t1 : decide (Fits scr r) = false := decide_eq_false hfit
    rw [t1] at HFI
    clear h hV hxc hcm hpB hqB hfit t1
    go_enter Try.func65, Try.ntmps65
    go_wp2_with fail
    refine HFI.out.mono ?_
    rintro e' w1 ⟨rfl, hf1⟩
    have HF1 := hid hf1
    clear hf1
    go_wp2
    go_ret
    exact HK.out.same HF1.out _
theorem SKto.mk {b : Nat} {scr : Rc} {v : Value} {xs : List Wn} {next : Int} {r : Int} {w w' : World} (h : ∃ v', SK w' b scr v' xs next ∧ Fr (SB b v) w w' ∧ ∀ k, OwnB v' k → OwnB v k ∨ w.heap.size ≤ k) : SKto b scr v xs next (.int .i64 r) w (.returned (.int .i64 r)) w' := ⟨rfl, h⟩
/-- What is left when a window goes, is topmost, is hidden, is moved; and the error. -/
def dropX (xs : List Wn) (id : Int) : List Wn := if (getW xs id).isSome then outAt xs (idAt id xs).toNat else xs
def foundE (xs : List Wn) (id : Int) : Int := if (getW xs id).isSome then 0 else 5
def hideX (xs : List Wn) (id : Int) (hd : Bool) : List Wn := match getW xs id with | some t => xs.set (idAt id xs).toNat (t.hide hd) | none => xs
def moveX (scr : Rc) (xs : List Wn) (id : Int) (r : Rc) : List Wn := match getW xs id with | some t => if Fits scr r then xs.set (idAt id xs).toNat (t.at_ r) else xs | none => xs
def moveE (scr : Rc) (xs : List Wn) (id : Int) (r : Rc) : Int := if (getW xs id).isSome then (if Fits scr r then 0 else 2) else 5
set_option maxHeartbeats 4000000 in
theorem sDrop_any (w : World) (b : Nat) (scr : Rc) (v : Value) (xs : List Wn) (next id : Int) (h : SK w b scr v xs next) (hl : xs.length ≤ 256) :
    Calls Try.prog 37 #[.pointer (some ⟨b, 0, none⟩), .int .i64 id] w (SKto b scr v (dropX xs id) next (.int .i64 (foundE xs id)) w) := by
  have hf0 : Fr NoB w (w.alloc (.cells #[.pointer (some ⟨b, 0, none⟩)] 29)) := (Fr.refl _ _).alloc _
  have hW : Hid (Calls Try.prog 60 #[.pointer (some ⟨b, 0, none⟩), .int .i64 id, .func (.func 61) #[] #[.pointer (some ⟨w.heap.size, 0, none⟩)]] (w.alloc (.cells #[.pointer (some ⟨b, 0, none⟩)] 29)) fun e w' => e = .returned (.int .i64 (foundE xs id)) ∧ ∃ v', SK w' b scr v' (dropX xs id) next ∧ Fr (SB b v) w w' ∧ ∀ k, OwnB v' k → OwnB v k ∨ w.heap.size ≤ k) := by
    unfold foundE dropX
    cases hg : getW xs id with
    | none =>
      refine (swith_none _ b scr v xs next id _ _ (h.frd hf0) (by omega) hg).mono ?_
      rintro e' w1 ⟨rfl, hf1⟩
      exact ⟨rfl, v, h.frd (hf0.trans hf1), (hf0.trans hf1).mono (fun _ h => h.elim), fun k hk => .inl hk⟩
    | some t =>
      obtain ⟨k, hk, hi, hkt, hti⟩ := idAt_some hg
      rw [hi]
      refine swith_some _ b scr v xs next id _ _ (h.frd hf0) (by omega) k hi 0 _ (enters_of Try.func61 (by kernel_rfl) rfl) (fun W hW => ?_)
      have hW0 := hf0.trans hW
      refine (sDrop1_any W b w.heap.size scr v xs next (h.frd hW0) hl k hk ((Blk.new w 29 _).fr hW (fun h => h))).mono ?_
      intro e' w2 h2
      obtain ⟨he, v', h1, h3, h4⟩ := h2.from hW0
      exact ⟨he, v', h1, h3, h4⟩
  clear h hf0
  go_enter Try.func37, Try.ntmps37
  go_wp2_with fail
  refine hW.out.mono ?_
  rintro e' w1 ⟨rfl, hr⟩
  have HR := hid hr
  clear hr
  go_wp2
  go_ret
  exact SKto.mk HR.out
set_option maxHeartbeats 4000000 in
theorem sHide_any (w : World) (b : Nat) (scr : Rc) (v : Value) (xs : List Wn) (next id : Int) (hd : Bool) (h : SK w b scr v xs next) (hl : xs.length ≤ 256) :
    Calls Try.prog 40 #[.pointer (some ⟨b, 0, none⟩), .int .i64 id, .bool hd] w (SKto b scr v (hideX xs id hd) next (.int .i64 (foundE xs id)) w) := by
  have hf0 : Fr NoB w ((w.alloc (.cells #[.pointer (some ⟨b, 0, none⟩)] 29)).alloc (.cells #[.bool hd] 4)) := ((Fr.refl _ _).alloc _).alloc _
  have hW : Hid (Calls Try.prog 60 #[.pointer (some ⟨b, 0, none⟩), .int .i64 id, .func (.func 64) #[] #[.pointer (some ⟨w.heap.size + 1, 0, none⟩), .pointer (some ⟨w.heap.size, 0, none⟩)]] ((w.alloc (.cells #[.pointer (some ⟨b, 0, none⟩)] 29)).alloc (.cells #[.bool hd] 4)) fun e w' => e = .returned (.int .i64 (foundE xs id)) ∧ ∃ v', SK w' b scr v' (hideX xs id hd) next ∧ Fr (SB b v) w w' ∧ ∀ k, OwnB v' k → OwnB v k ∨ w.heap.size ≤ k) := by
    unfold foundE hideX
    cases hg : getW xs id with
    | none =>
      refine (swith_none _ b scr v xs next id _ _ (h.frd hf0) (by omega) hg).mono ?_
      rintro e' w1 ⟨rfl, hf1⟩
      exact ⟨rfl, v, h.frd (hf0.trans hf1), (hf0.trans hf1).mono (fun _ h => h.elim), fun k hk => .inl hk⟩
    | some t =>
      obtain ⟨k, hk, hi, hkt, hti⟩ := idAt_some hg
      rw [hi]
      refine swith_some _ b scr v xs next id _ _ (h.frd hf0) (by omega) k hi 0 _ (enters_of Try.func64 (by kernel_rfl) rfl) (fun W hW => ?_)
      have hW0 := hf0.trans hW
      have b1 := ((Blk.new w 29 [.pointer (some ⟨b, 0, none⟩)]).alloc (.cells #[.bool hd] 4)).fr hW (fun h => h)
      have b2 := (Blk.new (w.alloc (.cells #[.pointer (some ⟨b, 0, none⟩)] 29)) 4 [.bool hd]).fr hW (fun h => h)
      rw [World.size_alloc] at b2
      refine (sHide1_any W b w.heap.size (w.heap.size + 1) scr v xs next hd (h.frd hW0) k hk b1 b2).mono ?_
      intro e' w2 h2
      obtain ⟨he, v', h1, h3, h4⟩ := h2.from hW0
      rw [hkt] at h1
      exact ⟨he, v', h1, h3, h4⟩
  clear h hf0
  go_enter Try.func40, Try.ntmps40
  go_wp2_with fail
  refine hW.out.mono ?_
  rintro e' w1 ⟨rfl, hr⟩
  have HR := hid hr
  clear hr
  go_wp2
  go_ret
  exact SKto.mk HR.out
set_option maxHeartbeats 4000000 in
theorem sMove_any (w : World) (b : Nat) (scr : Rc) (v : Value) (xs : List Wn) (next id : Int) (r : Rc) (h : SK w b scr v xs next) (hl : xs.length ≤ 256) :
    Calls Try.prog 41 #[.pointer (some ⟨b, 0, none⟩), .int .i64 id, r.v] w (SKto b scr v (moveX scr xs id r) next (.int .i64 (moveE scr xs id r)) w) := by
  have hf0 : Fr NoB w ((w.alloc (.cells #[.pointer (some ⟨b, 0, none⟩)] 29)).alloc (.cells #[.int .i64 r.x, .int .i64 r.y, .int .i64 r.w, .int .i64 r.h] 23)) := ((Fr.refl _ _).alloc _).alloc _
  have hW : Hid (Calls Try.prog 60 #[.pointer (some ⟨b, 0, none⟩), .int .i64 id, .func (.func 65) #[] #[.pointer (some ⟨w.heap.size, 0, none⟩), .pointer (some ⟨w.heap.size + 1, 0, none⟩)]] ((w.alloc (.cells #[.pointer (some ⟨b, 0, none⟩)] 29)).alloc (.cells #[.int .i64 r.x, .int .i64 r.y, .int .i64 r.w, .int .i64 r.h] 23)) fun e w' => e = .returned (.int .i64 (moveE scr xs id r)) ∧ ∃ v', SK w' b scr v' (moveX scr xs id r) next ∧ Fr (SB b v) w w' ∧ ∀ k, OwnB v' k → OwnB v k ∨ w.heap.size ≤ k) := by
    unfold moveE moveX
    cases hg : getW xs id with
    | none =>
      refine (swith_none _ b scr v xs next id _ _ (h.frd hf0) (by omega) hg).mono ?_
      rintro e' w1 ⟨rfl, hf1⟩
      exact ⟨rfl, v, h.frd (hf0.trans hf1), (hf0.trans hf1).mono (fun _ h => h.elim), fun k hk => .inl hk⟩
    | some t =>
      obtain ⟨k, hk, hi, hkt, hti⟩ := idAt_some hg
      rw [hi]
      refine swith_some _ b scr v xs next id _ _ (h.frd hf0) (by omega) k hi _ _ (enters_of Try.func65 (by kernel_rfl) rfl) (fun W hW => ?_)
      have hW0 := hf0.trans hW
      have b1 := ((Blk.new w 29 [.pointer (some ⟨b, 0, none⟩)]).alloc (.cells #[.int .i64 r.x, .int .i64 r.y, .int .i64 r.w, .int .i64 r.h] 23)).fr hW (fun h => h)
      have b2 := (Blk.new (w.alloc (.cells #[.pointer (some ⟨b, 0, none⟩)] 29)) 23 r.cells).fr hW (fun h => h)
      rw [World.size_alloc] at b2
      refine (sMove1_any W b w.heap.size (w.heap.size + 1) scr v xs next r (h.frd hW0) k hk b1 b2).mono ?_
      intro e' w2 h2
      obtain ⟨he, v', h1, h3, h4⟩ := h2.from hW0
      rw [hkt] at h1
      exact ⟨he, v', h1, h3, h4⟩
  clear h hf0
  unfold Rc.v
  go_enter Try.func41, Try.ntmps41
  go_wp2_with fail
  refine hW.out.mono ?_
  rintro e' w1 ⟨rfl, hr⟩
  have HR := hid hr
  clear hr
  go_wp2
  go_ret
  exact SKto.mk HR.out
end Go.Proofs.Ytnengimekcnfhaa
set_option linter.unusedSimpArgs false
set_option linter.unusedVariables false
set_option maxRecDepth 20000
namespace Go.Proofs.Ytnengimekcnfhaa
open Go.RowKit Go.Proofs.YtnengimekcnfhaaW.PrintWords
def topX (xs : List Wn) (id : Int) : List Wn := match getW xs id with | some t => t :: outAt xs (idAt id xs).toNat | none => xs
theorem w_ins0 (w : World) (v : Value) (xs : List Wn) (t : Wn) (bt : Nat) (hV : WnS w v xs) (hl : xs.length + 1 ≤ 4096) (hb : Blk w bt 73 t.cells) (hne : ¬ OwnB v bt) :
    Calls Try.prog 27 #[v, .int .i64 0, .slice (some ⟨bt, 0, none⟩) 1 1] w (WnTo v (t :: xs) w) := by
  have h := w_ins_any w v xs 0 t bt hV (Nat.zero_le _) hl hb hne
  rw [List.take_zero, List.nil_append, List.drop_zero] at h
  exact h
theorem blk_ty {w : World} {b : Nat} {T T2 : TypeId} {l l2 : List Value} (h1 : Blk w b T l) (h2 : Blk w b T2 l2) : T = T2 := by
  unfold Blk at h1 h2
  rw [h1] at h2
  injection h2 with h2
  injection h2
/-- A stack on the way: its row is v5 with windows ys, not yet stored. -/
structure TopS (w W : World) (b p x : Nat) (scr : Rc) (v : Value) (next : Int) (t : Wn) (ys : List Wn) (v5 : Value) (n : Nat) : Prop where
  pb : Blk W p 29 [.pointer (some ⟨b, 0, none⟩)]
  bb : Blk W b 70 [.int .i64 scr.x, .int .i64 scr.y, .int .i64 scr.w, .int .i64 scr.h, v, .int .i64 next]
  bx : Blk W x 73 t.cells
  row : WnS W v5 ys
  fr : Fr (SB b v) w W
  own : ∀ j, OwnB v5 j → OwnB v j ∨ n ≤ j
section
variable {w W W' : World} {b p x : Nat} {scr : Rc} {v : Value} {next : Int} {t : Wn} {ys : List Wn} {v5 : Value} {n : Nat}
theorem TopS.frd (h : TopS w W b p x scr v next t ys v5 n) (hf : Fr NoB W W') : TopS w W' b p x scr v next t ys v5 n :=
  ⟨h.pb.fr hf (fun h => h), h.bb.fr hf (fun h => h), h.bx.fr hf (fun h => h), h.row.fr hf (fun _ _ h => h), h.fr.trans (hf.mono (fun _ h => h.elim)), h.own⟩
theorem TopS.keep (h : TopS w W b p x scr v next t ys v5 n) : W.cell? ⟨p, 0, none⟩ = some (.pointer (some ⟨b, 0, none⟩)) ∧ W.cell? ⟨b, 4, none⟩ = some v ∧ W.cell? ⟨x, 0, none⟩ = some (.int .i64 t.id) ∧ W.cell? ⟨x, 1, none⟩ = some (.int .i64 t.env) ∧ W.cell? ⟨x, 2, none⟩ = some (.int .i64 t.x) ∧ W.cell? ⟨x, 3, none⟩ = some (.int .i64 t.y) ∧ W.cell? ⟨x, 4, none⟩ = some (.int .i64 t.w) ∧ W.cell? ⟨x, 5, none⟩ = some (.int .i64 t.h) ∧ W.cell? ⟨x, 6, none⟩ = some (.bool t.hid) :=
  ⟨h.pb.cell 0 rfl, h.bb.cell 4 rfl, h.bx.cell 0 rfl, h.bx.cell 1 rfl, h.bx.cell 2 rfl, h.bx.cell 3 rfl, h.bx.cell 4 rfl, h.bx.cell 5 rfl, h.bx.cell 6 rfl⟩
theorem TopS.keep2 (h : TopS w W b p x scr v next t ys v5 n) : W.cell? ⟨p, 0, none⟩ = some (.pointer (some ⟨b, 0, none⟩)) ∧ W.cell? ⟨x, 0, none⟩ = some (.int .i64 t.id) ∧ W.cell? ⟨x, 1, none⟩ = some (.int .i64 t.env) ∧ W.cell? ⟨x, 2, none⟩ = some (.int .i64 t.x) ∧ W.cell? ⟨x, 3, none⟩ = some (.int .i64 t.y) ∧ W.cell? ⟨x, 4, none⟩ = some (.int .i64 t.w) ∧ W.cell? ⟨x, 5, none⟩ = some (.int .i64 t.h) ∧ W.cell? ⟨x, 6, none⟩ = some (.bool t.hid) := ⟨h.keep.1, h.keep.2.2⟩
theorem TopS.keep3 (h : TopS w W b p x scr v next t ys v5 n) (u : Value) : (W.setCell ⟨b, 4, none⟩ u).cell? ⟨p, 0, none⟩ = some (.pointer (some ⟨b, 0, none⟩)) ∧ (W.setCell ⟨b, 4, none⟩ u).cell? ⟨x, 0, none⟩ = some (.int .i64 t.id) ∧ (W.setCell ⟨b, 4, none⟩ u).cell? ⟨x, 1, none⟩ = some (.int .i64 t.env) ∧ (W.setCell ⟨b, 4, none⟩ u).cell? ⟨x, 2, none⟩ = some (.int .i64 t.x) ∧ (W.setCell ⟨b, 4, none⟩ u).cell? ⟨x, 3, none⟩ = some (.int .i64 t.y) ∧ (W.setCell ⟨b, 4, none⟩ u).cell? ⟨x, 4, none⟩ = some (.int .i64 t.w) ∧ (W.setCell ⟨b, 4, none⟩ u).cell? ⟨x, 5, none⟩ = some (.int .i64 t.h) ∧ (W.setCell ⟨b, 4, none⟩ u).cell? ⟨x, 6, none⟩ = some (.bool t.hid) := by
  have h1 : p ≠ b := fun e => absurd (blk_ty (e ▸ h.pb) h.bb) (by decide)
  have h2 : x ≠ b := fun e => absurd (blk_ty (e ▸ h.bx) h.bb) (by decide)
  have b1 := h.pb.other (p := ⟨b, 4, none⟩) h1 u
  have b2 := h.bx.other (p := ⟨b, 4, none⟩) h2 u
  exact ⟨b1.cell 0 rfl, b2.cell 0 rfl, b2.cell 1 rfl, b2.cell 2 rfl, b2.cell 3 rfl, b2.cell 4 rfl, b2.cell 5 rfl, b2.cell 6 rfl⟩
end
theorem topDel {w W : World} {b p x g c k : Nat} {scr : Rc} {next : Int} {t : Wn} {xs : List Wn} {rest : List Value} (hV : WnV W g xs rest c) (hxc : xs.length ≤ c) (hcm : c ≤ maxLen) (hk : k < xs.length) (hl : xs.length ≤ 256)
    (h : TopS w W b p x scr (.slice (some ⟨g, 0, none⟩) xs.length c) next t xs (.slice (some ⟨g, 0, none⟩) xs.length c) W.heap.size) (hxg : x ≠ g) :
    Calls Try.prog 62 #[.slice (some ⟨g, 0, none⟩) xs.length c, .int .i64 k, .int .i64 ((k : Int) + 1)] W fun e w5 => ∃ v5, e = .returned v5 ∧ TopS w w5 b p x scr (.slice (some ⟨g, 0, none⟩) xs.length c) next t (outAt xs k) v5 W.heap.size ∧ Fr (OwnB (.slice (some ⟨g, 0, none⟩) xs.length c)) W w5 := by
  have hd := w_del1_any W g c xs rest k hV hxc hcm hk (by omega) (k + 1) rfl
  rw [show ((k + 1 : Nat) : Int) = (k : Int) + 1 from by omega] at hd
  refine hd.mono ?_
  rintro e' w5 ⟨v5, rfl, hV5, hf5, ho5⟩
  exact ⟨v5, rfl, ⟨h.pb.fr hf5 (h.row.ne h.pb (by decide)), h.bb.fr hf5 (h.row.ne h.bb (by decide)), h.bx.fr hf5 (fun e => hxg (Option.some.inj e).symm), hV5, h.fr.then_ hf5 (fun j hj => .inl (.inr hj)), ho5⟩, hf5⟩
theorem topIns {w W : World} {b p x : Nat} {scr : Rc} {v : Value} {next : Int} {t : Wn} {ys : List Wn} {v5 : Value} {n bt : Nat} (h : TopS w W b p x scr v next t ys v5 n) (hl : ys.length + 1 ≤ 4096) (hb : Blk W bt 73 t.cells) (hne : ¬ OwnB v5 bt) (hxv : ¬ OwnB v5 x) (hn : w.heap.size ≤ n) :
    Calls Try.prog 27 #[v5, .int .i64 0, .slice (some ⟨bt, 0, none⟩) 1 1] W fun e w6 => ∃ v6, e = .returned v6 ∧ TopS w w6 b p x scr v next t (t :: ys) v6 w.heap.size := by
  refine (w_ins0 W v5 ys t bt h.row hl hb hne).mono ?_
  rintro e' w6 ⟨v6, rfl, hV6, hf6, ho6⟩
  refine ⟨v6, rfl, h.pb.fr hf6 (h.row.ne h.pb (by decide)), h.bb.fr hf6 (h.row.ne h.bb (by decide)), h.bx.fr hf6 hxv, hV6, h.fr.then_ hf6 (fun j hj => ?_), fun j hj => ?_⟩
  · rcases h.own j hj with h1 | h1
    · exact .inl (.inr h1)
    · exact .inr (Nat.le_trans hn h1)
  · rcases ho6 j hj with h1 | h1
    · exact (h.own j h1).imp id (Nat.le_trans hn)
    · exact .inr (Nat.le_trans h.fr.size h1)
theorem topEnd {w w6 : World} {b p x : Nat} {scr : Rc} {v : Value} {next : Int} {t : Wn} {ys : List Wn} {v6 u : Value} (h : TopS w w6 b p x scr v next t ys v6 w.heap.size) (hu : v6 = u) : SKto b scr v ys next (.int .i64 0) w (.returned (.int .i64 0)) (w6.setCell ⟨b, 4, none⟩ u) := by
  subst hu
  exact ⟨rfl, v6, ⟨h.bb.set 4 v6, h.row.fr ((Fr.refl (At b) w6).setAt 4 _) (fun j hj he => h.row.ne h.bb (by decide) (by have he' : j = b := he; subst he'; exact hj))⟩, h.fr.setCell (p := ⟨b, 4, none⟩) (.inl (.inl rfl)) _, h.own⟩
set_option maxHeartbeats 8000000 in
theorem sTop1_any (w : World) (b p : Nat) (scr : Rc) (v : Value) (xs : List Wn) (next : Int) (h : SK w b scr v xs next) (hl : xs.length ≤ 256) (k : Nat) (hk : k < xs.length) (hpB : Blk w p 29 [.pointer (some ⟨b, 0, none⟩)]) :
    Calls Try.prog 63 #[.int .i64 k, .pointer (some ⟨p, 0, none⟩)] w (SKto b scr v (xs[k] :: outAt xs k) next (.int .i64 0) w) := by
  obtain ⟨g, c, rest, rfl, hV, hxc, hcm⟩ := h.row.vec (by omega)
  have c4 := h.blk.cell 4 rfl
  have hlt := h.blk.lt
  have hp := hpB.cell 0 rfl
  have hpl := hpB.lt
  obtain ⟨k0, k1, k2, k3, k4, k5, k6⟩ := WnV.cells hV k hk
  have hgl := WnV.lt hV
  have hw : IntKind.i64.wrap ((k : Int) + 1) = (k : Int) + 1 := IntWalk.i64_in _ (by omega)
  have hln : (outAt xs k).length + 1 ≤ 4096 := by unfold outAt; rw [List.length_append, List.length_take, List.length_drop]; omega
  have HLN := hid hln
  have hkc : k < c := by omega
  generalize ht : xs[k] = t at *
  have hF0 : Fr NoB w (w.alloc (.cells #[.int .i64 t.id, .int .i64 t.env, .int .i64 t.x, .int .i64 t.y, .int .i64 t.w, .int .i64 t.h, .bool t.hid] 73)).drew := ((Fr.refl NoB w).alloc _).drew
  have hT0 : TopS w (w.alloc (.cells #[.int .i64 t.id, .int .i64 t.env, .int .i64 t.x, .int .i64 t.y, .int .i64 t.w, .int .i64 t.h, .bool t.hid] 73)).drew b p w.heap.size scr (.slice (some ⟨g, 0, none⟩) xs.length c) next t xs (.slice (some ⟨g, 0, none⟩) xs.length c) 0 :=
    ⟨hpB.fr hF0 (fun h => h), h.blk.fr hF0 (fun h => h), (Blk.new w 73 t.cells).drew, h.row.fr hF0 (fun _ _ h => h), hF0.mono (fun _ h => h.elim), fun j _ => .inr (Nat.zero_le j)⟩
  have HT0 := hid hT0
  have HV := hid (Vec.fr hV hF0 (fun h => h))
  have hne : w.heap.size ≠ g := by omega
  have HNE := hid hne
  have HDel : Hid (∀ W n, W.heap.size = n → Fr NoB (w.alloc (.cells #[.int .i64 t.id, .int .i64 t.env, .int .i64 t.x, .int .i64 t.y, .int .i64 t.w, .int .i64 t.h, .bool t.hid] 73)).drew W → Calls Try.prog 62 #[.slice (some ⟨g, 0, none⟩) xs.length c, .int .i64 k, .int .i64 ((k : Int) + 1)] W fun e w5 => ∃ v5, e = .returned v5 ∧ TopS w w5 b p w.heap.size scr (.slice (some ⟨g, 0, none⟩) xs.length c) next t (outAt xs k) v5 n ∧ Fr (OwnB (.slice (some ⟨g, 0, none⟩) xs.length c)) W w5) :=
    hid fun W n hn hW => hn ▸ topDel (Vec.fr HV.out hW (fun h => h)) hxc hcm hk hl ⟨(HT0.out.frd hW).pb, (HT0.out.frd hW).bb, (HT0.out.frd hW).bx, (HT0.out.frd hW).row, (HT0.out.frd hW).fr, fun j hj => .inl hj⟩ HNE.out
  have HFq := hid (Fr.refl NoB (w.alloc (.cells #[.int .i64 t.id, .int .i64 t.env, .int .i64 t.x, .int .i64 t.y, .int .i64 t.w, .int .i64 t.h, .bool t.hid] 73)).drew)
  -- the block that is built ahead of the call, or behind it
  have HInsA : Hid (∀ w5 v5, TopS w w5 b p w.heap.size scr (.slice (some ⟨g, 0, none⟩) xs.length c) next t (outAt xs k) v5 (w.heap.size + 1) → Calls Try.prog 27 #[v5, .int .i64 0, .slice (some ⟨w5.heap.size, 0, none⟩) 1 1] (w5.alloc (.cells #[.int .i64 t.id, .int .i64 t.env, .int .i64 t.x, .int .i64 t.y, .int .i64 t.w, .int .i64 t.h, .bool t.hid] 73)) fun e w6 => ∃ v6, e = .returned v6 ∧ TopS w w6 b p w.heap.size scr (.slice (some ⟨g, 0, none⟩) xs.length c) next t (t :: outAt xs k) v6 w.heap.size) :=
    hid fun w5 v5 hT => topIns (hT.frd ((Fr.refl _ _).alloc _)) HLN.out (Blk.new w5 73 t.cells) (fun hk => by have := hT.row.lt _ hk; omega) (fun hk => by rcases hT.own _ hk with h1 | h1; exact HNE.out (Option.some.inj h1).symm; omega) (by omega)
  have HInsB : Hid (∀ w5 v5, Blk w5 (w.heap.size + 1) 73 t.cells → TopS w w5 b p w.heap.size scr (.slice (some ⟨g, 0, none⟩) xs.length c) next t (outAt xs k) v5 (w.heap.size + 1 + 1) → Calls Try.prog 27 #[v5, .int .i64 0, .slice (some ⟨w.heap.size + 1, 0, none⟩) 1 1] w5 fun e w6 => ∃ v6, e = .returned v6 ∧ TopS w w6 b p w.heap.size scr (.slice (some ⟨g, 0, none⟩) xs.length c) next t (t :: outAt xs k) v6 w.heap.size) :=
    hid fun w5 v5 hb hT => topIns hT HLN.out hb (fun hk => by rcases hT.own _ hk with h1 | h1; have e : g = w.heap.size + 1 := Option.some.inj h1; omega; omega) (fun hk => by rcases hT.own _ hk with h1 | h1; exact HNE.out (Option.some.inj h1).symm; omega) (by omega)
  have hNT : Hid (¬ OwnB (.slice (some ⟨g, 0, none⟩) xs.length c) (w.heap.size + 1)) := fun h => by have e : g = w.heap.size + 1 := Option.some.inj h; omega
  have hBT := Blk.new (w.alloc (.cells #[.int .i64 t.id, .int .i64 t.env, .int .i64 t.x, .int .i64 t.y, .int .i64 t.w, .int .i64 t.h, .bool t.hid] 73)).drew 73 t.cells
  rw [show (w.alloc (.cells #[.int .i64 t.id, .int .i64 t.env, .int .i64 t.x, .int .i64 t.y, .int .i64 t.w, .int .i64 t.h, .bool t.hid] 73)).drew.heap.size = w.heap.size + 1 from by simp] at hBT
  have HBT := hid hBT
  clear h hV hxc hcm hpB hln hT0 hF0 hne ht hBT
  go_enter Try.func63, Try.ntmps63
  go_wp2_with fail
  clear k0 k1 k2 k3 k4 k5 k6 hp
  refine wp_region_held_drew (S := (fun W : World => W.cell? ⟨p, 0, none⟩ = some (.pointer (some ⟨b, 0, none⟩)) ∧ W.cell? ⟨w.heap.size, 0, none⟩ = some (.int .i64 t.id) ∧ W.cell? ⟨w.heap.size, 1, none⟩ = some (.int .i64 t.env) ∧ W.cell? ⟨w.heap.size, 2, none⟩ = some (.int .i64 t.x) ∧ W.cell? ⟨w.heap.size, 3, none⟩ = some (.int .i64 t.y) ∧ W.cell? ⟨w.heap.size, 4, none⟩ = some (.int .i64 t.w) ∧ W.cell? ⟨w.heap.size, 5, none⟩ = some (.int .i64 t.h) ∧ W.cell? ⟨w.heap.size, 6, none⟩ = some (.bool t.hid))) (by kernel_rfl) (HT0.out.keep2) (fun hHeld => ?_)
  refine wpAnyH_take (i := 0) (oi := { dst := some 12, op := Op.load 29 (Operand.tmp 1), type := 29, pos := "stack.go:75", after := #[], guard := none }) (v := ?v1) rfl (by kernel_rfl) (by kernel_rfl) (by kernel_rfl) (fun _ _ _ h => h) (Or.inl ⟨by rfl, ?hy1⟩) (by assumption) ?r1
  case hy1 => (intro w hSw; (try dsimp only at hSw); go_simp; try (with_reducible rfl))
  try simp only [Act.put, List.setIfInBounds_toArray, List.set_cons_zero, List.set_cons_succ]
  refine wpAnyH_take (i := 1) (oi := { dst := some 13, op := Op.load 29 (Operand.tmp 1), type := 29, pos := "stack.go:75", after := #[], guard := none }) (v := ?v2) rfl (by kernel_rfl) (by kernel_rfl) (by kernel_rfl) (fun _ _ _ h => h) (Or.inl ⟨by rfl, ?hy2⟩) (by assumption) ?r2
  case hy2 => (intro w hSw; (try dsimp only at hSw); go_simp; try (with_reducible rfl))
  try simp only [Act.put, List.setIfInBounds_toArray, List.set_cons_zero, List.set_cons_succ]
  refine wpAnyH_take (i := 2) (oi := { dst := some 14, op := Op.nilCheck (Operand.tmp 13), type := 0, pos := "stack.go:75", after := #[{ on := 1, ground := Ground.data }], guard := none }) (v := ?v3) rfl (by kernel_rfl) (by kernel_rfl) (by kernel_rfl) (fun _ _ _ h => h) (Or.inl ⟨by rfl, ?hy3⟩) (by assumption) ?r3
  case hy3 => (intro w hSw; (try dsimp only at hSw); go_simp; try (with_reducible rfl))
  try simp only [Act.put, List.setIfInBounds_toArray, List.set_cons_zero, List.set_cons_succ]
  refine wpAnyH_take (i := 3) (oi := { dst := some 15, op := Op.fieldAddr 70 (Operand.tmp 14) 1, type := 0, pos := "stack.go:75", after := #[{ on := 2, ground := Ground.data }], guard := none }) (v := ?v4) rfl (by kernel_rfl) (by kernel_rfl) (by kernel_rfl) (fun _ _ _ h => h) (Or.inl ⟨by rfl, ?hy4⟩) (by assumption) ?r4
  case hy4 => (intro w hSw; (try dsimp only at hSw); go_simp; try (with_reducible rfl))
  try simp only [Act.put, List.setIfInBounds_toArray, List.set_cons_zero, List.set_cons_succ]
  refine wpAnyH_take (i := 5) (oi := { dst := some 17, op := Op.move (Operand.tmp 0), type := 3, pos := "stack.go:75", after := #[], guard := none }) (v := ?v5) rfl (by kernel_rfl) (by kernel_rfl) (by kernel_rfl) (fun _ _ _ h => h) (Or.inl ⟨by rfl, ?hy5⟩) (by assumption) ?r5
  case hy5 => (intro w hSw; (try dsimp only at hSw); go_simp; try (with_reducible rfl))
  try simp only [Act.put, List.setIfInBounds_toArray, List.set_cons_zero, List.set_cons_succ]
  refine wpAnyH_take (i := 6) (oi := { dst := some 18, op := Op.move (Operand.tmp 0), type := 3, pos := "stack.go:75", after := #[], guard := none }) (v := ?v6) rfl (by kernel_rfl) (by kernel_rfl) (by kernel_rfl) (fun _ _ _ h => h) (Or.inl ⟨by rfl, ?hy6⟩) (by assumption) ?r6
  case hy6 => (intro w hSw; (try dsimp only at hSw); go_simp; try (with_reducible rfl))
  try simp only [Act.put, List.setIfInBounds_toArray, List.set_cons_zero, List.set_cons_succ]
  refine wpAnyH_take (i := 7) (oi := { dst := some 19, op := Op.binOp BinOp.add 3 (Operand.tmp 18) (Operand.const (Value.int IntKind.i64 1)) 3, type := 3, pos := "stack.go:75", after := #[{ on := 6, ground := Ground.data }], guard := none }) (v := ?v7) rfl (by kernel_rfl) (by kernel_rfl) (by kernel_rfl) (fun _ _ _ h => h) (Or.inl ⟨by rfl, ?hy7⟩) (by assumption) ?r7
  case hy7 => (intro w hSw; (try dsimp only at hSw); go_simp; try (with_reducible rfl))
  try simp only [Act.put, List.setIfInBounds_toArray, List.set_cons_zero, List.set_cons_succ]
  refine wpAnyH_take (i := 9) (oi := { dst := some 21, op := Op.load 73 (Operand.tmp 4), type := 73, pos := "stack.go:75", after := #[], guard := none }) (v := ?v8) rfl (by kernel_rfl) (by kernel_rfl) (by kernel_rfl) (fun _ _ _ h => h) (Or.inl ⟨by rfl, ?hy8⟩) (by assumption) ?r8
  case hy8 => (intro w hSw; (try dsimp only at hSw); go_simp; try (with_reducible rfl))
  try simp only [Act.put, List.setIfInBounds_toArray, List.set_cons_zero, List.set_cons_succ]
  refine wpAnyH_ready (rs := [4, 10]) (by kernel_rfl) (by simp) ?_
  refine AllReadyH.cons (o := { dst := some 16, op := Op.load 48 (Operand.tmp 15), type := 48, pos := "stack.go:75", after := #[{ on := 3, ground := Ground.data }], guard := none }) rfl (fun K hK => ?_) ?_
  · go_simp
    refine hK.out _ _ (by first | exact HT6.out.keep3 _ | exact HT6.out.keep2 | exact HT5.out.keep2 | exact (HT5.out.frd ((Fr.refl _ _).alloc _)).keep2 | exact HT0.out.keep2 | exact (HT0.out.frd ((Fr.refl _ _).alloc _)).keep2) (fun hHeld => ?_)
    clear hK K
    try simp only [Act.put, List.setIfInBounds_toArray, List.set_cons_zero, List.set_cons_succ]
    refine wpAnyH_ready (rs := [8, 10]) (by kernel_rfl) (by simp) ?_
    refine AllReadyH.cons (o := { dst := some 20, op := Op.call { callee := Callee.value (Operand.func 62), args := #[Operand.tmp 16, Operand.tmp 17, Operand.tmp 19], argTypes := #[48, 3, 3] }, type := 48, pos := "stack.go:75", after := #[{ on := 4, ground := Ground.data }, { on := 5, ground := Ground.data }, { on := 7, ground := Ground.data }], guard := none }) rfl (fun K hK => ?_) ?_
    · go_simp
      first
        | (refine (HDel.out _ (w.heap.size + 1) (by simp) HFq.out).mono ?_; rintro e' w5 ⟨v5, rfl, hT5, hf5⟩; have HT5 := hid hT5; have HI := hid (HInsA.out w5 v5 hT5); clear hT5 hf5)
        | (refine (HDel.out _ (w.heap.size + 1 + 1) (by simp) (HFq.out.alloc _)).mono ?_; rintro e' w5 ⟨v5, rfl, hT5, hf5⟩; have HT5 := hid hT5; have HI := hid (HInsB.out w5 v5 (HBT.out.fr hf5 hNT.out) hT5); clear hT5 hf5)
      go_wp2_with fail
      refine hK.out _ _ (by first | exact HT6.out.keep3 _ | exact HT6.out.keep2 | exact HT5.out.keep2 | exact (HT5.out.frd ((Fr.refl _ _).alloc _)).keep2 | exact HT0.out.keep2 | exact (HT0.out.frd ((Fr.refl _ _).alloc _)).keep2) (fun hHeld => ?_)
      clear hK K
      try simp only [Act.put, List.setIfInBounds_toArray, List.set_cons_zero, List.set_cons_succ]
      refine wpAnyH_ready (rs := [10]) (by kernel_rfl) (by simp) ?_
      refine AllReadyH.cons (o := { dst := some 22, op := Op.buildSlice 48 1 #[(0, Operand.tmp 21)], type := 48, pos := "stack.go:75", after := #[{ on := 9, ground := Ground.data }], guard := none }) rfl (fun K hK => ?_) AllReadyH.nil
      go_simp
      refine hK.out _ _ (by first | exact HT6.out.keep3 _ | exact HT6.out.keep2 | exact HT5.out.keep2 | exact (HT5.out.frd ((Fr.refl _ _).alloc _)).keep2 | exact HT0.out.keep2 | exact (HT0.out.frd ((Fr.refl _ _).alloc _)).keep2) (fun hHeld => ?_)
      clear hK K
      try simp only [Act.put, List.setIfInBounds_toArray, List.set_cons_zero, List.set_cons_succ]
      refine wpAnyH_ready (rs := [11]) (by kernel_rfl) (by simp) ?_
      refine AllReadyH.cons (o := { dst := some 23, op := Op.call { callee := Callee.value (Operand.func 27), args := #[Operand.tmp 20, Operand.const (Value.int IntKind.i64 0), Operand.tmp 22], argTypes := #[48, 3, 48] }, type := 48, pos := "stack.go:75", after := #[{ on := 8, ground := Ground.data }, { on := 10, ground := Ground.data }, { on := 8, ground := Ground.chain }], guard := none }) rfl (fun K hK => ?_) AllReadyH.nil
      go_simp
      refine HI.out.mono ?_
      rintro e' w6 ⟨v6, rfl, hT6⟩
      have HT6 := hid hT6
      have y6 := hT6.bb.frozen 4
      have y7 := hT6.bb.cell 4 rfl
      have y8 := hT6.bb.lt
      obtain ⟨A6, c6, hv6, _, _⟩ := hT6.row.shape
      rw [hv6]
      have HV6 := hid hv6
      clear hT6 hv6
      go_wp2_with fail
      refine hK.out _ _ (by first | exact HT6.out.keep3 _ | exact HT6.out.keep2 | exact HT5.out.keep2 | exact (HT5.out.frd ((Fr.refl _ _).alloc _)).keep2 | exact HT0.out.keep2 | exact (HT0.out.frd ((Fr.refl _ _).alloc _)).keep2) (fun hHeld => ?_)
      clear hK K
      try simp only [Act.put, List.setIfInBounds_toArray, List.set_cons_zero, List.set_cons_succ]
      refine wpAnyH_take (i := 12) (oi := { dst := some 24, op := Op.nilCheck (Operand.tmp 12), type := 0, pos := "stack.go:75", after := #[{ on := 0, ground := Ground.data }, { on := 0, ground := Ground.phase }, { on := 1, ground := Ground.phase }, { on := 2, ground := Ground.phase }, { on := 3, ground := Ground.phase }, { on := 4, ground := Ground.phase }, { on := 5, ground := Ground.phase }, { on := 6, ground := Ground.phase }, { on := 7, ground := Ground.phase }, { on := 8, ground := Ground.phase }, { on := 9, ground := Ground.phase }, { on := 10, ground := Ground.phase }, { on := 11, ground := Ground.phase }], guard := none }) (v := ?v9) rfl (by kernel_rfl) (by kernel_rfl) (by kernel_rfl) (fun _ _ _ h => h) (Or.inl ⟨by rfl, ?hy9⟩) (by assumption) ?r9
      case hy9 => (intro w hSw; (try dsimp only at hSw); go_simp; try (with_reducible rfl))
      try simp only [Act.put, List.setIfInBounds_toArray, List.set_cons_zero, List.set_cons_succ]
      refine wpAnyH_take (i := 13) (oi := { dst := some 25, op := Op.fieldAddr 70 (Operand.tmp 24) 1, type := 0, pos := "stack.go:75", after := #[{ on := 12, ground := Ground.data }, { on := 0, ground := Ground.phase }, { on := 1, ground := Ground.phase }, { on := 2, ground := Ground.phase }, { on := 3, ground := Ground.phase }, { on := 4, ground := Ground.phase }, { on := 5, ground := Ground.phase }, { on := 6, ground := Ground.phase }, { on := 7, ground := Ground.phase }, { on := 8, ground := Ground.phase }, { on := 9, ground := Ground.phase }, { on := 10, ground := Ground.phase }, { on := 11, ground := Ground.phase }], guard := none }) (v := ?v10) rfl (by kernel_rfl) (by kernel_rfl) (by kernel_rfl) (fun _ _ _ h => h) (Or.inl ⟨by rfl, ?hy10⟩) (by assumption) ?r10
      case hy10 => (intro w hSw; (try dsimp only at hSw); go_simp; try (with_reducible rfl))
      try simp only [Act.put, List.setIfInBounds_toArray, List.set_cons_zero, List.set_cons_succ]
      refine wpAnyH_ready (rs := [14]) (by kernel_rfl) (by simp) ?_
      refine AllReadyH.cons (o := { dst := none, op := Op.store 48 (Operand.tmp 25) (Operand.tmp 23), type := 0, pos := "stack.go:75", after := #[{ on := 13, ground := Ground.data }, { on := 11, ground := Ground.data }, { on := 11, ground := Ground.chain }, { on := 0, ground := Ground.phase }, { on := 1, ground := Ground.phase }, { on := 2, ground := Ground.phase }, { on := 3, ground := Ground.phase }, { on := 4, ground := Ground.phase }, { on := 5, ground := Ground.phase }, { on := 6, ground := Ground.phase }, { on := 7, ground := Ground.phase }, { on := 8, ground := Ground.phase }, { on := 9, ground := Ground.phase }, { on := 10, ground := Ground.phase }, { on := 11, ground := Ground.phase }], guard := none }) rfl (fun K hK => ?_) AllReadyH.nil
      go_simp
      refine hK.out _ _ (by first | exact HT6.out.keep3 _ | exact HT6.out.keep2 | exact HT5.out.keep2 | exact (HT5.out.frd ((Fr.refl _ _).alloc _)).keep2 | exact HT0.out.keep2 | exact (HT0.out.frd ((Fr.refl _ _).alloc _)).keep2) (fun hHeld => ?_)
      clear hK K
      try simp only [Act.put, List.setIfInBounds_toArray, List.set_cons_zero, List.set_cons_succ]
      refine wpAnyH_done (by kernel_rfl) ?_ _
      go_wp2
      go_ret
      exact topEnd HT6.out HV6.out
    refine AllReadyH.cons (o := { dst := some 22, op := Op.buildSlice 48 1 #[(0, Operand.tmp 21)], type := 48, pos := "stack.go:75", after := #[{ on := 9, ground := Ground.data }], guard := none }) rfl (fun K hK => ?_) ?_
    · go_simp
      refine hK.out _ _ (by first | exact HT6.out.keep3 _ | exact HT6.out.keep2 | exact HT5.out.keep2 | exact (HT5.out.frd ((Fr.refl _ _).alloc _)).keep2 | exact HT0.out.keep2 | exact (HT0.out.frd ((Fr.refl _ _).alloc _)).keep2) (fun hHeld => ?_)
      clear hK K
      try simp only [Act.put, List.setIfInBounds_toArray, List.set_cons_zero, List.set_cons_succ]
      refine wpAnyH_ready (rs := [8]) (by kernel_rfl) (by simp) ?_
      refine AllReadyH.cons (o := { dst := some 20, op := Op.call { callee := Callee.value (Operand.func 62), args := #[Operand.tmp 16, Operand.tmp 17, Operand.tmp 19], argTypes := #[48, 3, 3] }, type := 48, pos := "stack.go:75", after := #[{ on := 4, ground := Ground.data }, { on := 5, ground := Ground.data }, { on := 7, ground := Ground.data }], guard := none }) rfl (fun K hK => ?_) AllReadyH.nil
      go_simp
      first
        | (refine (HDel.out _ (w.heap.size + 1) (by simp) HFq.out).mono ?_; rintro e' w5 ⟨v5, rfl, hT5, hf5⟩; have HT5 := hid hT5; have HI := hid (HInsA.out w5 v5 hT5); clear hT5 hf5)
        | (refine (HDel.out _ (w.heap.size + 1 + 1) (by simp) (HFq.out.alloc _)).mono ?_; rintro e' w5 ⟨v5, rfl, hT5, hf5⟩; have HT5 := hid hT5; have HI := hid (HInsB.out w5 v5 (HBT.out.fr hf5 hNT.out) hT5); clear hT5 hf5)
      go_wp2_with fail
      refine hK.out _ _ (by first | exact HT6.out.keep3 _ | exact HT6.out.keep2 | exact HT5.out.keep2 | exact (HT5.out.frd ((Fr.refl _ _).alloc _)).keep2 | exact HT0.out.keep2 | exact (HT0.out.frd ((Fr.refl _ _).alloc _)).keep2) (fun hHeld => ?_)
      clear hK K
      try simp only [Act.put, List.setIfInBounds_toArray, List.set_cons_zero, List.set_cons_succ]
      refine wpAnyH_ready (rs := [11]) (by kernel_rfl) (by simp) ?_
      refine AllReadyH.cons (o := { dst := some 23, op := Op.call { callee := Callee.value (Operand.func 27), args := #[Operand.tmp 20, Operand.const (Value.int IntKind.i64 0), Operand.tmp 22], argTypes := #[48, 3, 48] }, type := 48, pos := "stack.go:75", after := #[{ on := 8, ground := Ground.data }, { on := 10, ground := Ground.data }, { on := 8, ground := Ground.chain }], guard := none }) rfl (fun K hK => ?_) AllReadyH.nil
      go_simp
      refine HI.out.mono ?_
      rintro e' w6 ⟨v6, rfl, hT6⟩
      have HT6 := hid hT6
      have y6 := hT6.bb.frozen 4
      have y7 := hT6.bb.cell 4 rfl
      have y8 := hT6.bb.lt
      obtain ⟨A6, c6, hv6, _, _⟩ := hT6.row.shape
      rw [hv6]
      have HV6 := hid hv6
      clear hT6 hv6
      go_wp2_with fail
      refine hK.out _ _ (by first | exact HT6.out.keep3 _ | exact HT6.out.keep2 | exact HT5.out.keep2 | exact (HT5.out.frd ((Fr.refl _ _).alloc _)).keep2 | exact HT0.out.keep2 | exact (HT0.out.frd ((Fr.refl _ _).alloc _)).keep2) (fun hHeld => ?_)
      clear hK K
      try simp only [Act.put, List.setIfInBounds_toArray, List.set_cons_zero, List.set_cons_succ]
      refine wpAnyH_take (i := 12) (oi := { dst := some 24, op := Op.nilCheck (Operand.tmp 12), type := 0, pos := "stack.go:75", after := #[{ on := 0, ground := Ground.data }, { on := 0, ground := Ground.phase }, { on := 1, ground := Ground.phase }, { on := 2, ground := Ground.phase }, { on := 3, ground := Ground.phase }, { on := 4, ground := Ground.phase }, { on := 5, ground := Ground.phase }, { on := 6, ground := Ground.phase }, { on := 7, ground := Ground.phase }, { on := 8, ground := Ground.phase }, { on := 9, ground := Ground.phase }, { on := 10, ground := Ground.phase }, { on := 11, ground := Ground.phase }], guard := none }) (v := ?v11) rfl (by kernel_rfl) (by kernel_rfl) (by kernel_rfl) (fun _ _ _ h => h) (Or.inl ⟨by rfl, ?hy11⟩) (by assumption) ?r11
      case hy11 => (intro w hSw; (try dsimp only at hSw); go_simp; try (with_reducible rfl))
      try simp only [Act.put, List.setIfInBounds_toArray, List.set_cons_zero, List.set_cons_succ]
      refine wpAnyH_take (i := 13) (oi := { dst := some 25, op := Op.fieldAddr 70 (Operand.tmp 24) 1, type := 0, pos := "stack.go:75", after := #[{ on := 12, ground := Ground.data }, { on := 0, ground := Ground.phase }, { on := 1, ground := Ground.phase }, { on := 2, ground := Ground.phase }, { on := 3, ground := Ground.phase }, { on := 4, ground := Ground.phase }, { on := 5, ground := Ground.phase }, { on := 6, ground := Ground.phase }, { on := 7, ground := Ground.phase }, { on := 8, ground := Ground.phase }, { on := 9, ground := Ground.phase }, { on := 10, ground := Ground.phase }, { on := 11, ground := Ground.phase }], guard := none }) (v := ?v12) rfl (by kernel_rfl) (by kernel_rfl) (by kernel_rfl) (fun _ _ _ h => h) (Or.inl ⟨by rfl, ?hy12⟩) (by assumption) ?r12
      case hy12 => (intro w hSw; (try dsimp only at hSw); go_simp; try (with_reducible rfl))
      try simp only [Act.put, List.setIfInBounds_toArray, List.set_cons_zero, List.set_cons_succ]
      refine wpAnyH_ready (rs := [14]) (by kernel_rfl) (by simp) ?_
      refine AllReadyH.cons (o := { dst := none, op := Op.store 48 (Operand.tmp 25) (Operand.tmp 23), type := 0, pos := "stack.go:75", after := #[{ on := 13, ground := Ground.data }, { on := 11, ground := Ground.data }, { on := 11, ground := Ground.chain }, { on := 0, ground := Ground.phase }, { on := 1, ground := Ground.phase }, { on := 2, ground := Ground.phase }, { on := 3, ground := Ground.phase }, { on := 4, ground := Ground.phase }, { on := 5, ground := Ground.phase }, { on := 6, ground := Ground.phase }, { on := 7, ground := Ground.phase }, { on := 8, ground := Ground.phase }, { on := 9, ground := Ground.phase }, { on := 10, ground := Ground.phase }, { on := 11, ground := Ground.phase }], guard := none }) rfl (fun K hK => ?_) AllReadyH.nil
      go_simp
      refine hK.out _ _ (by first | exact HT6.out.keep3 _ | exact HT6.out.keep2 | exact HT5.out.keep2 | exact (HT5.out.frd ((Fr.refl _ _).alloc _)).keep2 | exact HT0.out.keep2 | exact (HT0.out.frd ((Fr.refl _ _).alloc _)).keep2) (fun hHeld => ?_)
      clear hK K
      try simp only [Act.put, List.setIfInBounds_toArray, List.set_cons_zero, List.set_cons_succ]
      refine wpAnyH_done (by kernel_rfl) ?_ _
      go_wp2
      go_ret
      exact topEnd HT6.out HV6.out
    exact AllReadyH.nil
  refine AllReadyH.cons (o := { dst := some 22, op := Op.buildSlice 48 1 #[(0, Operand.tmp 21)], type := 48, pos := "stack.go:75", after := #[{ on := 9, ground := Ground.data }], guard := none }) rfl (fun K hK => ?_) ?_
  · go_simp
    refine hK.out _ _ (by first | exact HT6.out.keep3 _ | exact HT6.out.keep2 | exact HT5.out.keep2 | exact (HT5.out.frd ((Fr.refl _ _).alloc _)).keep2 | exact HT0.out.keep2 | exact (HT0.out.frd ((Fr.refl _ _).alloc _)).keep2) (fun hHeld => ?_)
    clear hK K
    try simp only [Act.put, List.setIfInBounds_toArray, List.set_cons_zero, List.set_cons_succ]
    refine wpAnyH_ready (rs := [4]) (by kernel_rfl) (by simp) ?_
    refine AllReadyH.cons (o := { dst := some 16, op := Op.load 48 (Operand.tmp 15), type := 48, pos := "stack.go:75", after := #[{ on := 3, ground := Ground.data }], guard := none }) rfl (fun K hK => ?_) AllReadyH.nil
    go_simp
    refine hK.out _ _ (by first | exact HT6.out.keep3 _ | exact HT6.out.keep2 | exact HT5.out.keep2 | exact (HT5.out.frd ((Fr.refl _ _).alloc _)).keep2 | exact HT0.out.keep2 | exact (HT0.out.frd ((Fr.refl _ _).alloc _)).keep2) (fun hHeld => ?_)
    clear hK K
    try simp only [Act.put, List.setIfInBounds_toArray, List.set_cons_zero, List.set_cons_succ]
    refine wpAnyH_ready (rs := [8]) (by kernel_rfl) (by simp) ?_
    refine AllReadyH.cons (o := { dst := some 20, op := Op.call { callee := Callee.value (Operand.func 62), args := #[Operand.tmp 16, Operand.tmp 17, Operand.tmp 19], argTypes := #[48, 3, 3] }, type := 48, pos := "stack.go:75", after := #[{ on := 4, ground := Ground.data }, { on := 5, ground := Ground.data }, { on := 7, ground := Ground.data }], guard := none }) rfl (fun K hK => ?_) AllReadyH.nil
    go_simp
    first
      | (refine (HDel.out _ (w.heap.size + 1) (by simp) HFq.out).mono ?_; rintro e' w5 ⟨v5, rfl, hT5, hf5⟩; have HT5 := hid hT5; have HI := hid (HInsA.out w5 v5 hT5); clear hT5 hf5)
      | (refine (HDel.out _ (w.heap.size + 1 + 1) (by simp) (HFq.out.alloc _)).mono ?_; rintro e' w5 ⟨v5, rfl, hT5, hf5⟩; have HT5 := hid hT5; have HI := hid (HInsB.out w5 v5 (HBT.out.fr hf5 hNT.out) hT5); clear hT5 hf5)
    go_wp2_with fail
    refine hK.out _ _ (by first | exact HT6.out.keep3 _ | exact HT6.out.keep2 | exact HT5.out.keep2 | exact (HT5.out.frd ((Fr.refl _ _).alloc _)).keep2 | exact HT0.out.keep2 | exact (HT0.out.frd ((Fr.refl _ _).alloc _)).keep2) (fun hHeld => ?_)
    clear hK K
    try simp only [Act.put, List.setIfInBounds_toArray, List.set_cons_zero, List.set_cons_succ]
    refine wpAnyH_ready (rs := [11]) (by kernel_rfl) (by simp) ?_
    refine AllReadyH.cons (o := { dst := some 23, op := Op.call { callee := Callee.value (Operand.func 27), args := #[Operand.tmp 20, Operand.const (Value.int IntKind.i64 0), Operand.tmp 22], argTypes := #[48, 3, 48] }, type := 48, pos := "stack.go:75", after := #[{ on := 8, ground := Ground.data }, { on := 10, ground := Ground.data }, { on := 8, ground := Ground.chain }], guard := none }) rfl (fun K hK => ?_) AllReadyH.nil
    go_simp
    refine HI.out.mono ?_
    rintro e' w6 ⟨v6, rfl, hT6⟩
    have HT6 := hid hT6
    have y6 := hT6.bb.frozen 4
    have y7 := hT6.bb.cell 4 rfl
    have y8 := hT6.bb.lt
    obtain ⟨A6, c6, hv6, _, _⟩ := hT6.row.shape
    rw [hv6]
    have HV6 := hid hv6
    clear hT6 hv6
    go_wp2_with fail
    refine hK.out _ _ (by first | exact HT6.out.keep3 _ | exact HT6.out.keep2 | exact HT5.out.keep2 | exact (HT5.out.frd ((Fr.refl _ _).alloc _)).keep2 | exact HT0.out.keep2 | exact (HT0.out.frd ((Fr.refl _ _).alloc _)).keep2) (fun hHeld => ?_)
    clear hK K
    try simp only [Act.put, List.setIfInBounds_toArray, List.set_cons_zero, List.set_cons_succ]
    refine wpAnyH_take (i := 12) (oi := { dst := some 24, op := Op.nilCheck (Operand.tmp 12), type := 0, pos := "stack.go:75", after := #[{ on := 0, ground := Ground.data }, { on := 0, ground := Ground.phase }, { on := 1, ground := Ground.phase }, { on := 2, ground := Ground.phase }, { on := 3, ground := Ground.phase }, { on := 4, ground := Ground.phase }, { on := 5, ground := Ground.phase }, { on := 6, ground := Ground.phase }, { on := 7, ground := Ground.phase }, { on := 8, ground := Ground.phase }, { on := 9, ground := Ground.phase }, { on := 10, ground := Ground.phase }, { on := 11, ground := Ground.phase }], guard := none }) (v := ?v13) rfl (by kernel_rfl) (by kernel_rfl) (by kernel_rfl) (fun _ _ _ h => h) (Or.inl ⟨by rfl, ?hy13⟩) (by assumption) ?r13
    case hy13 => (intro w hSw; (try dsimp only at hSw); go_simp; try (with_reducible rfl))
    try simp only [Act.put, List.setIfInBounds_toArray, List.set_cons_zero, List.set_cons_succ]
    refine wpAnyH_take (i := 13) (oi := { dst := some 25, op := Op.fieldAddr 70 (Operand.tmp 24) 1, type := 0, pos := "stack.go:75", after := #[{ on := 12, ground := Ground.data }, { on := 0, ground := Ground.phase }, { on := 1, ground := Ground.phase }, { on := 2, ground := Ground.phase }, { on := 3, ground := Ground.phase }, { on := 4, ground := Ground.phase }, { on := 5, ground := Ground.phase }, { on := 6, ground := Ground.phase }, { on := 7, ground := Ground.phase }, { on := 8, ground := Ground.phase }, { on := 9, ground := Ground.phase }, { on := 10, ground := Ground.phase }, { on := 11, ground := Ground.phase }], guard := none }) (v := ?v14) rfl (by kernel_rfl) (by kernel_rfl) (by kernel_rfl) (fun _ _ _ h => h) (Or.inl ⟨by rfl, ?hy14⟩) (by assumption) ?r14
    case hy14 => (intro w hSw; (try dsimp only at hSw); go_simp; try (with_reducible rfl))
    try simp only [Act.put, List.setIfInBounds_toArray, List.set_cons_zero, List.set_cons_succ]
    refine wpAnyH_ready (rs := [14]) (by kernel_rfl) (by simp) ?_
    refine AllReadyH.cons (o := { dst := none, op := Op.store 48 (Operand.tmp 25) (Operand.tmp 23), type := 0, pos := "stack.go:75", after := #[{ on := 13, ground := Ground.data }, { on := 11, ground := Ground.data }, { on := 11, ground := Ground.chain }, { on := 0, ground := Ground.phase }, { on := 1, ground := Ground.phase }, { on := 2, ground := Ground.phase }, { on := 3, ground := Ground.phase }, { on := 4, ground := Ground.phase }, { on := 5, ground := Ground.phase }, { on := 6, ground := Ground.phase }, { on := 7, ground := Ground.phase }, { on := 8, ground := Ground.phase }, { on := 9, ground := Ground.phase }, { on := 10, ground := Ground.phase }, { on := 11, ground := Ground.phase }], guard := none }) rfl (fun K hK => ?_) AllReadyH.nil
    go_simp
    refine hK.out _ _ (by first | exact HT6.out.keep3 _ | exact HT6.out.keep2 | exact HT5.out.keep2 | exact (HT5.out.frd ((Fr.refl _ _).alloc _)).keep2 | exact HT0.out.keep2 | exact (HT0.out.frd ((Fr.refl _ _).alloc _)).keep2) (fun hHeld => ?_)
    clear hK K
    try simp only [Act.put, List.setIfInBounds_toArray, List.set_cons_zero, List.set_cons_succ]
    refine wpAnyH_done (by kernel_rfl) ?_ _
    go_wp2
    go_ret
    exact topEnd HT6.out HV6.out
  exact AllReadyH.nil
set_option maxHeartbeats 4000000 in
theorem sTop_any (w : World) (b : Nat) (scr : Rc) (v : Value) (xs : List Wn) (next id : Int) (h : SK w b scr v xs next) (hl : xs.length ≤ 256) :
    Calls Try.prog 39 #[.pointer (some ⟨b, 0, none⟩), .int .i64 id] w (SKto b scr v (topX xs id) next (.int .i64 (foundE xs id)) w) := by
  have hf0 : Fr NoB w (w.alloc (.cells #[.pointer (some ⟨b, 0, none⟩)] 29)) := (Fr.refl _ _).alloc _
  have hW : Hid (Calls Try.prog 60 #[.pointer (some ⟨b, 0, none⟩), .int .i64 id, .func (.func 63) #[] #[.pointer (some ⟨w.heap.size, 0, none⟩)]] (w.alloc (.cells #[.pointer (some ⟨b, 0, none⟩)] 29)) fun e w' => e = .returned (.int .i64 (foundE xs id)) ∧ ∃ v', SK w' b scr v' (topX xs id) next ∧ Fr (SB b v) w w' ∧ ∀ k, OwnB v' k → OwnB v k ∨ w.heap.size ≤ k) := by
    unfold foundE topX
    cases hg : getW xs id with
    | none =>
      refine (swith_none _ b scr v xs next id _ _ (h.frd hf0) (by omega) hg).mono ?_
      rintro e' w1 ⟨rfl, hf1⟩
      exact ⟨rfl, v, h.frd (hf0.trans hf1), (hf0.trans hf1).mono (fun _ h => h.elim), fun k hk => .inl hk⟩
    | some t =>
      obtain ⟨k, hk, hi, hkt, hti⟩ := idAt_some hg
      rw [hi]
      refine swith_some _ b scr v xs next id _ _ (h.frd hf0) (by omega) k hi 0 _ (enters_of Try.func63 (by kernel_rfl) rfl) (fun W hW => ?_)
      have hW0 := hf0.trans hW
      refine (sTop1_any W b w.heap.size scr v xs next (h.frd hW0) hl k hk ((Blk.new w 29 _).fr hW (fun h => h))).mono ?_
      intro e' w2 h2
      obtain ⟨he, v', h1, h3, h4⟩ := h2.from hW0
      rw [hkt] at h1
      exact ⟨he, v', h1, h3, h4⟩
  clear h hf0
  go_enter Try.func39, Try.ntmps39
  go_wp2_with fail
  refine hW.out.mono ?_
  rintro e' w1 ⟨rfl, hr⟩
  have HR := hid hr
  clear hr
  go_wp2
  go_ret
  exact SKto.mk HR.out
end Go.Proofs.Ytnengimekcnfhaa
