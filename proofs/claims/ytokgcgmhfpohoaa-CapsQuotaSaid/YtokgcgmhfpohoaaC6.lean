import Derived.Test.YtokgcgmhfpohoaaC5
set_option linter.unusedSimpArgs false
set_option linter.unusedVariables false
namespace Go.Proofs.Ytokgcgmhfpohoaa
open Go.RowKit Go.Proofs.YtokgcgmhfpohoaaW.PrintWords
set_option maxRecDepth 100000 in
set_option maxHeartbeats 4000000 in
theorem Share_any (w : World) (b g : Nat) (q : Int) (l : List Slot) (env s gen who rights : Int) (ht : Tab w b g q l) (hl : l.length ≤ 4096) :
    Calls Try.prog 10 #[.pointer (some ⟨b, 0, none⟩), .int .i64 env, .agg #[.int .i64 s, .int .i64 gen], .int .i64 who, .int .i64 rights] w fun e w' => e = .returned (shareT q l env s gen who rights).val ∧ Tab w' b g q (shareT q l env s gen who rights).l ∧ Fr (At g) w w' := by
  obtain ⟨r, hr⟩ : ∃ r, r = shareT q l env s gen who rights := ⟨_, rfl⟩
  rw [← hr]
  have hltb := ht.lt
  obtain ⟨W, hW⟩ : ∃ W, W = (w.alloc (.cells #[.int .i64 s, .int .i64 gen] 27)).alloc (.cells #[.int .i64 0, .int .i64 0] 27) := ⟨_, rfl⟩
  have hFW : Fr NoB w W := by rw [hW]; exact ((Fr.refl _ _).alloc _).alloc _
  have hbx : Blk W w.heap.size 27 [.int .i64 s, .int .i64 gen] := by rw [hW]; exact (Blk.new w 27 [.int .i64 s, .int .i64 gen]).alloc _
  have hbr : Blk W (w.heap.size + 1) 27 [.int .i64 0, .int .i64 0] := by rw [hW]; simpa using Blk.new (w.alloc (.cells #[.int .i64 s, .int .i64 gen] 27)) 27 [.int .i64 0, .int .i64 0]
  have ht1 := ht.fr0 hFW
  have HW := hid hW
  clear hW
  cases hf : findS l s gen with
  | none =>
    have HR : Hid (r = ⟨l, 0, 0, 9⟩) := by show _ = _; rw [hr]; unfold shareT; rw [hf]
    clear hr
    go_enter Try.func10, Try.ntmps10
    go_wp2_with fail
    rw [← HW.out]
    refine (own_all _ b g q l env 2 s gen ht1 hl (none, 9) (by rw [hf])).mono ?_
    rintro e w1 ⟨rfl, hf1⟩
    simp only [Option.map_none]
    have hb1 := hbr.fr hf1 (fun h => h)
    have r0 := hb1.cell 0 rfl
    have r1 := hb1.cell 1 rfl
    have s0 := hb1.frozen 0
    have s1 := hb1.frozen 1
    go_wp2
    refine bodyPost_ret (v := .tuple #[.agg #[.int .i64 0, .int .i64 0], .int .i64 9]) (by simp [results, Try.results10, go_sem, r0, r1]) rfl ⟨by rw [HR.out]; rfl, ?_, ?_⟩
    · rw [HR.out]
      refine Tab.other (Tab.other (ht1.fr0 hf1) ?_ ?_ _) ?_ ?_ _ <;> (simp only []; omega)
    · refine Fr.setCell (Fr.setCell (hFW.trans hf1).at0 (.inr ?_) _) (.inr ?_) _ <;> simp
  | some x =>
    by_cases hb : (decide (x.env = env) && hasB x.rights 2) = false
    · have HR : Hid (r = ⟨l, 0, 0, 8⟩) := by show _ = _; rw [hr]; unfold shareT; rw [hf]; simp only [if_pos hb]
      clear hr
      go_enter Try.func10, Try.ntmps10
      go_wp2_with fail
      rw [← HW.out]
      refine (own_all _ b g q l env 2 s gen ht1 hl (none, 8) (by rw [hf]; simp only [if_pos hb])).mono ?_
      rintro e w1 ⟨rfl, hf1⟩
      simp only [Option.map_none]
      have hb1 := hbr.fr hf1 (fun h => h)
      have r0 := hb1.cell 0 rfl
      have r1 := hb1.cell 1 rfl
      have s0 := hb1.frozen 0
      have s1 := hb1.frozen 1
      go_wp2
      refine bodyPost_ret (v := .tuple #[.agg #[.int .i64 0, .int .i64 0], .int .i64 8]) (by simp [results, Try.results10, go_sem, r0, r1]) rfl ⟨by rw [HR.out]; rfl, ?_, ?_⟩
      · rw [HR.out]
        refine Tab.other (Tab.other (ht1.fr0 hf1) ?_ ?_ _) ?_ ?_ _ <;> (simp only []; omega)
      · refine Fr.setCell (Fr.setCell (hFW.trans hf1).at0 (.inr ?_) _) (.inr ?_) _ <;> simp
    · obtain ⟨k, hk, rfl, hx, hu, hg⟩ := findS_some hf
      have HO : Hid (((some (k, x), 0) : Option (Nat × Slot) × Int) = match findS l k gen with | none => (none, 9) | some x => if (decide (x.env = env) && hasB x.rights 2) = false then (none, 8) else (some ((k : Int).toNat, x), 0)) := by show _ = _; rw [hf]; simp only [if_neg hb, Int.toNat_natCast]
      have HR0 : Hid (r = if who < 0 ∨ okR rights = false then ⟨l, 0, 0, 1⟩ else if hasB x.rights rights = false then ⟨l, 0, 0, 8⟩ else addT q l ⟨0, who, x.kind, x.obj, rights, k, false⟩) := by show _ = _; rw [hr]; unfold shareT; rw [hf]; simp only [if_neg hb]
      have HX := hid hx
      have HX2 : Hid (l[k] = x) := hx
      clear hr hf hb hx hu hg
      go_enter Try.func10, Try.ntmps10
      go_wp2_with fail
      rw [← HW.out]
      refine (own_all _ b g q l env 2 k gen ht1 hl (some (k, x), 0) HO.out).mono ?_
      rintro e w1 ⟨rfl, hf1⟩
      simp only [Option.map_some]
      have hb1 := hbr.fr hf1 (fun h => h)
      have hx1 := hbx.fr hf1 (fun h => h)
      have ht2 := ht1.fr0 hf1
      obtain ⟨c0, c1, c2, c3, c4, c5, c6⟩ := slots_at ht2.row k hk
      simp only [HX2.out] at c0 c1 c2 c3 c4 c5 c6
      have r0 := hb1.cell 0 rfl
      have r1 := hb1.cell 1 rfl
      have s0 := hb1.frozen 0
      have s1 := hb1.frozen 1
      have x0 := hx1.cell 0 rfl
      by_cases hwho : who < 0
      · have HR : Hid (r = ⟨l, 0, 0, 1⟩) := by show _ = _; rw [HR0.out, if_pos (.inl hwho)]
        go_wp2
        refine bodyPost_ret (v := .tuple #[.agg #[.int .i64 0, .int .i64 0], .int .i64 1]) (by simp [results, Try.results10, go_sem, r0, r1]) rfl ⟨by rw [HR.out]; rfl, ?_, ?_⟩
        · rw [HR.out]
          refine Tab.other (Tab.other ht2 ?_ ?_ _) ?_ ?_ _ <;> (simp only []; omega)
        · refine Fr.setCell (Fr.setCell (hFW.trans hf1).at0 (.inr ?_) _) (.inr ?_) _ <;> simp
      · have HNW : Hid (¬ who < 0) := hwho
        go_wp2_with fail
        refine (isR_any _ rights).mono ?_
        rintro e w2 ⟨rfl, rfl⟩
        cases hok : okR rights
        · have HR : Hid (r = ⟨l, 0, 0, 1⟩) := by show _ = _; rw [HR0.out, if_pos (.inr hok)]
          clear hok
          go_wp2
          refine bodyPost_ret (v := .tuple #[.agg #[.int .i64 0, .int .i64 0], .int .i64 1]) (by simp [results, Try.results10, go_sem, r0, r1]) rfl ⟨by rw [HR.out]; rfl, ?_, ?_⟩
          · rw [HR.out]
            refine Tab.other (Tab.other ht2 ?_ ?_ _) ?_ ?_ _ <;> (simp only []; omega)
          · refine Fr.setCell (Fr.setCell (hFW.trans hf1).at0 (.inr ?_) _) (.inr ?_) _ <;> simp
        · have hno : ¬ (who < 0 ∨ okR rights = false) := by rw [hok]; rintro (h | h); exact Int.not_lt.2 HNW.out h; cases h
          cases hrt : hasB x.rights rights
          · have HR : Hid (r = ⟨l, 0, 0, 8⟩) := by show _ = _; rw [HR0.out, if_neg hno, if_pos hrt]
            have hq : (bits BinOp.and .i64 x.rights rights != rights) = true := by simpa [hasB] using hrt
            clear hok hno hrt
            go_wp2
            refine bodyPost_ret (v := .tuple #[.agg #[.int .i64 0, .int .i64 0], .int .i64 8]) (by simp [results, Try.results10, go_sem, r0, r1]) rfl ⟨by rw [HR.out]; rfl, ?_, ?_⟩
            · rw [HR.out]
              refine Tab.other (Tab.other ht2 ?_ ?_ _) ?_ ?_ _ <;> (simp only []; omega)
            · refine Fr.setCell (Fr.setCell (hFW.trans hf1).at0 (.inr ?_) _) (.inr ?_) _ <;> simp
          · have HR : Hid (r = addT q l ⟨0, who, x.kind, x.obj, rights, k, false⟩) := by show _ = _; rw [HR0.out, if_neg hno, if_neg (by rw [hrt]; simp)]
            have hq : (bits BinOp.and .i64 x.rights rights != rights) = false := by simpa [hasB] using hrt
            clear hok hno hrt
            go_wp2
            go_region_with (go_at_call 29; refine (add_any _ b g q l ⟨0, who, x.kind, x.obj, rights, k, false⟩ ht2.drew hl).mono ?_; rw [← HR.out]; rintro e w2 ⟨rfl, ht3, hf2⟩; have hb2 := Blk.fr hb1.drew hf2 (fun h => by have h : w.heap.size + 1 = g := h; omega); have q0 := hb2.cell 0 rfl; have q1 := hb2.cell 1 rfl; have p0 := hb2.frozen 0; have p1 := hb2.frozen 1; unfold Res.val)
            all_goals
              clear r0 r1 s0 s1 c0 c1 c2 c3 c4 c5 c6 x0
              go_wp2
              refine bodyPost_ret (v := .tuple #[.agg #[.int .i64 r.s, .int .i64 r.g], .int .i64 r.e]) (by simp [results, Try.results10, go_sem, q0, q1]) rfl ⟨rfl, ?_, ?_⟩
              · refine Tab.other (Tab.other ht3 ?_ ?_ _) ?_ ?_ _ <;> (simp only []; omega)
              · refine Fr.setCell (Fr.setCell (Fr.trans (hFW.trans hf1).drew.at0 hf2) (.inr ?_) _) (.inr ?_) _ <;> simp
end Go.Proofs.Ytokgcgmhfpohoaa
