import Derived.Test.YtgjgmaeickhhfaaL3
import Derived.StillTailTactics
set_option linter.unusedSimpArgs false
set_option linter.unusedVariables false
namespace Go.Proofs.Ytgjgmaeickhhfaa
open Go.RowKit Go.Proofs.YtgjgmaeickhhfaaW.PrintWords
def TRow (w : World) (base : Nat) (v : Value) (xs : List Tm) : Prop := Row Tm.cells 3 33 w base v xs
theorem SV.of_row {w : World} {base : Nat} {v : Value} {xs : List Tm} (h : TRow w base v xs) : SV w v xs := by
  by_cases h0 : 0 < xs.length
  · obtain ⟨g, c, rest, h1, h2, h3, h4, h5⟩ := Vec.of_row h h0
    exact .inr ⟨g, c, rest, h1, h2, h4, h5⟩
  · obtain rfl : xs = [] := List.eq_nil_of_length_eq_zero (by omega)
    rcases h.2 with ⟨h1, h2⟩ | ⟨g, c, cur, h1, h2, h3, h4, h5, h6, h7⟩
    · exact .inl ⟨h1, rfl⟩
    · refine .inr ⟨g, c, cur.toList, h1, ⟨?_, ?_⟩, by simp, h5⟩
      · exact h3
      · simp [← h6]
theorem SV.row {w : World} {v : Value} {xs : List Tm} (h : SV w v xs) : TRow w 0 v xs := by
  rcases h with ⟨rfl, rfl⟩ | ⟨g, c, rest, rfl, h1, h2, h3⟩
  · exact Row.nil ..
  · exact Vec.row h1 Tm.cells_len (Nat.zero_le _) h2 h3
/-- A call answers a row of its own. -/
def RowTo (xs : List Tm) (w : World) (e : Ending) (w' : World) : Prop := ∃ v', e = .returned v' ∧ TRow w' w.heap.size v' xs ∧ Fr NoB w w'
/-- Timers lie at an address. -/
def TA (w : World) (ad : Addr) (xs : List Tm) : Prop := ∀ j u, (xs.flatMap Tm.cells)[j]? = some u → w.cell? (ad.add j) = some u
theorem TA.fr {S : Nat → Prop} {w w1 : World} {ad : Addr} {xs : List Tm} (h : TA w ad xs) (hf : Fr S w w1) (hs : ¬ S ad.block) : TA w1 ad xs := fun j u hj => by
  have h1 := h j u hj
  have e : (ad.add j).block = ad.block := by unfold Addr.add; split <;> rfl
  have hlt := cell_lt h1
  rw [← h1]
  exact World.cell?_of_block (hf.block _ hlt (by rw [e]; exact hs))
set_option maxHeartbeats 2000000 in
theorem clone_any (w : World) (A : Option Addr) (n c : Nat) (xs : List Tm) (hnil : A = none → xs = [] ∧ n = 0 ∧ c = 0) (hA : ∀ ad, A = some ad → TA w ad xs) (hn : Hid (xs.length = n)) (hl : xs.length ≤ 4096) :
    Calls Try.prog 25 #[.slice A n c] w (RowTo xs w) := by
  have hnil2 := fun (w : World) (a : Option Addr) (n c : Nat) => Lib.run_eql_slice_nil (P := Try.prog) w 26 33 a n c 0 0 Try.underlying26
  cases A with
  | none =>
    obtain ⟨rfl, rfl, rfl⟩ := hnil rfl
    clear hnil hA
    go_enter Try.func25, Try.ntmps25
    go_wp2
    go_ret
    exact ⟨_, rfl, Row.nil .., Fr.refl _ _⟩
  | some ad =>
    have hT := hid (hA ad rfl)
    have hb := hid (fun h : TA w ad xs => h)
    clear hnil hA
    have hW : ∀ j u, (xs.flatMap Tm.cells)[j]? = some u → ad.block ≠ w.heap.size := fun j u hj => by
      have h1 := cell_lt (hT.out j u hj)
      have e : (ad.add j).block = ad.block := by unfold Addr.add; split <;> rfl
      rw [e] at h1
      omega
    have HW := hid hW
    clear hW hb
    have HLn := hid hl
    have HE : Hid (TRow (w.alloc (.cells #[] 33)) w.heap.size (.slice (some ⟨w.heap.size, 0, none⟩) 0 0) []) :=
      World.ownsRow_lit (base := w.heap.size) (e := 33) (size := 3) w #[] 0 (Nat.le_refl _) (by simp [maxLen]) (by simp)
    have hn4 : n ≤ 4096 := by rw [← hn.out]; exact hl
    have HS : Hid (TA (w.alloc (.cells #[] 33)) ad xs) := fun j u hj => by
      rw [World.cell?_alloc_old]
      · exact hT.out j u hj
      · have e : (ad.add j).block = ad.block := by unfold Addr.add; split <;> rfl
        rw [e]
        exact HW.out j u hj
    clear hl
    go_enter Try.func25, Try.ntmps25
    go_wp2_with (at_builtin; go_must (refine row_apps (f := Tm.cells) Tm.cells_len Tm.one w.heap.size rfl (.tmp 5) (.tmp 6) 26 33 Tm.zero 24 rfl Try.underlying26 infoTm rfl (by omega) (by omega) _ [] xs ad n c rfl rfl hn HS.out HE.out (by simp) (by simp; omega) ?_); intro v1 w1 hv1 hf1 hat)
    go_ret
    refine ⟨_, rfl, hv1, ?_⟩
    refine ((Fr.refl NoB w).alloc _).then_ hf1 (fun k hk => .inr ?_)
    have hk' : some w.heap.size = some k := hk
    exact Nat.le_of_eq (Option.some.inj hk')
set_option maxHeartbeats 4000000 in
theorem del_any (w : World) (v : Value) (xs : List Tm) (j : Nat) (hV : SV w v xs) (hj : j ≤ xs.length) (hl : xs.length ≤ 4096) :
    Calls Try.prog 26 #[v, .int .i64 0, .int .i64 j] w (SVto v (xs.drop j) w) := by
  by_cases hj0 : j = 0
  · subst hj0
    rw [List.drop_zero]
    have HV := hid hV
    have hl2 : ∀ k, v = .slice none 0 0 ∧ k = 0 ∨ True := fun _ => .inr trivial
    rcases hV with ⟨rfl, rfl⟩ | ⟨g, c, rest, rfl, hV, hxc, hcm⟩
    · clear hl2
      go_enter Try.func26, Try.ntmps26
      go_wp2
      go_ret
      exact ⟨_, rfl, HV.out, Fr.refl _ _, fun k hk => .inl hk⟩
    · clear hl2 hV
      unfold maxLen at hcm
      go_enter Try.func26, Try.ntmps26
      go_wp2
      go_ret
      exact ⟨_, rfl, HV.out, Fr.refl _ _, fun k hk => .inl hk⟩
  · rcases hV with ⟨rfl, rfl⟩ | ⟨g, c, rest, rfl, hV, hxc, hcm⟩
    · simp at hj
      omega
    have hj1 : 0 < j := by omega
    have hne : ((0 : Int) == (j : Int)) = false := by rw [beq_eq_false_iff_ne]; omega
    have hne' : decide ((0 : Int) = (j : Int)) = false := by rw [decide_eq_false_iff_not]; omega
    obtain ⟨i0, hi, hz0, hz1, hz2⟩ := info_parts infoTm
    obtain ⟨ad, hcut, had⟩ := cut_lo (P := Try.prog) 26 33 i0 Try.underlying26 hi g xs.length c j hj
    have HV := hid hV
    have hgl := TV.lt hV
    have hB0 := hid (Vec.blk hV)
    have hm2 : c ≤ 9223372036854775807 := hcm
    have hsrc : ∀ (i : Nat) (u : Value), ((xs.drop j).flatMap Tm.cells)[i]? = some u → w.cell? (ad.add i) = some u := by
      intro i u hu
      by_cases hjc : j < c
      · obtain rfl := had hjc
        rw [hz1]
        exact Vec.src hV Tm.cells_len j hj (xs.drop j) (List.prefix_refl _) i u hu
      · rw [List.drop_of_length_le (by omega)] at hu
        simp at hu
    have HSrc := hid hsrc
    clear hsrc hV hcm had hj0
    have hfitA : 0 + 0 * i0.size + ((xs.drop j).flatMap Tm.cells).length ≤ (xs.flatMap Tm.cells ++ rest).length := by
      rw [List.length_append, flat_len Tm.cells_len, flat_len Tm.cells_len, List.length_drop]
      omega
    have HFA := hid hfitA
    clear hfitA
    have HLA : Hid (((xs.drop j).flatMap Tm.cells).length = (xs.length - j) * i0.size) := by
      show _ = _
      rw [flat_len Tm.cells_len, List.length_drop, hz1]
    have hzl : Hid ((xs.drop j ++ xs.drop (xs.length - j)).length = xs.length) := by
      show _ = _
      rw [List.length_append, List.length_drop, List.length_drop]
      omega
    have hconv : ∀ w3 : World, Hid (Blk w3 g 33 ((xs.flatMap Tm.cells ++ rest).take (0 + 0 * i0.size) ++ (xs.drop j).flatMap Tm.cells ++ (xs.flatMap Tm.cells ++ rest).drop (0 + 0 * i0.size + ((xs.drop j).flatMap Tm.cells).length))) → Hid (TV w3 g (xs.drop j ++ xs.drop (xs.length - j)) rest c) := by
      intro w3 h3
      have h4 := h3.out
      rw [Nat.zero_mul, Nat.add_zero, List.take_zero, List.nil_append, Nat.zero_add, flat_len Tm.cells_len, List.length_drop, flat_drop Tm.cells_len xs rest _ (by omega), ← List.append_assoc, ← List.flatMap_append] at h4
      refine ⟨h4, ?_⟩
      have := Vec.len HV.out
      rw [hzl.out]
      exact this
    have HConv := hid hconv
    clear hconv
    have hfit : (xs.length - j) * 3 + ((List.replicate (xs.length - (xs.length - j)) ()).flatMap (fun _ => [Value.int .i64 0, .int .i64 0, .int .i64 0])).length ≤ ((xs.drop j ++ xs.drop (xs.length - j)).flatMap Tm.cells ++ rest).length := by
      rw [zeros3_len, List.length_append, flat_len Tm.cells_len, hzl.out]
      omega
    have HFit := hid hfit
    clear hfit hz0 hz1 hz2
    go_enter Try.func26, Try.ntmps26
    go_wp2
    refine wp_region_still_tail 6 (by kernel_rfl) (by kernel_rfl) ?_
    change wpStill _ _ (World.drew _) _ _ _
    simp only [List.take_succ_cons, List.take_zero, List.drop_succ_cons, List.drop_zero]
    iterate 6 still_step
    refine wpStill_nil ?_
    change wpList _ _ _ _ _ (World.drew _)
    go_wp2_with first
      | (at_builtin; go_must (refine wpList_append_blk rfl (.tmp 22) (.tmp 25) 26 rfl 33 i0 Try.underlying26 hi g 0 0 c ad (xs.length - j) (c - j) rfl rfl 33 _ ((xs.drop j).flatMap Tm.cells) hB0 HLA.out HSrc.out (flat_one Tm.one _) (by omega) HFA.out ?_); intro w3 hB3 hf3; have hV3 := HConv.out w3 hB3; have hB4 := hid (Vec.blk hV3.out); clear hB3)
      | (with_reducible refine at_bi .clear ?_; go_must (refine wpList_clear_blk rfl (.tmp 31) 26 rfl 33 Tm.zero Try.underlying26 zeroTm g ((xs.length - j) * 3) (xs.length - (xs.length - j)) (c - (xs.length - j)) rfl (by omega) 33 _ _ (zero_cells _ [.int .i64 0, .int .i64 0, .int .i64 0] 3 _ rfl rfl (by omega)) hB4 (zeros3 _) HFit.out ?_); intro w4 hB5 hf4)
    go_ret
    have hz4 := TV.cleared (m := xs.length - j) hV3.out (by rw [hzl.out]; omega) rfl (by rw [hzl.out]; exact hB5)
    have hln : (xs.drop j).length = xs.length - j := List.length_drop
    rw [List.take_left' hln] at hz4
    refine ⟨_, rfl, .inr ⟨g, c, _, by rw [hln]; rfl, hz4, by rw [hln]; omega, hm2⟩, (((Fr.refl _ w).drew.trans hf3).trans hf4).mono (fun k hk => congrArg some hk.symm), fun k hk => .inl ?_⟩
    exact hk
end Go.Proofs.Ytgjgmaeickhhfaa
