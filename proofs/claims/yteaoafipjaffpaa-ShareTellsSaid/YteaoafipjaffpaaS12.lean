import Derived.Test.YteaoafipjaffpaaS11
import Derived.Test.YteaoafipjaffpaaF7
import Derived.StillTailTactics
set_option linter.unusedSimpArgs false
set_option linter.unusedVariables false
namespace Go.Proofs.Yteaoafipjaffpaa
open Go.RowKit Go.Proofs.YteaoafipjaffpaaW.PrintWords
attribute [local go_sem] st_float
theorem cmp_lss (t : TypeId) (a b : Nat) : binOp .lss t (.float .f64 a) (.float .f64 b) = pure (.bool (FT.ltF a b)) := binOp_float_cmp_lss t .f64 a b
attribute [local go_sem high] cmp_lss
/-- A box that no reduction opens: a region's operations that are not wanted would else be run ahead. -/
structure Bx (p : Prop) : Prop where
  out : p
theorem still_stepB {P : Program} {ops : Array Oper} {w : World} {Q : Act → Prop} {a : Act} {o : Oper} {rest : List Oper}
    (h : ∀ K : Act → Prop, (∀ a, Bx (wpStill P ops w Q rest a) → K a) → if Region.wanted o (yielded ops a.tmps) then o.still P a w K else K (a.put o.dst undef)) : Bx (wpStill P ops w Q (o :: rest) a) :=
  ⟨wpStill_step (fun K hK => h K (fun a ha => hK a ha.out))⟩
theorem still_nilB {P : Program} {ops : Array Oper} {w : World} {Q : Act → Prop} {a : Act} (h : Q a) : Bx (wpStill P ops w Q [] a) := ⟨wpStill_nil h⟩
theorem still_inB {P : Program} {ops : Array Oper} {w : World} {Q : Act → Prop} {a : Act} {l : List Oper} (h : Bx (wpStill P ops w Q l a)) : wpStill P ops w Q l a := h.out
theorem Pick_any (a : Int) (m : Nat) (w : World) (ha : (Lit.int .i64 a).wf = true) (h1 : 1 ≤ m) (h2 : m ≤ 4096) : Calls Try.prog 15 #[.int .i64 a, .int .i64 m] w fun e w' => (∃ j : Nat, j < m ∧ e = .returned (.int .i64 j)) ∧ w = w' := by
  have h3 : decide ((m : Int) < 1) = false := by simp only [decide_eq_false_iff_not]; omega
  have h4 : ((m : Int) == 0) = false := by simp only [beq_eq_false_iff_ne, ne_eq]; omega
  have hb1 : a.tmod m < m := Int.tmod_lt_of_pos a (by omega)
  have hb2 : -(m : Int) < a.tmod m := Int.lt_tmod_of_pos a (by omega)
  generalize hr : a.tmod (m : Int) = r at *
  by_cases h : r < 0
  · have h5 : decide (r < 0) = true := by simpa using h
    obtain ⟨j, hj⟩ : ∃ j : Nat, r + m = j := ⟨(r + m).toNat, by omega⟩
    have hjm : j < m := by omega
    have HJ := hid hj
    clear h hj
    go_enter Try.func15, Try.ntmps15
    go_wp2
    go_ret
    exact ⟨⟨j, hjm, by rw [← HJ.out]; rfl⟩, rfl⟩
  · have h5 : decide (r < 0) = false := by simpa using h
    obtain ⟨j, hj⟩ : ∃ j : Nat, r = j := ⟨r.toNat, by omega⟩
    have hjm : j < m := by omega
    clear h
    subst hj
    go_enter Try.func15, Try.ntmps15
    go_wp2
    go_ret
    exact ⟨⟨j, hjm, rfl⟩, rfl⟩
set_option maxHeartbeats 8000000 in
theorem more_walk (n : Int) (A : Option Addr) (c : Nat) (l : List Nat) (a b : Int) (w : World) (hn : (Lit.int .u16 n).wf = true) (hV : FV w A l) (hW : FT.Ws l) (ha : (Lit.int .i64 a).wf = true) (hb : (Lit.int .i64 b).wf = true) :
    Calls Try.prog 5 #[.int .u16 n, .slice A l.length c, .int .i64 a, .int .i64 b] w fun e w' => e = .returned (.bool true) ∧ Below w.heap.size w w' := by
  by_cases hl : l.length = 0 ∨ 64 < l.length
  · rcases hl with h | h
    · have h0 : ((l.length : Int) == 0) = true := by simpa using h
      generalize l.length = m at *
      clear h
      go_enter Try.func5, Try.ntmps5
      go_wp2_with (go_at_call 8; refine (awake_any w).mono ?_; rintro e w1 ⟨rfl, hf⟩)
      go_ret
      exact ⟨rfl, hf.below0⟩
    · have h0 : ((l.length : Int) == 0) = false := by simp only [beq_eq_false_iff_ne, ne_eq]; omega
      have h1 : decide ((l.length : Int) > 64) = true := by simp only [decide_eq_true_eq]; omega
      generalize l.length = m at *
      clear h
      go_enter Try.func5, Try.ntmps5
      go_wp2_with (go_at_call 8; refine (awake_any w).mono ?_; rintro e w1 ⟨rfl, hf⟩)
      go_ret
      exact ⟨rfl, hf.below0⟩
  · have hl1 : 1 ≤ l.length := by omega
    have hl2 : l.length ≤ 64 := by omega
    have h0 : ((l.length : Int) == 0) = false := by simp only [beq_eq_false_iff_ne, ne_eq]; omega
    have h1 : decide ((l.length : Int) > 64) = false := by simp only [decide_eq_false_iff_not]; omega
    have hmm : ((l.length : Int) != (l.length : Int)) = false := by simp
    obtain ⟨N, hN1, hN2⟩ := mod513 n hn
    have hne : l ≠ [] := by intro h; subst h; simp at hl1
    obtain ⟨hs1, hs2⟩ := FT.shares_sum N l hne
    have htl := FT.tgL_len l
    have hT := (FT.tgL_ok hW hne).le
    have hmore := FT.shares_more N l hW hl1 hl2 hN2
    have hsh := fun w (hV : FV w A l) => Shares_any w A c l N hV hW hl1 hl2 hN2
    have htg := fun w (hV : FV w A l) => Together_any w A c l hV hW hl1 hl2
    generalize FT.sharesL N l = r at *
    generalize FT.tgL l = t at *
    have HSH := hid hsh
    have HTG := hid htg
    have HMORE := hid hmore
    clear hsh hl hne htg hmore
    generalize l.length = m at *
    go_enter Try.func5, Try.ntmps5
    go_wp2_with (go_at_call 15; with_reducible refine (Pick_any a m w ha hl1 (by omega)).mono ?_; rintro e w1 ⟨⟨i, hi, rfl⟩, rfl⟩)
    refine (Pick_any b m w hb hl1 (by omega)).mono ?_
    rintro e w1 ⟨⟨k, hk, rfl⟩, rfl⟩
    go_wp2_with first | (go_at_call 9; refine (HTG.out w hV).mono ?_; rintro e w1 ⟨⟨b1, rfl, hb1, hB1⟩, hf1⟩) | (go_at_call 13; refine (HSH.out w1 (hV.fr0 hf1)).mono ?_; rintro e w2 ⟨⟨b2, rfl, hb2, hB2⟩, hf2⟩)
    have ho := FT.one_lt
    have hti := hT (t[i]'(by omega)) (List.getElem_mem _)
    have htk := hT (t[k]'(by omega)) (List.getElem_mem _)
    have hlt := FT.ltF_pos (a := t[i]'(by omega)) (b := t[k]'(by omega)) (by omega) (by omega)
    have hm2 := HMORE.out i k hi hk
    rw [FT.getD_lt t k 0 (by omega), FT.getD_lt t i 0 (by omega), FT.getD_lt r k 0 (by omega), FT.getD_lt r i 0 (by omega)] at hm2
    have hB1' := hB1.fr hf2 (fun h => h)
    have c1 := hB1'.cell i (fw_get t i (by omega))
    have c2 := hB1'.cell k (fw_get t k (by omega))
    have c3 := hB2.cell i (iw_get r i (by omega))
    have c4 := hB2.cell k (iw_get r k (by omega))
    have hri := FT.mem_sum (List.getElem_mem (l := r) (n := i) (by omega))
    have hrk := FT.mem_sum (List.getElem_mem (l := r) (n := k) (by omega))
    have HS : Hid (∀ w', Fr NoB w2 w' → w'.cell? ⟨b1, i, none⟩ = some (.float .f64 (t[i]'(by omega))) ∧ w'.cell? ⟨b1, k, none⟩ = some (.float .f64 (t[k]'(by omega))) ∧ w'.cell? ⟨b2, i, none⟩ = some (.int .i64 (r[i]'(by omega) : Nat)) ∧ w'.cell? ⟨b2, k, none⟩ = some (.int .i64 (r[k]'(by omega) : Nat))) :=
      hid (fun w' h => ⟨(World.cell?_of_block (h.block b1 hB1'.lt (fun h => h))).trans c1, (World.cell?_of_block (h.block b1 hB1'.lt (fun h => h))).trans c2, (World.cell?_of_block (h.block b2 hB2.lt (fun h => h))).trans c3, (World.cell?_of_block (h.block b2 hB2.lt (fun h => h))).trans c4⟩)
    generalize t[i]'(by omega) = x at *
    generalize t[k]'(by omega) = y at *
    generalize r[i]'(by omega) = p at *
    generalize r[k]'(by omega) = q at *
    have i1 : (0 : Int) ≤ (i : Int) := by omega
    have i2 : (i : Int) < (m : Int) := by omega
    have i3 : (0 : Int) ≤ (k : Int) := by omega
    have i4 : (k : Int) < (m : Int) := by omega
    have hF2 := hf1.trans hf2
    have hq5 : q ≤ 512 := by omega
    have hp5 : p ≤ 512 := by omega
    have hxo : x ≤ FT.infR := by omega
    have hyo : y ≤ FT.infR := by omega
    clear hT hs1 hs2 htl HSH HTG HMORE HS hti htk ho hri hrk hB1 hB1' hB2 hV hW hn ha hb hf1 hf2 hb1 hb2 hN1 hmm h0 h1 hN2
    rcases Nat.lt_trichotomy x y with hxy | hxy | hxy
    · have hcmp : FT.ltF x y = true := by rw [hlt]; simpa using hxy
      clear hlt hxy hm2 hxo hyo
      go_wp2_with fail
      refine wp_region_still_tail 22 (by kernel_rfl) (by kernel_rfl) ?_
      change wpStill _ _ (World.drew _) _ _ _
      simp only [List.take_succ_cons, List.take_zero, List.drop_succ_cons, List.drop_zero]
      refine still_inB ?_
      iterate 22 (refine still_stepB (fun K hK => ?_); go_simp; refine hK _ ?_; clear hK K)
      refine still_nilB ?_
      change wpList _ _ _ _ _ (World.drew _)
      go_wp2_with (go_at_call 8; refine (awake_any _).mono ?_; rintro e w3 ⟨rfl, hf3⟩)
      go_ret
      exact ⟨rfl, (hF2.trans (Fr.trans (Fr.drew (Fr.refl _ _)) hf3)).below0⟩
      all_goals (exfalso; omega)
    · have hcmp : FT.ltF x y = false := by rw [hlt]; simp; omega
      have hge : decide ((p : Int) ≥ (q : Int) - 1) = true := by
        have := hm2 (by omega)
        simp only [decide_eq_true_eq]; omega
      have hge3 : (q : Int) - 1 ≤ (p : Int) := by
        have := hm2 (by omega)
        omega
      clear hlt hxy hm2 hxo hyo
      go_wp2_with fail
      refine wp_region_still_tail 22 (by kernel_rfl) (by kernel_rfl) ?_
      change wpStill _ _ (World.drew _) _ _ _
      simp only [List.take_succ_cons, List.take_zero, List.drop_succ_cons, List.drop_zero]
      refine still_inB ?_
      iterate 22 (refine still_stepB (fun K hK => ?_); go_simp; refine hK _ ?_; clear hK K)
      refine still_nilB ?_
      change wpList _ _ _ _ _ (World.drew _)
      go_wp2_with (go_at_call 8; refine (awake_any _).mono ?_; rintro e w3 ⟨rfl, hf3⟩)
      go_ret
      exact ⟨rfl, (hF2.trans (Fr.trans (Fr.drew (Fr.refl _ _)) hf3)).below0⟩
      all_goals (exfalso; omega)
    · have hcmp : FT.ltF x y = false := by rw [hlt]; simp; omega
      have hge : decide ((p : Int) ≥ (q : Int) - 1) = true := by
        have := hm2 (by omega)
        simp only [decide_eq_true_eq]; omega
      have hge3 : (q : Int) - 1 ≤ (p : Int) := by
        have := hm2 (by omega)
        omega
      clear hlt hxy hm2 hxo hyo
      go_wp2_with fail
      refine wp_region_still_tail 22 (by kernel_rfl) (by kernel_rfl) ?_
      change wpStill _ _ (World.drew _) _ _ _
      simp only [List.take_succ_cons, List.take_zero, List.drop_succ_cons, List.drop_zero]
      refine still_inB ?_
      iterate 22 (refine still_stepB (fun K hK => ?_); go_simp; refine hK _ ?_; clear hK K)
      refine still_nilB ?_
      change wpList _ _ _ _ _ (World.drew _)
      go_wp2_with (go_at_call 8; refine (awake_any _).mono ?_; rintro e w3 ⟨rfl, hf3⟩)
      go_ret
      exact ⟨rfl, (hF2.trans (Fr.trans (Fr.drew (Fr.refl _ _)) hf3)).below0⟩
      all_goals (exfalso; omega)
end Go.Proofs.Yteaoafipjaffpaa
