import Derived.Test.YtnengimekcnfhaaDoorProg
import Derived.Test.YtnengimekcnfhaaDoorK2
import Derived.LoopTactic
import Derived.Deep.LoopGhost
import Derived.Deep.DeepMust
import Derived.StillTailTactics
import Derived.IntWalk
set_option linter.unusedSimpArgs false
set_option linter.unusedVariables false
set_option maxRecDepth 20000
namespace Go.Proofs.YtnengimekcnfhaaDoor
open Go.RowKit Go.Proofs.YtnengimekcnfhaaDoorW.PrintWords
/-- How wide runes are. -/
def wMarks : List (Int × Int) := [(768, 879), (1155, 1161), (1425, 1469), (1552, 1562), (1611, 1631), (8203, 8207), (8400, 8432), (65024, 65039), (65056, 65071)]
def wWides : List (Int × Int) := [(4352, 4447), (11904, 12350), (12353, 13311), (13312, 19903), (19968, 40959), (40960, 42191), (44032, 55203), (63744, 64255), (65072, 65135), (65280, 65376), (65504, 65510), (127744, 128591), (129280, 129535), (131072, 262141)]
def inR (l : List (Int × Int)) (r : Int) : Bool := l.any fun p => decide (p.1 ≤ r) && decide (r ≤ p.2)
def Rise : List (Int × Int) → Bool
  | [] => true
  | p :: l => decide (p.1 ≤ p.2) && l.all (fun q => decide (p.2 < q.1)) && Rise l
def ltN (l : List (Int × Int)) (r : Int) : Nat := (l.takeWhile fun p => decide (p.2 < r)).length
theorem ltN_le (l : List (Int × Int)) (r : Int) : ltN l r ≤ l.length := by
  unfold ltN
  induction l with
  | nil => simp
  | cons p l ih => rw [List.takeWhile_cons]; split <;> simp; omega
theorem ltN_lo (l : List (Int × Int)) (r : Int) : ∀ k (hk : k < l.length), k < ltN l r → l[k].2 < r := by
  unfold ltN
  induction l with
  | nil => intro k hk; simp at hk
  | cons p l ih =>
    intro k hk
    rw [List.takeWhile_cons]
    split
    · rename_i hp
      cases k with
      | zero => intro _; simpa using hp
      | succ k => intro h; exact ih k (by simpa using hk) (by simpa using h)
    · intro h; simp at h
theorem rise_lt (l : List (Int × Int)) (h : Rise l = true) (p : Int × Int) (hp : p ∈ l) : p.1 ≤ p.2 := by
  induction l with
  | nil => cases hp
  | cons q l ih =>
    simp only [Rise, Bool.and_eq_true, decide_eq_true_eq, List.all_eq_true] at h
    rcases List.mem_cons.1 hp with rfl | hp
    · exact h.1.1
    · exact ih h.2 hp
theorem ltN_hi (l : List (Int × Int)) (r : Int) (hr : Rise l = true) : ∀ k (hk : k < l.length), ltN l r ≤ k → r ≤ l[k].2 := by
  unfold ltN
  induction l with
  | nil => intro k hk; simp at hk
  | cons p l ih =>
    simp only [Rise, Bool.and_eq_true, decide_eq_true_eq, List.all_eq_true] at hr
    intro k hk
    rw [List.takeWhile_cons]
    split
    · cases k with
      | zero => intro h; simp at h
      | succ k => intro h; exact ih hr.2 k (by simpa using hk) (by simpa using h)
    · rename_i hp
      intro _
      have hp' : ¬ p.2 < r := by simpa using hp
      cases k with
      | zero => show r ≤ p.2; omega
      | succ k =>
        have hm := List.getElem_mem (l := l) (n := k) (by simpa using hk)
        have h1 := hr.1.2 _ hm
        have h2 := rise_lt l hr.2 _ hm
        show r ≤ (l[k]'(by simpa using hk)).2
        omega
theorem inR_ltN (l : List (Int × Int)) (r : Int) (hr : Rise l = true) : inR l r = true ↔ ∃ h : ltN l r < l.length, l[ltN l r].1 ≤ r := by
  unfold ltN inR
  induction l with
  | nil => simp
  | cons p l ih =>
    simp only [Rise, Bool.and_eq_true, decide_eq_true_eq, List.all_eq_true] at hr
    have ih := ih hr.2
    rw [List.any_cons]
    by_cases hp : p.2 < r
    · have hc : (p :: l).takeWhile (fun p => decide (p.2 < r)) = p :: l.takeWhile (fun p => decide (p.2 < r)) := by rw [List.takeWhile_cons, if_pos (by simpa using hp)]
      have h0 : (decide (p.1 ≤ r) && decide (r ≤ p.2)) = false := by simp; omega
      rw [h0, Bool.false_or, ih]
      constructor
      · rintro ⟨h1, h2⟩
        refine ⟨by rw [hc]; simpa using h1, ?_⟩
        simp only [hc, List.length_cons, List.getElem_cons_succ]
        exact h2
      · rintro ⟨h1, h2⟩
        rw [hc] at h1
        refine ⟨by simpa using h1, ?_⟩
        simp only [hc, List.length_cons, List.getElem_cons_succ] at h2
        exact h2
    · have hc : (p :: l).takeWhile (fun p => decide (p.2 < r)) = [] := by rw [List.takeWhile_cons, if_neg (by simpa using hp)]
      simp only [hc, List.length_nil, List.getElem_cons_zero, Bool.or_eq_true, Bool.and_eq_true, decide_eq_true_eq, List.any_eq_true]
      constructor
      · rintro (⟨h1, h2⟩ | ⟨q, hq, h1, h2⟩)
        · exact ⟨by simp, h1⟩
        · have := hr.1.2 q hq
          exact ⟨by simp, by omega⟩
      · rintro ⟨_, h⟩
        exact .inl ⟨h, by omega⟩
/-- Rows of runes at a block. -/
def RowsAt (w : World) (b : Nat) (l : List (Int × Int)) : Prop := ∀ k (h : k < l.length), w.cell? ⟨b, k * 2, none⟩ = some (.int .i32 l[k].1) ∧ w.cell? ⟨b, k * 2 + 1, none⟩ = some (.int .i32 l[k].2)
theorem RowsAt.fr {S : Nat → Prop} {w w1 : World} {b : Nat} {l : List (Int × Int)} (h : RowsAt w b l) (hf : Fr S w w1) (hs : ¬ S b) : RowsAt w1 b l := fun k hk => by
  obtain ⟨h1, h2⟩ := h k hk
  have mv : ∀ j u, w.cell? ⟨b, j, none⟩ = some u → w1.cell? ⟨b, j, none⟩ = some u := fun j u hc => by
    have hb : b < w.heap.size := by
      unfold World.cell? at hc
      exact Decidable.byContradiction fun hn => by
        rw [Array.getElem?_eq_none (by simpa using hn)] at hc
        simp at hc
    rw [World.cell?_of_block (w' := w1) (hf.block _ hb hs)]
    exact hc
  exact ⟨mv _ _ h1, mv _ _ h2⟩
theorem tup2 {v : Value} {a b : Bool} (h : a = b) : Ending.returned (.tuple #[v, .bool a]) = .returned (.tuple #[v, .bool b]) := by rw [h]
theorem ret1 {a b : Bool} (h : a = b) : Ending.returned (.bool a) = .returned (.bool b) := by rw [h]
theorem cell_keep {S : Nat → Prop} {w w1 : World} {b j : Nat} {u : Value} (hc : w.cell? ⟨b, j, none⟩ = some u) (hf : Fr S w w1) (hs : ¬ S b) : w1.cell? ⟨b, j, none⟩ = some u := by
  have hb : b < w.heap.size := by
    unfold World.cell? at hc
    exact Decidable.byContradiction fun hn => by
      rw [Array.getElem?_eq_none (by simpa using hn)] at hc
      simp at hc
  rw [World.cell?_of_block (w' := w1) (hf.block _ hb hs)]
  exact hc
def cmpR (p : Int × Int) (r : Int) : Int := if p.2 < r then -1 else if p.1 > r then 1 else 0
theorem wIn1_any (w : World) (p : Int × Int) (r : Int) : Calls Tryd.prog 47 #[.agg #[.int .i32 p.1, .int .i32 p.2], .int .i32 r] w fun e w' => e = .returned (.int .i64 (cmpR p r)) ∧ Fr NoB w w' := by
  have hf : Fr NoB w (w.alloc (.cells #[.int .i32 p.1, .int .i32 p.2] 78)) := (Fr.refl _ _).alloc _
  have HF := hid hf
  clear hf
  obtain ⟨a, b⟩ := p
  cases h1 : decide (b < r)
  · cases h2 : decide (a > r)
    · have hr : cmpR (a, b) r = 0 := by unfold cmpR; rw [if_neg (of_decide_eq_false h1), if_neg (of_decide_eq_false h2)]
      rw [hr]
      clear hr
      go_enter Tryd.func47, Tryd.ntmps47
      go_wp2
      go_ret
      exact ⟨rfl, HF.out⟩
    · have hr : cmpR (a, b) r = 1 := by unfold cmpR; rw [if_neg (of_decide_eq_false h1), if_pos (of_decide_eq_true h2)]
      rw [hr]
      clear hr
      go_enter Tryd.func47, Tryd.ntmps47
      go_wp2
      go_ret
      exact ⟨rfl, HF.out⟩
  · have hr : cmpR (a, b) r = -1 := by unfold cmpR; rw [if_pos (of_decide_eq_true h1)]
    rw [hr]
    clear hr
    go_enter Tryd.func47, Tryd.ntmps47
    go_wp2
    go_ret
    exact ⟨rfl, HF.out⟩
set_option maxHeartbeats 4000000 in
theorem wbs_any (w : World) (b c : Nat) (l : List (Int × Int)) (r : Int) (hR : RowsAt w b l) (hb : b < w.heap.size) (hl : l.length ≤ 1000) (hs : Rise l = true) :
    Calls Tryd.prog 46 #[.slice (some ⟨b, 0, none⟩) l.length c, .int .i32 r, .func (.func 47) #[] #[]] w fun e w' => e = .returned (.tuple #[.int .i64 (ltN l r), .bool (inR l r)]) ∧ Fr NoB w w' := by
  have HLo := hid (ltN_lo l r)
  have HHi := hid (ltN_hi l r hs)
  have HIn := hid (inR_ltN l r hs)
  have hm := ltN_le l r
  have HR := hid hR
  clear hR hs
  generalize ltN l r = m at *
  go_enter Tryd.func46, Tryd.ntmps46
  go_wp2
  go_loopw [9, 10, 11] (fun v9 v10 _ wr => ∃ i j : Nat, i ≤ m ∧ m ≤ j ∧ j ≤ l.length ∧ v9 = .int .i64 i ∧ v10 = .int .i64 j ∧ Hid (Fr NoB w wr)) (fun v9 v10 _ _ => (intOf v10).toNat - (intOf v9).toNat)
  case atStart => exact ⟨0, l.length, by omega, hm, by omega, rfl, rfl, Fr.refl _ _⟩
  case round =>
    obtain ⟨i, j, hi, hmj, hj, rfl, rfl, HF⟩ := hrel
    by_cases hij : i < j
    · have hih : i ≤ (i + j) / 2 := by omega
      have hhj : (i + j) / 2 < j := by omega
      have hhx : (i + j) / 2 < l.length := by omega
      obtain ⟨c0, c1⟩ := (HR.out.fr HF.out (fun h => h)) _ hhx
      have hcall := fun W => hid (wIn1_any W l[(i + j) / 2] r)
      have hnum : Hid (Value.int .i64 (((i : Int) + (j : Int)) / 2) = .int .i64 (((i + j) / 2 : Nat) : Int)) := by
        show Value.int _ _ = _
        rw [show ((i : Int) + (j : Int)) / 2 = (((i + j) / 2 : Nat) : Int) by omega]
      have hnum2 : Hid (Value.int .i64 (((i : Int) + (j : Int)) / 2 + 1) = .int .i64 (((i + j) / 2 + 1 : Nat) : Int)) := by
        show Value.int _ _ = _
        rw [show ((i : Int) + (j : Int)) / 2 + 1 = (((i + j) / 2 + 1 : Nat) : Int) by omega]
      have hL1 : l[(i + j) / 2].2 < r → (i + j) / 2 < m := fun h1 => by
        by_cases hhm : (i + j) / 2 < m
        · exact hhm
        · have := HHi.out _ hhx (by omega); omega
      have hL2 : ¬ l[(i + j) / 2].2 < r → m ≤ (i + j) / 2 := fun h1 => by
        by_cases hhm : m ≤ (i + j) / 2
        · exact hhm
        · exact absurd (HLo.out _ hhx (by omega)) h1
      have HL1 := hid hL1
      have HL2 := hid hL2
      clear hL1 hL2
      generalize l[(i + j) / 2] = x at *
      by_cases hx : x.2 < r
      · have HX : Hid (cmpR x r = -1) := by show _ = _; unfold cmpR; rw [if_pos hx]
        have hhm := HL1.out hx
        clear hx
        go_wp2_with fail
        refine (hcall _).out.mono ?_
        rintro e' w1 ⟨rfl, hf1⟩
        rw [HX.out]
        have HF1 := hid (HF.out.trans hf1)
        clear hf1
        go_wp2
        go_roundw
        case rel => exact ⟨(i + j) / 2 + 1, j, by omega, hmj, hj, hnum2.out, rfl, HF1.out⟩
        case measure => simp [intOf]; omega
      · have HX : Hid (cmpR x r = 0 ∨ cmpR x r = 1) := by
          show _ ∨ _
          unfold cmpR
          rw [if_neg hx]
          split
          · exact .inr rfl
          · exact .inl rfl
        have hhm := HL2.out hx
        clear hx
        go_wp2_with fail
        refine (hcall _).out.mono ?_
        rintro e' w1 ⟨rfl, hf1⟩
        have HF1 := hid (HF.out.trans hf1)
        clear hf1
        rcases HX.out with hx | hx
        all_goals
          rw [hx]
          clear hx
          go_wp2
          go_roundw
          case rel => exact ⟨i, (i + j) / 2, hi, hhm, by omega, rfl, hnum.out, HF1.out⟩
          case measure => simp [intOf]; omega
    · obtain rfl : i = m := by omega
      obtain rfl : j = i := by omega
      by_cases hix : j < l.length
      · obtain ⟨c0, c1⟩ := (HR.out.fr HF.out (fun h => h)) j hix
        have hcall := fun W => hid (wIn1_any W l[j] r)
        have hE : (cmpR l[j] r == 0) = inR l r := by
          have h1 := HHi.out j hix (Nat.le_refl _)
          have h2 : cmpR l[j] r = 0 ↔ l[j].1 ≤ r := by
            unfold cmpR
            rw [if_neg (by omega)]
            split <;> omega
          rw [Bool.eq_iff_iff, HIn.out, beq_iff_eq, h2]
          exact ⟨fun h => ⟨hix, h⟩, fun ⟨_, h⟩ => h⟩
        have HB := hid hE
        clear hE
        generalize l[j] = x at *
        go_wp2_with fail
        refine (hcall _).out.mono ?_
        rintro e' w1 ⟨rfl, hf1⟩
        have HF1 := hid (HF.out.trans hf1)
        clear hf1
        go_wp2
        go_ret2
        exact ⟨tup2 HB.out, HF1.out⟩
      · have HB : Hid (inR l r = false) := by
          cases hb : inR l r
          · rfl
          · obtain ⟨h, _⟩ := HIn.out.1 hb; omega
        go_wp2
        go_ret2
        exact ⟨tup2 HB.out.symm, HF.out⟩
theorem wIn_any (w : World) (b c : Nat) (l : List (Int × Int)) (r : Int) (hR : RowsAt w b l) (hb : b < w.heap.size) (hl : l.length ≤ 1000) (hs : Rise l = true) :
    Calls Tryd.prog 30 #[.slice (some ⟨b, 0, none⟩) l.length c, .int .i32 r] w fun e w' => e = .returned (.bool (inR l r)) ∧ Fr NoB w w' := by
  have HB := hid (wbs_any w b c l r hR hb hl hs)
  clear hR hs
  go_enter Tryd.func30, Tryd.ntmps30
  go_wp2_with fail
  refine HB.out.mono ?_
  rintro e' w1 ⟨rfl, hf1⟩
  have HF1 := hid hf1
  clear hf1
  go_wp2
  go_ret
  exact ⟨rfl, HF1.out⟩
def widthZ (r : Int) : Int := if r < 32 ∨ (127 ≤ r ∧ r < 160) ∨ 1114111 < r then -1 else if inR wMarks r then 0 else if inR wWides r then 2 else 1
/-- The tables of package wide as they were laid. -/
structure WideLaid (w : World) : Prop where
  marks : RowsAt w 0 wMarks
  wides : RowsAt w 1 wWides
  lt : 1 < w.heap.size
theorem WideLaid.fr {w w1 : World} (h : WideLaid w) (hf : Fr NoB w w1) : WideLaid w1 := ⟨h.marks.fr hf (fun h => h), h.wides.fr hf (fun h => h), Nat.lt_of_lt_of_le h.lt hf.size⟩
set_option maxHeartbeats 2000000 in
theorem wWidth_any (w : World) (r : Int) (h : WideLaid w) : Calls Tryd.prog 14 #[.int .i32 r] w fun e w' => e = .returned (.int .i64 (widthZ r)) ∧ Fr NoB w w' := by
  have HM := fun W (hW : Fr NoB w W) => hid (wIn_any W 0 9 wMarks r (h.fr hW).marks (by have := (h.fr hW).lt; omega) (by decide) (by decide))
  have HW := fun W (hW : Fr NoB w W) => hid (wIn_any W 1 14 wWides r (h.fr hW).wides (by have := (h.fr hW).lt; omega) (by decide) (by decide))
  have e1 : wMarks.length = 9 := rfl
  have e2 : wWides.length = 14 := rfl
  rw [e1] at HM
  rw [e2] at HW
  clear e1 e2 h
  cases h1 : decide (r < 32)
  rotate_left
  · have hr : widthZ r = -1 := by unfold widthZ; rw [if_pos (.inl (of_decide_eq_true h1))]
    rw [hr]
    clear hr
    go_enter Tryd.func14, Tryd.ntmps14
    go_wp2
    go_ret
    exact ⟨rfl, Fr.refl _ _⟩
  cases h2 : decide (r ≥ 127)
  all_goals cases h3 : decide (r < 160)
  all_goals cases h4 : decide (r > 1114111)
  all_goals first
    | (have hr : widthZ r = -1 := by unfold widthZ; rw [if_pos (by simp at h1 h2 h3 h4; omega)]
       rw [hr]
       clear hr
       go_enter Tryd.func14, Tryd.ntmps14
       go_wp2
       go_ret
       exact ⟨rfl, Fr.refl _ _⟩
       done)
    | (have hr : widthZ r = if inR wMarks r then 0 else if inR wWides r then 2 else 1 := by unfold widthZ; rw [if_neg (by simp at h1 h2 h3 h4; omega)]
       rw [hr]
       clear hr
       cases hm : inR wMarks r
       · simp only [hm] at HM
         clear hm
         cases hw : inR wWides r
         · simp only [hw] at HW
           clear hw
           simp only [if_true, if_false, Bool.false_eq_true]
           go_enter Tryd.func14, Tryd.ntmps14
           go_wp2_with fail
           refine (HM _ (Fr.refl _ _)).out.mono ?_
           rintro e' w1 ⟨rfl, hf1⟩
           have HF1 := hid hf1
           clear hf1
           go_wp2_with fail
           refine (HW _ HF1.out).out.mono ?_
           rintro e' w2 ⟨rfl, hf2⟩
           have HF2 := hid (HF1.out.trans hf2)
           clear hf2
           go_wp2
           go_ret
           exact ⟨rfl, HF2.out⟩
         · simp only [hw] at HW
           clear hw
           simp only [if_true, if_false, Bool.false_eq_true]
           go_enter Tryd.func14, Tryd.ntmps14
           go_wp2_with fail
           refine (HM _ (Fr.refl _ _)).out.mono ?_
           rintro e' w1 ⟨rfl, hf1⟩
           have HF1 := hid hf1
           clear hf1
           go_wp2_with fail
           refine (HW _ HF1.out).out.mono ?_
           rintro e' w2 ⟨rfl, hf2⟩
           have HF2 := hid (HF1.out.trans hf2)
           clear hf2
           go_wp2
           go_ret
           exact ⟨rfl, HF2.out⟩
       · simp only [hm] at HM
         clear hm
         simp only [if_true, if_false, Bool.false_eq_true]
         go_enter Tryd.func14, Tryd.ntmps14
         go_wp2_with fail
         refine (HM _ (Fr.refl _ _)).out.mono ?_
         rintro e' w1 ⟨rfl, hf1⟩
         have HF1 := hid hf1
         clear hf1
         go_wp2
         go_ret
         exact ⟨rfl, HF1.out⟩)
/-- Pairs of numbers, one behind the other. -/
def PairsAt (w : World) (g : Nat) (l : List (Int × Int)) : Prop := ∀ k (h : k < l.length), w.cell? ⟨g, 2 * k, none⟩ = some (.int .i64 l[k].1) ∧ w.cell? ⟨g, 2 * k + 1, none⟩ = some (.int .i64 l[k].2)
theorem PairsAt.fr {S : Nat → Prop} {w w1 : World} {g : Nat} {l : List (Int × Int)} (h : PairsAt w g l) (hf : Fr S w w1) (hs : ¬ S g) : PairsAt w1 g l := fun k hk => ⟨cell_keep (h k hk).1 hf hs, cell_keep (h k hk).2 hf hs⟩
set_option maxHeartbeats 2000000 in
theorem w3In_any (w : World) (g c n : Nat) (l : List (Int × Int)) (v : Int) (hP : PairsAt w g l) (hl : l.length ≤ 1000) (hn : n = 2 * l.length) :
    Calls Tryd.prog 32 #[.slice (some ⟨g, 0, none⟩) n c, .int .i64 v] w fun e w' => e = .returned (.bool (inR l v)) ∧ Fr NoB w w' := by
  have HP := hid hP
  have hnb : n ≤ 2000 := by omega
  have HN := hid hn
  clear hP hn
  go_enter Tryd.func32, Tryd.ntmps32
  go_wp2
  go_loopw [5] (fun v5 wr => ∃ j : Nat, v5 = .int .i64 j ∧ Hid (Fr NoB w wr ∧ ∃ k, j = 2 * k ∧ k ≤ l.length ∧ inR (l.take k) v = false)) (fun v5 _ => n - (intOf v5).toNat)
  case atStart => exact ⟨0, rfl, Fr.refl _ _, 0, rfl, by omega, rfl⟩
  case round =>
    obtain ⟨j, rfl, HR⟩ := hrel
    obtain ⟨hw, k, hj, hk, hin⟩ := HR.out
    have HF := hid hw
    clear hw
    have HIN := hid hin
    have HJ := hid hj
    have hjn : j ≤ n := by have := HN.out; omega
    clear hin hj
    by_cases hkl : k < l.length
    · have hj1 : j + 1 < n := by have := HN.out; have := HJ.out; omega
      obtain ⟨c0, c1⟩ := HP.out.fr HF.out (fun h => h) k hkl
      rw [← HJ.out] at c0 c1
      have hsucc : inR (l.take (k + 1)) v = (inR (l.take k) v || (decide (l[k].1 ≤ v) && decide (v ≤ l[k].2))) := by
        unfold inR
        rw [List.take_succ_eq_append_getElem hkl, List.any_append]
        simp
      have hall : (decide (l[k].1 ≤ v) && decide (v ≤ l[k].2)) = true → inR l v = true := fun h => by
        unfold inR
        rw [List.any_eq_true]
        exact ⟨_, List.getElem_mem hkl, h⟩
      have HS := hid hsucc
      have HA := hid hall
      clear hsucc hall
      generalize l[k] = x at *
      cases h1 : decide (v ≥ x.1)
      · go_wp2
        go_roundw
        case rel => exact ⟨j + 2, by go_num, HF.out, k + 1, by have := HJ.out; omega, by omega, by rw [HS.out, HIN.out]; have := of_decide_eq_false h1; simp; omega⟩
        case measure => simp [intOf]; omega
      · cases h2 : decide (v ≤ x.2)
        · go_wp2
          go_roundw
          case rel => exact ⟨j + 2, by go_num, HF.out, k + 1, by have := HJ.out; omega, by omega, by rw [HS.out, HIN.out]; have := of_decide_eq_false h2; simp; omega⟩
          case measure => simp [intOf]; omega
        · have hr := HA.out (by have := of_decide_eq_true h1; have := of_decide_eq_true h2; simp; omega)
          have HRr := hid hr
          clear hr
          go_wp2
          go_ret
          exact ⟨ret1 HRr.out.symm, HF.out⟩
    · have hj1 : n ≤ j := by have := HN.out; have := HJ.out; omega
      have hr : inR l v = false := by
        have h0 := HIN.out
        rwa [List.take_of_length_le (by omega)] at h0
      have HRr := hid hr
      clear hr
      go_wp2
      go_ret
      exact ⟨ret1 HRr.out.symm, HF.out⟩
def nums (l : List (Int × Int)) : List Value := l.flatMap fun p => [.int .i64 p.1, .int .i64 p.2]
theorem pairs_new (w : World) (l : List (Int × Int)) (T : TypeId) : PairsAt (w.alloc (.cells (nums l).toArray T (0, 0))) w.heap.size l := fun k hk => by
  have hb := Blk.new w T (nums l)
  have hn : ∀ x : Int × Int, (([.int .i64 x.1, .int .i64 x.2] : List Value)).length = 2 := fun _ => rfl
  have h0 := flat_get (f := fun p : Int × Int => ([.int .i64 p.1, .int .i64 p.2] : List Value)) hn l k 0 hk (by omega)
  have h1 := flat_get (f := fun p : Int × Int => ([.int .i64 p.1, .int .i64 p.2] : List Value)) hn l k 1 hk (by omega)
  rw [Nat.mul_comm]
  exact ⟨hb.cell _ h0, hb.cell _ h1⟩
set_option maxHeartbeats 2000000 in
theorem w3Width_any (w : World) (r : Int) : Calls Tryd.prog 16 #[.int .i64 r] w fun e w' => e = .returned (.int .i64 (widthZ r)) ∧ Fr NoB w w' := by
  have HM := hid (w3In_any _ w.heap.size 18 18 wMarks r (pairs_new w wMarks 3) (by decide) (by decide))
  have HW := fun W => hid (w3In_any _ (World.heap W).size 28 28 wWides r (pairs_new W wWides 3) (by decide) (by decide))
  have e1 : (nums wMarks).toArray = #[.int .i64 768, .int .i64 879, .int .i64 1155, .int .i64 1161, .int .i64 1425, .int .i64 1469, .int .i64 1552, .int .i64 1562, .int .i64 1611, .int .i64 1631, .int .i64 8203, .int .i64 8207, .int .i64 8400, .int .i64 8432, .int .i64 65024, .int .i64 65039, .int .i64 65056, .int .i64 65071] := rfl
  have e2 : (nums wWides).toArray = #[.int .i64 4352, .int .i64 4447, .int .i64 11904, .int .i64 12350, .int .i64 12353, .int .i64 13311, .int .i64 13312, .int .i64 19903, .int .i64 19968, .int .i64 40959, .int .i64 40960, .int .i64 42191, .int .i64 44032, .int .i64 55203, .int .i64 63744, .int .i64 64255, .int .i64 65072, .int .i64 65135, .int .i64 65280, .int .i64 65376, .int .i64 65504, .int .i64 65510, .int .i64 127744, .int .i64 128591, .int .i64 129280, .int .i64 129535, .int .i64 131072, .int .i64 262141] := rfl
  rw [e1] at HM
  rw [e2] at HW
  clear e1 e2
  cases h1 : decide (r < 32)
  rotate_left
  · have hr : widthZ r = -1 := by unfold widthZ; rw [if_pos (.inl (of_decide_eq_true h1))]
    rw [hr]
    clear hr
    go_enter Tryd.func16, Tryd.ntmps16
    go_wp2
    go_ret
    exact ⟨rfl, Fr.refl _ _⟩
  cases h2 : decide (r ≥ 127)
  all_goals cases h3 : decide (r ≤ 159)
  all_goals cases h4 : decide (r > 1114111)
  all_goals first
    | (have hr : widthZ r = -1 := by unfold widthZ; rw [if_pos (by simp at h1 h2 h3 h4; omega)]
       rw [hr]
       clear hr
       go_enter Tryd.func16, Tryd.ntmps16
       go_wp2
       go_ret
       exact ⟨rfl, Fr.refl _ _⟩
       done)
    | (have hr : widthZ r = if inR wMarks r then 0 else if inR wWides r then 2 else 1 := by unfold widthZ; rw [if_neg (by simp at h1 h2 h3 h4; omega)]
       rw [hr]
       clear hr
       cases hm : inR wMarks r
       · rw [hm] at HM
         clear hm
         cases hw : inR wWides r
         · rw [hw] at HW
           clear hw
           simp only [if_true, if_false, Bool.false_eq_true]
           go_enter Tryd.func16, Tryd.ntmps16
           go_wp2_with fail
           refine HM.out.mono ?_
           rintro e' w1 ⟨rfl, hf1⟩
           have HF1 := hid ((Fr.alloc (Fr.refl NoB w) _).trans hf1)
           clear hf1
           go_wp2_with fail
           refine (HW _).out.mono ?_
           rintro e' w2 ⟨rfl, hf2⟩
           have HF2 := hid ((HF1.out.alloc _).trans hf2)
           clear hf2
           go_wp2
           go_ret
           exact ⟨rfl, HF2.out⟩
         · rw [hw] at HW
           clear hw
           simp only [if_true, if_false, Bool.false_eq_true]
           go_enter Tryd.func16, Tryd.ntmps16
           go_wp2_with fail
           refine HM.out.mono ?_
           rintro e' w1 ⟨rfl, hf1⟩
           have HF1 := hid ((Fr.alloc (Fr.refl NoB w) _).trans hf1)
           clear hf1
           go_wp2_with fail
           refine (HW _).out.mono ?_
           rintro e' w2 ⟨rfl, hf2⟩
           have HF2 := hid ((HF1.out.alloc _).trans hf2)
           clear hf2
           go_wp2
           go_ret
           exact ⟨rfl, HF2.out⟩
       · rw [hm] at HM
         clear hm
         simp only [if_true, if_false, Bool.false_eq_true]
         go_enter Tryd.func16, Tryd.ntmps16
         go_wp2_with fail
         refine HM.out.mono ?_
         rintro e' w1 ⟨rfl, hf1⟩
         have HF1 := hid ((Fr.alloc (Fr.refl NoB w) _).trans hf1)
         clear hf1
         go_wp2
         go_ret
         exact ⟨rfl, HF1.out⟩)
end Go.Proofs.YtnengimekcnfhaaDoor
