import Derived.Test.YtlpjehmanodhpaaN4
import Derived.RegionTactic
set_option linter.unusedSimpArgs false
set_option linter.unusedVariables false
namespace Go.Proofs.Ytlpjehmanodhpaa
open Go.RowKit Go.Proofs.YtlpjehmanodhpaaW.PrintWords
def iC (n : Int) : List Value := [.int .i64 n]
theorem iC_len (n : Int) : (iC n).length = 1 := rfl
theorem iC_one (n : Int) : ∀ u ∈ iC n, u.oneCell' = true := by
  intro u hu
  simp only [iC, List.mem_cons, List.not_mem_nil, or_false] at hu
  subst hu
  rfl
theorem infoInt : (Try.prog.info? 3).map (fun i => (i.zero, i.size, i.bytes)) = some (some (.int .i64 0), 1, 8) := by kernel_rfl
theorem iVec_set {w : World} {g : Nat} {ps : List Int} {rest : List Value} {c : Nat} (h : Vec iC 1 w g 3 ps rest c) (n : Nat) (hn : n < ps.length) (v : Int) : Vec iC 1 (w.setCell ⟨g, n, none⟩ (.int .i64 v)) g 3 (ps.set n v) rest c := by
  refine ⟨(h.blk.set n (.int .i64 v)).eq ?_, by rw [List.length_set]; exact h.len⟩
  have e := flat_set iC_len ps n 0 hn (by omega) (.int .i64 v) v rfl
  rw [Nat.mul_one, Nat.add_zero] at e
  rw [List.set_append_left _ _ (by rw [flat_len iC_len]; omega), e]
/-- Parameters in memory: none, or a block of numbers. -/
def VP (w : World) (q : SqV) (ps : List Int) : Prop :=
  (q.pA = none ∧ q.pn = 0 ∧ q.pc = 0 ∧ ps = []) ∨ ∃ g rest, q.pA = some ⟨g, 0, none⟩ ∧ q.pn = ps.length ∧ Vec iC 1 w g 3 ps rest q.pc ∧ ps.length ≤ q.pc ∧ q.pc ≤ maxLen
theorem VP.fr {S : Nat → Prop} {w w1 : World} {q : SqV} {ps : List Int} (h : VP w q ps) (hf : Fr S w w1) (hs : ∀ k, OwnB q.pv k → ¬ S k) : VP w1 q ps := by
  rcases h with h | ⟨g, rest, h1, h2, h3, h4, h5⟩
  · exact .inl h
  · exact .inr ⟨g, rest, h1, h2, h3.fr hf (hs g (by unfold SqV.pv OwnB; rw [h1]; rfl)), h4, h5⟩
theorem VP.ne {w : World} {q : SqV} {ps : List Int} {b : Nat} {T : TypeId} {l : List Value} (h : VP w q ps) (hb : Blk w b T l) (he : 3 ≠ T) : ¬ OwnB q.pv b := by
  rcases h with ⟨h1, _⟩ | ⟨g, rest, h1, h2, h3, h4, h5⟩
  · intro hk
    unfold SqV.pv OwnB at hk
    rw [h1] at hk
    cases hk
  · intro hk
    unfold SqV.pv OwnB at hk
    rw [h1] at hk
    obtain rfl : g = b := Option.some.inj hk
    have h2 := h3.blk
    unfold Blk at h2 hb
    rw [hb] at h2
    injection h2 with h3
    injection h3 with h4 h5
    exact he h5.symm
theorem VP.lt {w : World} {q : SqV} {ps : List Int} (h : VP w q ps) (k : Nat) (hk : OwnB q.pv k) : k < w.heap.size := by
  unfold SqV.pv OwnB at hk
  rcases h with ⟨h1, _⟩ | ⟨g, rest, h1, h2, h3, h4, h5⟩
  · rw [h1] at hk
    cases hk
  · rw [h1] at hk
    obtain rfl : g = k := Option.some.inj hk
    exact h3.blk.lt
theorem VP.row_ne {w : World} {q : SqV} {ps : List Int} {base : Nat} {tv : Value} {ts : List SqV} (h : VP w q ps) (hr : Row SqV.cells 7 30 w base tv ts) : ∀ k, OwnB tv k → ¬ OwnB q.pv k := by
  rcases h with ⟨h1, _⟩ | ⟨g, rest, h1, h2, h3, h4, h5⟩
  · intro k _ hk
    unfold SqV.pv OwnB at hk
    rw [h1] at hk
    cases hk
  · intro k hk' hk
    unfold SqV.pv OwnB at hk
    rw [h1] at hk
    obtain rfl : g = k := Option.some.inj hk
    exact Row.not_blk hr h3.blk (by decide) hk'
def stepNum (l : List Int) (c : Int) : List Int := l.set (l.length - 1) (min (max (l.getD (l.length - 1) 0) 0 * 10 + (c - 48)) 9999)
def paramP (ps : List Int) (c : Int) : List Int :=
  let l := if ps = [] then [-1] else ps
  if c ≤ 57 then stepNum l c else if l.length ≤ 16 then l ++ [-1] else l
theorem str_ne {s : ByteArray} (h : s.size ≠ 0) : s.toList.isEmpty = false := by
  have h2 : s.toList.length = s.size := by
    rw [ByteArray.toList_eq]
    exact Array.length_toList
  cases h3 : s.toList with
  | nil => rw [h3] at h2; exact absurd h2.symm h
  | cons a l => rfl
theorem str_em {s : ByteArray} (h : s.size = 0) : s.toList.isEmpty = true := by
  have h2 : s.toList.length = s.size := by
    rw [ByteArray.toList_eq]
    exact Array.length_toList
  cases h3 : s.toList with
  | nil => rfl
  | cons a l => rw [h3, h] at h2; simp at h2
/-- Behind param: new parameters, in their old block or a new one. -/
def QTo (b base : Nat) (x : Lo) (ps' : List Int) (ts : List SqV) (w : World) (e : Ending) (w' : World) : Prop :=
  e = .returned (.tuple #[]) ∧ ∃ A n c, PL w' b base { x with q := { x.q with pA := A, pn := n, pc := c } } ts ∧ VP w' { x.q with pA := A, pn := n, pc := c } ps' ∧ Fr (fun k => k = b ∨ OwnB x.q.pv k) w w' ∧ ∀ k, OwnB (.slice A n c) k → OwnB x.q.pv k ∨ w.heap.size ≤ k
theorem param_bad (w : World) (b base : Nat) (x : Lo) (ts : List SqV) (c : Int) (h : PL w b base x ts) (h2 : x.q.inter.size ≠ 0) :
    Calls Try.prog 44 #[.pointer (some ⟨b, 0, none⟩), .int .u8 c] w (PBad w) := by
  obtain ⟨d, hd, hblk⟩ := h.blk
  have c10 := hblk.cell 10 rfl
  have hlt := hblk.lt
  have t1 : x.q.inter.toList.isEmpty = false := str_ne h2
  clear h h2 hblk hd
  go_enter Try.func44, Try.ntmps44
  go_wp2
  exact ⟨rfl, rfl, rfl⟩
set_option maxHeartbeats 4000000 in
theorem param_new (w : World) (b base : Nat) (x : Lo) (ts : List SqV) (c : Int) (h : PL w b base x ts) (hV : VP w x.q []) (h2 : x.q.inter.size = 0) (hc0 : 48 ≤ c) (hc1 : c ≤ 59) :
    Calls Try.prog 44 #[.pointer (some ⟨b, 0, none⟩), .int .u8 c] w (QTo b base x (paramP [] c) ts w) := by
  have HP := hid h
  obtain ⟨d, hd, hblk⟩ := h.blk
  have c10 := hblk.cell 10 rfl
  have c11 := hblk.cell 11 rfl
  have f11 := hblk.frozen 11
  have hlt := hblk.lt
  have HB := hid hblk
  have t1 : x.q.inter.toList.isEmpty = true := str_em h2
  have e2 : x.q.pn = 0 := by
    rcases hV with ⟨q1, q2, q3, _⟩ | ⟨g, rest, q1, q2, q3, q4, q5⟩
    · exact q2
    · exact q2
  have HV := hid hV
  rw [e2] at c11
  clear h hV hblk h2 e2
  by_cases h57 : c ≤ 57
  · have hpp : paramP [] c = stepNum [-1] c := by unfold paramP; rw [if_pos h57]; rfl
    rw [hpp]
    have t2 : decide (c ≤ 57) = true := by simp [h57]
    clear hpp
    have HVec : Hid (Vec iC 1 ((w.setCell ⟨b, 11, none⟩ (.slice (some ⟨w.heap.size, 0, none⟩) 1 1)).alloc (.cells #[.int .i64 (-1)] 3)) w.heap.size 3 [-1] [] 1) := ⟨by have := Blk.new (w.setCell ⟨b, 11, none⟩ (.slice (some ⟨w.heap.size, 0, none⟩) 1 1)) 3 [.int .i64 (-1)]; rwa [sz_setCell] at this, rfl⟩
    have HFW : Hid (Fr (At b) w ((w.setCell ⟨b, 11, none⟩ (.slice (some ⟨w.heap.size, 0, none⟩) 1 1)).alloc (.cells #[.int .i64 (-1)] 3))) := ((Fr.refl (At b) w).setAt 11 _).alloc _
    have HBW : Hid (Blk ((w.setCell ⟨b, 11, none⟩ (.slice (some ⟨w.heap.size, 0, none⟩) 1 1)).alloc (.cells #[.int .i64 (-1)] 3)) b 33 (d.cells ++ Lo.rest { x with q := { x.q with pA := some ⟨w.heap.size, 0, none⟩, pn := 1, pc := 1 } })) := (HB.out.set 11 _).alloc _
    go_enter Try.func44, Try.ntmps44
    go_wp2
    generalize hW : (w.setCell ⟨b, 11, none⟩ (.slice (some ⟨w.heap.size, 0, none⟩) 1 1)).alloc (.cells #[.int .i64 (-1)] 3) = W at HVec HFW HBW ⊢
    clear hW c10 c11 f11
    obtain ⟨g, hg⟩ : ∃ g, g = w.heap.size := ⟨_, rfl⟩
    have v0 := HVec.out.cell iC_len 0 (by simp) 0 (by omega) rfl
    have vf := HVec.out.blk.frozen 0
    have b11 := HBW.out.cell 11 rfl
    have hltW := HBW.out.lt
    have hgW := HVec.out.blk.lt
    have hs : stepNum [-1] c = [c - 48] := by
      unfold stepNum
      simp
      omega
    have HS := hid hs
    have HD := hid hd
    clear hs hd
    go_region
    all_goals
      go_wp2
      go_end0
      have hF : Fr (At b) w (W.setCell ⟨w.heap.size, 0, none⟩ (.int .i64 (c - 48))).drew := (HFW.out.setCell (p := ⟨w.heap.size, 0, none⟩) (.inr (Nat.le_refl _)) _).drew
      rw [HS.out]
      refine ⟨rfl, some ⟨w.heap.size, 0, none⟩, 1, 1, ⟨⟨d, HD.out, (HBW.out.other (p := ⟨w.heap.size, 0, none⟩) (by show b ≠ w.heap.size; omega) _).drew⟩, HP.out.row.fr hF (fun k hk he => HP.out.ne (by have he' : k = b := he; subst he'; exact hk))⟩, .inr ⟨w.heap.size, [], rfl, rfl, ⟨(HVec.out.blk.set 0 (.int .i64 (c - 48))).drew, rfl⟩, by simp, by simp [maxLen]⟩, hF.mono (fun k hk => .inl hk), fun k hk => .inr ?_⟩
      have hk' : some w.heap.size = some k := hk
      exact Nat.le_of_eq (Option.some.inj hk')
  · have hpp : paramP [] c = [-1, -1] := by unfold paramP; rw [if_neg h57]; rfl
    rw [hpp]
    have t2 : decide (c ≤ 57) = false := by simpa using h57
    clear hpp
    have HBW : Hid (Blk ((w.setCell ⟨b, 11, none⟩ (.slice (some ⟨w.heap.size, 0, none⟩) 1 1)).alloc (.cells #[.int .i64 (-1)] 3)) b 33 (d.cells ++ Lo.rest { x with q := { x.q with pA := some ⟨w.heap.size, 0, none⟩, pn := 1, pc := 1 } })) := (HB.out.set 11 _).alloc _
    have hR1 : Row iC 1 3 ((w.setCell ⟨b, 11, none⟩ (.slice (some ⟨w.heap.size, 0, none⟩) 1 1)).alloc (.cells #[.int .i64 (-1)] 3)) w.heap.size (.slice (some ⟨w.heap.size, 0, none⟩) 1 1) [-1] := by
      have h5 := World.ownsRow_lit (base := w.heap.size) (e := 3) (size := 1) (w.setCell ⟨b, 11, none⟩ (.slice (some ⟨w.heap.size, 0, none⟩) 1 1)) #[.int .i64 (-1)] 1 (by rw [sz_setCell]; exact Nat.le_refl _) (by simp [maxLen]) (by simp)
      rw [sz_setCell] at h5
      exact h5
    have HR1 := hid hR1
    have HFW : Hid (Fr (At b) w ((w.setCell ⟨b, 11, none⟩ (.slice (some ⟨w.heap.size, 0, none⟩) 1 1)).alloc (.cells #[.int .i64 (-1)] 3))) := ((Fr.refl (At b) w).setAt 11 _).alloc _
    have HR2 : Hid (Row iC 1 3 (((w.setCell ⟨b, 11, none⟩ (.slice (some ⟨w.heap.size, 0, none⟩) 1 1)).alloc (.cells #[.int .i64 (-1)] 3)).alloc (.cells #[.int .i64 (-1)] 3)) w.heap.size (.slice (some ⟨w.heap.size, 0, none⟩) 1 1) [-1]) := hR1.fr ((Fr.refl NoB _).alloc _) (fun _ _ h => h)
    have HFW2 : Hid (Fr (At b) w (((w.setCell ⟨b, 11, none⟩ (.slice (some ⟨w.heap.size, 0, none⟩) 1 1)).alloc (.cells #[.int .i64 (-1)] 3)).alloc (.cells #[.int .i64 (-1)] 3))) := HFW.out.alloc _
    have hsrc : ∀ j u, ([(-1 : Int)].flatMap iC)[j]? = some u → ((((w.setCell ⟨b, 11, none⟩ (.slice (some ⟨w.heap.size, 0, none⟩) 1 1)).alloc (.cells #[.int .i64 (-1)] 3)).alloc (.cells #[.int .i64 (-1)] 3))).cell? ((⟨w.heap.size + 1, 0, none⟩ : Addr).add j) = some u := fun j u hj => by
      have h5 := Blk.new ((w.setCell ⟨b, 11, none⟩ (.slice (some ⟨w.heap.size, 0, none⟩) 1 1)).alloc (.cells #[.int .i64 (-1)] 3)) 3 [.int .i64 (-1)]
      rw [World.size_alloc, sz_setCell] at h5
      exact h5.cells 0 [.int .i64 (-1)] (fun j v hj => by rwa [Nat.zero_add]) j u hj
    have HS := hid hsrc
    have HM : Hid ([(-1 : Int)].length = 1) := rfl
    clear hR1 hsrc
    go_enter Try.func44, Try.ntmps44
    go_wp2_with (at_builtin; go_must (refine row_apps (f := iC) iC_len iC_one w.heap.size rfl (.tmp 65) (.tmp 66) 28 3 (.int .i64 0) 8 rfl Try.underlying28 infoInt rfl (by omega) (by omega) (.slice (some ⟨w.heap.size, 0, none⟩) 1 1) [-1] [-1] ⟨w.heap.size + 1, 0, none⟩ 1 1 rfl rfl HM HS.out HR2.out HFW2.out.size (by simp) ?_; intro v1 w1 hr1 hf1 hat; obtain ⟨A1, c1, rfl, _⟩ := Row.shape hr1; have hb1 := (HBW.out.alloc (.cells #[.int .i64 (-1)] 3)).fr hf1 (fun h => by have h' : some w.heap.size = some b := h; have := Option.some.inj h'; omega); have p1 := hb1.cell 11 rfl; have p2 := hb1.frozen 11; have p3 := hb1.lt; have HR3 := hid hr1; have HF3 := hid hf1; have HB3 := hid hb1; have HA3 := hid hat; clear hr1 hf1 hb1 hat))
    go_end0
    have hF : Fr (At b) w (w1.setCell ⟨b, 11, none⟩ (.slice A1 2 c1)) := (HFW2.out.then_ HF3.out (fun k hk => .inr (by have hk' : some w.heap.size = some k := hk; exact Nat.le_of_eq (Option.some.inj hk')))).setAt 11 _
    obtain ⟨g, c2, rest, hv, hVec, hbg, hcap, hmx⟩ := Vec.of_row HR3.out (by simp)
    injection hv with q1 q2 q3
    subst q1
    subst q3
    have hgb : g ≠ b := by omega
    refine ⟨rfl, some ⟨g, 0, none⟩, 2, c1, ⟨⟨d, hd, HB3.out.set 11 _⟩, HP.out.row.fr hF (fun k hk he => HP.out.ne (by have he' : k = b := he; subst he'; exact hk))⟩, .inr ⟨g, rest, rfl, rfl, hVec.fr ((Fr.refl (At b) w1).setAt 11 _) (show ¬ At b g from hgb), hcap, hmx⟩, hF.mono (fun k hk => .inl hk), fun k hk => .inr ?_⟩
    have hk' : some g = some k := hk
    have := Option.some.inj hk'
    omega
set_option maxHeartbeats 4000000 in
theorem param_more (w : World) (b base : Nat) (x : Lo) (ts : List SqV) (ps : List Int) (n : Nat) (c : Int) (h : PL w b base x ts) (hV : VP w x.q ps) (hn : ps.length = n + 1) (hn16 : n ≤ 16) (hr : ∀ q ∈ ps, -1 ≤ q ∧ q ≤ 9999) (h2 : x.q.inter.size = 0) (hc0 : 48 ≤ c) (hc1 : c ≤ 59) :
    Calls Try.prog 44 #[.pointer (some ⟨b, 0, none⟩), .int .u8 c] w (QTo b base x (paramP ps c) ts w) := by
  have HP := hid h
  have HVP := hid hV
  obtain ⟨d, hd, hblk⟩ := h.blk
  have c10 := hblk.cell 10 rfl
  have c11 := hblk.cell 11 rfl
  have f11 := hblk.frozen 11
  have hlt := hblk.lt
  have HB := hid hblk
  have t1 : x.q.inter.toList.isEmpty = true := str_em h2
  obtain ⟨g, rest, q1, q2, hVec, hcap, hmx⟩ : ∃ g rest, x.q.pA = some ⟨g, 0, none⟩ ∧ x.q.pn = ps.length ∧ Vec iC 1 w g 3 ps rest x.q.pc ∧ ps.length ≤ x.q.pc ∧ x.q.pc ≤ maxLen := by
    rcases hV with ⟨_, _, _, q4⟩ | h
    · rw [q4] at hn
      simp at hn
    · exact h
  have hne0 : ps ≠ [] := fun e => by rw [e] at hn; simp at hn
  rw [q1, q2, hn] at c11
  have hgb : g ≠ b := fun e => hV.ne hblk (by decide) (by unfold SqV.pv OwnB; rw [q1, e]; rfl)
  have hnp : n < ps.length := by omega
  have hpv : OwnB x.q.pv = fun k => some g = some k := by unfold OwnB SqV.pv; rw [q1]; rfl
  have HPV := hid hpv
  have HVec := hid hVec
  have hmx' : x.q.pc ≤ 9223372036854775807 := hmx
  have HQ1 := hid q1
  have HQ2 := hid q2
  have hgl := hVec.blk.lt
  have HNE := hid hne0
  by_cases h57 : c ≤ 57
  · have hpp : paramP ps c = stepNum ps c := by unfold paramP; rw [if_neg hne0, if_pos h57]
    rw [hpp]
    have t2 : decide (c ≤ 57) = true := by simp [h57]
    have v0 := HVec.out.cell iC_len n hnp 0 (by omega) rfl
    have vf := HVec.out.blk.frozen n
    obtain ⟨r1, r2⟩ := hr ps[n] (List.getElem_mem hnp)
    have hsn : stepNum ps c = ps.set n (min (max ps[n] 0 * 10 + (c - 48)) 9999) := by
      unfold stepNum
      rw [hn, Nat.add_sub_cancel, List.getD_eq_getElem?_getD, List.getElem?_eq_getElem hnp]
      rfl
    have HSN := hid hsn
    have HN := hid hn
    have HD := hid hd
    rw [Nat.mul_one, Nat.add_zero] at v0
    generalize ps[n] = q at *
    have i1 : (0 : Int) ≤ (n : Int) := by omega
    clear hpp h hV hblk h2 q1 q2 hVec hn hr hne0 hpv hsn hd
    by_cases hq : q < 0
    · have hval : Hid (min (max q 0 * 10 + (c - 48)) 9999 = c - 48) := (show _ = _ by omega)
      go_enter Try.func44, Try.ntmps44
      go_wp2
      go_region
      all_goals
        go_wp2
        go_end0
        have hF : ∀ u : Value, Fr (fun k => k = b ∨ OwnB x.q.pv k) w (w.setCell ⟨g, n, none⟩ u).drew := fun u => ((Fr.refl _ w).setCell (p := ⟨g, n, none⟩) (.inl (.inr (by rw [HPV.out]))) u).drew
        have hVn := fun v => (iVec_set HVec.out n hnp v).fr ((Fr.refl NoB _).drew) (fun h => h)
        refine ⟨rfl, x.q.pA, x.q.pn, x.q.pc, ⟨⟨d, HD.out, (HB.out.other (p := ⟨g, n, none⟩) (fun e => hgb e.symm) _).drew⟩, HP.out.row.fr (hF _) (fun k hk he => ?_)⟩, .inr ⟨g, rest, HQ1.out, ?_, ?_, ?_, hmx⟩, hF _, fun k hk => .inl hk⟩
        · rcases he with he | he
          · exact HP.out.ne (by subst he; exact hk)
          · exact HVP.out.row_ne HP.out.row k hk he
        · rw [HSN.out, List.length_set]
          exact HQ2.out
        · rw [HSN.out, hval.out]
          exact hVn _
        · rw [HSN.out, List.length_set]
          exact hcap
    · by_cases hm : q * 10 + (c - 48) ≤ 9999
      · have hval : Hid (min (max q 0 * 10 + (c - 48)) 9999 = q * 10 + (c - 48)) := (show _ = _ by omega)
        go_enter Try.func44, Try.ntmps44
        go_wp2
        go_region
        all_goals
          go_wp2
          go_end0
          have hF : ∀ u : Value, Fr (fun k => k = b ∨ OwnB x.q.pv k) w (w.setCell ⟨g, n, none⟩ u).drew := fun u => ((Fr.refl _ w).setCell (p := ⟨g, n, none⟩) (.inl (.inr (by rw [HPV.out]))) u).drew
          have hVn := fun v => (iVec_set HVec.out n hnp v).fr ((Fr.refl NoB _).drew) (fun h => h)
          refine ⟨rfl, x.q.pA, x.q.pn, x.q.pc, ⟨⟨d, HD.out, (HB.out.other (p := ⟨g, n, none⟩) (fun e => hgb e.symm) _).drew⟩, HP.out.row.fr (hF _) (fun k hk he => ?_)⟩, .inr ⟨g, rest, HQ1.out, ?_, ?_, ?_, hmx⟩, hF _, fun k hk => .inl hk⟩
          · rcases he with he | he
            · exact HP.out.ne (by subst he; exact hk)
            · exact HVP.out.row_ne HP.out.row k hk he
          · rw [HSN.out, List.length_set]
            exact HQ2.out
          · rw [HSN.out, hval.out]
            exact hVn _
          · rw [HSN.out, List.length_set]
            exact hcap
      · have hval : Hid (min (max q 0 * 10 + (c - 48)) 9999 = 9999) := (show _ = _ by omega)
        go_enter Try.func44, Try.ntmps44
        go_wp2
        go_region
        all_goals
          go_wp2
          go_end0
          have hF : ∀ u : Value, Fr (fun k => k = b ∨ OwnB x.q.pv k) w (w.setCell ⟨g, n, none⟩ u).drew := fun u => ((Fr.refl _ w).setCell (p := ⟨g, n, none⟩) (.inl (.inr (by rw [HPV.out]))) u).drew
          have hVn := fun v => (iVec_set HVec.out n hnp v).fr ((Fr.refl NoB _).drew) (fun h => h)
          refine ⟨rfl, x.q.pA, x.q.pn, x.q.pc, ⟨⟨d, HD.out, (HB.out.other (p := ⟨g, n, none⟩) (fun e => hgb e.symm) _).drew⟩, HP.out.row.fr (hF _) (fun k hk he => ?_)⟩, .inr ⟨g, rest, HQ1.out, ?_, ?_, ?_, hmx⟩, hF _, fun k hk => .inl hk⟩
          · rcases he with he | he
            · exact HP.out.ne (by subst he; exact hk)
            · exact HVP.out.row_ne HP.out.row k hk he
          · rw [HSN.out, List.length_set]
            exact HQ2.out
          · rw [HSN.out, hval.out]
            exact hVn _
          · rw [HSN.out, List.length_set]
            exact hcap
  · have t2 : decide (c ≤ 57) = false := by simpa using h57
    by_cases hlen : n < 16
    · have hpp : paramP ps c = ps ++ [-1] := by unfold paramP; rw [if_neg hne0, if_neg h57, if_pos (by omega)]
      rw [hpp]
      have t3 : decide ((n : Int) < 16) = true := by simp; omega
      have HR1 := hid (HVec.out.row iC_len (Nat.zero_le g) hcap hmx)
      rw [hn] at HR1
      have HN := hid hn
      have hl8 : (n + 1 + 1) * 8 ≤ 140737488355328 := by omega
      rw [← hn] at hl8
      have HL8 := hid hl8
      clear hpp h hV hblk h2 q1 q2 hVec hn hr hne0 hpv hl8
      go_enter Try.func44, Try.ntmps44
      go_wp2_with (at_builtin; go_must (refine row_app (f := iC) iC_len iC_one 0 rfl (.tmp 65) (.tmp 66) 28 3 (.int .i64 0) 8 rfl Try.underlying28 infoInt rfl (by omega) (by omega) (.slice (some ⟨g, 0, none⟩) (n + 1) x.q.pc) ps (-1) rfl rfl HR1.out (Nat.zero_le _) HL8.out ?_; intro v1 w1 hr1 hf1 hat; obtain ⟨A1, c1, rfl, _⟩ := Row.shape hr1; have hb1 := HB.out.fr hf1 (fun h => by have h' : some g = some b := h; have := Option.some.inj h'; omega); have p1 := hb1.cell 11 rfl; have p2 := hb1.frozen 11; have p3 := hb1.lt; have HR3 := hid hr1; have HF3 := hid hf1; have HB3 := hid hb1; have HA3 := hid hat; clear hr1 hf1 hb1 hat))
      go_end0
      have hF : Fr (fun k => k = b ∨ OwnB x.q.pv k) w (w1.setCell ⟨b, 11, none⟩ (.slice A1 (ps.length + 1) c1)) := ((Fr.refl _ w).then_ HF3.out (fun k hk => .inl (.inr (by rw [HPV.out]; exact hk)))).setCell (p := ⟨b, 11, none⟩) (.inl (.inl rfl)) _
      obtain ⟨g2, c2, rest2, hv, hVec2, hbg, hcap2, hmx2⟩ := Vec.of_row HR3.out (by simp)
      injection hv with z1 z2 z3
      subst z1
      subst z3
      have hgb2 : g2 ≠ b := fun e => Row.not_blk HR3.out HB3.out (by decide) (by rw [e]; rfl)
      refine ⟨rfl, some ⟨g2, 0, none⟩, ps.length + 1, c1, ⟨⟨d, hd, HB3.out.set 11 _⟩, HP.out.row.fr hF (fun k hk he => ?_)⟩, .inr ⟨g2, rest2, rfl, by rw [List.length_append]; rfl, hVec2.fr ((Fr.refl (At b) w1).setAt 11 _) (show ¬ At b g2 from hgb2), hcap2, hmx2⟩, hF, fun k hk => ?_⟩
      · rcases he with he | he
        · exact HP.out.ne (by subst he; exact hk)
        · exact HVP.out.row_ne HP.out.row k hk he
      · rw [HPV.out]
        rcases HA3.out with h7 | ⟨j, h7, h8⟩
        · exact .inl (h7.symm.trans hk)
        · have hk' : some g2 = some k := hk
          have h7' : some g2 = some j := h7
          rw [hk'] at h7'
          have := Option.some.inj h7'
          exact .inr (by omega)
    · have hpp : paramP ps c = ps := by unfold paramP; rw [if_neg hne0, if_neg h57, if_neg (by omega)]
      rw [hpp]
      have t3 : decide ((n : Int) < 16) = false := by simp; omega
      clear hpp h hV hblk h2 q1 q2 hVec hn hr hne0 hpv
      go_enter Try.func44, Try.ntmps44
      go_wp2
      go_end0
      exact ⟨rfl, x.q.pA, x.q.pn, x.q.pc, HP.out, HVP.out, Fr.refl _ _, fun k hk => .inl hk⟩
end Go.Proofs.Ytlpjehmanodhpaa
