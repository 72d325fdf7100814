import Derived.Test.YtgjgmaeickhhfaaL2
import Derived.Deep.DeepMust
set_option linter.unusedSimpArgs false
set_option linter.unusedVariables false
namespace Go.Proofs.Ytgjgmaeickhhfaa
open Go.RowKit Go.Proofs.YtgjgmaeickhhfaaW.PrintWords
def Tm.zero : Value := .agg #[.int .i64 0, .int .i64 0, .int .i64 0]
theorem infoTm : (Try.prog.info? 33).map (fun i => (i.zero, i.size, i.bytes)) = some (some Tm.zero, 3, 24) := by kernel_rfl
theorem zeroTm (w : World) : (zeroValue 33).run Try.prog w = .ok Tm.zero w := by kernel_rfl
theorem Tm.one (t : Tm) : ∀ u ∈ t.cells, u.oneCell' = true := by
  intro u hu
  simp only [Tm.cells, List.mem_cons, List.not_mem_nil, or_false] at hu
  rcases hu with rfl | rfl | rfl <;> rfl
theorem TV.frozen {w : World} {g : Nat} {xs : List Tm} {rest : List Value} {c : Nat} (h : TV w g xs rest c) (j : Nat) : w.frozen? ⟨g, j, none⟩ = false := Blk.frozen (Vec.blk h) j
theorem TV.lt {w : World} {g : Nat} {xs : List Tm} {rest : List Value} {c : Nat} (h : TV w g xs rest c) : g < w.heap.size := Blk.lt (Vec.blk h)
theorem TV.set3 {w : World} {g : Nat} {xs : List Tm} {rest : List Value} {c : Nat} (h : TV w g xs rest c) (k : Nat) (hk : k < xs.length) (x : Tm) :
    TV (((w.setCell ⟨g, k * 3, none⟩ (.int .i64 x.env)).setCell ⟨g, k * 3 + 1, none⟩ (.int .i64 x.id)).setCell ⟨g, k * 3 + 2, none⟩ (.int .i64 x.at_)) g (xs.set k x) rest c := by
  have hlt : k * 3 + 3 ≤ (xs.flatMap Tm.cells).length := by rw [flat_len Tm.cells_len]; omega
  have b3 := (((Vec.blk h).set (k * 3) (.int .i64 x.env)).set (k * 3 + 1) (.int .i64 x.id)).set (k * 3 + 2) (.int .i64 x.at_)
  refine ⟨Blk.eq b3 ?_, by rw [List.length_set]; exact Vec.len h⟩
  rw [List.set_append_left _ _ (by omega), List.set_append_left _ _ (by rw [List.length_set]; omega), List.set_append_left _ _ (by rw [List.length_set, List.length_set]; omega)]
  congr 1
  have e1 := flat_set Tm.cells_len xs k 0 hk (by omega) (.int .i64 x.env) ⟨x.env, xs[k].id, xs[k].at_⟩ rfl
  have e2 := flat_set Tm.cells_len (xs.set k ⟨x.env, xs[k].id, xs[k].at_⟩) k 1 (by simpa using hk) (by omega) (.int .i64 x.id) ⟨x.env, x.id, xs[k].at_⟩ (by rw [List.getElem_set_self]; rfl)
  have e3 := flat_set Tm.cells_len ((xs.set k ⟨x.env, xs[k].id, xs[k].at_⟩).set k ⟨x.env, x.id, xs[k].at_⟩) k 2 (by simpa using hk) (by omega) (.int .i64 x.at_) x (by rw [List.getElem_set_self]; rfl)
  rw [Nat.add_zero] at e1
  rw [e1, e2, e3, List.set_set, List.set_set]
/-- A call answers a slice with timers xs; it has written to v's block alone. -/
def SVto (v : Value) (xs : List Tm) (w : World) (e : Ending) (w' : World) : Prop := ∃ v', e = .returned v' ∧ SV w' v' xs ∧ Fr (OwnB v) w w' ∧ ∀ k, OwnB v' k → OwnB v k ∨ w.heap.size ≤ k
theorem any_filter {p : Tm → Bool} {xs : List Tm} (h : xs.any p = false) : xs.filter (fun x => !p x) = xs := by
  rw [List.filter_eq_self]
  intro x hx
  have := List.any_eq_false.1 h x hx
  simpa using this
theorem zeros3 (n : Nat) : ∀ u ∈ (List.replicate n ()).flatMap (fun _ => [Value.int .i64 0, .int .i64 0, .int .i64 0]), u.oneCell' = true := by
  intro u hu
  obtain ⟨_, _, hx⟩ := List.mem_flatMap.1 hu
  simp only [List.mem_cons, List.not_mem_nil, or_false] at hx
  rcases hx with rfl | rfl | rfl <;> rfl
theorem zeros3_len (n : Nat) : ((List.replicate n ()).flatMap (fun _ => [Value.int .i64 0, .int .i64 0, .int .i64 0])).length = n * 3 := by
  rw [flat_len (n := 3) (fun _ => rfl), List.length_replicate]
/-- The world behind clear(s[m:]). -/
theorem TV.cleared {w : World} {g : Nat} {zs : List Tm} {rest : List Value} {c m : Nat} (h : TV w g zs rest c) (hm : m ≤ zs.length) {w1 : World} {L : List Value} (hL : L = zs.flatMap Tm.cells ++ rest)
    (hB : Hid (Blk w1 g 33 (L.take (m * 3) ++ (List.replicate (zs.length - m) ()).flatMap (fun _ => [Value.int .i64 0, .int .i64 0, .int .i64 0]) ++ L.drop (m * 3 + ((List.replicate (zs.length - m) ()).flatMap (fun _ => [Value.int .i64 0, .int .i64 0, .int .i64 0])).length)))) :
    TV w1 g (zs.take m) ((List.replicate (zs.length - m) ()).flatMap (fun _ => [Value.int .i64 0, .int .i64 0, .int .i64 0]) ++ rest) c := by
  subst hL
  have h1 := hB.out
  rw [flat_take Tm.cells_len zs rest m hm, zeros3_len, show m * 3 + (zs.length - m) * 3 = zs.length * 3 by omega, flat_drop Tm.cells_len zs rest zs.length (Nat.le_refl _), List.drop_length, List.flatMap_nil, List.nil_append, List.append_assoc] at h1
  refine ⟨h1, ?_⟩
  have := Vec.len h
  rw [List.length_append, zeros3_len, List.length_take, Nat.min_eq_left hm]
  omega
set_option maxHeartbeats 4000000 in
theorem delf_any (w : World) (v : Value) (fn : Nat) (lb : Array Value) (p : Tm → Bool) (xs : List Tm) (hV : SV w v xs) (hP : Pred fn lb p (OwnB v) w) (hl : xs.length ≤ 4096) :
    Calls Try.prog 31 #[v, .func (.func fn) #[] lb] w (SVto v (xs.filter fun x => !p x) w) := by
  cases ha : xs.any p
  · have hI := ixI_none ha
    have hF := any_filter ha
    have hix := ix_any w v fn lb p (OwnB v) xs hV hP hl
    rw [hI] at hix
    rw [hF]
    have HI := hid hix
    have HV := hid hV
    clear hI ha hix hF hP hV
    go_enter Try.func31, Try.ntmps31
    go_wp2_with (go_at_call 30; refine (HI.out).mono ?_; rintro e' w1 ⟨rfl, hf1⟩)
    go_ret
    exact ⟨v, rfl, HV.out.fr hf1 (fun _ _ h => h), hf1.mono (fun _ h => h.elim), fun k hk => .inl hk⟩
  · have hm0 : xs.findIdx p < xs.length := List.findIdx_lt_length_of_exists (by simpa using ha)
    have hmp : (xs.take (xs.findIdx p)).any p = false := by
      rw [List.any_eq_false]
      intro x hx
      obtain ⟨i, hi, rfl⟩ := List.mem_take_iff_getElem.1 hx
      have := List.not_of_lt_findIdx (p := p) (xs := xs) (i := i) (by omega)
      simpa using this
    have hpm : p (xs[xs.findIdx p]) = true := List.findIdx_getElem
    have hI : ixI p xs = (xs.findIdx p : Nat) := by unfold ixI; rw [if_pos ha]
    have hix := ix_any w v fn lb p (OwnB v) xs hV hP hl
    rw [hI] at hix
    have hbase : (xs.take (xs.findIdx p + 1)).filter (fun x => !p x) = xs.take (xs.findIdx p) := by
      rw [List.take_succ_eq_append_getElem hm0, List.filter_append, any_filter hmp, List.filter_cons, hpm]
      simp
    generalize xs.findIdx p = m0 at *
    rcases hV with ⟨rfl, rfl⟩ | ⟨g, c, rest, rfl, hV, hxc, hcm⟩
    · simp at hm0
    have HI := hid hix
    have HB := hid hbase
    have hne : ((m0 : Int) == -1) = false := by rw [beq_eq_false_iff_ne]; omega
    have hne' : decide ((m0 : Int) = -1) = false := by rw [decide_eq_false_iff_not]; omega
    clear hI ha hix hbase hmp hpm
    obtain ⟨eg, hPC⟩ := hP
    have HPC := hid hPC
    clear hPC
    go_enter Try.func31, Try.ntmps31
    go_wp2_with (go_at_call 30; refine (HI.out).mono ?_; rintro e' w1 ⟨rfl, hf1⟩)
    go_loopw [5, 6, 7] (fun v5 v6 v7 wr => ∃ (m j : Nat) (zs : List Tm), m < j ∧ j ≤ xs.length ∧ v5 = .int .i64 m ∧ v6 = .int .i64 j ∧ Hid (zs.length = xs.length) ∧ Hid (zs.take m = (xs.take j).filter fun x => !p x) ∧ Hid (zs.drop j = xs.drop j) ∧ TV wr g zs rest c ∧ Fr (At g) w wr) (fun _ v6 _ _ => xs.length - (intOf v6).toNat)
    case atStart => exact ⟨m0, m0 + 1, xs, by omega, by omega, rfl, by go_num, rfl, HB.out.symm, rfl, Vec.fr hV hf1 (fun h => h), hf1.mono (fun _ h => h.elim)⟩
    case round =>
      obtain ⟨m, j, zs, hmj, hj, rfl, rfl, HL, HT, HD, hZ, hf⟩ := hrel
      by_cases hjn : j < xs.length
      · have hjz : j < zs.length := by rw [HL.out]; exact hjn
        have hmz : m < zs.length := by omega
        obtain ⟨c0, c1, c2⟩ := TV.cells hZ j hjz
        obtain ⟨d0, d1, d2⟩ := TV.cells hZ m hmz
        have hzx : zs[j] = xs[j] := by
          have := congrArg (fun l => l[0]?) HD.out
          simpa [hjz, hjn] using this
        have hnext : (xs.take (j + 1)).filter (fun x => !p x) = (xs.take j).filter (fun x => !p x) ++ (if p zs[j] then [] else [zs[j]]) := by
          rw [List.take_succ_eq_append_getElem hjn, List.filter_append, hzx]
          cases hh : p xs[j] <;> simp [hh]
        have HN := hid hnext
        have hdz : zs.drop (j + 1) = xs.drop (j + 1) := by
          have := congrArg List.tail HD.out
          simpa using this
        have HDZ := hid hdz
        have hcall := fun W => HPC.out W zs[j]
        unfold Tm.v at hcall
        have hx0 : zs[j] = zs[j] := rfl
        clear hzx hnext hdz hx0
        generalize hxx : zs[j] = x at *
        have HC := hid hcall
        have f0 := TV.frozen hZ (m * 3)
        have f1 := TV.frozen hZ (m * 3 + 1)
        have f2 := TV.frozen hZ (m * 3 + 2)
        have hgl := TV.lt hZ
        have HZ := hid hZ
        clear hcall hxx hZ
        go_wp2_with fail
        refine (HC.out _ (((hf.mono (fun k hk => congrArg some hk.symm)).alloc _))).mono ?_
        rintro e' w2 ⟨rfl, hf2⟩
        have hbx : Blk w2 wr.heap.size 33 x.cells := (Blk.new wr 33 x.cells).fr hf2 (fun h => h)
        have b0 := hbx.cell 0 rfl
        have b1 := hbx.cell 1 rfl
        have b2 := hbx.cell 2 rfl
        have hZ2 : TV w2 g zs rest c := Vec.fr HZ.out (((Fr.refl NoB wr).alloc _).trans hf2) (fun h => h)
        have hf3 : Fr (At g) w w2 := (hf.alloc _).trans (hf2.mono (fun _ h => h.elim))
        clear d0 d1 d2 c0 c1 c2 f0 f1 f2 hbx HC HPC
        cases hx : p x
        · have HX := hid hx
          clear hx
          obtain ⟨d0, d1, d2⟩ := TV.cells hZ2 m hmz
          have f0 := TV.frozen hZ2 (m * 3)
          have f1 := TV.frozen hZ2 (m * 3 + 1)
          have f2 := TV.frozen hZ2 (m * 3 + 2)
          have hgl2 := TV.lt hZ2
          have hZ3 := TV.set3 hZ2 m hmz x
          have HZ3 := hid hZ3
          clear hZ3
          have hzl : Hid ((zs.set m x).length = xs.length) := (List.length_set ..).trans HL.out
          have hzt : Hid ((zs.set m x).take (m + 1) = (xs.take (j + 1)).filter fun x => !p x) := by
            show _ = _
            rw [HN.out, HX.out, ← HT.out, List.take_succ_eq_append_getElem (by rw [List.length_set]; exact hmz), List.take_set_of_le (Nat.le_refl _), List.getElem_set_self]
            rfl
          have hzd : Hid ((zs.set m x).drop (j + 1) = xs.drop (j + 1)) := by
            show _ = _
            rw [List.drop_set_of_lt (by omega)]
            exact HDZ.out
          have HF4 := hid (((hf3.setAt (m * 3) (.int .i64 x.env)).setAt (m * 3 + 1) (.int .i64 x.id)).setAt (m * 3 + 2) (.int .i64 x.at_))
          go_wp2
          exact ⟨⟨m + 1, j + 1, zs.set m x, by omega, by omega, by go_num, by go_num, hzl, hzt, hzd, HZ3.out, HF4.out⟩, by simp [intOf]; omega⟩
        · have HX := hid hx
          clear hx
          go_wp2
          go_roundw
          case rel => exact ⟨m, j + 1, zs, by omega, by omega, rfl, by go_num, HL, (show _ = _ by rw [HT.out, HN.out, HX.out]; simp), HDZ, hZ2, hf3⟩
          case measure => simp [intOf]; omega
      · obtain rfl : j = xs.length := by omega
        rw [List.take_length] at HT
        have hmc : m < c := by omega
        have hm4 : m ≤ 4096 := by omega
        obtain ⟨i0, hi, hz0, hz1, hz2⟩ := info_parts infoTm
        obtain ⟨ad, hcut, had⟩ := cut_lo (P := Try.prog) 26 33 i0 Try.underlying26 hi g xs.length c m (by omega)
        obtain rfl := had hmc
        rw [hz1] at hcut
        have HZ := hid hZ
        have hgl := TV.lt hZ
        clear hZ HPC HI HB
        have hB0 := hid (Vec.blk HZ.out)
        have hfit : m * 3 + ((List.replicate (xs.length - m) ()).flatMap (fun _ => [Value.int .i64 0, .int .i64 0, .int .i64 0])).length ≤ (zs.flatMap Tm.cells ++ rest).length := by
          rw [zeros3_len, List.length_append, flat_len Tm.cells_len, HL.out]
          omega
        have HFit := hid hfit
        clear hfit
        go_wp2_with (with_reducible refine at_bi .clear ?_; go_must (refine wpList_clear_blk rfl (.tmp 38) 26 rfl 33 Tm.zero Try.underlying26 zeroTm g (m * 3) (xs.length - m) (c - m) rfl (by omega) 33 _ _ (zero_cells _ [.int .i64 0, .int .i64 0, .int .i64 0] 3 _ rfl rfl (by omega)) hB0 (zeros3 _) HFit.out ?_); intro w3 hB3 hf3)
        go_ret
        have hz4 := TV.cleared (m := m) HZ.out (by rw [HL.out]; omega) rfl (by rw [HL.out]; exact hB3)
        have hln : (xs.filter fun x => !p x).length = m := by rw [← HT.out, List.length_take, HL.out]; omega
        rw [HT.out] at hz4
        refine ⟨_, rfl, .inr ⟨g, c, _, by rw [hln]; rfl, hz4, by rw [hln]; omega, hcm⟩, (hf.trans hf3).mono (fun k hk => congrArg some hk.symm), fun k hk => .inl ?_⟩
        exact hk
end Go.Proofs.Ytgjgmaeickhhfaa
