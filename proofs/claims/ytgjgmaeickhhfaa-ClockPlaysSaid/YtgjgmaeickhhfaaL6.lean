import Derived.Test.YtgjgmaeickhhfaaL5
import Derived.Test.YtgjgmaeickhhfaaK11
import Derived.IntWalk
set_option linter.unusedSimpArgs false
set_option linter.unusedVariables false
namespace Go.Proofs.Ytgjgmaeickhhfaa
open Go.RowKit Go.Proofs.YtgjgmaeickhhfaaW.PrintWords
theorem sizeTm (w : World) : (Go.sizeOf 33).run Try.prog w = .ok 3 w := by kernel_rfl
theorem flat_single (t : Tm) : [t].flatMap Tm.cells = t.cells := by simp
theorem cut_lo3 (g n c k : Nat) (hk : k ≤ n) (hkc : k < c) (W : World) : (Instr.slice 26 (.slice (some ⟨g, 0, none⟩) n c) (some (.int .i64 k)) none none).run Try.prog W = .ok (.slice (some ⟨g, k * 3, none⟩) (n - k) (c - k)) W := by
  obtain ⟨i0, hi, hz0, hz1, hz2⟩ := info_parts infoTm
  obtain ⟨ad, hcut, had⟩ := cut_lo (P := Try.prog) 26 33 i0 Try.underlying26 hi g n c k hk
  rw [hcut W, had hkc, hz1]
theorem cut_end (A : Option Addr) (n c : Nat) : ∃ A', ∀ W, (Instr.slice 26 (.slice A n c) (some (.int .i64 n)) none none).run Try.prog W = .ok (.slice A' 0 (c - n)) W := by
  refine ⟨if c = n then A else A.map (·.add (n * 3)), fun W => ?_⟩
  have he : Try.prog.elem 26 = 33 := by simp [Program.elem, Try.underlying26]
  rw [run_slice_l W 26 A n c (by rw [he]; exact Try.underlying26) .i64 n (by omega) (by omega), he, sizeTm]
  simp [sliced, Result.andThen]
theorem overlaps_no (w : World) (a b o la ca lb cb : Nat) (tA tB : TypeId) (l l' : List Value) (ha : Blk w a tA l) (hb : Blk w b tB l') (hl : 0 < l'.length) (hne : a ≠ b) :
    (callFunc 34 #[.slice (some ⟨a, 0, none⟩) la ca, .slice (some ⟨b, o, none⟩) lb cb]).run Try.prog w = .ok (.value (.bool false)) w := by
  rw [run_callFunc_extern Try.func34 (by kernel_rfl) (by kernel_rfl) (by kernel_rfl) (e := Extern.SlicesOverlaps.overlaps #[26, 26] #[4]) (by kernel_rfl),
    Lib.run_overlaps_apart w 26 4 33 Try.underlying26 3 sizeTm ⟨a, 0, none⟩ ⟨b, o, none⟩ la ca lb cb hne tA tB _ _ ha.shape hb.shape (by omega) (ha.frozen 0) (ha.frozen _)]
  rfl
set_option maxHeartbeats 4000000 in
theorem ins_end (w : World) (v : Value) (xs : List Tm) (t : Tm) (bt : Nat) (hV : SV w v xs) (hl : xs.length + 1 ≤ 4096) (hb : Blk w bt 33 t.cells) :
    Calls Try.prog 24 #[v, .int .i64 xs.length, .slice (some ⟨bt, 0, none⟩) 1 1] w (SVto v (xs ++ [t]) w) := by
  have HR := hid (SV.row hV)
  have HS : Hid (∀ j u, ([t].flatMap Tm.cells)[j]? = some u → w.cell? ((⟨bt, 0, none⟩ : Addr).add j) = some u) := fun j u hj => by
    rw [flat_single] at hj
    exact hb.cells 0 t.cells (fun j v hj => by rwa [Nat.zero_add]) j u hj
  have HL1 : Hid ([t].length = 1) := rfl
  have h64 : Hid ((xs.length + 1) * 24 ≤ 140737488355328) := (show _ ≤ _ by omega)
  have key : ∀ (A : Option Addr) (c : Nat), v = .slice A xs.length c → Calls Try.prog 24 #[v, .int .i64 xs.length, .slice (some ⟨bt, 0, none⟩) 1 1] w (SVto v (xs ++ [t]) w) := by
    rintro A c rfl
    clear hV
    obtain ⟨A', hcut⟩ := cut_end A xs.length c
    go_enter Try.func24, Try.ntmps24
    go_wp2_with (at_builtin; go_must (refine row_apps (f := Tm.cells) Tm.cells_len Tm.one 0 rfl (.tmp 23) (.tmp 24) 26 33 Tm.zero 24 rfl Try.underlying26 infoTm rfl (by omega) (by omega) (.slice A xs.length c) xs [t] ⟨bt, 0, none⟩ 1 1 rfl rfl HL1 HS.out HR.out (by omega) h64.out ?_); intro v1 w1 hv1 hf1 hat)
    go_ret
    refine ⟨_, rfl, SV.of_row hv1, hf1, fun k hk => ?_⟩
    have hk' : v1.ownBlock = some k := hk
    rcases hat with h1 | h1
    · exact .inl (h1.symm.trans hk')
    · rw [h1] at hk'
      exact .inr (Nat.le_of_eq (Option.some.inj hk'))
  rcases hV with ⟨rfl, rfl⟩ | ⟨g, c, rest, rfl, _⟩
  · exact key none 0 rfl
  · exact key _ c rfl
/-- t put in at i, the rows told as lists of cells. -/
theorem put_cells (xs : List Tm) (t : Tm) (i : Nat) (hi : i ≤ xs.length) : (xs.take i ++ t :: xs.drop i).flatMap Tm.cells = (xs.take i).flatMap Tm.cells ++ t.cells ++ (xs.drop i).flatMap Tm.cells := by
  rw [List.flatMap_append, List.flatMap_cons, List.append_assoc]
theorem put_len (xs : List Tm) (t : Tm) (i : Nat) (hi : i ≤ xs.length) : (xs.take i ++ t :: xs.drop i).length = xs.length + 1 := by
  rw [List.length_append, List.length_cons, List.length_drop, List.length_take]
  omega
/-- The two copies of an Insert where there is room. -/
theorem TV.shifted {w : World} {g : Nat} {xs : List Tm} {rest : List Value} {c : Nat} (hV : TV w g xs rest c) (i : Nat) (hi : i < xs.length) (hc : xs.length + 1 ≤ c) (t : Tm) {w2 : World} {L1 L2 : List Value}
    (h1 : L1 = (xs.flatMap Tm.cells ++ rest).take ((i + 1) * 3) ++ (xs.drop i).flatMap Tm.cells ++ (xs.flatMap Tm.cells ++ rest).drop ((i + 1) * 3 + ((xs.drop i).flatMap Tm.cells).length))
    (h2 : L2 = L1.take (i * 3) ++ t.cells ++ L1.drop (i * 3 + t.cells.length)) (hB : Blk w2 g 33 L2) : TV w2 g (xs.take i ++ t :: xs.drop i) (rest.drop 3) c := by
  have hl := Vec.len hV
  have hr : 3 ≤ rest.length := by omega
  refine ⟨?_, ?_⟩
  · rw [put_cells xs t i (by omega)]
    refine hB.eq ?_
    subst h1
    subst h2
    have e1 : ((xs.drop i).flatMap Tm.cells).length = (xs.length - i) * 3 := by rw [flat_len Tm.cells_len, List.length_drop]
    have e2 : (i + 1) * 3 + ((xs.drop i).flatMap Tm.cells).length = (xs.flatMap Tm.cells).length + 3 := by rw [e1, flat_len Tm.cells_len]; omega
    have e3 := flat_take Tm.cells_len xs rest (i + 1) (by omega)
    have e4 : ((xs.take (i + 1)).flatMap Tm.cells).length = i * 3 + 3 := by rw [flat_len Tm.cells_len, List.length_take, Nat.min_eq_left (by omega)]; omega
    have e5 : ((xs.take (i + 1)).flatMap Tm.cells).take (i * 3) = (xs.take i).flatMap Tm.cells := by
      have := flat_take Tm.cells_len (xs.take (i + 1)) [] i (by rw [List.length_take]; omega)
      rw [List.append_nil, List.take_take, Nat.min_eq_left (by omega)] at this
      exact this
    have e6 : (xs.flatMap Tm.cells ++ rest).drop ((xs.flatMap Tm.cells).length + 3) = rest.drop 3 := by rw [← List.drop_drop, List.drop_left]
    rw [e2, e6, e3, Tm.cells_len, List.append_assoc ((xs.take (i + 1)).flatMap Tm.cells), List.take_append_of_le_length (by omega), e5, List.drop_left' e4]
    simp only [List.append_assoc]
  · rw [put_len xs t i (by omega), List.length_drop]
    omega
set_option maxHeartbeats 4000000 in
theorem ins_room (w : World) (g c : Nat) (xs : List Tm) (rest : List Value) (i : Nat) (t : Tm) (bt : Nat) (hV : TV w g xs rest c) (hc : xs.length + 1 ≤ c) (hcm : c ≤ maxLen) (hi : i < xs.length) (hl : xs.length + 1 ≤ 4096) (hb : Blk w bt 33 t.cells) (hne : bt ≠ g) :
    Calls Try.prog 24 #[.slice (some ⟨g, 0, none⟩) xs.length c, .int .i64 i, .slice (some ⟨bt, 0, none⟩) 1 1] w (SVto (.slice (some ⟨g, 0, none⟩) xs.length c) (xs.take i ++ t :: xs.drop i) w) := by
  obtain ⟨i0, hi0, hz0, hz1, hz2⟩ := info_parts infoTm
  unfold maxLen at hcm
  have s1 := cut_lo3 g xs.length c i (by omega) (by omega)
  have s2 := cut_lo3 g (xs.length + 1) c (i + 1) (by omega) (by omega)
  rw [show ((i + 1 : Nat) : Int) = (i : Int) + 1 by omega] at s2
  have hw : IntKind.i64.wrap ((i : Int) + 1) = (i : Int) + 1 := IntWalk.i64_in _ (by omega)
  have s3 := cut_lo3 g (xs.length + 1) c i (by omega) (by omega)
  have hov := fun la ca lb cb => overlaps_no w bt g ((i + 1) * 3) la ca lb cb 33 33 t.cells _ hb (Vec.blk hV) (by rw [List.length_append, flat_len Tm.cells_len]; omega) hne
  have HV := hid hV
  have hVd : TV w.drew g xs rest c := Vec.fr hV (Fr.refl NoB w).drew (fun h => h)
  have HB0 := hid (Vec.blk hVd)
  have HB := hid hb.drew
  have hdl : Hid (((xs.drop i).flatMap Tm.cells).length = (xs.length - i) * i0.size) := (show _ = _ by rw [flat_len Tm.cells_len, List.length_drop, hz1])
  have hfit : Hid ((i + 1) * 3 + ((xs.drop i).flatMap Tm.cells).length ≤ (xs.flatMap Tm.cells ++ rest).length) := by
    show _ ≤ _
    have := Vec.len hV
    rw [List.length_append, flat_len Tm.cells_len, flat_len Tm.cells_len, List.length_drop]
    omega
  have hsrc : Hid (∀ j u, ((xs.drop i).flatMap Tm.cells)[j]? = some u → w.drew.cell? ((⟨g, i * 3, none⟩ : Addr).add j) = some u) := Vec.src hVd Tm.cells_len i (by omega) (xs.drop i) (List.prefix_refl _)
  have ht1 : Hid (t.cells.length = 1 * i0.size) := (show _ = _ by rw [hz1, Tm.cells_len])
  have hmin : Hid (Nat.min (xs.length + 1 - i) (xs.length - i) = xs.length - i) := (show _ = _ from Nat.min_eq_right (by omega))
  have hmin2 : Hid (Nat.min 1 (xs.length + 1 - i) = 1) := (show _ = _ from Nat.min_eq_left (by omega))
  obtain ⟨L1, hL1⟩ : ∃ L1, L1 = (xs.flatMap Tm.cells ++ rest).take ((i + 1) * 3) ++ (xs.drop i).flatMap Tm.cells ++ (xs.flatMap Tm.cells ++ rest).drop ((i + 1) * 3 + ((xs.drop i).flatMap Tm.cells).length) := ⟨_, rfl⟩
  have hfit2 : Hid (i * 3 + t.cells.length ≤ L1.length) := by
    show _ ≤ _
    have h5 := hfit.out
    rw [hL1, Tm.cells_len, List.length_append, List.length_append, List.length_take, List.length_drop, Nat.min_eq_left (by omega)]
    omega
  have HL1 := hid hL1
  clear hL1 hV hVd hb hz0 hz1 hz2
  have hgt : decide ((xs.length : Int) + 1 > (c : Int)) = false := by simp; omega
  have h64 : (xs.length : Int) + 1 ≤ 9223372036854775807 := by omega
  have e1 : ((xs.length : Int) + 1).toNat = xs.length + 1 := by omega
  have e2 : ((i : Int) + 1).toNat = i + 1 := by omega
  have hei : ((i : Int) == (xs.length : Int)) = false := by rw [beq_eq_false_iff_ne]; omega
  have hei' : decide ((i : Int) = (xs.length : Int)) = false := by rw [decide_eq_false_iff_not]; omega
  go_enter Try.func24, Try.ntmps24
  go_wp2_with fail
  refine wp_region_still_tail 8 (by kernel_rfl) (by kernel_rfl) ?_
  change wpStill _ _ (World.drew _) _ _ _
  simp only [List.take_succ_cons, List.take_zero, List.drop_succ_cons, List.drop_zero]
  iterate 8 still_step
  refine wpStill_nil ?_
  change wpList _ _ _ _ _ (World.drew _)
  go_wp2_with first
    | ((with_reducible refine at_bi .copy (d := some 77) ?_); go_must (refine wpList_copy_blk rfl (.tmp 73) (.tmp 76) 26 26 rfl 33 i0 Try.underlying26 hi0 g ((i + 1) * 3) (xs.length - i) (c - (i + 1)) ⟨g, i * 3, none⟩ (xs.length + 1 - i) (c - i) (xs.length - i) rfl rfl hmin.out 33 _ ((xs.drop i).flatMap Tm.cells) HB0 hdl.out hsrc.out (flat_one Tm.one _) hfit.out ?_; intro w2 hB2 hf2; rw [← HL1.out] at hB2; have hs2 := (HB.out.fr hf2 (show ¬ At g bt from hne)).cells 0 t.cells (fun j v hj => by rwa [Nat.zero_add]); have HS2 := hid hs2; clear hs2))
    | ((with_reducible refine at_bi .copy (d := some 82) ?_); go_must (refine wpList_copy_blk rfl (.tmp 80) (.tmp 81) 26 26 rfl 33 i0 Try.underlying26 hi0 g (i * 3) (xs.length + 1 - i) (c - i) ⟨bt, 0, none⟩ 1 1 1 rfl rfl hmin2.out 33 _ t.cells hB2 ht1.out HS2.out (Tm.one t) hfit2.out ?_; intro w3 hB3 hf3))
  go_ret
  have hV3 := TV.shifted HV.out i hi hc t HL1.out rfl hB3.out
  refine ⟨_, rfl, .inr ⟨g, c, _, by rw [put_len xs t i (by omega)]; rfl, hV3, by rw [put_len xs t i (by omega)]; omega, by unfold maxLen; omega⟩, (((Fr.refl _ w).drew.trans hf2).trans hf3).mono (fun k hk => congrArg some hk.symm), fun k hk => .inl ?_⟩
  exact hk
/-- The rows behind the two copies of an Insert that grows. -/
theorem TV.grown {w2 : World} {H : Nat} {xs : List Tm} {L0 L1 L2 : List Value} {c : Nat} (i : Nat) (hi : i < xs.length) (hc : xs.length + 1 ≤ c) (t : Tm) (h0 : (xs.take i).length * 3 + L0.length = c * 3)
    (h1 : L1 = ((xs.take i).flatMap Tm.cells ++ L0).take (i * 3) ++ t.cells ++ ((xs.take i).flatMap Tm.cells ++ L0).drop (i * 3 + t.cells.length))
    (h2 : L2 = L1.take ((i + 1) * 3) ++ (xs.drop i).flatMap Tm.cells ++ L1.drop ((i + 1) * 3 + ((xs.drop i).flatMap Tm.cells).length)) (hB : Blk w2 H 33 L2) : ∃ rest, TV w2 H (xs.take i ++ t :: xs.drop i) rest c := by
  have hl : (xs.take i).length = i := by rw [List.length_take]; omega
  have h3 : ((xs.take i).flatMap Tm.cells).length = i * 3 := by rw [flat_len Tm.cells_len, hl]
  have h4 : ((xs.drop i).flatMap Tm.cells).length = (xs.length - i) * 3 := by rw [flat_len Tm.cells_len, List.length_drop]
  rw [List.take_left' h3] at h1
  have h5 : ((xs.take i).flatMap Tm.cells ++ t.cells).length = (i + 1) * 3 := by rw [List.length_append, h3, Tm.cells_len]; omega
  rw [h1, List.take_left' h5] at h2
  refine ⟨L1.drop ((i + 1) * 3 + ((xs.drop i).flatMap Tm.cells).length), ?_, ?_⟩
  · rw [put_cells xs t i (by omega), h1]
    exact hB.eq h2
  · rw [put_len xs t i (by omega), List.length_drop, h4, h1, List.length_append, h5, List.length_drop, List.length_append, h3, Tm.cells_len]
    omega
set_option maxHeartbeats 4000000 in
theorem ins_grow (w : World) (g c : Nat) (xs : List Tm) (rest : List Value) (i : Nat) (t : Tm) (bt : Nat) (hV : TV w g xs rest c) (hc : ¬ xs.length + 1 ≤ c) (hxc : xs.length ≤ c) (hi : i < xs.length) (hl : xs.length + 1 ≤ 4096) (hb : Blk w bt 33 t.cells) :
    Calls Try.prog 24 #[.slice (some ⟨g, 0, none⟩) xs.length c, .int .i64 i, .slice (some ⟨bt, 0, none⟩) 1 1] w (SVto (.slice (some ⟨g, 0, none⟩) xs.length c) (xs.take i ++ t :: xs.drop i) w) := by
  obtain ⟨i0, hi0, hz0, hz1, hz2⟩ := info_parts infoTm
  have s1 := cut_lo3 g xs.length c i (by omega) (by omega)
  have hgl := TV.lt hV
  have HV := hid hV
  have HB := hid hb
  have hbl := hb.lt
  have hw : IntKind.i64.wrap ((i : Int) + 1) = (i : Int) + 1 := IntWalk.i64_in _ (by omega)
  have hdl : Hid (((xs.drop i).flatMap Tm.cells).length = (xs.length - i) * i0.size) := (show _ = _ by rw [flat_len Tm.cells_len, List.length_drop, hz1])
  have ht1 : Hid (t.cells.length = 1 * i0.size) := (show _ = _ by rw [hz1, Tm.cells_len])
  have hmin : Hid (Nat.min (xs.length - i) (xs.length - i) = xs.length - i) := (show _ = _ from Nat.min_self _)
  have hmin2 : Hid (Nat.min 1 (xs.length + 1 - i) = 1) := (show _ = _ from Nat.min_eq_left (by omega))
  have hgt : decide ((xs.length : Int) + 1 > (c : Int)) = true := by simp; omega
  have hkx : Hid ((xs.length : Int) + 1 - (i : Int) = ((xs.length + 1 - i : Nat) : Int)) := (show _ = _ by omega)
  have hik : Hid (i + (xs.length + 1 - i) = xs.length + 1) := (show _ = _ by omega)
  have hik2 : i + (xs.length + 1 - i) ≤ xs.length + 1 := by omega
  have hcl : c < xs.length + 1 := by omega
  have hei : ((i : Int) == (xs.length : Int)) = false := by rw [beq_eq_false_iff_ne]; omega
  have hei' : decide ((i : Int) = (xs.length : Int)) = false := by rw [decide_eq_false_iff_not]; omega
  have htl : Hid (((xs.take i).flatMap Tm.cells).length = i * 3) := (show _ = _ by rw [flat_len Tm.cells_len, List.length_take, Nat.min_eq_left (by omega)])
  have hti : Hid ((xs.take i).length = i) := (show _ = _ by rw [List.length_take, Nat.min_eq_left (by omega)])
  have hdi : Hid (((xs.drop i).flatMap Tm.cells).length = (xs.length - i) * 3) := (show _ = _ by rw [flat_len Tm.cells_len, List.length_drop])
  clear hV hb hz0 hz1 hz2 hc
  go_enter Try.func24, Try.ntmps24
  go_wp2_with first
    | (at_builtin; go_must (refine wpList_append_zeros (f := Tm.cells) Tm.cells_len rfl (.tmp 34) (.tmp 39) 26 3 33 Tm.zero 24 .i64 rfl Try.underlying26 Try.underlying3 infoTm rfl (by omega) (by omega) g i c (xs.length + 1 - i) (xs.length + 1) _ rfl rfl hkx.out hik.out xs rest HV.out (by omega) (by omega) hcl (by omega) ?_); go_must (intro c1 L w1 hc1 hcm1 hV1 hf1; unfold maxLen at hcm1; have p1 := cut_lo3 w.heap.size (xs.length + 1) c1 i (by omega) (by omega); have p2 := cut_lo3 w.heap.size (xs.length + 1) c1 (i + 1) (by omega) (by omega); rw [show ((i + 1 : Nat) : Int) = (i : Int) + 1 by omega] at p2; have hB1 := hid (Vec.blk hV1.out); have hlen := hid (Vec.len hV1.out); have hs1 := (HB.out.fr hf1 (fun h => h)).cells 0 t.cells (fun j v hj => by rwa [Nat.zero_add]); have HS1 := hid hs1; clear hs1; have hfitA : Hid (i * 3 + t.cells.length ≤ ((xs.take i).flatMap Tm.cells ++ L).length) := (show _ ≤ _ by have h7 := hlen.out; rw [hti.out] at h7; rw [List.length_append, htl.out, Tm.cells_len]; omega)))
    | ((with_reducible refine at_bi .copy (d := some 45) ?_); go_must (refine wpList_copy_blk rfl (.tmp 43) (.tmp 44) 26 26 rfl 33 i0 Try.underlying26 hi0 w.heap.size (i * 3) (xs.length + 1 - i) (c1 - i) ⟨bt, 0, none⟩ 1 1 1 rfl rfl hmin2.out 33 _ t.cells hB1 ht1.out HS1.out (Tm.one t) hfitA.out ?_; intro w2 hB2 hf2))
  obtain ⟨L1, hL1⟩ : ∃ L1, L1 = ((xs.take i).flatMap Tm.cells ++ L).take (i * 3) ++ t.cells ++ ((xs.take i).flatMap Tm.cells ++ L).drop (i * 3 + t.cells.length) := ⟨_, rfl⟩
  rw [← hL1] at hB2
  have HL1 := hid hL1
  have hB3 := hid hB2.out.drew
  have hVd : TV w2.drew g xs rest c := Vec.fr (Vec.fr HV.out hf1 (fun h => h)) hf2.drew (fun h => by have : g = w.heap.size := h; omega)
  have hsrc : Hid (∀ j u, ((xs.drop i).flatMap Tm.cells)[j]? = some u → w2.drew.cell? ((⟨g, i * 3, none⟩ : Addr).add j) = some u) := Vec.src hVd Tm.cells_len i (by omega) (xs.drop i) (List.prefix_refl _)
  have hfit3 : Hid ((i + 1) * 3 + ((xs.drop i).flatMap Tm.cells).length ≤ L1.length) := by
    show _ ≤ _
    have h7 := hlen.out
    rw [hti.out] at h7
    rw [hdi.out, hL1, List.length_append, List.length_append, List.length_take, List.length_drop, List.length_append, htl.out, Tm.cells_len, Nat.min_eq_left (by omega)]
    omega
  clear hL1 hVd
  refine wp_region_still_tail 8 (by kernel_rfl) (by kernel_rfl) ?_
  change wpStill _ _ (World.drew _) _ _ _
  simp only [List.take_succ_cons, List.take_zero, List.drop_succ_cons, List.drop_zero]
  iterate 8 still_step
  refine wpStill_nil ?_
  change wpList _ _ _ _ _ (World.drew _)
  go_wp2_with ((with_reducible refine at_bi .copy (d := some 54) ?_); go_must (refine wpList_copy_blk rfl (.tmp 50) (.tmp 53) 26 26 rfl 33 i0 Try.underlying26 hi0 w.heap.size ((i + 1) * 3) (xs.length - i) (c1 - (i + 1)) ⟨g, i * 3, none⟩ (xs.length - i) (c - i) (xs.length - i) rfl rfl hmin.out 33 _ ((xs.drop i).flatMap Tm.cells) hB3 hdl.out hsrc.out (flat_one Tm.one _) hfit3.out ?_; intro w3 hB4 hf3))
  go_ret
  obtain ⟨r3, hV3⟩ := TV.grown i hi hc1 t hlen.out HL1.out rfl hB4.out
  refine ⟨_, rfl, .inr ⟨_, c1, r3, by rw [put_len xs t i (by omega)]; rfl, hV3, by rw [put_len xs t i (by omega)]; omega, by unfold maxLen; omega⟩, ?_, fun k hk => .inr ?_⟩
  · exact (hf1.then_ (hf2.drew.trans hf3) (fun k hk => .inr (by have : k = w.heap.size := hk; omega))).mono (fun _ h => h.elim)
  · have hk' : some w.heap.size = some k := hk
    exact Nat.le_of_eq (Option.some.inj hk')
/-- slices.Insert of one timer. -/
theorem ins_any (w : World) (v : Value) (xs : List Tm) (i : Nat) (t : Tm) (bt : Nat) (hV : SV w v xs) (hi : i ≤ xs.length) (hl : xs.length + 1 ≤ 4096) (hb : Blk w bt 33 t.cells) (hne : ¬ OwnB v bt) :
    Calls Try.prog 24 #[v, .int .i64 i, .slice (some ⟨bt, 0, none⟩) 1 1] w (SVto v (xs.take i ++ t :: xs.drop i) w) := by
  by_cases h : i = xs.length
  · subst h
    rw [List.take_length, List.drop_length]
    exact ins_end w v xs t bt hV hl hb
  · rcases hV with ⟨rfl, rfl⟩ | ⟨g, c, rest, rfl, hV, hxc, hcm⟩
    · simp at hi
      simp at h
      omega
    · by_cases hc : xs.length + 1 ≤ c
      · exact ins_room w g c xs rest i t bt hV hc hcm (by omega) hl hb (fun e => hne (congrArg some e.symm))
      · exact ins_grow w g c xs rest i t bt hV hc hxc (by omega) hl hb
end Go.Proofs.Ytgjgmaeickhhfaa
