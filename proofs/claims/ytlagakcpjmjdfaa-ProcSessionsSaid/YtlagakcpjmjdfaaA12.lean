import Derived.Test.YtlagakcpjmjdfaaA11
import Derived.LaidEqlPtr
set_option linter.unusedSimpArgs false
set_option linter.unusedVariables false
set_option maxRecDepth 20000
namespace Go.Proofs.Ytlagakcpjmjdfaa
open Go.RowKit Go.Proofs.YtlagakcpjmjdfaaW.PrintWords
theorem Vec.set1p {α : Type} {f : α → List Value} {sz : Nat} {w : World} {g : Nat} {T : TypeId} {xs : List α} {rest : List Value} {c : Nat} (h : Vec f sz w g T xs rest c) (hn : ∀ x, (f x).length = sz) (k j : Nat) (hk : k < xs.length) (hj : j < sz) (v : Value) (x : α) (hx : f x = (f xs[k]).set j v) : Vec f sz (w.setCell ⟨g, k * sz + j, none⟩ v) g T (xs.set k x) rest c := by
  have hlt : k * sz + j < xs.length * sz := by
    have : (k + 1) * sz ≤ xs.length * sz := Nat.mul_le_mul_right _ hk
    rw [Nat.add_mul] at this
    omega
  refine ⟨Blk.eq (h.blk.set (k * sz + j) v) ?_, by rw [List.length_set]; exact h.len⟩
  rw [List.set_append_left _ _ (by rw [flat_len hn]; exact hlt)]
  congr 1
  exact flat_set hn xs k j hk hj v x hx
/-! The pointer to one process taken out. -/
theorem pExit1_yes (W : World) (a x : Nat) (hx : W.cell? ⟨x, 0, none⟩ = some (.pointer (some ⟨a, 0, none⟩))) : Calls Try.prog 35 #[.pointer (some ⟨a, 0, none⟩), .pointer (some ⟨x, 0, none⟩)] W fun e w' => e = .returned (.bool true) ∧ W = w' := by
  obtain ⟨i0, hi, hz0, hz1, hz2⟩ := info_parts infoPr
  have hr := fun (w : World) => run_eql_ptr_same (P := Try.prog) w ⟨a, 0, none⟩ Try.underlying62 hi
  clear hi hz0 hz1 hz2
  go_enter Try.func35, Try.ntmps35
  go_wp2
  go_ret
  exact ⟨rfl, rfl⟩
theorem pExit1_no (W : World) (a b x : Nat) (hne : a ≠ b) {T1 T2 : TypeId} {l1 l2 : List Value} (ha : Blk W a T1 l1) (hb : Blk W b T2 l2) (hx : W.cell? ⟨x, 0, none⟩ = some (.pointer (some ⟨a, 0, none⟩))) : Calls Try.prog 35 #[.pointer (some ⟨b, 0, none⟩), .pointer (some ⟨x, 0, none⟩)] W fun e w' => e = .returned (.bool false) ∧ W = w' := by
  obtain ⟨i0, hi, hz0, hz1, hz2⟩ := info_parts infoPr
  have hr := run_eql_ptr_other (P := Try.prog) W (a := ⟨b, 0, none⟩) (b := ⟨a, 0, none⟩) Try.underlying62 hi (by rw [hz1]; decide) (fun e => hne (by injection e with e; exact e.symm)) hb ha
  clear hi hz0 hz1 hz2 hne ha hb
  go_enter Try.func35, Try.ntmps35
  go_wp2
  go_ret
  exact ⟨rfl, rfl⟩
def asPr (b : Nat) : Pr := ⟨b, 0, 0, 0, 0, false⟩
theorem ix_nodup (bs : List Nat) (hnd : bs.Nodup) (i : Nat) (hi : i < bs.length) : ixP (isPid (bs[i] : Nat)) (bs.map asPr) = i := by
  refine ixP_hit (by simpa using hi) ?_ (by simp [isPid, asPr])
  rw [List.any_eq_false]
  intro p hp
  rw [List.mem_take_iff_getElem] at hp
  obtain ⟨j, hj, rfl⟩ := hp
  simp only [List.length_map] at hj
  simp only [List.getElem_map, isPid, asPr, beq_iff_eq]
  intro e
  have := nodup_inj hnd j i (by omega) hi (by omega)
  omega
set_option maxHeartbeats 4000000 in
theorem pdel_any (w : World) (g c x i : Nat) (rest : List Value) (bs : List Nat) (hV : Vec ptc 1 w g 62 bs rest c) (hc : bs.length ≤ c) (hcm : c ≤ maxLen) (hl : bs.length ≤ 4096) (hnd : bs.Nodup) (hi : i < bs.length) (hx : Blk w x 62 [.pointer (some ⟨bs[i], 0, none⟩)]) (hxg : x ≠ g) (hPB : ∀ W, Fr (At g) w W → ∀ k (hk : k < bs.length), ∃ T l, Blk W bs[k] T l) :
    Calls Try.prog 34 #[.slice (some ⟨g, 0, none⟩) bs.length c, .func (.func 35) #[] #[.pointer (some ⟨x, 0, none⟩)]] w fun e w' => e = .returned (.slice (some ⟨g, 0, none⟩) (bs.length - 1) c) ∧ (∃ rest', Vec ptc 1 w' g 62 (bs.eraseIdx i) rest' c) ∧ Fr (At g) w w' := by
  have hcall : ∀ W, Fr (At g) w W → W.cell? ⟨x, 0, none⟩ = some (.pointer (some ⟨bs[i], 0, none⟩)) → ∀ k (hk : k < bs.length), Calls Try.prog 35 #[.pointer (some ⟨bs[k], 0, none⟩), .pointer (some ⟨x, 0, none⟩)] W fun e w' => e = .returned (.bool (decide (k = i))) ∧ W = w' := by
    intro W hWf hW k hk
    by_cases e : k = i
    · subst e
      rw [decide_eq_true rfl]
      exact pExit1_yes W _ x hW
    · rw [decide_eq_false e]
      obtain ⟨T1, l1, b1⟩ := hPB W hWf i hi
      obtain ⟨T2, l2, b2⟩ := hPB W hWf k hk
      exact pExit1_no W _ _ x (fun e' => e (nodup_inj hnd i k hi hk e').symm) b1 b2 hW
  have hix := pix_any w (.slice (some ⟨g, 0, none⟩) bs.length c) 35 #[.pointer (some ⟨x, 0, none⟩)] (isPid (bs[i] : Nat)) bs (bs.map asPr) (.inr ⟨g, c, rest, rfl, hV, hc, hcm⟩) (by simp) ⟨fun args w => by kernel_rfl, fun W hW k h1 h2 => by
    have h := hcall W (hW.mono (fun _ h => h.elim)) ((hx.fr hW (fun h => h)).cell 0 rfl) k h1
    have e1 : isPid (bs[i] : Nat) (bs.map asPr)[k] = decide (k = i) := by
      simp only [List.getElem_map, isPid, asPr]
      rw [Bool.eq_iff_iff, beq_iff_eq, decide_eq_true_iff]
      constructor
      · intro e
        exact nodup_inj hnd k i h1 hi (by omega)
      · rintro rfl
        rfl
    rw [e1]
    exact h.mono fun e w' ⟨h1, h2⟩ => ⟨h1, h2 ▸ Fr.refl _ _⟩⟩ (by simpa using hl)
  rw [ix_nodup bs hnd i hi] at hix
  have HIX := hid hix
  have HC := hid hcall
  have HX := hid hx
  have HV := hid hV
  have hne : ((i : Int) == -1) = false := by rw [beq_eq_false_iff_ne]; omega
  have hne' : decide ((i : Int) = -1) = false := by rw [decide_eq_false_iff_not]; omega
  clear hix hcall hx hV hnd hPB
  go_enter Try.func34, Try.ntmps34
  go_wp2_with fail
  refine HIX.out.mono ?_
  rintro e' w1 ⟨rfl, hf1⟩
  have HV1 := hid (Vec.fr HV.out hf1 (fun h => h))
  have HF1 := hid hf1
  clear hf1
  go_wp2
  go_loopw [5, 6, 7] (fun v5 v6 v7 wr => ∃ m : Nat, i ≤ m ∧ m + 1 ≤ bs.length ∧ v5 = .int .i64 m ∧ v6 = .int .i64 ((m + 1 : Nat) : Int) ∧ Hid (Vec ptc 1 wr g 62 ((bs.eraseIdx i).take m ++ bs.drop m) rest c ∧ Fr (At g) w wr)) (fun _ v6 _ _ => bs.length - (intOf v6).toNat)
  case atStart =>
    refine ⟨i, Nat.le_refl _, by omega, rfl, by go_num, ?_, HF1.out.mono (fun _ h => h.elim)⟩
    have e1 : (bs.eraseIdx i).take i ++ bs.drop i = bs := by
      rw [List.eraseIdx_eq_take_drop_succ, List.take_append_of_le_length (by rw [List.length_take]; omega), List.take_take, Nat.min_self, List.take_append_drop]
    rw [e1]
    exact HV1.out
  case round =>
    obtain ⟨m, him, hm, rfl, rfl, HR⟩ := hrel
    obtain ⟨hZ, hf⟩ := HR.out
    have HF := hid hf
    have hlz : ((bs.eraseIdx i).take m ++ bs.drop m).length = bs.length := by
      rw [List.length_append, List.length_take, List.length_drop, List.length_eraseIdx_of_lt hi]
      omega
    by_cases hlt : m + 1 < bs.length
    · have hz1 : m + 1 < ((bs.eraseIdx i).take m ++ bs.drop m).length := by omega
      have hz0 : m < ((bs.eraseIdx i).take m ++ bs.drop m).length := by omega
      have htl : ((bs.eraseIdx i).take m).length = m := by rw [List.length_take, List.length_eraseIdx_of_lt hi]; omega
      have c1 := PV.cell hZ (m + 1) hz1
      obtain ⟨u0, c0⟩ : ∃ u : Nat, wr.cell? ⟨g, m, none⟩ = some (.pointer (some ⟨u, 0, none⟩)) := ⟨_, PV.cell hZ m hz0⟩
      have hge : ((bs.eraseIdx i).take m ++ bs.drop m)[m + 1] = bs[m + 1] := by
        rw [List.getElem_append_right (by omega)]
        simp [htl]
      rw [hge] at c1
      have f0 := hZ.blk.frozen m
      have gl := hZ.blk.lt
      have hset : ((bs.eraseIdx i).take m ++ bs.drop m).set m bs[m + 1] = (bs.eraseIdx i).take (m + 1) ++ bs.drop (m + 1) := by
        have e1 : (bs.eraseIdx i)[m]'(by rw [List.length_eraseIdx_of_lt hi]; omega) = bs[m + 1] := by
          rw [List.getElem_eraseIdx_of_ge (h' := him)]
        rw [List.set_append_right _ _ (by omega), htl, Nat.sub_self, List.drop_eq_getElem_cons (by omega), List.set_cons_zero, List.take_succ_eq_append_getElem (by rw [List.length_eraseIdx_of_lt hi]; omega), e1]
        simp
      have hV3 := Vec.set1p hZ ptc_len m 0 hz0 (by decide) (.pointer (some ⟨bs[m + 1], 0, none⟩)) bs[m + 1] rfl
      rw [hset, Nat.mul_one, Nat.add_zero] at hV3
      have HV3 := hid hV3
      have hd : decide (m + 1 = i) = false := by rw [decide_eq_false_iff_not]; omega
      have hbx := HX.out.fr hf (fun e => hxg e)
      have hca := HC.out wr hf (hbx.cell 0 rfl) (m + 1) hlt
      rw [hd] at hca
      have HCa := hid hca
      clear hz1 hz0 htl hge hset hV3 hd hbx hca hZ hf hlz
      generalize bs[m + 1] = a at *
      have HF3 := hid (HF.out.setAt m (.pointer (some ⟨a, 0, none⟩)))
      go_wp2_with fail
      refine HCa.out.mono ?_
      rintro e' w2 ⟨rfl, rfl⟩
      go_wp2
      exact ⟨⟨m + 1, by omega, by omega, by go_num, by go_num, HV3.out, HF3.out⟩, by simp [intOf]; omega⟩
    · have hmn : m + 1 = bs.length := by omega
      have hz := hZ
      have hle : (bs.eraseIdx i).length = m := by rw [List.length_eraseIdx_of_lt hi]; omega
      have e1 : (bs.eraseIdx i).take m = bs.eraseIdx i := List.take_of_length_le (by omega)
      rw [e1] at hz
      have hmc : m < c := by omega
      obtain ⟨i0, hi0, hz0, hz1, hz2⟩ := info_parts infoPt
      obtain ⟨ad, hcut, had⟩ := cut_lo (P := Try.prog) 63 62 i0 Try.underlying63 hi0 g bs.length c m (by omega)
      obtain rfl := had hmc
      rw [hz1, Nat.mul_one] at hcut
      have gl := hz.blk.lt
      have HZB := hid hz.blk
      have HLen := hid hz.len
      have hfit : m + ((List.replicate (bs.length - m) ()).flatMap (fun _ => [Value.pointer none])).length ≤ ((bs.eraseIdx i ++ bs.drop m).flatMap ptc ++ rest).length := by
        rw [List.length_append, flat_len ptc_len, List.length_append, hle, List.length_drop, flat_len (f := fun _ : Unit => [Value.pointer none]) (n := 1) (fun _ => rfl), List.length_replicate]
        omega
      have HFit := hid hfit
      have hone : ∀ u ∈ (List.replicate (bs.length - m) ()).flatMap (fun _ => [Value.pointer none]), u.oneCell' = true := by
        intro u hu
        obtain ⟨_, _, hx⟩ := List.mem_flatMap.1 hu
        rw [List.mem_singleton] at hx
        subst hx
        rfl
      have HOne := hid hone
      have HLE := hid hle
      clear hfit hone hz hZ hf hlz e1 hle HIX HC HX HV1 HF1 hi0 hz0 hz1 hz2
      go_wp2_with ((with_reducible refine at_bi .clear ?_); go_must (refine wpList_clear_blk rfl (.tmp 38) 63 rfl 62 (.pointer none) Try.underlying63 zeroPt g m (bs.length - m) (c - m) rfl (by omega) 62 _ _ (zero_cells _ [Value.pointer none] 1 _ rfl rfl (by omega)) HZB.out HOne.out HFit.out ?_); intro w3 hB3 hf3)
      go_ret
      have e2 : bs.length - 1 = m := by omega
      have hZl : ((List.replicate (bs.length - m) ()).flatMap (fun _ => [Value.pointer none])).length = bs.length - m := by
        rw [flat_len (f := fun _ : Unit => [Value.pointer none]) (n := 1) (fun _ => rfl), List.length_replicate, Nat.mul_one]
      have hLl : ((bs.eraseIdx i ++ bs.drop m).flatMap ptc ++ rest).length = c := by
        have := HLen.out
        rw [List.length_append, flat_len ptc_len]
        omega
      refine ⟨by rw [e2]; rfl, ⟨(List.replicate (bs.length - m) ()).flatMap (fun _ => [Value.pointer none]) ++ ((bs.eraseIdx i ++ bs.drop m).flatMap ptc ++ rest).drop (m + ((List.replicate (bs.length - m) ()).flatMap (fun _ => [Value.pointer none])).length), ?_, ?_⟩, HF.out.trans hf3⟩
      · have h5 := hB3
        have h6 := flat_take ptc_len (bs.eraseIdx i ++ bs.drop m) rest m (by rw [List.length_append, HLE.out]; omega)
        have e3 : (bs.eraseIdx i ++ bs.drop m).take m = bs.eraseIdx i := by rw [List.take_append_of_le_length (by rw [HLE.out]; exact Nat.le_refl _), List.take_of_length_le (by rw [HLE.out]; exact Nat.le_refl _)]
        rw [Nat.mul_one, e3] at h6
        rw [h6, List.append_assoc] at h5
        exact h5
      · rw [List.length_append, List.length_drop, hZl, hLl, HLE.out]
        omega
end Go.Proofs.Ytlagakcpjmjdfaa
