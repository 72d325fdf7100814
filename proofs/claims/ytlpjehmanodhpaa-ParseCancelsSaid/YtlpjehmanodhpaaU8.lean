import Derived.Test.YtlpjehmanodhpaaU7
set_option linter.unusedSimpArgs false
set_option linter.unusedVariables false
namespace Go.Proofs.Ytlpjehmanodhpaa
open Go.RowKit Go.Proofs.YtlpjehmanodhpaaW.PrintWords
theorem cntF_le (l : List Int) : ∀ f m, m ≤ cntF l f m ∧ cntF l f m ≤ m + f := by
  intro f
  induction f with
  | zero => intro m; exact ⟨Nat.le_refl _, Nat.le_refl _⟩
  | succ f ih =>
    intro m
    unfold cntF
    split
    · have := ih (m + 1); omega
    · omega
theorem cnt_len (l : List Int) : ∀ f m, m ≤ l.length → cntF l f m ≤ l.length := by
  intro f
  induction f with
  | zero => intro m h; exact h
  | succ f ih =>
    intro m h
    unfold cntF
    split
    · rename_i h2; exact ih (m + 1) (by omega)
    · exact h
theorem dec1_N (c : Int) (r : List Int) : 1 ≤ (dec1 (c :: r)).2 ∧ (dec1 (c :: r)).2 ≤ 4 ∧ (dec1 (c :: r)).2 ≤ r.length + 1 := by
  have h1 := cntF_le (c :: r) 4 0
  have h2 := cnt_len (c :: r) 4 0 (Nat.zero_le _)
  have e : cntF (c :: r) 4 0 = cnt (c :: r) := rfl
  rw [e] at h1 h2
  rw [List.length_cons] at h2
  unfold dec1
  dsimp only
  split
  · simp
  · split
    · simp
    · split <;> (dsimp only; omega)
theorem dec1_V (c : Int) (r : List Int) (hc : 0 ≤ c) : 0 ≤ (dec1 (c :: r)).1 ∧ (dec1 (c :: r)).1 ≤ 8388608 := by
  have h1 := cntF_le (c :: r) 4 0
  have e : cntF (c :: r) 4 0 = cnt (c :: r) := rfl
  rw [e] at h1
  unfold dec1
  dsimp only
  split
  · dsimp only; omega
  · split
    · simp
    · split
      · dsimp only [formV]
        obtain ⟨m, hm⟩ : ∃ m, cnt (c :: r) = m + 1 := ⟨cnt (c :: r) - 1, by omega⟩
        rw [hm, List.take_succ_cons]
        have := val_bd c (r.take m) (by rw [List.length_take]; omega)
        omega
      · simp
theorem pall_step (c : Int) (r : List Int) : pall (c :: r) = (dec1 (c :: r)).1 :: pall ((c :: r).drop (dec1 (c :: r)).2) := by
  have h := dec1_N c r
  rw [← all_eq (c :: r) (r.length + 1) (by simp), ← all_eq ((c :: r).drop (dec1 (c :: r)).2) r.length (by rw [List.length_drop, List.length_cons]; omega)]
  rfl
theorem Blk.kept {w w1 : World} {b : Nat} {T : TypeId} {l : List Value} (h : Blk w b T l) {row : Option Nat} (hg : w.grownBy w1 row) (hne : row ≠ some b) : Blk w1 b T l := (hg.block b h.lt (fun e => hne e.symm)).trans h
/-- The end of a row of numbers that is read. -/
theorem cut_from {P : Program} {k : IntKind} (t e : TypeId) (z : Value) (bytes : Nat) (ht : P.underlying t = some (.slice e)) (hinfo : (P.info? e).map (fun i => (i.zero, i.size, i.bytes)) = some (some z, 1, bytes)) (A : Option Addr) (c : Nat) (xs : List Int) (j : Int) (h0 : 0 ≤ j) (hm : j ≤ xs.length) (hc : xs.length ≤ c) :
    ∃ A' : Option Addr, (∀ W : World, (Instr.slice t (.slice A xs.length c) (some (.int .i64 j)) none none).run P W = .ok (.slice A' (xs.drop j.toNat).length (c - j.toNat)) W) ∧
      (∀ w : World, (Kd.int k).C w A xs.length xs → (Kd.int k).C w A' (xs.drop j.toNat).length (xs.drop j.toNat)) ∧ (xs.drop j.toNat).length ≤ c - j.toNat := by
  obtain ⟨i0, hi, _, hsz, _⟩ := info_parts hinfo
  obtain ⟨A', hcut, hA', hC'⟩ := print_drop_of (P := P) (Value.int k) 0 t e .i64 ht hi hsz A c xs j h0 hm hc
  exact ⟨A', hcut, fun w h => Kd.C_of_reads (h1 := fun _ => rfl) (hA' _ (Kd.reads_of_C h)), hC'⟩
def waitsOf (l : List Int) : Nat := (prun ([], []) l).1.length
theorem waits_step (c : Int) (r : List Int) : waitsOf (c :: r) = if (dec1 (c :: r)).2 = (c :: r).length ∧ (dec1 (c :: r)).1 = 65533 ∧ beginsL (c :: r) = true ∧ ((c :: r).length : Int) < need c then (c :: r).length else waitsOf ((c :: r).drop (dec1 (c :: r)).2) := by
  have h := dec1_N c r
  unfold waitsOf
  rw [← wait_eq (c :: r) (r.length + 1) (by simp), ← wait_eq ((c :: r).drop (dec1 (c :: r)).2) r.length (by rw [List.length_drop, List.length_cons]; omega)]
  rfl
set_option maxRecDepth 100000 in
set_option maxHeartbeats 1000000 in
theorem refAll_any (w : World) (A : Option Addr) (cap : Nat) (l : List Int) (hC : Kd.C (Kd.int .u8) w A l.length l) (hcap : l.length ≤ cap) (hr : ∀ x ∈ l, 0 ≤ x ∧ x ≤ 255) (hl : l.length ≤ 1000000000) :
    Calls Try.prog 35 #[.slice A l.length cap] w fun e w' => ∃ v, e = .returned v ∧ Runes w w' v (pall l) ∧ Fr NoB w w' := by
  go_enter Try.func35, Try.ntmps35
  go_wp2
  go_loopw [3, 4] (fun v3 v4 wr => ∃ (k : Nat) (o : List Int), k ≤ l.length ∧ o.length ≤ k ∧ v4 = .int .i64 k ∧ Aside0 (Kd.R (Kd.int .i32) 21 wr w.heap.size (fun _ => True) v3 o) ∧
      Aside0 (o ++ pall (l.drop k) = pall l) ∧ Fr NoB w wr) (fun _ v4 _ => l.length - (intOf v4).toNat)
  case atStart => exact ⟨0, [], Nat.zero_le _, Nat.le_refl _, rfl, ⟨Kd.R_nil _ _ _ _ _⟩, ⟨rfl⟩, Fr.refl _ _⟩
  case round =>
    obtain ⟨k, o, hk, ho, rfl, ⟨hv⟩, ⟨hp⟩, hf⟩ := hrel
    have hsz := hf.size
    by_cases hlt : k < l.length
    · obtain ⟨c, r, hL⟩ := List.exists_cons_of_ne_nil (show l.drop k ≠ [] from by
        intro e; have := congrArg List.length e; rw [List.length_drop, List.length_nil] at this; omega)
      have hlk : l.length = k + (r.length + 1) := by
        have := congrArg List.length hL
        rw [List.length_drop, List.length_cons] at this
        omega
      have hc : c ∈ l := List.mem_of_mem_drop (i := k) (by rw [hL]; exact List.mem_cons_self)
      have hN := dec1_N c r
      have hV := dec1_V c r (hr c hc).1
      have hps := pall_step c r
      have hd2 : (c :: r).drop (dec1 (c :: r)).2 = l.drop (k + (dec1 (c :: r)).2) := by rw [← hL, List.drop_drop]
      rw [hL, hps, hd2] at hp
      have HP := hid hp
      have hlkk : (k : Int) < l.length := by omega
      have HLK := hid hlk
      have hbd : (k : Int) + (dec1 (c :: r)).2 ≤ l.length := by omega
      have HL := hid hL
      clear hp hps hd2 hlk hL
      go_wp2_with fail
      refine (At_any wr A cap l k c r HL.out (Kd.C_below hC hf.below0) hcap hr (by omega)).mono ?_
      generalize dec1 (c :: r) = d at *
      rintro e w1 ⟨rfl, hf1⟩
      have hv1 := R_fr hv hf1 (fun k hk => hk.elim)
      have hsz1 := hf1.size
      clear hC HL HLK hv
      go_wp2_with (at_builtin; refine Kd.R_append (Kd.int .i32) (w0 := w1.alloc _) w.heap.size rfl (.tmp 13) (.tmp 17) 50 21 (.int .i32 0) 4 rfl Try.underlying50 info_i32 rfl (by decide) (by decide) u3 o d.1 [.int .i32 d.1] (fun _ => True) (fun _ => False) rfl (by simp [go_sem]) rfl (fun k hk => hk.elim) (fun _ _ => trivial) (Kd.R_alloc hv1 _) (Below.refl _ _) (by simp; omega) (by omega) ?_; intro v1 w2 hv3 hb2 hg2 hat2; have hcell := ((Blk.new w1 60 [.int .i64 d.1, .int .i64 d.2]).kept hg2 (fun e => by have := Kd.R_lt hv1 _ e; omega)).cell 1 rfl)
      go_roundw
      case rel =>
        refine ⟨k + d.2, o ++ [d.1], by omega, by simp; omega, by go_num, ⟨hv3⟩, ⟨by rw [List.append_assoc]; exact HP.out⟩, ?_⟩
        exact ((hf.trans hf1).alloc _).then_ (Fr.of_grown hg2) (fun j hj => .inr (Kd.R_base hv1 j hj))
      case measure => simp [intOf]; omega
    · obtain rfl : k = l.length := by omega
      rw [List.drop_length] at hp
      have hp' : o = pall l := by rw [← hp]; simp [pall, prun, pflush]
      subst hp'
      clear hp
      go_wp2
      go_ret
      exact ⟨_, rfl, hv, hf⟩
set_option maxRecDepth 100000 in
set_option maxHeartbeats 2000000 in
theorem refWaits_any (w : World) (A : Option Addr) (cap : Nat) (l : List Int) (hC : Kd.C (Kd.int .u8) w A l.length l) (hcap : l.length ≤ cap) (hr : ∀ x ∈ l, 0 ≤ x ∧ x ≤ 255) (hl : l.length ≤ 1000000000) :
    Calls Try.prog 28 #[.slice A l.length cap] w fun e w' => e = .returned (.int .i64 (waitsOf l)) ∧ Fr NoB w w' := by
  go_enter Try.func28, Try.ntmps28
  go_wp2
  go_loopw [3] (fun v3 wr => ∃ (k : Nat), k ≤ l.length ∧ v3 = .int .i64 k ∧ Aside0 (waitsOf (l.drop k) = waitsOf l) ∧ Fr NoB w wr) (fun v3 _ => l.length - (intOf v3).toNat)
  case atStart => exact ⟨0, Nat.zero_le _, rfl, ⟨rfl⟩, Fr.refl _ _⟩
  case round =>
    obtain ⟨k, hk, rfl, ⟨hp⟩, hf⟩ := hrel
    have hsz := hf.size
    by_cases hlt : k < l.length
    · obtain ⟨c, r, hL⟩ := List.exists_cons_of_ne_nil (show l.drop k ≠ [] from by
        intro e; have := congrArg List.length e; rw [List.length_drop, List.length_nil] at this; omega)
      have hlk : l.length = k + (r.length + 1) := by
        have := congrArg List.length hL
        rw [List.length_drop, List.length_cons] at this
        omega
      have hc : c ∈ l := List.mem_of_mem_drop (i := k) (by rw [hL]; exact List.mem_cons_self)
      have hrc := hr c hc
      have hN := dec1_N c r
      have hV := dec1_V c r (hr c hc).1
      have hps := waits_step c r
      have hd2 : (c :: r).drop (dec1 (c :: r)).2 = l.drop (k + (dec1 (c :: r)).2) := by rw [← hL, List.drop_drop]
      rw [hL, hps, hd2, List.length_cons] at hp
      have HP := hid hp
      have hlkk : (k : Int) < l.length := by omega
      have HLK := hid hlk
      have hbd : (k : Int) + (dec1 (c :: r)).2 ≤ l.length := by omega
      have HL := hid hL
      clear hp hps hd2 hlk hL
      obtain ⟨h1l, h2l⟩ := elem_drop HL.out 0 (by simp)
      obtain ⟨ad, e, hcell⟩ := C_at (Kd.C_below hC hf.below0) k hlt
      have hlkc : l[k] = c := h2l
      rw [hlkc] at hcell
      clear h1l h2l hlkc
      subst e
      go_wp2_with fail
      refine (At_any wr _ cap l k c r HL.out (Kd.C_below hC hf.below0) hcap hr (by omega)).mono ?_
      generalize hdd : dec1 (c :: r) = d at *
      clear hdd
      rintro e w1 ⟨rfl, hf1⟩
      have hsz1 := hf1.size
      have hcell1 : ∀ o, (w1.alloc o).cell? (ad.add k) = some (.int .u8 c) := fun o => pw_cell_below (below_alloc hf1.below0 o) hcell
      clear hcell
      by_cases hb : d.2 = r.length + 1 ∧ d.1 = 65533
      · obtain ⟨hb1, hb2⟩ := hb
        have he1 : ((k : Int) + d.2 == l.length) = true := by simp; have := HLK.out; omega
        have he2 : (d.1 == 65533) = true := by simp; exact hb2
        have HB := hid hb1
        have HB2 := hid hb2
        obtain ⟨A', hcut, hA', hC'⟩ := cut_from (P := Try.prog) (k := .u8) 22 5 _ _ Try.underlying22 info_u8 (some ad) cap l (k : Int) (by omega) (by omega) hcap
        rw [Int.toNat_natCast, HL.out] at hcut hA' hC'
        obtain ⟨m, hm⟩ : ∃ m, m = (c :: r).length := ⟨_, rfl⟩
        obtain ⟨cap', hcap'⟩ : ∃ x, x = cap - k := ⟨_, rfl⟩
        rw [← hm, ← hcap'] at hcut hC'
        rw [← hm] at hA'
        have hCw := hA' _ (Kd.C_below (Kd.C_below hC hf.below0) (below_alloc hf1.below0 (.cells #[.int .i64 d.1, .int .i64 d.2] 60)))
        have hrr : ∀ x ∈ c :: r, 0 ≤ x ∧ x ≤ 255 := fun x hx => hr x (List.mem_of_mem_drop (i := k) (by rw [HL.out]; exact hx))
        have hlt2 : r.length ≤ 1000000000000 := by have := HLK.out; omega
        have hm' : m = r.length + 1 := hm
        have HM := hid hm'
        clear hA' hm hm' hcap' hC' hb1 hb2
        by_cases hB : beginsL (c :: r) = true
        · have HBB := hid hB
          clear hB
          go_wp2_with fail
          refine (begins_any _ A' cap' c r m HM.out hCw hrr hlt2).mono ?_
          rintro e w' ⟨rfl, rfl⟩
          rw [HBB.out]
          have hcc := hcell1 (.cells #[.int .i64 d.1, .int .i64 d.2] 60)
          go_wp2_with fail
          refine (whole_any _ c hrc.1 hrc.2).mono ?_
          rintro e w' ⟨rfl, rfl⟩
          have hnd := need_bd c
          by_cases hlast : (l.length : Int) - k < need c
          · go_wp2
            go_ret
            refine ⟨?_, (hf.trans hf1).alloc _⟩
            have h9 := HP.out
            rw [if_pos ⟨HB.out, HB2.out, HBB.out, by have := HLK.out; omega⟩] at h9
            rw [← h9]
            show Ending.returned (.int .i64 ((l.length : Int) - k)) = _
            congr 2
            have := HLK.out
            omega
          · go_wp2
            go_roundw
            case rel =>
              refine ⟨k + d.2, by omega, by first | go_num | (congr 1; omega), ⟨?_⟩, (hf.trans hf1).alloc _⟩
              have h9 := HP.out
              rw [if_neg (by rintro ⟨_, _, _, h⟩; have := HLK.out; omega)] at h9
              exact h9
            case measure => simp [intOf]; omega
        · have HBB : Hid (beginsL (c :: r) = false) := Bool.eq_false_iff.2 hB
          clear hB
          go_wp2_with fail
          refine (begins_any _ A' cap' c r m HM.out hCw hrr hlt2).mono ?_
          rintro e w' ⟨rfl, rfl⟩
          rw [HBB.out]
          go_wp2
          go_roundw
          case rel =>
            refine ⟨k + d.2, by omega, by first | go_num | (congr 1; omega), ⟨?_⟩, (hf.trans hf1).alloc _⟩
            have h9 := HP.out
            rw [if_neg (by rintro ⟨_, _, h, _⟩; rw [HBB.out] at h; cases h)] at h9
            exact h9
          case measure => simp [intOf]; omega
      · have hb' : ¬ (d.2 = r.length + 1) ∨ (d.2 = r.length + 1 ∧ ¬ d.1 = 65533) := by
          by_cases h : d.2 = r.length + 1
          · exact .inr ⟨h, fun h2 => hb ⟨h, h2⟩⟩
          · exact .inl h
        have HB := hid hb
        clear hb
        rcases hb' with hb1 | ⟨hb1, hb2⟩
        · have he1 : ((k : Int) + d.2 == l.length) = false := by simp; have := HLK.out; omega
          clear hb1
          go_wp2
          go_roundw
          case rel =>
            refine ⟨k + d.2, by omega, by first | go_num | (congr 1; omega), ⟨?_⟩, (hf.trans hf1).alloc _⟩
            have h9 := HP.out
            rw [if_neg (fun h => HB.out ⟨h.1, h.2.1⟩)] at h9
            exact h9
          case measure => simp [intOf]; omega
        · have he1 : ((k : Int) + d.2 == l.length) = true := by simp; have := HLK.out; omega
          have he2 : (d.1 == 65533) = false := by simpa using hb2
          clear hb1 hb2
          go_wp2
          go_roundw
          case rel =>
            refine ⟨k + d.2, by omega, by first | go_num | (congr 1; omega), ⟨?_⟩, (hf.trans hf1).alloc _⟩
            have h9 := HP.out
            rw [if_neg (fun h => HB.out ⟨h.1, h.2.1⟩)] at h9
            exact h9
          case measure => simp [intOf]; omega
    · obtain rfl : k = l.length := by omega
      rw [List.drop_length] at hp
      have hp' : waitsOf l = 0 := by rw [← hp]; rfl
      clear hp
      go_wp2
      go_ret
      exact ⟨by rw [hp']; rfl, hf⟩
end Go.Proofs.Ytlpjehmanodhpaa
