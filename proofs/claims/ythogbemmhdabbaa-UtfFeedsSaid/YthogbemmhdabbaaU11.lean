import Derived.Test.YthogbemmhdabbaaU10
set_option linter.unusedSimpArgs false
set_option linter.unusedVariables false
namespace Go.Proofs.Ythogbemmhdabbaa
open Go.RowKit Go.Proofs.YthogbemmhdabbaaW.PrintWords
/-- The beginning of a row of numbers that is read. -/
theorem cut_to {P : Program} {k : IntKind} (t e : TypeId) (z : Value) (bytes : Nat) (ht : P.underlying t = some (.slice e)) (hinfo : (P.info? e).map (fun i => (i.zero, i.size, i.bytes)) = some (some z, 1, bytes)) (A : Option Addr) (c : Nat) (xs : List Int) (j : Int) (h0 : 0 ≤ j) (hm : j ≤ xs.length) (hc : xs.length ≤ c) :
    (∀ W : World, (Instr.slice t (.slice A xs.length c) none (some (.int .i64 j)) none).run P W = .ok (.slice A (xs.take j.toNat).length c) W) ∧
      (∀ w : World, (Kd.int k).C w A xs.length xs → (Kd.int k).C w A (xs.take j.toNat).length (xs.take j.toNat)) ∧ (xs.take j.toNat).length ≤ c := by
  obtain ⟨i0, hi, _, hsz, _⟩ := info_parts hinfo
  have h := print_take_of (P := P) (Value.int k) 0 t e .i64 ht hi hsz A c xs j h0 hm hc
  exact ⟨h.1, fun w h2 => Kd.C_of_reads (h1 := fun _ => rfl) (h.2.1 w (Kd.reads_of_C h2)), h.2.2⟩
set_option maxHeartbeats 2000000 in
theorem utfFeeds_walk (A : Option Addr) (cap : Nat) (l : List Int) (w : World) (hC : Kd.C (Kd.int .u8) w A l.length l) (hc : l.length ≤ cap) (hy : l.length * 1 ≤ 140737488351232) (hw : ∀ x ∈ l, (Lit.int .u8 x).wf = true) :
    Calls Try.prog 5 #[.slice A l.length cap] w fun e w' => e = .returned (.bool true) ∧ Below w.heap.size w w' := by
  have hr := bytes_of_wf hw
  by_cases hl : l.length ≤ 300
  · go_enter Try.func5, Try.ntmps5
    go_wp2
    go_loopw [4, 5] (fun v4 v5 wr => ∃ k : Nat, k ≤ l.length ∧ v5 = .int .i64 k ∧ Aside0 (Kd.R (Kd.int .i32) 21 wr (w.heap.size + 1) (fun _ => True) v4 (prun ([], []) (l.take k)).2) ∧
        DBlk wr w.heap.size 33 [] (prun ([], []) (l.take k)).1 ∧ Fr NoB w wr) (fun _ v5 _ => l.length - (intOf v5).toNat)
    case atStart =>
      refine ⟨0, Nat.zero_le _, rfl, ⟨Kd.R_nil _ _ _ _ _⟩, ⟨⟨0, 0, 0, 0, 0⟩, ⟨rfl, rfl⟩, ?_⟩, (Fr.refl _ _).alloc _⟩
      exact Blk.new w 33 _
    case round =>
      obtain ⟨k, hk, rfl, ⟨hv⟩, hd, hf⟩ := hrel
      have hlen := prun_len l k
      have hsz := hf.size
      have hlt0 := hd.lt
      by_cases hlt : k < l.length
      · obtain ⟨ad, e, hcell⟩ := C_at (Kd.C_below hC hf.below0) k hlt
        cases e
        have hrk := hr _ (List.getElem_mem hlt)
        have HT := hid (List.take_succ_eq_append_getElem hlt)
        have hs2 := prun_snoc ([], []) (l.take k) l[k]
        rw [← HT.out] at hs2
        have HS2 := hid hs2
        clear hs2
        have hpl := pstep_len (prun ([], []) (l.take k)).1 l[k]
        generalize hs : prun ([], []) (l.take k) = s at *
        have HS := hid hs
        clear hs
        go_wp2_with fail
        refine (feed_any wr w.heap.size 33 [] s.1 _ hrk.1 hrk.2 hd).mono ?_
        rintro e w1 ⟨v, rfl, hv1, hd1, hf1⟩
        have hv2 := R_fr hv hf1 (fun k hk => by rw [hk]; omega)
        obtain ⟨A1, c1, rfl, hcc, hC1⟩ := Kd.R_reads hv1
        have hsz1 := hf1.size
        have hF1 : Fr NoB w w1 := hf.then_ hf1 (fun k hk => .inr (by rw [hk]; exact Nat.le_refl _))
        obtain ⟨hcut, hA', hC'⟩ := cut_to (P := Try.prog) (k := .u8) 22 5 _ _ Try.underlying22 info_u8 (some ad) cap l ((k : Int) + 1) (by omega) (by omega) hc
        rw [show ((k : Int) + 1).toNat = k + 1 from by omega] at hcut hA' hC'
        have hwo : (waitsOf (l.take (k + 1)) : Int) = (pstep s.1 l[k]).1.length := by unfold waitsOf; rw [HS2.out]
        generalize hLL : l.take (k + 1) = L at *
        have hrL : ∀ x ∈ L, 0 ≤ x ∧ x ≤ 255 := by rw [← hLL]; exact fun x hx => hr x (List.mem_of_mem_take hx)
        have hlL : L.length ≤ 1000000000 := by rw [← hLL, List.length_take]; omega
        have HLL := hid hLL
        clear hLL
        clear hv hd hcell
        have hgt : decide ((2 : Int) < (pstep s.1 l[k]).2.length) = false := by simp; omega
        have hw0 : IntKind.i64.wrap ((k : Int) + 1) = (k : Int) + 1 := IntWalk.i64_in _ (by omega)
        have hw1 : (0 : Int) ≤ (k : Int) + 1 := by omega
        have hd1' : DBlk w1.drew w.heap.size 33 [] (pstep s.1 l[k]).1 := hd1.move rfl
        go_wp2_with fail
        refine wp_region_still_tail 9 (by kernel_rfl) (by kernel_rfl) ?_
        change wpStill _ _ (World.drew _) _ _ _
        simp only [List.take_succ_cons, List.take_zero, List.drop_succ_cons, List.drop_zero]
        repeat still_step
        still_call (waits_p _ _ _ _ _ hd1')
        repeat still_step
        refine wpStill_nil ?_
        change wpList _ _ _ _ _ (World.drew _)
        go_wp2_with fail
        refine (refWaits_any _ _ _ L (hA' _ (Kd.C_drew (Kd.C_below hC hF1.below0))) hC' hrL hlL).mono ?_
        rintro e w2 ⟨rfl, hf2⟩
        rw [hwo]
        have hF2 : Fr NoB w1 w2 := Fr.trans ((Fr.refl _ _).drew) hf2
        have hd2 : DBlk w2 w.heap.size 33 [] (pstep s.1 l[k]).1 := hd1.move (hF2.block _ hd1.lt (fun h => h))
        have hv3 := R_fr hv2 hF2 (fun k hk => hk.elim)
        have hC2 := Kd.C_below hC1 hF2.below0
        have hsz2 := hF2.size
        go_wp2_with (at_builtin; refine app_row (k := .i32) (w.heap.size + 1) 25 21 4 Try.underlying25 info_i32 (by decide) rfl rfl u4 s.2 (pstep s.1 l[k]).2 A1 _ c1 rfl rfl hv3 hC2 (by omega) (by omega) ?_; intro v3 w3 hv4 hf3)
        go_roundw
        case rel =>
          refine ⟨k + 1, by omega, by go_num, ⟨?_⟩, ?_, ?_⟩
          · rw [HLL.out, HS2.out]; exact hv4
          · rw [HLL.out, HS2.out]; exact hd2.move (hf3.block _ hd2.lt (fun h => by have h : w.heap.size + 1 ≤ w.heap.size := h; omega))
          · exact (hF1.trans hF2).ge hf3 (Nat.le_succ _)
        case measure => simp [intOf]; omega
      · obtain rfl : k = l.length := by omega
        rw [List.take_length] at hv hd hlen
        have hpf := pflush_len (prun ([], []) l).1
        go_wp2_with fail
        refine (end_any wr w.heap.size 33 [] _ hd).mono ?_
        rintro e w1 ⟨v, rfl, hv1, hd1, hf1⟩
        have hv2 := R_fr hv hf1 (fun k hk => by rw [hk]; omega)
        obtain ⟨A1, c1, rfl, hcc, hC1⟩ := Kd.R_reads hv1
        have hsz1 := hf1.size
        have hF1 : Fr NoB w w1 := hf.then_ hf1 (fun k hk => .inr (by rw [hk]; exact Nat.le_refl _))
        have hpall : (prun ([], []) l).2 ++ pflush (prun ([], []) l).1 = pall l := rfl
        have HPA := hid hpall
        clear hv hd hpall
        go_wp2_with (first
          | (at_builtin; refine app_row (k := .i32) (w.heap.size + 1) 25 21 4 Try.underlying25 info_i32 (by decide) rfl rfl u4 (prun ([], []) l).2 (pflush (prun ([], []) l).1) A1 _ c1 rfl rfl hv2 hC1 (by omega) (by omega) ?_; intro v2 w2 hv3 hf2; rw [HPA.out] at hv3; have hF2 : Fr NoB w w2 := hF1.ge hf2 (Nat.le_succ _); have hd2 := hd1.move (hf2.block _ hd1.lt (fun h => by have h : w.heap.size + 1 ≤ w.heap.size := h; omega)); have hs2 := hF2.size; rcases Kd.R_reads hv3 with ⟨A2, c2, hev, hcc2, hC2⟩; subst hev)
          | (go_at_call 11; refine (refAll_any _ _ _ l (Kd.C_below hC hF2.below0) hc hr (by omega)).mono ?_; rintro e w3 ⟨v3, rfl, hv4, hf3⟩; have hF3 := hF2.trans hf3; have hd3 := hd2.move (hf3.block _ hd2.lt (fun h => h)); have hC23 := Kd.C_below hC2 hf3.below0; rcases Kd.R_reads hv4 with ⟨A3, c3, hev3, hcc3, hC3⟩; subst hev3)
          | (go_at_call 9; refine (same_any _ _ _ _ _ (pall l) _ rfl hC23 hC3).mono ?_; rintro e w4 ⟨rfl, m, rfl⟩; have hd4 : DBlk (w3.drewN m) w.heap.size 33 [] [] := hd3.move rfl)
          | (go_at_call 14; refine (waits_p _ _ _ _ _ hd4).mono ?_; rintro e w5 ⟨rfl, rfl⟩)
          | (go_at_call 15; refine (end_any _ _ _ _ _ hd4).mono ?_; rintro e w6 ⟨v6, rfl, hv6, hd6, hf6⟩; rcases Kd.R_reads hv6 with ⟨A6, c6, hev6, hcc6, hC6⟩; subst hev6)
          | (go_at_call 8; refine (awake_any _).mono ?_; rintro e w7 ⟨rfl, hf7⟩))
        go_ret
        refine ⟨rfl, ?_⟩
        exact ((((hF3.drewN m).then_ hf6 (fun k hk => .inr (by rw [hk]; exact Nat.le_refl _)))).trans hf7).below0
  · go_enter Try.func5, Try.ntmps5
    go_wp2_with fail
    refine (awake_any _).mono ?_
    rintro e w10 ⟨rfl, hf10⟩
    go_wp2
    go_ret
    exact ⟨rfl, hf10.below0⟩
end Go.Proofs.Ythogbemmhdabbaa
