import Derived.Test.YtokgcgmhfpohoaaC11
set_option linter.unusedSimpArgs false
set_option linter.unusedVariables false
namespace Go.Proofs.Ytokgcgmhfpohoaa
open Go.RowKit Go.Proofs.YtokgcgmhfpohoaaW.PrintWords
/-- One slot that is in play, all others fresh. -/
def lone (x : Slot) (m : Nat) : List Slot := x :: List.replicate m freshS
section
variable {x : Slot} {m : Nat}
theorem lone_len : (lone x m).length = m + 1 := by simp [lone]
theorem lone_get (k : Nat) (hk : k + 1 < (lone x m).length) : (lone x m)[k + 1] = freshS := by simp [lone]
theorem lone_env (e : Int) (hx : x.used = false) : cntEnv e (lone x m) = 0 := by
  unfold cntEnv lone
  rw [List.countP_cons, List.countP_replicate, hx]
  simp [freshS]
theorem lone_mint {q : Int} (hq : 1 ≤ q) (hx : x.used = false) {e kind obj r : Int} (he : 0 ≤ e) (hk : 1 ≤ kind) (hk3 : kind ≤ 3) (ho : 0 ≤ obj) (hr : okR r = true) : mintT q (lone x m) e kind obj r = ⟨lone ⟨x.gen, e, kind, obj, r, -1, true⟩ m, 0, x.gen, 0⟩ := by
  unfold mintT
  rw [if_neg (by rw [hr]; simp; omega)]
  unfold addT
  have h1 : (lone x m).findIdx? (fun s => !s.used) = some 0 := by
    rw [List.findIdx?_eq_some_iff_getElem]
    exact ⟨by rw [lone_len]; omega, by simp [lone, hx], fun j hj => by omega⟩
  simp only [lone_env _ hx, h1]
  rw [if_neg (by omega)]
  simp [lone]
theorem lone_find {g : Int} (h : x.used = false ∨ x.gen ≠ g) : findS (lone x m) 0 g = none := by
  unfold findS
  rw [if_pos (by omega)]
  simp only [Int.toNat_zero, lone, List.getElem?_cons_zero]
  rw [Option.filter_some]
  rcases h with h | h
  · simp [h]
  · simp [h]
theorem lone_found {g : Int} (h : x.used = true) (hg : x.gen = g) : findS (lone x m) 0 g = some x := by
  unfold findS
  rw [if_pos (by omega)]
  simp [lone, Option.filter, h, hg]
theorem lone_gok (h : 0 ≤ x.gen) (h2 : x.gen ≤ 4611686018427387904) : GenOk (lone x m) := by
  intro k hk hu
  cases k with
  | zero => exact ⟨h, h2⟩
  | succ k => rw [lone_get k hk] at hu; cases hu
theorem lone_free (hx : x.used = true) (ho : x.of = -1) {l' : List Slot} (h : FreeTo (fun j => j = 0 ∨ Reach (lone x m) 0 j) (lone x m) l') : l' = lone (freed x) m ∧ (cntU (lone x m) : Int) - cntU l' = 1 := by
  have hr : ∀ j, ¬ Reach (lone x m) 0 j := by
    intro j hj
    obtain ⟨k, hc, _⟩ := hj.first
    obtain ⟨hk, h1, h2⟩ := hc
    cases k with
    | zero => simp [lone, ho] at h2
    | succ k => rw [lone_get k hk] at h1; cases h1
  have e : l' = lone (freed x) m := by
    apply List.ext_getElem
    · rw [h.len, lone_len, lone_len]
    · intro k h1 h2
      have hk : k < (lone x m).length := by rw [← h.len]; exact h1
      cases k with
      | zero => rw [h.yes 0 hk (.inl rfl)]; rfl
      | succ k => rw [h.no (k + 1) hk (fun hh => by rcases hh with hh | hh; omega; exact hr _ hh), lone_get k hk, lone_get k h2]
  refine ⟨e, ?_⟩
  rw [e]
  unfold cntU lone
  rw [List.countP_cons, List.countP_cons, List.countP_replicate, hx]
  simp [freshS, freed]
end
def capCells (p : Int × Int) : List Value := [.int .i64 p.1, .int .i64 p.2]
theorem capCells_len (p : Int × Int) : (capCells p).length = 2 := rfl
theorem capCells_one (p : Int × Int) : ∀ u ∈ capCells p, u.oneCell' = true := by intro u hu; simp [capCells] at hu; rcases hu with rfl | rfl <;> rfl
/-- The names that were made: slot 0, generations 1 to n. -/
def oldOf (n : Nat) : List (Int × Int) := (List.range n).map fun j : Nat => ((0 : Int), (j : Int) + 1)
theorem oldOf_len (n : Nat) : (oldOf n).length = n := by simp [oldOf]
theorem oldOf_get (n k : Nat) (h : k < (oldOf n).length) : (oldOf n)[k] = (0, (k : Int) + 1) := by simp [oldOf]
theorem oldOf_succ (n : Nat) : oldOf n ++ [(0, (n : Int) + 1)] = oldOf (n + 1) := by simp [oldOf, List.range_succ]
theorem info_cap : (Try.prog.info? 27).map (fun i => (i.zero, i.size, i.bytes)) = some (some (.agg #[.int .i64 0, .int .i64 0]), 2, 16) := by kernel_rfl
set_option maxRecDepth 100000 in
set_option maxHeartbeats 4000000 in
theorem stale_walk (rounds slots : Int) (w : World) (hw0 : (Lit.int .u8 rounds).wf = true) (hw1 : (Lit.int .u8 slots).wf = true) :
    Calls Try.prog 4 #[.int .u8 rounds, .int .u8 slots] w fun e w' => e = .returned (.bool true) ∧ Below w.heap.size w w' := by
  have hr : 0 ≤ rounds ∧ rounds ≤ 255 := by simp [Lit.wf, IntKind.min, IntKind.max, IntKind.signed, IntKind.bits] at hw0; omega
  have hs : 0 ≤ slots ∧ slots ≤ 255 := by simp [Lit.wf, IntKind.min, IntKind.max, IntKind.signed, IntKind.bits] at hw1; omega
  clear hw0 hw1
  obtain ⟨hr0, hr1⟩ := hr
  obtain ⟨hs0, hs1⟩ := hs
  have ht0 : slots.tmod 3 = slots % 3 := Int.tmod_eq_emod_of_nonneg hs0
  have ht1 : rounds.tmod 30 = rounds % 30 := Int.tmod_eq_emod_of_nonneg hr0
  have hi0 : IntKind.i64.wrap slots = slots := by apply IntWalk.i64_in <;> omega
  have hi1 : IntKind.i64.wrap rounds = rounds := by apply IntWalk.i64_in <;> omega
  obtain ⟨m, hm⟩ : ∃ m : Nat, 1 + slots % 3 = (m + 1 : Nat) := ⟨(slots % 3).toNat, by omega⟩
  have hm3 : m + 1 ≤ 3 := by omega
  go_enter Try.func4, Try.ntmps4
  go_wp2_with fail
  refine (New_any w ((m : Int) + 1) (m + 1) 10 (by omega) (by omega) (by omega) (by omega)).mono ?_
  rintro e w1 ⟨b, g, rfl, ht1, hf1, hg, hb⟩
  have ht1' : Tab w1 b g 10 (lone freshS m) := by simpa [fresh, lone, List.replicate_succ] using ht1
  clear ht1 hm ht0 hi0
  have HR0 : Hid (0 ≤ rounds % 30) := hid (by omega)
  have HR : Hid (rounds % 30 < 30) := hid (by omega)
  go_wp2
  go_loopw [6, 7] (fun v6 v7 wr => ∃ (i : Nat) (x : Slot), (i : Int) ≤ rounds % 30 ∧ v7 = .int .i64 i ∧ Hid (x.gen = (i : Int) + 1) ∧ Hid (x.used = false) ∧ Tab wr b g 10 (lone x m) ∧ Row capCells 2 27 wr w.heap.size v6 (oldOf i) ∧ Fr NoB w wr) (fun _ v7 _ => 31 - (intOf v7).toNat)
  case atStart => exact ⟨0, freshS, HR0.out, rfl, rfl, rfl, ht1', Row.nil _ _ _ _ _, hf1⟩
  case round =>
    obtain ⟨i, x, hi, rfl, HXg, HXu, htk, hrow, hf⟩ := hrel
    have hi30 : (i : Int) ≤ 30 := by have := HR.out; omega
    by_cases hlt : (i : Int) < rounds % 30
    · have hm := Mint_any wr b g 10 (lone x m) 1 3 i 7 htk (by rw [lone_len]; omega)
      rw [lone_mint (by omega) HXu.out (by omega) (by omega) (by omega) (by omega) (by decide), HXg.out] at hm
      go_wp2_with fail
      refine hm.mono ?_
      clear hm
      rintro e w2 ⟨rfl, ht2, hf2⟩
      unfold Res.val
      dsimp only at ht2 ⊢
      have hrow2 := hrow.fr hf2 (fun k hk hs => by have hs : k = g := hs; subst hs; exact hrow.not_blk htk.row (by decide) hk)
      have hF2 : Fr NoB w w2 := hf.fresh hf2 hg
      have HG2 : Hid (g < w2.heap.size) := ht2.lt.2
      obtain ⟨y, hy⟩ : ∃ y : Slot, y = ⟨(i : Int) + 1, 1, 3, i, 7, -1, true⟩ := ⟨_, rfl⟩
      rw [← hy] at ht2
      have HY := hid hy
      clear hy
      have hC := Blk.new w2 27 [.int .i64 0, .int .i64 ((i : Int) + 1)]
      have hFC : Fr NoB w2 (w2.alloc (.cells #[.int .i64 0, .int .i64 ((i : Int) + 1)] 27)) := (Fr.refl _ _).alloc _
      obtain ⟨A, c, hv6, hc6⟩ := hrow2.shape
      subst hv6
      rw [oldOf_len] at hc6
      have HOL := hid (oldOf_len i)
      simp only [oldOf_len] at hrow2 ⊢
      clear hrow
      go_wp2
      generalize hwc : w2.alloc (.cells #[.int .i64 0, .int .i64 ((i : Int) + 1)] 27) = wc at *
      have htc := ht2.fr0 hFC
      have hrowc := hrow2.fr_lt hFC (fun k hk => hk.elim)
      have hFc : Fr NoB w wc := hF2.trans hFC
      have HGC : Hid (g ≠ w2.heap.size) := hid (by have := HG2.out; omega)
      clear hwc hrow2
      go_loopw [10] (fun v10 wq => ∃ k : Nat, k ≤ i ∧ v10 = .int .i64 k ∧ Fr NoB wc wq) (fun v10 _ => i - (intOf v10).toNat)
      case atStart => exact ⟨0, Nat.zero_le _, rfl, Fr.refl _ _⟩
      case round =>
        obtain ⟨k, hk, rfl, hq⟩ := hrel
        have htq := htc.fr0 hq
        have hcq := hC.fr hq (fun h => h)
        have d0 := hcq.cell 0 rfl
        have d1 := hcq.cell 1 rfl
        by_cases hki : k < i
        · obtain ⟨g', c', hv, hg', hcc⟩ := hrowc.ptr (by rw [HOL.out]; omega)
          rw [HOL.out] at hv
          injection hv with h1 h2 h3
          subst h1 h3
          have hrq : Row capCells 2 27 wc w.heap.size (.slice (some ⟨g', 0, none⟩) (oldOf i).length c) (oldOf i) := by rw [HOL.out]; exact hrowc
          have hcell : ∀ W, Fr NoB wc W → W.cell? ⟨g', k * 2, none⟩ = some (.int .i64 0) ∧ W.cell? ⟨g', k * 2 + 1, none⟩ = some (.int .i64 ((k : Int) + 1)) ∧ W.cell? ⟨w2.heap.size, 0, none⟩ = some (.int .i64 0) ∧ W.cell? ⟨w2.heap.size, 1, none⟩ = some (.int .i64 ((i : Int) + 1)) := by
            intro W hW
            have h := hrq.fr_lt hW (fun k hk => hk.elim)
            have hlt : k < (oldOf i).length := by rw [HOL.out]; exact hki
            refine ⟨?_, ?_, (hC.fr hW (fun h => h)).cell 0 rfl, (hC.fr hW (fun h => h)).cell 1 rfl⟩
            · have e := h.cell capCells_len k hlt 0 (by omega) (u := .int .i64 0) (by rw [oldOf_get]; rfl)
              simpa using e
            · exact h.cell capCells_len k hlt 1 (by omega) (by rw [oldOf_get]; rfl)
          have hck := Check_any wr b g 10 (lone y m) 1 0 ((k : Int) + 1) 3 0 htq (by rw [lone_len]; omega)
          have hcv : checkT (lone y m) 1 0 ((k : Int) + 1) 3 0 = (0, 9) := by
            have h : findS (lone y m) 0 ((k : Int) + 1) = none := lone_find (.inr (by rw [HY.out]; simp only []; omega))
            unfold checkT
            rw [h]
          rw [hcv] at hck
          obtain ⟨a0, a1, a2, a3⟩ := hcell _ hq
          have hki' : (k : Int) < i := by omega
          clear d0 d1
          go_wp2_with fail
          refine hck.mono ?_
          clear hck hcv a0 a1 a2 a3
          rintro e w5 ⟨rfl, hf5⟩
          dsimp only
          obtain ⟨a0, a1, a2, a3⟩ := hcell _ (hq.trans hf5)
          have hq5 := hq.trans hf5
          have hne : ((k : Int) + 1 == (i : Int) + 1) = false := by simp; omega
          clear hcell
          go_wp2
          repeat (go_quiet (fail); try go_wp2)
          go_roundw
          case rel => exact ⟨k + 1, by omega, by go_num, hq5.drewN _⟩
          case measure => simp [intOf]; omega
        · obtain rfl : k = i := by omega
          have hyu : y.used = true := by rw [HY.out]
          have hyg : y.gen = (k : Int) + 1 := by rw [HY.out]
          go_wp2_with fail
          refine (Drop_ok wr b g 10 (lone y m) 1 0 ((k : Int) + 1) 0 y htq (by rw [lone_len]; omega) (lone_gok (by omega) (by omega)) rfl (lone_found hyu hyg) (by rw [HY.out]; exact show (decide ((1 : Int) = 1) && hasB 7 4) = true from by decide)).mono ?_
          rintro e w5 ⟨l5, n, hft, hn, rfl, ht5, hf5⟩
          obtain ⟨hl5, hn1⟩ := lone_free hyu (by rw [HY.out]) hft
          rw [hn1] at hn
          subst hn hl5
          clear hn1 hft d0 d1 hyu hyg
          have hc5 := hcq.fr hf5 (fun h => by have h : w2.heap.size = g := h; exact HGC.out h.symm)
          have d0 := hc5.cell 0 rfl
          have d1 := hc5.cell 1 rfl
          have hrw := hrowc.fr_lt hq (fun k hk => hk.elim)
          have hr5 := hrw.fr hf5 (fun j hj hs => by have hs : j = g := hs; subst hs; exact hrw.not_blk htq.row (by decide) hj)
          have hF5 : Fr NoB w w5 := (hFc.trans hq).fresh hf5 hg
          have hs5 := hF5.size
          go_wp2_with (at_builtin; refine row_app capCells_len capCells_one w.heap.size rfl _ _ 31 27 _ 16 rfl Try.underlying31 info_cap (by kernel_rfl) (by decide) (by decide) (.slice A k c) (oldOf k) (0, (k : Int) + 1) rfl rfl hr5 hs5 (by rw [HOL.out]; omega) ?_; intro v6 w6 hr6 hf6 hat6)
          rw [oldOf_succ] at hr6
          go_wp2
          go_roundw
          case rel => exact ⟨k + 1, freed y, by omega, by go_num, by show _ = _; rw [HY.out]; simp [freed], rfl, ht5.fr hf6 (hr5.not_blk ht5.head (by decide)) (hr5.not_blk ht5.row (by decide)), hr6, hF5.then_ hf6 (fun j hj => .inr (hr5.lt j hj).1)⟩
          case measure => simp [intOf]; omega
    · have hck := Count_any wr b g 10 (lone x m) 1 htk (by rw [lone_len]; omega)
      rw [lone_env 1 HXu.out] at hck
      go_wp2_with fail
      refine hck.mono ?_
      clear hck
      rintro e w2 ⟨rfl, hf2⟩
      go_wp2_with fail
      refine (awake_any w2).mono ?_
      rintro e w3 ⟨rfl, hf3⟩
      go_wp2
      go_ret
      exact ⟨rfl, ((hf.trans hf2).trans hf3).below0⟩
end Go.Proofs.Ytokgcgmhfpohoaa
