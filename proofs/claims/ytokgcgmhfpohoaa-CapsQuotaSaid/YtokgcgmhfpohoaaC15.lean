import Derived.Test.YtokgcgmhfpohoaaC14
set_option linter.unusedSimpArgs false
set_option linter.unusedVariables false
set_option linter.unnecessarySimpa false
namespace Go.Proofs.Ytokgcgmhfpohoaa
open Go.RowKit Go.Proofs.YtokgcgmhfpohoaaW.PrintWords
def intCells (x : Int) : List Value := [.int .i64 x]
theorem intCells_len (x : Int) : (intCells x).length = 1 := rfl
theorem intCells_one (x : Int) : ∀ u ∈ intCells x, u.oneCell' = true := by intro u hu; simp [intCells] at hu; subst hu; rfl
theorem sz_alloc (w : World) (o : Obj) : (w.alloc o).heap.size = w.heap.size + 1 := Array.size_push ..
theorem info_int : (Try.prog.info? 3).map (fun i => (i.zero, i.size, i.bytes)) = some (some (.int .i64 0), 1, 8) := by kernel_rfl
def mq (n : Nat) : List (Int × Int) := (List.range n).map fun j : Nat => ((j : Int), (1 : Int))
theorem mq_len (n : Nat) : (mq n).length = n := by simp [mq]
theorem mq_get (n k : Nat) (h : k < (mq n).length) : (mq n)[k] = ((k : Int), 1) := by simp [mq]
theorem mq_succ (n : Nat) : mq n ++ [((n : Int), 1)] = mq (n + 1) := by simp [mq, List.range_succ]
def sum3 (us : List (Int × Int)) : Nat → Nat
  | 0 => 0
  | k + 1 => sum3 us k + cnt3 k us
/-- What the table's list keeps. -/
structure QOk (us : List (Int × Int)) : Prop where
  len : us.length ≤ 12
  env : ∀ u ∈ us, 0 ≤ u.1 ∧ u.1 < 5
  cnt : ∀ e, cnt3 e us ≤ 4
theorem QOk.nil : QOk [] := ⟨by simp, by simp, fun e => by simp [cnt3]⟩
theorem QOk.snoc {us : List (Int × Int)} (h : QOk us) (u : Int × Int) (h1 : us.length < 12) (h2 : cnt3 u.1 us < 4) (h3 : 0 ≤ u.1 ∧ u.1 < 5) : QOk (us ++ [u]) :=
  ⟨by simp; omega, fun x hx => by
    rcases List.mem_append.1 hx with hx | hx
    · exact h.env x hx
    · rw [List.mem_singleton.1 hx]; exact h3, fun e => by
    rw [cnt3_snoc]
    have := h.cnt e
    split
    · rename_i he; subst he; omega
    · omega⟩
theorem QOk.sum {us : List (Int × Int)} (h : QOk us) : sum3 us 5 = us.length := by
  have := cnt3_sum us h.env
  simp only [sum3]
  simpa using this
theorem sum3_le {us : List (Int × Int)} (h : QOk us) : ∀ k, sum3 us k ≤ 4 * k := by
  intro k
  induction k with
  | zero => simp [sum3]
  | succ k ih => have := h.cnt k; simp only [sum3]; omega
set_option maxRecDepth 100000 in
set_option maxHeartbeats 8000000 in
theorem quota_walk (A : Option Addr) (cap : Nat) (l : List Int) (kill : Int) (w : World) (hC : Kd.C (Kd.int .u8) w A l.length l) (hc : l.length ≤ cap) (hy : l.length * 1 ≤ 140737488351232) (hw : ∀ x ∈ l, (Lit.int .u8 x).wf = true) (hw2 : (Lit.int .u8 kill).wf = true) :
    Calls Try.prog 5 #[.slice A l.length cap, .int .u8 kill] w fun e w' => e = .returned (.bool true) ∧ Below w.heap.size w w' := by
  have hkb : 0 ≤ kill ∧ kill ≤ 255 := by simp [Lit.wf, IntKind.min, IntKind.max, IntKind.signed, IntKind.bits] at hw2; omega
  have hlb : ∀ x ∈ l, 0 ≤ x ∧ x ≤ 255 := fun x hx => by
    have := hw x hx
    simp [Lit.wf, IntKind.min, IntKind.max, IntKind.signed, IntKind.bits] at this
    omega
  have HLB := hid hlb
  clear hy hw hw2 hlb
  by_cases hbig : 60 < l.length
  · have hbig' : 60 < (l.length : Int) := by omega
    go_enter Try.func5, Try.ntmps5
    go_wp2_with fail
    refine (awake_any w).mono ?_
    rintro e w3 ⟨rfl, hf3⟩
    go_wp2
    go_ret
    exact ⟨rfl, hf3.below0⟩
  · have hl60 : l.length ≤ 60 := by omega
    have hl60' : ¬ 60 < (l.length : Int) := by omega
    clear hbig
    go_enter Try.func5, Try.ntmps5
    go_wp2_with fail
    refine (New_any w 12 12 4 rfl (by omega) (by omega) (by omega)).mono ?_
    rintro e w1 ⟨b, g, rfl, ht1, hf1, hg, hb⟩
    have ht1' : Tab w1 b g 4 (mtab []) := by simpa [fresh, mtab] using ht1
    clear ht1
    go_wp2
    go_loopw [6, 7, 8] (fun v6 v7 v8 wr => ∃ (i : Nat) (us : List (Int × Int)), i ≤ l.length ∧ v8 = .int .i64 i ∧ QOk us ∧ Tab wr b g 4 (mtab us) ∧ Row capCells 2 27 wr w.heap.size v6 (mq us.length) ∧ Row intCells 1 3 wr w.heap.size v7 (us.map fun u => u.1) ∧ Fr NoB w wr) (fun _ _ v8 _ => l.length - (intOf v8).toNat)
    case atStart => exact ⟨0, [], Nat.zero_le _, rfl, QOk.nil, ht1', Row.nil _ _ _ _ _, Row.nil _ _ _ _ _, hf1⟩
    case round =>
      obtain ⟨i, us, hi, rfl, hq, htk, hr1, hr2, hf⟩ := hrel
      by_cases hlt : i < l.length
      · obtain ⟨ad, hA, hcell⟩ := C_at (Kd.C_below hC hf.below0) i hlt
        subst hA
        have hx := HLB.out l[i] (List.getElem_mem hlt)
        generalize l[i] = x at *
        have hlt' : (i : Int) < l.length := by omega
        have hwx : IntKind.i64.wrap x = x := by apply IntWalk.i64_in <;> omega
        have htx : x.tmod 5 = x % 5 := Int.tmod_eq_emod_of_nonneg hx.1
        obtain ⟨ev, hev⟩ : ∃ ev, ev = x % 5 := ⟨_, rfl⟩
        rw [← hev] at htx
        have hev0 : 0 ≤ ev := by omega
        have hev5 : ev < 5 := by omega
        clear hev
        rcases mint3 hq.len ev i hev0 (by omega) with ⟨er, her, hm⟩ | ⟨hu12, hu4, hm⟩
        · have hmt := Mint_any wr b g 4 (mtab us) ev 3 i 7 htk (by rw [mtab_len hq.len]; omega)
          rw [hm] at hmt
          have hen : (er == 0) = false := by simpa using her
          clear hm her
          go_wp2_with fail
          refine hmt.mono ?_
          clear hmt hcell
          rintro e w2 ⟨rfl, ht2, hf2⟩
          unfold Res.val
          dsimp only at ht2 ⊢
          have hF2 := hf.fresh hf2 hg
          have hr1w := hr1.fr hf2 (fun j hj hs => by have hs : j = g := hs; subst hs; exact hr1.not_blk htk.row (by decide) hj)
          have hr2w := hr2.fr hf2 (fun j hj hs => by have hs : j = g := hs; subst hs; exact hr2.not_blk htk.row (by decide) hj)
          have ht4 := ht2.fr0 ((Fr.refl _ _).alloc (.cells #[.int .i64 0, .int .i64 0] 27))
          have hr14 := Row.fr_lt (S := NoB) hr1w ((Fr.refl _ _).alloc (.cells #[.int .i64 0, .int .i64 0] 27)) (fun k hk => hk.elim)
          have hr24 := Row.fr_lt (S := NoB) hr2w ((Fr.refl _ _).alloc (.cells #[.int .i64 0, .int .i64 0] 27)) (fun k hk => hk.elim)
          have hF4 := hF2.alloc (.cells #[.int .i64 0, .int .i64 0] 27)
          have hq4 := hq
          clear hr1 hr2 hr1w hr2w ht2 hF2 hf2 htk hf hq
          obtain ⟨A6, c6, hv6, hc6⟩ := hr14.shape
          subst hv6
          obtain ⟨us4, hus⟩ : ∃ us4, us4 = us := ⟨_, rfl⟩
          rw [← hus] at hq4 ht4 hr14 hr24 hc6
          rw [← hus]
          clear hus
          simp only [mq_len] at hr14 hc6 ⊢
          go_wp2
          generalize w2.alloc (.cells #[.int .i64 0, .int .i64 0] 27) = w4 at *
          go_loopw [12, 13] (fun v12 v13 wr => ∃ k : Nat, k ≤ 5 ∧ v13 = .int .i64 k ∧ v12 = .int .i64 (sum3 us4 k) ∧ Fr NoB w4 wr) (fun _ v13 _ => 5 - (intOf v13).toNat)
          case atStart => exact ⟨0, by omega, rfl, rfl, Fr.refl _ _⟩
          case round =>
            obtain ⟨k, hk, rfl, rfl, hq5⟩ := hrel
            by_cases hk5 : k < 5
            · have hk5' : (k : Int) < 5 := by omega
              have hcc := Count_any wr b g 4 (mtab us4) k (ht4.fr0 hq5) (by rw [mtab_len hq4.len]; omega)
              rw [mtab_cnt] at hcc
              have hc4 : (cnt3 k us4 : Int) ≤ 4 := by have := hq4.cnt k; omega
              have hs4 := sum3_le hq4 k
              have HS4 : Hid (sum3 us4 (k + 1) = sum3 us4 k + cnt3 k us4) := rfl
              generalize hcn : cnt3 k us4 = cn at *
              generalize sum3 us4 k = sn at *
              go_wp2_with fail
              refine hcc.mono ?_
              clear hcc
              rintro e w5 ⟨rfl, hf5⟩
              have hcc := Count_any w5 b g 4 (mtab us4) k ((ht4.fr0 hq5).fr0 hf5) (by rw [mtab_len hq4.len]; omega)
              rw [mtab_cnt, hcn] at hcc
              clear hcn
              go_wp2_with fail
              refine hcc.mono ?_
              clear hcc
              rintro e w6 ⟨rfl, hf6⟩
              go_wp2
              go_roundw
              case rel => exact ⟨k + 1, by omega, by go_num, by rw [HS4.out]; go_num, (hq5.trans hf5).trans hf6⟩
              case measure => simp [intOf]; omega
            · obtain rfl : k = 5 := by omega
              have hsum := hq4.sum
              have hle := hq4.len
              rw [hsum]
              have hle' : (us4.length : Int) ≤ 12 := by omega
              clear hsum
              go_wp2
              go_roundw
              case rel => exact ⟨i + 1, us4, by omega, by go_num, hq4, ht4.fr0 hq5, hr14.fr_lt hq5 (fun k hk => hk.elim), hr24.fr_lt hq5 (fun k hk => hk.elim), hF4.trans hq5⟩
              case measure => simp [intOf]; omega
        · have hmt := Mint_any wr b g 4 (mtab us) ev 3 i 7 htk (by rw [mtab_len hq.len]; omega)
          rw [hm] at hmt
          clear hm
          go_wp2_with fail
          refine hmt.mono ?_
          clear hmt hcell
          rintro e w2 ⟨rfl, ht2, hf2⟩
          unfold Res.val
          dsimp only at ht2 ⊢
          have hF2 := hf.fresh hf2 hg
          have hr1w := hr1.fr hf2 (fun j hj hs => by have hs : j = g := hs; subst hs; exact hr1.not_blk htk.row (by decide) hj)
          have hr2w := hr2.fr hf2 (fun j hj hs => by have hs : j = g := hs; subst hs; exact hr2.not_blk htk.row (by decide) hj)
          have hul := hq.len
          have HUL := hid hul
          have hml : (us.map fun u => u.1).length = us.length := by simp
          have HML := hid hml
          have hq4 := hq.snoc (ev, (i : Int)) hu12 hu4 ⟨hev0, hev5⟩
          clear hml hul
          go_wp2_with (first
            | (at_builtin; refine row_app capCells_len capCells_one w.heap.size rfl _ _ 31 27 _ 16 rfl Try.underlying31 info_cap (by kernel_rfl) (by decide) (by decide) u6 (mq us.length) ((us.length : Int), 1) rfl (by rw [sz_alloc]; rfl) (Row.fr_lt (S := NoB) hr1w ((Fr.refl _ _).alloc _) (fun k hk => hk.elim)) (hF2.alloc _).size (by rw [mq_len]; have := HUL.out; omega) ?_; intro v3 w3 hr3 hf3 hat3; rw [mq_succ] at hr3; have hr23 := Row.fr (Row.fr_lt (S := NoB) hr2w ((Fr.refl _ _).alloc _) (fun k hk => hk.elim)) hf3 (hr2w.apart hr1w (by decide)); have hF3 := Fr.then_ (hF2.alloc _) hf3 (fun j hj => .inr (hr1w.lt j hj).1); have ht3 := Tab.fr (ht2.fr0 ((Fr.refl _ _).alloc _)) hf3 (hr1w.not_blk ht2.head (by decide)) (hr1w.not_blk ht2.row (by decide)))
            | (at_builtin; refine row_app intCells_len intCells_one w.heap.size rfl _ _ 22 3 _ 8 rfl Try.underlying22 info_int (by kernel_rfl) (by decide) (by decide) u7 (us.map fun u => u.1) ev rfl rfl hr23 hF3.size (by rw [HML.out]; have := HUL.out; omega) ?_; intro v4 w4 hr24 hf4 hat4; have hr14 := hr3.fr hf4 (hr3.apart hr23 (by decide)); have hF4 := Fr.then_ hF3 hf4 (fun j hj => .inr (hr23.lt j hj).1); have ht4 := Tab.fr ht3 hf4 (hr23.not_blk ht3.head (by decide)) (hr23.not_blk ht3.row (by decide))))
          obtain ⟨us4, hus⟩ : ∃ us4, us4 = us ++ [(ev, (i : Int))] := ⟨_, rfl⟩
          have hl4 : us.length + 1 = us4.length := by rw [hus]; simp
          have hm4 : (us.map fun u => u.1) ++ [ev] = us4.map fun u => u.1 := by rw [hus]; simp
          rw [← hus] at hq4 ht4
          rw [hl4] at hr14
          rw [hm4] at hr24
          clear hus hl4 hm4 ht3 hr23 hr3 hF3 hr1w hr2w hr1 hr2 hat3 hat4 hf3 hf4
          obtain ⟨A6, c6, hv6, hc6⟩ := hr14.shape
          subst hv6
          simp only [mq_len] at hr14 hc6 ⊢
          go_wp2
          go_loopw [12, 13] (fun v12 v13 wr => ∃ k : Nat, k ≤ 5 ∧ v13 = .int .i64 k ∧ v12 = .int .i64 (sum3 us4 k) ∧ Fr NoB w4 wr) (fun _ v13 _ => 5 - (intOf v13).toNat)
          case atStart => exact ⟨0, by omega, rfl, rfl, Fr.refl _ _⟩
          case round =>
            obtain ⟨k, hk, rfl, rfl, hq5⟩ := hrel
            by_cases hk5 : k < 5
            · have hk5' : (k : Int) < 5 := by omega
              have hcc := Count_any wr b g 4 (mtab us4) k (ht4.fr0 hq5) (by rw [mtab_len hq4.len]; omega)
              rw [mtab_cnt] at hcc
              have hc4 : (cnt3 k us4 : Int) ≤ 4 := by have := hq4.cnt k; omega
              have hs4 := sum3_le hq4 k
              have HS4 : Hid (sum3 us4 (k + 1) = sum3 us4 k + cnt3 k us4) := rfl
              generalize hcn : cnt3 k us4 = cn at *
              generalize sum3 us4 k = sn at *
              go_wp2_with fail
              refine hcc.mono ?_
              clear hcc
              rintro e w5 ⟨rfl, hf5⟩
              have hcc := Count_any w5 b g 4 (mtab us4) k ((ht4.fr0 hq5).fr0 hf5) (by rw [mtab_len hq4.len]; omega)
              rw [mtab_cnt, hcn] at hcc
              clear hcn
              go_wp2_with fail
              refine hcc.mono ?_
              clear hcc
              rintro e w6 ⟨rfl, hf6⟩
              go_wp2
              go_roundw
              case rel => exact ⟨k + 1, by omega, by go_num, by rw [HS4.out]; go_num, (hq5.trans hf5).trans hf6⟩
              case measure => simp [intOf]; omega
            · obtain rfl : k = 5 := by omega
              have hsum := hq4.sum
              have hle := hq4.len
              rw [hsum]
              have hle' : (us4.length : Int) ≤ 12 := by omega
              clear hsum
              go_wp2
              go_roundw
              case rel => exact ⟨i + 1, us4, by omega, by go_num, hq4, ht4.fr0 hq5, hr14.fr_lt hq5 (fun k hk => hk.elim), hr24.fr_lt hq5 (fun k hk => hk.elim), hF4.trans hq5⟩
              case measure => simp [intOf]; omega
      · have hlt' : ¬ (i : Int) < l.length := by omega
        have hwx : IntKind.i64.wrap kill = kill := by apply IntWalk.i64_in <;> omega
        have htx : kill.tmod 5 = kill % 5 := Int.tmod_eq_emod_of_nonneg hkb.1
        obtain ⟨ev, hev⟩ : ∃ ev, ev = kill % 5 := ⟨_, rfl⟩
        rw [← hev] at htx
        clear hev
        have hcc := Count_any wr b g 4 (mtab us) ev htk (by rw [mtab_len hq.len]; omega)
        rw [mtab_cnt] at hcc
        go_wp2_with fail
        refine hcc.mono ?_
        clear hcc
        rintro e w5 ⟨rfl, hf5⟩
        go_wp2_with fail
        refine (Kill_any w5 b g 4 (mtab us) ev (htk.fr0 hf5) (by rw [mtab_len hq.len]; omega) mtab_gok).mono ?_
        rintro e w6 ⟨l6, n6, hft, hn6, rfl, ht6, hf6⟩
        obtain ⟨k1, k2, k3, k4⟩ := mtab_killed hq.len ev hft
        rw [k4] at hn6
        subst hn6
        have hl6 : l6.length ≤ 4096 := by rw [hft.len, mtab_len hq.len]; omega
        clear k4 hft
        have K1 := hid k1
        have K2 := hid k2
        have hcc := Count_any w6 b g 4 l6 ev ht6 hl6
        rw [k3, show ((0 : Nat) : Int) = 0 from rfl] at hcc
        clear k1 k2 k3
        go_wp2_with fail
        refine hcc.mono ?_
        clear hcc
        rintro e w7 ⟨rfl, hf7⟩
        have hr1a := hr1.fr_lt hf5 (fun k hk => hk.elim)
        have hr2a := hr2.fr_lt hf5 (fun k hk => hk.elim)
        have hr1b := (hr1a.fr hf6 (fun j hj hs => by have hs : j = g := hs; subst hs; exact hr1a.not_blk (htk.fr0 hf5).row (by decide) hj)).fr_lt hf7 (fun k hk => hk.elim)
        have hr2b := (hr2a.fr hf6 (fun j hj hs => by have hs : j = g := hs; subst hs; exact hr2a.not_blk (htk.fr0 hf5).row (by decide) hj)).fr_lt hf7 (fun k hk => hk.elim)
        have hF7 : Fr NoB w w7 := ((hf.trans hf5).fresh hf6 hg).trans hf7
        have ht7 := ht6.fr0 hf7
        clear hr1 hr2 hr1a hr2a htk hf hf5 hf6 hf7 ht6
        obtain ⟨A6, c6, hv6, hc6⟩ := hr1b.shape
        subst hv6
        have HML := hid (mq_len us.length)
        have HMM : Hid ((us.map fun u => u.1).length = us.length) := hid (by simp)
        simp only [mq_len] at hr1b hc6 ⊢
        obtain ⟨A7, c7, hv7, hc7⟩ := hr2b.shape
        subst hv7
        simp only [List.length_map] at hr2b hc7 ⊢
        go_wp2
        go_loopw [16] (fun v16 wr => ∃ j : Nat, j ≤ us.length ∧ v16 = .int .i64 j ∧ Fr NoB w7 wr) (fun v16 _ => us.length - (intOf v16).toNat)
        case atStart => exact ⟨0, Nat.zero_le _, rfl, Fr.refl _ _⟩
        case round =>
          obtain ⟨j, hj, rfl, hq7⟩ := hrel
          by_cases hjl : j < us.length
          · obtain ⟨g1, c1, hv, hg1, _⟩ := hr1b.ptr (by rw [HML.out]; omega)
            rw [HML.out] at hv
            injection hv with h1 h2 h3
            subst h1 h3
            obtain ⟨g2, c2, hv, hg2, _⟩ := hr2b.ptr (by rw [HMM.out]; omega)
            rw [HMM.out] at hv
            injection hv with h1 h2 h3
            subst h1 h3
            have hrq1 : Row capCells 2 27 w7 w.heap.size (.slice (some ⟨g1, 0, none⟩) (mq us.length).length c6) (mq us.length) := by rw [HML.out]; exact hr1b
            have hrq2 : Row intCells 1 3 w7 w.heap.size (.slice (some ⟨g2, 0, none⟩) (us.map fun u => u.1).length c7) (us.map fun u => u.1) := by rw [HMM.out]; exact hr2b
            have hS : ∀ W, Fr NoB w7 W → W.cell? ⟨g1, j * 2, none⟩ = some (.int .i64 j) ∧ W.cell? ⟨g1, j * 2 + 1, none⟩ = some (.int .i64 1) ∧ W.cell? ⟨g2, j, none⟩ = some (.int .i64 us[j].1) := by
              intro W hW
              have e0 := (hrq1.fr_lt hW (fun k hk => hk.elim)).cell capCells_len j (by rw [HML.out]; exact hjl) 0 (by omega) (u := .int .i64 j) (by rw [mq_get]; rfl)
              have e1 := (hrq1.fr_lt hW (fun k hk => hk.elim)).cell capCells_len j (by rw [HML.out]; exact hjl) 1 (by omega) (u := .int .i64 1) (by rw [mq_get]; rfl)
              have e2 := (hrq2.fr_lt hW (fun k hk => hk.elim)).cell intCells_len j (by rw [HMM.out]; exact hjl) 0 (by omega) (u := .int .i64 us[j].1) (by rw [List.getElem_map]; rfl)
              exact ⟨by simpa using e0, e1, by simpa using e2⟩
            have HS := hid hS
            have hjl' : (j : Int) < us.length := by omega
            have hul12 : (us.length : Int) ≤ 12 := by have := hq.len; omega
            have HCK : Hid (checkT l6 us[j].1 j 1 3 7 = if us[j].1 = ev then (0, 9) else (us[j].2, 0)) := by
              show _ = _
              unfold checkT
              by_cases he : us[j].1 = ev
              · rw [K1.out j hjl he, if_pos he]
              · rw [K2.out j hjl he, if_neg he]
                have h1 : hasB 7 0 = true := by decide
                have h2 : hasB 7 7 = true := by decide
                simp [mk3, h1, h2]
            clear hS hrq1 hrq2
            have htr := (ht7.fr0 hq7).drew
            generalize us[j] = u at *
            by_cases he : u.1 = ev
            · have HC2 : Hid (checkT l6 u.1 j 1 3 7 = (0, 9)) := by show _ = _; rw [HCK.out, if_pos he]
              have hne : (u.1 != ev) = false := by simpa using he
              clear he HCK
              go_wp2
              go_region_held3 (fun w' => w'.cell? ⟨g1, j * 2, none⟩ = some (.int .i64 j) ∧ w'.cell? ⟨g1, j * 2 + 1, none⟩ = some (.int .i64 1) ∧ w'.cell? ⟨g2, j, none⟩ = some (.int .i64 u.1)) (first | exact HS.out _ (Fr.trans hq7 (Fr.drew (Fr.refl _ _))) | exact HS.out _ (Fr.trans hq7 (by assumption))) (first | (go_at_call 11; refine (Check_any _ b g 4 l6 u.1 j 1 3 7 htr hl6).mono ?_; rw [HC2.out]; rintro e w8 ⟨rfl, hf8⟩; have hF8 : Fr NoB wr w8 := Fr.trans (Fr.drew (Fr.refl _ _)) hf8; clear hf8; dsimp only))
              go_wp2
              go_roundw
              case rel => exact ⟨j + 1, by omega, by go_num, hq7.trans hF8⟩
              case measure => simp [intOf]; omega
            · have HC2 : Hid (checkT l6 u.1 j 1 3 7 = (u.2, 0)) := by show _ = _; rw [HCK.out, if_neg he]
              have hne : (u.1 != ev) = true := by simpa using he
              clear he HCK
              go_wp2
              go_region_held3 (fun w' => w'.cell? ⟨g1, j * 2, none⟩ = some (.int .i64 j) ∧ w'.cell? ⟨g1, j * 2 + 1, none⟩ = some (.int .i64 1) ∧ w'.cell? ⟨g2, j, none⟩ = some (.int .i64 u.1)) (first | exact HS.out _ (Fr.trans hq7 (Fr.drew (Fr.refl _ _))) | exact HS.out _ (Fr.trans hq7 (by assumption))) (first | (go_at_call 11; refine (Check_any _ b g 4 l6 u.1 j 1 3 7 htr hl6).mono ?_; rw [HC2.out]; rintro e w8 ⟨rfl, hf8⟩; have hF8 : Fr NoB wr w8 := Fr.trans (Fr.drew (Fr.refl _ _)) hf8; clear hf8; dsimp only))
              go_wp2
              go_roundw
              case rel => exact ⟨j + 1, by omega, by go_num, hq7.trans hF8⟩
              case measure => simp [intOf]; omega
          · have hjl' : ¬ (j : Int) < us.length := by omega
            go_wp2_with fail
            refine (awake_any _).mono ?_
            rintro e w8 ⟨rfl, hf8⟩
            go_wp2
            go_ret
            exact ⟨rfl, ((hF7.trans hq7).trans hf8).below0⟩
end Go.Proofs.Ytokgcgmhfpohoaa
