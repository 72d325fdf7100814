import Derived.Test.YtokgcgmhfpohoaaC12
set_option linter.unusedSimpArgs false
set_option linter.unusedVariables false
set_option linter.unnecessarySimpa false
namespace Go.Proofs.Ytokgcgmhfpohoaa
open Go.RowKit Go.Proofs.YtokgcgmhfpohoaaW.PrintWords
theorem okR_cases {r : Int} (h : okR r = true) : r = 1 ∨ r = 2 ∨ r = 3 ∨ r = 4 ∨ r = 5 ∨ r = 6 ∨ r = 7 := by
  have := of_decide_eq_true h
  omega
theorem okR_no {r : Int} (h : okR r = false) : r < 1 ∨ 7 < r := by
  have := of_decide_eq_false h
  omega
theorem and_comm7 {a b : Int} (ha : okR a = true) (hb : okR b = true) : bits BinOp.and .i64 a b = bits BinOp.and .i64 b a := by
  rcases okR_cases ha with rfl | rfl | rfl | rfl | rfl | rfl | rfl <;> rcases okR_cases hb with rfl | rfl | rfl | rfl | rfl | rfl | rfl <;> decide
theorem hasB_zero {a : Int} (ha : okR a = true) : hasB a 0 = true := by
  rcases okR_cases ha with rfl | rfl | rfl | rfl | rfl | rfl | rfl <;> decide
theorem hasB_self {a : Int} (ha : okR a = true) : hasB a a = true := by
  rcases okR_cases ha with rfl | rfl | rfl | rfl | rfl | rfl | rfl <;> decide
/-- The names along the chain. -/
def alongOf (n : Nat) : List (Int × Int) := (List.range n).map fun j : Nat => ((j : Int) + 1, (1 : Int))
theorem alongOf_len (n : Nat) : (alongOf n).length = n := by simp [alongOf]
theorem alongOf_get (n k : Nat) (h : k < (alongOf n).length) : (alongOf n)[k] = ((k : Int) + 1, 1) := by simp [alongOf]
theorem alongOf_succ (n : Nat) : alongOf n ++ [((n : Int) + 1, 1)] = alongOf (n + 1) := by simp [alongOf, List.range_succ]
theorem last_take (first : Int) (l : List Int) (k : Nat) (hk : k ≤ l.length) : (first :: l.take k).getD (l.take k).length 0 = (first :: l).getD k 0 := by
  rw [List.length_take, Nat.min_eq_left hk]
  cases k with
  | zero => rfl
  | succ k => simp [List.getElem?_take]
/-- What a link of the chain may do, told by 'Check'. -/
theorem check_chain {N : Nat} {kind obj first : Int} {rs : List Int} (hN : rs.length < N) (k : Nat) (hk : k ≤ rs.length) (right : Int) (hr : okR ((first :: rs).getD k 0) = true) :
    checkT (chain N kind obj first rs) k k 1 kind right = if hasB ((first :: rs).getD k 0) right = false then (0, 8) else (obj, 0) := by
  have hf : findS (chain N kind obj first rs) k 1 = some (chainAt kind obj first rs k) := by
    unfold findS
    rw [if_pos (by omega), Int.toNat_natCast, List.getElem?_eq_getElem (by rw [chain_len]; omega), chain_get]
    simp [Option.filter, chain_used, chain_gen, hk]
  unfold checkT
  rw [hf]
  simp only [chain_rights hk, chain_env hk, chain_kind hk, chain_obj hk, hasB_zero hr]
  simp
theorem chain_first {N : Nat} {kind obj first : Int} {rs : List Int} (hN : 0 < N) : findS (chain N kind obj first rs) 0 1 = some ⟨1, 0, kind, obj, first, -1, true⟩ := by
  unfold findS
  rw [if_pos (by omega)]
  have : (chain N kind obj first rs)[(0 : Int).toNat]? = some ⟨1, 0, kind, obj, first, -1, true⟩ := by
    show (chain N kind obj first rs)[0]? = _
    rw [List.getElem?_eq_getElem (by rw [chain_len]; omega), chain_get]
    rfl
  rw [this]
  simp [Option.filter]
theorem share_step (first : Int) (l : List Int) (k : Nat) (hk : k < l.length) (hl : l.length ≤ 10) :
    (∃ e, e ≠ 0 ∧ shareT 20 (chain 20 2 3 first (l.take k)) k k 1 ((k : Int) + 1) l[k] = ⟨chain 20 2 3 first (l.take k), 0, 0, e⟩) ∨
    (shareT 20 (chain 20 2 3 first (l.take k)) k k 1 ((k : Int) + 1) l[k] = ⟨chain 20 2 3 first (l.take (k + 1)), (k : Int) + 1, 1, 0⟩ ∧ hasB ((first :: l).getD k 0) l[k] = true ∧ okR l[k] = true) := by
  have hlen : (l.take k).length = k := by rw [List.length_take]; omega
  have h := share_chain (N := 20) (kind := 2) (obj := 3) (first := first) (rs := l.take k) (by rw [hlen]; omega) (q := 20) (by omega) l[k]
  rw [last_take first l k (by omega), hlen] at h
  rw [List.take_succ_eq_append_getElem hk]
  exact h
theorem check_step (first : Int) (l : List Int) (k : Nat) (hk : k < l.length) (hl : l.length ≤ 10) (right : Int) (hr : okR l[k] = true) :
    checkT (chain 20 2 3 first (l.take (k + 1))) ((k : Int) + 1) ((k : Int) + 1) 1 2 right = if hasB l[k] right = false then (0, 8) else (3, 0) := by
  have hlen : (l.take (k + 1)).length = k + 1 := by rw [List.length_take]; omega
  have e : (first :: l.take (k + 1)).getD (k + 1) 0 = l[k] := by
    have h := last_take first l (k + 1) (by omega)
    rw [hlen] at h
    rw [h]; simp [hk]
  have h := check_chain (N := 20) (kind := 2) (obj := 3) (first := first) (rs := l.take (k + 1)) (by rw [hlen]; omega) (k + 1) (by rw [hlen]; omega) right (by rw [e]; exact hr)
  rw [e] at h
  exact h
set_option maxRecDepth 100000 in
set_option maxHeartbeats 8000000 in
theorem rights_walk (first : Int) (A : Option Addr) (cap : Nat) (l : List Int) (right : Int) (w : World) (hw0 : (Lit.int .i64 first).wf = true) (hC : Kd.C (Kd.int .i64) w A l.length l) (hc : l.length ≤ cap) (hy : l.length * 8 ≤ 140737488351232) (hw : ∀ x ∈ l, (Lit.int .i64 x).wf = true) (hw2 : (Lit.int .i64 right).wf = true) :
    Calls Try.prog 3 #[.int .i64 first, .slice A l.length cap, .int .i64 right] w fun e w' => e = .returned (.bool true) ∧ Below w.heap.size w w' := by
  clear hw0 hy hw hw2
  by_cases hbad : 10 < l.length ∨ right < 1 ∨ 7 < right
  · rcases (show 10 < (l.length : Int) ∨ (¬ 10 < (l.length : Int) ∧ right < 1) ∨ (¬ 10 < (l.length : Int) ∧ ¬ right < 1 ∧ 7 < right) from by omega) with h | ⟨h, h'⟩ | ⟨h, h', h''⟩
    all_goals
      go_enter Try.func3, Try.ntmps3
      go_wp2_with fail
      refine (awake_any w).mono ?_
      rintro e w3 ⟨rfl, hf3⟩
      go_wp2
      go_ret
      exact ⟨rfl, hf3.below0⟩
  · have hl10 : l.length ≤ 10 := by omega
    have hl10' : ¬ 10 < (l.length : Int) := by omega
    have hr1 : ¬ right < 1 := by omega
    have hr7 : ¬ 7 < right := by omega
    have HRT : Hid (okR right = true) := hid (decide_eq_true (by omega))
    clear hbad
    cases hok : okR first
    · have hm : mintT 20 (fresh 20) 0 2 3 first = ⟨fresh 20, 0, 0, 1⟩ := by unfold mintT; rw [if_pos (by rw [hok]; simp)]
      rcases (show first < 1 ∨ (¬ first < 1 ∧ 7 < first) from by have := okR_no hok; omega) with h | ⟨h, h'⟩
      all_goals
        go_enter Try.func3, Try.ntmps3
        go_wp2_with fail
        refine (New_any w 20 20 20 rfl (by omega) (by omega) (by omega)).mono ?_
        rintro e w1 ⟨b, g, rfl, ht1, hf1, hg, hb⟩
        have hmt := Mint_any w1 b g 20 (fresh 20) 0 2 3 first ht1 (by simp [fresh])
        rw [hm] at hmt
        go_wp2_with fail
        refine hmt.mono ?_
        clear hmt
        rintro e w2 ⟨rfl, ht2, hf2⟩
        unfold Res.val
        dsimp only at ht2 ⊢
        have hF2 : Fr NoB w w2 := hf1.fresh hf2 hg
        go_wp2_with fail
        refine (awake_any _).mono ?_
        rintro e w3 ⟨rfl, hf3⟩
        go_wp2
        go_ret
        exact ⟨rfl, (Fr.trans (hF2.alloc _) hf3).below0⟩
    · have HOK := hid hok
      clear hok
      go_enter Try.func3, Try.ntmps3
      go_wp2_with fail
      refine (New_any w 20 20 20 rfl (by omega) (by omega) (by omega)).mono ?_
      rintro e w1 ⟨b, g, rfl, ht1, hf1, hg, hb⟩
      have hmt := Mint_any w1 b g 20 (fresh 20) 0 2 3 first ht1 (by simp [fresh])
      rw [mint_chain (by omega) (by omega) (by omega) (by omega) (by omega) HOK.out] at hmt
      go_wp2_with fail
      refine hmt.mono ?_
      clear hmt
      rintro e w2 ⟨rfl, ht2, hf2⟩
      unfold Res.val
      dsimp only at ht2 ⊢
      have hF2 : Fr NoB w w2 := hf1.fresh hf2 hg
      go_wp2
      obtain ⟨wc, hwc⟩ : ∃ wc, wc = (w2.alloc (.cells #[.int .i64 0, .int .i64 1] 27)).alloc (.cells #[.int .i64 0, .int .i64 1] 27) := ⟨_, rfl⟩
      have hC8 : Blk wc w2.heap.size 27 [.int .i64 0, .int .i64 1] := by rw [hwc]; exact (Blk.new w2 27 [.int .i64 0, .int .i64 1]).alloc _
      have hC10 : Blk wc (w2.heap.size + 1) 27 [.int .i64 0, .int .i64 1] := by rw [hwc]; simpa using Blk.new (w2.alloc (.cells #[.int .i64 0, .int .i64 1] 27)) 27 [.int .i64 0, .int .i64 1]
      have hFwc : Fr NoB w2 wc := by rw [hwc]; exact ((Fr.refl _ _).alloc _).alloc _
      rw [← hwc]
      have htc := ht2.fr0 hFwc
      have hFc := hF2.trans hFwc
      have HGs : Hid (g < w2.heap.size) := ht2.lt.2
      have HBs : Hid (b < w2.heap.size) := ht2.lt.1
      have HWs : Hid (w.heap.size ≤ w2.heap.size) := hF2.size
      have HG8 : Hid (w2.heap.size ≠ g) := hid (by have := HGs.out; omega)
      have HG5 : Hid (w2.heap.size + 1 ≠ g) := hid (by have := HGs.out; omega)
      have HB8 : Hid (w2.heap.size ≠ b) := hid (by have := HBs.out; omega)
      clear hwc ht2 hFwc hf2 ht1
      generalize w2.heap.size = c8 at *
      go_loopw [11, 12, 13] (fun v11 v12 v13 wr => ∃ k : Nat, k ≤ l.length ∧ v13 = .int .i64 k ∧ v11 = .int .i64 ((first :: l).getD k 0) ∧ Tab wr b g 20 (chain 20 2 3 first (l.take k)) ∧ Blk wr c8 27 [.int .i64 k, .int .i64 1] ∧ Blk wr (c8 + 1) 27 [.int .i64 0, .int .i64 1] ∧ Row capCells 2 27 wr w.heap.size v12 (alongOf k) ∧ (¬ OwnB v12 c8) ∧ (¬ OwnB v12 (c8 + 1)) ∧ Fr NoB w wr) (fun _ _ v13 _ => l.length - (intOf v13).toNat)
      case atStart => exact ⟨0, Nat.zero_le _, rfl, rfl, htc, hC8, hC10, Row.nil _ _ _ _ _, by simp [OwnB, Value.ownBlock], by simp [OwnB, Value.ownBlock], hFc⟩
      case round =>
        obtain ⟨k, hk, rfl, rfl, htk, h8, h10, hrow, hn8, hn10, hf⟩ := hrel
        clear htc hC8 hC10 hFc hf1 hF2
        have HLT : Hid ((l.take k).length = k) := hid (by rw [List.length_take]; omega)
        by_cases hlt : k < l.length
        · obtain ⟨ad, hA, hcell⟩ := C_at (Kd.C_below hC hf.below0) k hlt
          subst hA
          have hadl : ∀ W, Fr NoB w W → W.cell? (ad.add k) = some (.int .i64 l[k]) := by
            intro W hW
            obtain ⟨ad', hA', hcell'⟩ := C_at (Kd.C_below hC hW.below0) k hlt
            injection hA' with hA'
            subst hA'
            exact hcell'
          have hk' : (k : Int) < l.length := by omega
          have hS : ∀ w', Fr (At g) wr w' → w'.cell? ⟨c8, 0, none⟩ = some (.int .i64 k) ∧ w'.cell? ⟨c8, 1, none⟩ = some (.int .i64 1) ∧ w'.cell? (ad.add k) = some (.int .i64 l[k]) := fun w' hw' => ⟨(h8.fr hw' (fun h => HG8.out h)).cell 0 rfl, (h8.fr hw' (fun h => HG8.out h)).cell 1 rfl, hadl w' (hf.fresh hw' hg)⟩
          have HS := hid hS
          clear hS hcell
          rcases share_step first l k hlt hl10 with ⟨e0, he0, hsh⟩ | ⟨hsh, hb1, hok1⟩
          · have HSH := hid hsh
            have HE : Hid ((e0 != 0) = true) := hid (by simpa using he0)
            have hen : (e0 != 0) = true := by simpa using he0
            clear hsh hadl he0
            have hwk : IntKind.i64.wrap ((k : Int) + 1) = (k : Int) + 1 := by apply IntWalk.i64_in <;> omega
            generalize l[k] = y at *
            generalize (first :: l).getD k 0 = z at *
            go_wp2
            have hN0 : ∀ W : World, (W.alloc (.cells #[.int .i64 0, .int .i64 0] 27)).cell? ⟨W.heap.size, 0, none⟩ = some (.int .i64 0) := fun W => (Blk.new W 27 [.int .i64 0, .int .i64 0]).cell 0 rfl
            have hN1 : ∀ W : World, (W.alloc (.cells #[.int .i64 0, .int .i64 0] 27)).cell? ⟨W.heap.size, 1, none⟩ = some (.int .i64 0) := fun W => (Blk.new W 27 [.int .i64 0, .int .i64 0]).cell 1 rfl
            have hZ0 : ∀ W : World, (W.alloc (.cells #[.int .i64 0, .int .i64 0] 27)).frozen? ⟨W.heap.size, 0, none⟩ = false := fun W => (Blk.new W 27 [.int .i64 0, .int .i64 0]).frozen 0
            have hZ1 : ∀ W : World, (W.alloc (.cells #[.int .i64 0, .int .i64 0] 27)).frozen? ⟨W.heap.size, 1, none⟩ = false := fun W => (Blk.new W 27 [.int .i64 0, .int .i64 0]).frozen 1
            have HGW : Hid (wr.heap.size ≠ g) := hid (by have := htk.lt.2; omega)
            go_region_held3 (fun w' => w'.cell? ⟨c8, 0, none⟩ = some (.int .i64 k) ∧ w'.cell? ⟨c8, 1, none⟩ = some (.int .i64 1) ∧ w'.cell? (ad.add k) = some (.int .i64 y)) (first | exact HS.out _ (by repeat (first | with_reducible assumption | with_reducible exact Fr.refl _ _ | with_reducible refine Fr.drew ?_ | with_reducible refine Fr.alloc ?_ _ | (with_reducible refine Fr.setCell ?_ (.inr ?_) _; rotate_left; (first | exact Nat.le_refl _ | simpa using Fr.size (by assumption))))) | fail) (first | (go_at_call 10; refine (Share_any _ b g 20 (chain 20 2 3 first (l.take k)) k k 1 ((k : Int) + 1) y (by first | exact htk.drew | exact (htk.fr0 ((Fr.refl _ _).alloc _)).drew) (by rw [chain_len]; omega)).mono ?_; rw [HSH.out]; rintro e w3 ⟨rfl, ht3, hf3⟩; have hF3 : Fr (At g) wr w3 := (by first | exact Fr.trans (Fr.drew (Fr.refl _ _)) hf3 | exact Fr.trans (Fr.drew (Fr.alloc (Fr.refl _ _) _)) hf3); (try (have hB3 := Blk.fr (Blk.drew (Blk.new wr 27 [.int .i64 0, .int .i64 0])) hf3 (fun h => HGW.out h); have n0 := hB3.cell 0 rfl; have n1 := hB3.cell 1 rfl; have z0 := hB3.frozen 0; have z1 := hB3.frozen 1)); unfold Res.val; dsimp only at ht3 ⊢))
            · have hF4 : Fr (At g) wr (w3.alloc (.cells #[.int .i64 0, .int .i64 0] 27)) := hF3.alloc _
              have ht5 : Tab (w3.alloc (.cells #[.int .i64 0, .int .i64 0] 27)) b g 20 (chain 20 2 3 first (l.take k)) := ht3.fr0 ((Fr.refl _ _).alloc _)
              generalize w3.alloc (.cells #[.int .i64 0, .int .i64 0] 27) = w5 at *
              clear hF3 hf3 ht3
              have hroot5 := h10.fr hF4 (fun h => HG5.out h)
              have hrow5 := hrow.fr hF4 (fun j hj hs => by have hs : j = g := hs; subst hs; exact hrow.not_blk htk.row (by decide) hj)
              have hF5 : Fr NoB w w5 := hf.fresh hF4 hg
              clear htk h10 h8 hrow hf hn8 hn10 hF4 hN0 hN1 hZ0 hZ1 HGW HS
              have HOL := hid (alongOf_len k)
              obtain ⟨A5, c5, hv5, hc5⟩ := hrow5.shape
              subst hv5
              rw [alongOf_len] at hc5
              simp only [alongOf_len] at hrow5 ⊢
              have r0 := hroot5.cell 0 rfl
              have r1 := hroot5.cell 1 rfl
              go_wp2_with fail
              refine (Revoke_ok _ b g 20 (chain 20 2 3 first (l.take k)) 0 0 1 0 ⟨1, 0, 2, 3, first, -1, true⟩ ht5 (by rw [chain_len]; omega) chain_gok rfl (chain_first (by omega)) (by simp [hasB_zero HOK.out])).mono ?_
              rintro e w6 ⟨l6, n6, hft, hn6, rfl, ht6, hf6⟩
              obtain ⟨hr1, hr2, hr3⟩ := revoke_chain (by rw [HLT.out]; omega) hft
              rw [hr1, HLT.out] at hn6
              rw [HLT.out] at hr2
              subst hn6
              have hl6 : l6.length ≤ 4096 := by rw [hft.len, chain_len]; omega
              have HR2 := hid hr2
              have HR3 := hid hr3
              have hrow6 := hrow5.fr hf6 (fun j hj hs => by have hs : j = g := hs; subst hs; exact hrow5.not_blk ht5.row (by decide) hj)
              have hroot6 := hroot5.fr hf6 (fun h => HG5.out h)
              have hF6 : Fr NoB w w6 := hF5.fresh hf6 hg
              clear hr1 hr2 hr3 hft r0 r1
              go_wp2
              go_loopw [20] (fun v20 wq => ∃ j : Nat, j ≤ k ∧ v20 = .int .i64 j ∧ Fr NoB w6 wq) (fun v20 _ => k - (intOf v20).toNat)
              case atStart => exact ⟨0, Nat.zero_le _, rfl, Fr.refl _ _⟩
              case round =>
                obtain ⟨j, hj, rfl, hq⟩ := hrel
                by_cases hjk : j < k
                · obtain ⟨g', c', hv, hg', hcc⟩ := hrow6.ptr (by rw [HOL.out]; omega)
                  rw [HOL.out] at hv
                  injection hv with h1 h2 h3
                  subst h1 h3
                  have hrq : Row capCells 2 27 w6 w.heap.size (.slice (some ⟨g', 0, none⟩) (alongOf k).length c5) (alongOf k) := by rw [HOL.out]; exact hrow6
                  have hjl : j < (alongOf k).length := by rw [HOL.out]; exact hjk
                  have q0 := (hrq.fr_lt hq (fun k hk => hk.elim)).cell capCells_len j hjl 0 (by omega) (u := .int .i64 ((j : Int) + 1)) (by rw [alongOf_get]; rfl)
                  have q1 := (hrq.fr_lt hq (fun k hk => hk.elim)).cell capCells_len j hjl 1 (by omega) (u := .int .i64 1) (by rw [alongOf_get]; rfl)
                  simp only [Nat.add_zero] at q0
                  have hjk' : (j : Int) < k := by omega
                  have hck := Check_any wr b g 20 l6 ((j : Int) + 1) ((j : Int) + 1) 1 2 0 (ht6.fr0 hq) hl6
                  have hcv : checkT l6 ((j : Int) + 1) ((j : Int) + 1) 1 2 0 = (0, 9) := by
                    have h : findS l6 ((j : Int) + 1) 1 = none := HR2.out (j + 1) (by omega) (by omega)
                    unfold checkT
                    rw [h]
                  rw [hcv] at hck
                  clear hcv
                  go_wp2_with fail
                  refine hck.mono ?_
                  clear hck q0 q1
                  rintro e w7 ⟨rfl, hf7⟩
                  dsimp only
                  go_wp2
                  go_roundw
                  case rel => exact ⟨j + 1, by omega, by go_num, hq.trans hf7⟩
                  case measure => simp [intOf]; omega
                · obtain rfl : j = k := by omega
                  have hrt := hroot6.fr hq (fun h => h)
                  have r0 := hrt.cell 0 rfl
                  have r1 := hrt.cell 1 rfl
                  have hck := Check_any wr b g 20 l6 0 0 1 2 first (ht6.fr0 hq) hl6
                  have hcv : checkT l6 0 0 1 2 first = (3, 0) := by
                    unfold checkT
                    rw [HR3.out]
                    simp [hasB_zero HOK.out, hasB_self HOK.out]
                  rw [hcv] at hck
                  clear hcv
                  go_wp2_with fail
                  refine hck.mono ?_
                  clear hck r0 r1
                  rintro e w7 ⟨rfl, hf7⟩
                  dsimp only
                  go_wp2_with fail
                  refine (awake_any w7).mono ?_
                  rintro e w8 ⟨rfl, hf8⟩
                  go_wp2
                  go_ret
                  exact ⟨rfl, (((hF6.trans hq).trans hf7).trans hf8).below0⟩
            · have hF4 : Fr (At g) wr ((w3.setCell ⟨wr.heap.size, 0, none⟩ (.int .i64 0)).setCell ⟨wr.heap.size, 1, none⟩ (.int .i64 0)) := Fr.setCell (Fr.setCell hF3 (.inr (Nat.le_refl _)) _) (.inr (Nat.le_refl _)) _
              have ht5 : Tab ((w3.setCell ⟨wr.heap.size, 0, none⟩ (.int .i64 0)).setCell ⟨wr.heap.size, 1, none⟩ (.int .i64 0)) b g 20 (chain 20 2 3 first (l.take k)) := Tab.other (Tab.other ht3 (fun h => by have h : b = wr.heap.size := h; have := htk.lt.1; omega) (fun h => HGW.out h.symm) _) (fun h => by have h : b = wr.heap.size := h; have := htk.lt.1; omega) (fun h => HGW.out h.symm) _
              generalize (w3.setCell ⟨wr.heap.size, 0, none⟩ (.int .i64 0)).setCell ⟨wr.heap.size, 1, none⟩ (.int .i64 0) = w5 at *
              clear hF3 hf3 ht3 hB3 n0 n1 z0 z1
              have hroot5 := h10.fr hF4 (fun h => HG5.out h)
              have hrow5 := hrow.fr hF4 (fun j hj hs => by have hs : j = g := hs; subst hs; exact hrow.not_blk htk.row (by decide) hj)
              have hF5 : Fr NoB w w5 := hf.fresh hF4 hg
              clear htk h10 h8 hrow hf hn8 hn10 hF4 hN0 hN1 hZ0 hZ1 HGW HS
              have HOL := hid (alongOf_len k)
              obtain ⟨A5, c5, hv5, hc5⟩ := hrow5.shape
              subst hv5
              rw [alongOf_len] at hc5
              simp only [alongOf_len] at hrow5 ⊢
              have r0 := hroot5.cell 0 rfl
              have r1 := hroot5.cell 1 rfl
              go_wp2_with fail
              refine (Revoke_ok _ b g 20 (chain 20 2 3 first (l.take k)) 0 0 1 0 ⟨1, 0, 2, 3, first, -1, true⟩ ht5 (by rw [chain_len]; omega) chain_gok rfl (chain_first (by omega)) (by simp [hasB_zero HOK.out])).mono ?_
              rintro e w6 ⟨l6, n6, hft, hn6, rfl, ht6, hf6⟩
              obtain ⟨hr1, hr2, hr3⟩ := revoke_chain (by rw [HLT.out]; omega) hft
              rw [hr1, HLT.out] at hn6
              rw [HLT.out] at hr2
              subst hn6
              have hl6 : l6.length ≤ 4096 := by rw [hft.len, chain_len]; omega
              have HR2 := hid hr2
              have HR3 := hid hr3
              have hrow6 := hrow5.fr hf6 (fun j hj hs => by have hs : j = g := hs; subst hs; exact hrow5.not_blk ht5.row (by decide) hj)
              have hroot6 := hroot5.fr hf6 (fun h => HG5.out h)
              have hF6 : Fr NoB w w6 := hF5.fresh hf6 hg
              clear hr1 hr2 hr3 hft r0 r1
              go_wp2
              go_loopw [20] (fun v20 wq => ∃ j : Nat, j ≤ k ∧ v20 = .int .i64 j ∧ Fr NoB w6 wq) (fun v20 _ => k - (intOf v20).toNat)
              case atStart => exact ⟨0, Nat.zero_le _, rfl, Fr.refl _ _⟩
              case round =>
                obtain ⟨j, hj, rfl, hq⟩ := hrel
                by_cases hjk : j < k
                · obtain ⟨g', c', hv, hg', hcc⟩ := hrow6.ptr (by rw [HOL.out]; omega)
                  rw [HOL.out] at hv
                  injection hv with h1 h2 h3
                  subst h1 h3
                  have hrq : Row capCells 2 27 w6 w.heap.size (.slice (some ⟨g', 0, none⟩) (alongOf k).length c5) (alongOf k) := by rw [HOL.out]; exact hrow6
                  have hjl : j < (alongOf k).length := by rw [HOL.out]; exact hjk
                  have q0 := (hrq.fr_lt hq (fun k hk => hk.elim)).cell capCells_len j hjl 0 (by omega) (u := .int .i64 ((j : Int) + 1)) (by rw [alongOf_get]; rfl)
                  have q1 := (hrq.fr_lt hq (fun k hk => hk.elim)).cell capCells_len j hjl 1 (by omega) (u := .int .i64 1) (by rw [alongOf_get]; rfl)
                  simp only [Nat.add_zero] at q0
                  have hjk' : (j : Int) < k := by omega
                  have hck := Check_any wr b g 20 l6 ((j : Int) + 1) ((j : Int) + 1) 1 2 0 (ht6.fr0 hq) hl6
                  have hcv : checkT l6 ((j : Int) + 1) ((j : Int) + 1) 1 2 0 = (0, 9) := by
                    have h : findS l6 ((j : Int) + 1) 1 = none := HR2.out (j + 1) (by omega) (by omega)
                    unfold checkT
                    rw [h]
                  rw [hcv] at hck
                  clear hcv
                  go_wp2_with fail
                  refine hck.mono ?_
                  clear hck q0 q1
                  rintro e w7 ⟨rfl, hf7⟩
                  dsimp only
                  go_wp2
                  go_roundw
                  case rel => exact ⟨j + 1, by omega, by go_num, hq.trans hf7⟩
                  case measure => simp [intOf]; omega
                · obtain rfl : j = k := by omega
                  have hrt := hroot6.fr hq (fun h => h)
                  have r0 := hrt.cell 0 rfl
                  have r1 := hrt.cell 1 rfl
                  have hck := Check_any wr b g 20 l6 0 0 1 2 first (ht6.fr0 hq) hl6
                  have hcv : checkT l6 0 0 1 2 first = (3, 0) := by
                    unfold checkT
                    rw [HR3.out]
                    simp [hasB_zero HOK.out, hasB_self HOK.out]
                  rw [hcv] at hck
                  clear hcv
                  go_wp2_with fail
                  refine hck.mono ?_
                  clear hck r0 r1
                  rintro e w7 ⟨rfl, hf7⟩
                  dsimp only
                  go_wp2_with fail
                  refine (awake_any w7).mono ?_
                  rintro e w8 ⟨rfl, hf8⟩
                  go_wp2
                  go_ret
                  exact ⟨rfl, (((hF6.trans hq).trans hf7).trans hf8).below0⟩
          · have HSH := hid hsh
            have HCK := hid (check_step first l k hlt hl10 right hok1)
            have hand : bits BinOp.and .i64 ((first :: l).getD k 0) l[k] = l[k] := by simpa [hasB] using hb1
            have HTK : Hid ((first :: l).getD (k + 1) 0 = l[k]) := hid (by simp [hlt])
            have HCOM : Hid (bits BinOp.and .i64 right l[k] = bits BinOp.and .i64 l[k] right) := hid (and_comm7 HRT.out hok1)
            have HAD := hid hadl
            clear hsh hb1 hok1 hadl
            have hwk : IntKind.i64.wrap ((k : Int) + 1) = (k : Int) + 1 := by apply IntWalk.i64_in <;> omega
            generalize l[k] = y at *
            generalize (first :: l).getD k 0 = z at *
            go_wp2
            have hN0 : ∀ W : World, (W.alloc (.cells #[.int .i64 0, .int .i64 0] 27)).cell? ⟨W.heap.size, 0, none⟩ = some (.int .i64 0) := fun W => (Blk.new W 27 [.int .i64 0, .int .i64 0]).cell 0 rfl
            have hN1 : ∀ W : World, (W.alloc (.cells #[.int .i64 0, .int .i64 0] 27)).cell? ⟨W.heap.size, 1, none⟩ = some (.int .i64 0) := fun W => (Blk.new W 27 [.int .i64 0, .int .i64 0]).cell 1 rfl
            have hZ0 : ∀ W : World, (W.alloc (.cells #[.int .i64 0, .int .i64 0] 27)).frozen? ⟨W.heap.size, 0, none⟩ = false := fun W => (Blk.new W 27 [.int .i64 0, .int .i64 0]).frozen 0
            have hZ1 : ∀ W : World, (W.alloc (.cells #[.int .i64 0, .int .i64 0] 27)).frozen? ⟨W.heap.size, 1, none⟩ = false := fun W => (Blk.new W 27 [.int .i64 0, .int .i64 0]).frozen 1
            have HGW : Hid (wr.heap.size ≠ g) := hid (by have := htk.lt.2; omega)
            go_region_held3 (fun w' => w'.cell? ⟨c8, 0, none⟩ = some (.int .i64 k) ∧ w'.cell? ⟨c8, 1, none⟩ = some (.int .i64 1) ∧ w'.cell? (ad.add k) = some (.int .i64 y)) (first | exact HS.out _ (by repeat (first | with_reducible assumption | with_reducible exact Fr.refl _ _ | with_reducible refine Fr.drew ?_ | with_reducible refine Fr.alloc ?_ _ | (with_reducible refine Fr.setCell ?_ (.inr ?_) _; rotate_left; (first | exact Nat.le_refl _ | simpa using Fr.size (by assumption))))) | fail) (first | (go_at_call 10; refine (Share_any _ b g 20 (chain 20 2 3 first (l.take k)) k k 1 ((k : Int) + 1) y (by first | exact htk.drew | exact (htk.fr0 ((Fr.refl _ _).alloc _)).drew) (by rw [chain_len]; omega)).mono ?_; rw [HSH.out]; rintro e w3 ⟨rfl, ht3, hf3⟩; have hF3 : Fr (At g) wr w3 := (by first | exact Fr.trans (Fr.drew (Fr.refl _ _)) hf3 | exact Fr.trans (Fr.drew (Fr.alloc (Fr.refl _ _) _)) hf3); (try (have hB3 := Blk.fr (Blk.drew (Blk.new wr 27 [.int .i64 0, .int .i64 0])) hf3 (fun h => HGW.out h); have n0 := hB3.cell 0 rfl; have n1 := hB3.cell 1 rfl; have z0 := hB3.frozen 0; have z1 := hB3.frozen 1)); unfold Res.val; dsimp only at ht3 ⊢))
            · have hD := Blk.new w3 27 [.int .i64 ((k : Int) + 1), .int .i64 1]
              have hF4 : Fr (At g) wr (w3.alloc (.cells #[.int .i64 ((k : Int) + 1), .int .i64 1] 27)) := hF3.alloc _
              have ht4 : Tab (w3.alloc (.cells #[.int .i64 ((k : Int) + 1), .int .i64 1] 27)) b g 20 (chain 20 2 3 first (l.take (k + 1))) := ht3.fr0 ((Fr.refl _ _).alloc _)
              have hdl : wr.heap.size ≤ w3.heap.size := hF3.size
              generalize w3.alloc (.cells #[.int .i64 ((k : Int) + 1), .int .i64 1] 27) = w4 at *
              clear hF3 hf3 ht3
              have hd8 := h8.lt
              have hd10 := h10.lt
              have hdg := htk.lt.2
              have hdw := hf.size
              have HDr : Hid (∀ j, OwnB u12 j → j < wr.heap.size) := hid (fun j hj => (hrow.lt j hj).2)
              have HD8 : Hid (w3.heap.size ≠ c8) := hid (by omega)
              have HD10 : Hid (w3.heap.size ≠ c8 + 1) := hid (by omega)
              have HDg : Hid (w3.heap.size ≠ g) := hid (by omega)
              have HDR : Hid (¬ OwnB u12 w3.heap.size) := hid (fun h => by have := HDr.out _ h; omega)
              clear hd8 hd10 hdg hdw hdl HDr HGW hN0 hN1 hZ0 hZ1
              generalize w3.heap.size = d at *
              have hrow4 := hrow.fr hF4 (fun j hj hs => by have hs : j = g := hs; subst hs; exact hrow.not_blk htk.row (by decide) hj)
              have h84 := h8.fr hF4 (fun h => HG8.out h)
              have h104 := h10.fr hF4 (fun h => HG5.out h)
              have hF4w : Fr NoB w w4 := hf.fresh hF4 hg
              have aL := HAD.out w4 hF4w
              have d0 := hD.cell 0 rfl
              have d1 := hD.cell 1 rfl
              have HOL := hid (alongOf_len k)
              obtain ⟨A5, c5, hv5, hc5⟩ := hrow4.shape
              subst hv5
              rw [alongOf_len] at hc5
              have hnd : ¬ OwnB (.slice A5 k c5) d := by have := HDR.out; cases A5 <;> simpa [OwnB, Value.ownBlock] using this
              have hn8' : ¬ OwnB (.slice A5 k c5) c8 := by cases A5 <;> simpa [OwnB, Value.ownBlock] using hn8
              have hn10' : ¬ OwnB (.slice A5 k c5) (c8 + 1) := by cases A5 <;> simpa [OwnB, Value.ownBlock] using hn10
              have HN8 := hid hn8'
              have HN10 := hid hn10'
              have HND := hid hnd
              clear hn8 hn10 hn8' hn10' hnd
              simp only [alongOf_len] at hrow4 ⊢
              have hck := Check_any w4 b g 20 (chain 20 2 3 first (l.take (k + 1))) ((k : Int) + 1) ((k : Int) + 1) 1 2 right ht4 (by rw [chain_len]; omega)
              rw [HCK.out] at hck
              cases hB : hasB y right
              · rw [hB, if_pos rfl] at hck
                clear hB
                go_wp2_with fail
                refine hck.mono ?_
                clear hck d0 d1 aL
                rintro e w5 ⟨rfl, hf5⟩
                dsimp only
                have hD5 := hD.fr hf5 (fun h => h)
                have d0 := hD5.cell 0 rfl
                have d1 := hD5.cell 1 rfl
                have hr5 := hrow4.fr_lt hf5 (fun k hk => hk.elim)
                have hF5 := hF4w.trans hf5
                have hs5 := hF5.size
                go_wp2_with (at_builtin; refine row_app capCells_len capCells_one w.heap.size rfl _ _ 31 27 _ 16 rfl Try.underlying31 info_cap (by kernel_rfl) (by decide) (by decide) (.slice A5 k c5) (alongOf k) ((k : Int) + 1, 1) rfl rfl hr5 hs5 (by rw [HOL.out]; omega) ?_; intro v6 w6 hr6 hf6 hat6; rw [alongOf_succ] at hr6; have hD6 := hD5.fr hf6 HND.out; have x0 := hD6.cell 0 rfl; have x1 := hD6.cell 1 rfl; have h86 := (h84.fr hf5 (fun h => h)).fr hf6 HN8.out; have y0 := h86.cell 0 rfl; have y1 := h86.cell 1 rfl; have f0 := h86.frozen 0; have f1 := h86.frozen 1)
                go_wp2
                go_roundw
                case rel =>
                  have hF6 : Fr NoB w w6 := hF5.then_ hf6 (fun j hj => .inr (hr5.lt j hj).1)
                  have ht6 := (ht4.fr0 hf5).fr hf6 (hr5.not_blk (ht4.fr0 hf5).head (by decide)) (hr5.not_blk (ht4.fr0 hf5).row (by decide))
                  have h106 := (h104.fr hf5 (fun h => h)).fr hf6 HN10.out
                  have hc5lt : c8 < w5.heap.size := (h84.fr hf5 (fun h => h)).lt
                  have hc5lt' : c8 + 1 < w5.heap.size := (h104.fr hf5 (fun h => h)).lt
                  have hv8 : ¬ OwnB v6 c8 := by
                    intro h
                    rcases hat6 with h1 | ⟨b1, h1, h2⟩
                    · exact HN8.out (h1.symm.trans h)
                    · have : some b1 = some c8 := h1.symm.trans h
                      injection this; omega
                  have hv10 : ¬ OwnB v6 (c8 + 1) := by
                    intro h
                    rcases hat6 with h1 | ⟨b1, h1, h2⟩
                    · exact HN10.out (h1.symm.trans h)
                    · have : some b1 = some (c8 + 1) := h1.symm.trans h
                      injection this; omega
                  have hset : Fr (At c8) w6 ((w6.setCell ⟨c8, 0, none⟩ (.int .i64 ((k : Int) + 1))).setCell ⟨c8, 1, none⟩ (.int .i64 1)) := ((Fr.refl _ _).setAt _ _).setAt _ _
                  refine ⟨k + 1, by omega, by go_num, by rw [HTK.out], Tab.other (Tab.other ht6 HB8.out.symm HG8.out.symm _) HB8.out.symm HG8.out.symm _, (h86.set 0 _).set 1 _, (h106.other (by simp) _).other (by simp) _, hr6.fr hset (fun j hj hs => by have hs : j = c8 := hs; subst hs; exact hv8 hj), hv8, hv10, Fr.setCell (Fr.setCell hF6 (.inr ?_) _) (.inr ?_) _⟩
                  · have := HWs.out; exact this
                  · have := HWs.out; exact this
                case measure => simp [intOf]; omega
              · rw [hB, if_neg (by simp)] at hck
                have hq : (bits BinOp.and .i64 right y != right) = false := by rw [HCOM.out]; simpa [hasB] using hB
                clear hB
                go_wp2_with fail
                refine hck.mono ?_
                clear hck d0 d1 aL
                rintro e w5 ⟨rfl, hf5⟩
                dsimp only
                have hD5 := hD.fr hf5 (fun h => h)
                have d0 := hD5.cell 0 rfl
                have d1 := hD5.cell 1 rfl
                have hr5 := hrow4.fr_lt hf5 (fun k hk => hk.elim)
                have hF5 := hF4w.trans hf5
                have hs5 := hF5.size
                go_wp2_with (at_builtin; refine row_app capCells_len capCells_one w.heap.size rfl _ _ 31 27 _ 16 rfl Try.underlying31 info_cap (by kernel_rfl) (by decide) (by decide) (.slice A5 k c5) (alongOf k) ((k : Int) + 1, 1) rfl rfl hr5 hs5 (by rw [HOL.out]; omega) ?_; intro v6 w6 hr6 hf6 hat6; rw [alongOf_succ] at hr6; have hD6 := hD5.fr hf6 HND.out; have x0 := hD6.cell 0 rfl; have x1 := hD6.cell 1 rfl; have h86 := (h84.fr hf5 (fun h => h)).fr hf6 HN8.out; have y0 := h86.cell 0 rfl; have y1 := h86.cell 1 rfl; have f0 := h86.frozen 0; have f1 := h86.frozen 1)
                go_wp2
                go_roundw
                case rel =>
                  have hF6 : Fr NoB w w6 := hF5.then_ hf6 (fun j hj => .inr (hr5.lt j hj).1)
                  have ht6 := (ht4.fr0 hf5).fr hf6 (hr5.not_blk (ht4.fr0 hf5).head (by decide)) (hr5.not_blk (ht4.fr0 hf5).row (by decide))
                  have h106 := (h104.fr hf5 (fun h => h)).fr hf6 HN10.out
                  have hc5lt : c8 < w5.heap.size := (h84.fr hf5 (fun h => h)).lt
                  have hc5lt' : c8 + 1 < w5.heap.size := (h104.fr hf5 (fun h => h)).lt
                  have hv8 : ¬ OwnB v6 c8 := by
                    intro h
                    rcases hat6 with h1 | ⟨b1, h1, h2⟩
                    · exact HN8.out (h1.symm.trans h)
                    · have : some b1 = some c8 := h1.symm.trans h
                      injection this; omega
                  have hv10 : ¬ OwnB v6 (c8 + 1) := by
                    intro h
                    rcases hat6 with h1 | ⟨b1, h1, h2⟩
                    · exact HN10.out (h1.symm.trans h)
                    · have : some b1 = some (c8 + 1) := h1.symm.trans h
                      injection this; omega
                  have hset : Fr (At c8) w6 ((w6.setCell ⟨c8, 0, none⟩ (.int .i64 ((k : Int) + 1))).setCell ⟨c8, 1, none⟩ (.int .i64 1)) := ((Fr.refl _ _).setAt _ _).setAt _ _
                  refine ⟨k + 1, by omega, by go_num, by rw [HTK.out], Tab.other (Tab.other ht6 HB8.out.symm HG8.out.symm _) HB8.out.symm HG8.out.symm _, (h86.set 0 _).set 1 _, (h106.other (by simp) _).other (by simp) _, hr6.fr hset (fun j hj hs => by have hs : j = c8 := hs; subst hs; exact hv8 hj), hv8, hv10, Fr.setCell (Fr.setCell hF6 (.inr ?_) _) (.inr ?_) _⟩
                  · have := HWs.out; exact this
                  · have := HWs.out; exact this
                case measure => simp [intOf]; omega
            · have hD := (hB3.set 0 (.int .i64 ((k : Int) + 1))).set 1 (.int .i64 1)
              have hF4 : Fr (At g) wr ((w3.setCell ⟨wr.heap.size, 0, none⟩ (.int .i64 ((k : Int) + 1))).setCell ⟨wr.heap.size, 1, none⟩ (.int .i64 1)) := Fr.setCell (Fr.setCell hF3 (.inr (Nat.le_refl _)) _) (.inr (Nat.le_refl _)) _
              have ht4 : Tab ((w3.setCell ⟨wr.heap.size, 0, none⟩ (.int .i64 ((k : Int) + 1))).setCell ⟨wr.heap.size, 1, none⟩ (.int .i64 1)) b g 20 (chain 20 2 3 first (l.take (k + 1))) := Tab.other (Tab.other ht3 (fun h => by have h : b = wr.heap.size := h; have := htk.lt.1; omega) (fun h => HGW.out h.symm) _) (fun h => by have h : b = wr.heap.size := h; have := htk.lt.1; omega) (fun h => HGW.out h.symm) _
              have hdl : wr.heap.size ≤ wr.heap.size := Nat.le_refl _
              generalize (w3.setCell ⟨wr.heap.size, 0, none⟩ (.int .i64 ((k : Int) + 1))).setCell ⟨wr.heap.size, 1, none⟩ (.int .i64 1) = w4 at *
              clear hF3 hf3 ht3 hB3 n0 n1 z0 z1
              have hd8 := h8.lt
              have hd10 := h10.lt
              have hdg := htk.lt.2
              have hdw := hf.size
              have HDr : Hid (∀ j, OwnB u12 j → j < wr.heap.size) := hid (fun j hj => (hrow.lt j hj).2)
              have HD8 : Hid (wr.heap.size ≠ c8) := hid (by omega)
              have HD10 : Hid (wr.heap.size ≠ c8 + 1) := hid (by omega)
              have HDg : Hid (wr.heap.size ≠ g) := hid (by omega)
              have HDR : Hid (¬ OwnB u12 wr.heap.size) := hid (fun h => by have := HDr.out _ h; omega)
              clear hd8 hd10 hdg hdw hdl HDr HGW hN0 hN1 hZ0 hZ1
              generalize wr.heap.size = d at *
              have hrow4 := hrow.fr hF4 (fun j hj hs => by have hs : j = g := hs; subst hs; exact hrow.not_blk htk.row (by decide) hj)
              have h84 := h8.fr hF4 (fun h => HG8.out h)
              have h104 := h10.fr hF4 (fun h => HG5.out h)
              have hF4w : Fr NoB w w4 := hf.fresh hF4 hg
              have aL := HAD.out w4 hF4w
              have d0 := hD.cell 0 rfl
              have d1 := hD.cell 1 rfl
              have HOL := hid (alongOf_len k)
              obtain ⟨A5, c5, hv5, hc5⟩ := hrow4.shape
              subst hv5
              rw [alongOf_len] at hc5
              have hnd : ¬ OwnB (.slice A5 k c5) d := by have := HDR.out; cases A5 <;> simpa [OwnB, Value.ownBlock] using this
              have hn8' : ¬ OwnB (.slice A5 k c5) c8 := by cases A5 <;> simpa [OwnB, Value.ownBlock] using hn8
              have hn10' : ¬ OwnB (.slice A5 k c5) (c8 + 1) := by cases A5 <;> simpa [OwnB, Value.ownBlock] using hn10
              have HN8 := hid hn8'
              have HN10 := hid hn10'
              have HND := hid hnd
              clear hn8 hn10 hn8' hn10' hnd
              simp only [alongOf_len] at hrow4 ⊢
              have hck := Check_any w4 b g 20 (chain 20 2 3 first (l.take (k + 1))) ((k : Int) + 1) ((k : Int) + 1) 1 2 right ht4 (by rw [chain_len]; omega)
              rw [HCK.out] at hck
              cases hB : hasB y right
              · rw [hB, if_pos rfl] at hck
                clear hB
                go_wp2_with fail
                refine hck.mono ?_
                clear hck d0 d1 aL
                rintro e w5 ⟨rfl, hf5⟩
                dsimp only
                have hD5 := hD.fr hf5 (fun h => h)
                have d0 := hD5.cell 0 rfl
                have d1 := hD5.cell 1 rfl
                have hr5 := hrow4.fr_lt hf5 (fun k hk => hk.elim)
                have hF5 := hF4w.trans hf5
                have hs5 := hF5.size
                go_wp2_with (at_builtin; refine row_app capCells_len capCells_one w.heap.size rfl _ _ 31 27 _ 16 rfl Try.underlying31 info_cap (by kernel_rfl) (by decide) (by decide) (.slice A5 k c5) (alongOf k) ((k : Int) + 1, 1) rfl rfl hr5 hs5 (by rw [HOL.out]; omega) ?_; intro v6 w6 hr6 hf6 hat6; rw [alongOf_succ] at hr6; have hD6 := hD5.fr hf6 HND.out; have x0 := hD6.cell 0 rfl; have x1 := hD6.cell 1 rfl; have h86 := (h84.fr hf5 (fun h => h)).fr hf6 HN8.out; have y0 := h86.cell 0 rfl; have y1 := h86.cell 1 rfl; have f0 := h86.frozen 0; have f1 := h86.frozen 1)
                go_wp2
                go_roundw
                case rel =>
                  have hF6 : Fr NoB w w6 := hF5.then_ hf6 (fun j hj => .inr (hr5.lt j hj).1)
                  have ht6 := (ht4.fr0 hf5).fr hf6 (hr5.not_blk (ht4.fr0 hf5).head (by decide)) (hr5.not_blk (ht4.fr0 hf5).row (by decide))
                  have h106 := (h104.fr hf5 (fun h => h)).fr hf6 HN10.out
                  have hc5lt : c8 < w5.heap.size := (h84.fr hf5 (fun h => h)).lt
                  have hc5lt' : c8 + 1 < w5.heap.size := (h104.fr hf5 (fun h => h)).lt
                  have hv8 : ¬ OwnB v6 c8 := by
                    intro h
                    rcases hat6 with h1 | ⟨b1, h1, h2⟩
                    · exact HN8.out (h1.symm.trans h)
                    · have : some b1 = some c8 := h1.symm.trans h
                      injection this; omega
                  have hv10 : ¬ OwnB v6 (c8 + 1) := by
                    intro h
                    rcases hat6 with h1 | ⟨b1, h1, h2⟩
                    · exact HN10.out (h1.symm.trans h)
                    · have : some b1 = some (c8 + 1) := h1.symm.trans h
                      injection this; omega
                  have hset : Fr (At c8) w6 ((w6.setCell ⟨c8, 0, none⟩ (.int .i64 ((k : Int) + 1))).setCell ⟨c8, 1, none⟩ (.int .i64 1)) := ((Fr.refl _ _).setAt _ _).setAt _ _
                  refine ⟨k + 1, by omega, by go_num, by rw [HTK.out], Tab.other (Tab.other ht6 HB8.out.symm HG8.out.symm _) HB8.out.symm HG8.out.symm _, (h86.set 0 _).set 1 _, (h106.other (by simp) _).other (by simp) _, hr6.fr hset (fun j hj hs => by have hs : j = c8 := hs; subst hs; exact hv8 hj), hv8, hv10, Fr.setCell (Fr.setCell hF6 (.inr ?_) _) (.inr ?_) _⟩
                  · have := HWs.out; exact this
                  · have := HWs.out; exact this
                case measure => simp [intOf]; omega
              · rw [hB, if_neg (by simp)] at hck
                have hq : (bits BinOp.and .i64 right y != right) = false := by rw [HCOM.out]; simpa [hasB] using hB
                clear hB
                go_wp2_with fail
                refine hck.mono ?_
                clear hck d0 d1 aL
                rintro e w5 ⟨rfl, hf5⟩
                dsimp only
                have hD5 := hD.fr hf5 (fun h => h)
                have d0 := hD5.cell 0 rfl
                have d1 := hD5.cell 1 rfl
                have hr5 := hrow4.fr_lt hf5 (fun k hk => hk.elim)
                have hF5 := hF4w.trans hf5
                have hs5 := hF5.size
                go_wp2_with (at_builtin; refine row_app capCells_len capCells_one w.heap.size rfl _ _ 31 27 _ 16 rfl Try.underlying31 info_cap (by kernel_rfl) (by decide) (by decide) (.slice A5 k c5) (alongOf k) ((k : Int) + 1, 1) rfl rfl hr5 hs5 (by rw [HOL.out]; omega) ?_; intro v6 w6 hr6 hf6 hat6; rw [alongOf_succ] at hr6; have hD6 := hD5.fr hf6 HND.out; have x0 := hD6.cell 0 rfl; have x1 := hD6.cell 1 rfl; have h86 := (h84.fr hf5 (fun h => h)).fr hf6 HN8.out; have y0 := h86.cell 0 rfl; have y1 := h86.cell 1 rfl; have f0 := h86.frozen 0; have f1 := h86.frozen 1)
                go_wp2
                go_roundw
                case rel =>
                  have hF6 : Fr NoB w w6 := hF5.then_ hf6 (fun j hj => .inr (hr5.lt j hj).1)
                  have ht6 := (ht4.fr0 hf5).fr hf6 (hr5.not_blk (ht4.fr0 hf5).head (by decide)) (hr5.not_blk (ht4.fr0 hf5).row (by decide))
                  have h106 := (h104.fr hf5 (fun h => h)).fr hf6 HN10.out
                  have hc5lt : c8 < w5.heap.size := (h84.fr hf5 (fun h => h)).lt
                  have hc5lt' : c8 + 1 < w5.heap.size := (h104.fr hf5 (fun h => h)).lt
                  have hv8 : ¬ OwnB v6 c8 := by
                    intro h
                    rcases hat6 with h1 | ⟨b1, h1, h2⟩
                    · exact HN8.out (h1.symm.trans h)
                    · have : some b1 = some c8 := h1.symm.trans h
                      injection this; omega
                  have hv10 : ¬ OwnB v6 (c8 + 1) := by
                    intro h
                    rcases hat6 with h1 | ⟨b1, h1, h2⟩
                    · exact HN10.out (h1.symm.trans h)
                    · have : some b1 = some (c8 + 1) := h1.symm.trans h
                      injection this; omega
                  have hset : Fr (At c8) w6 ((w6.setCell ⟨c8, 0, none⟩ (.int .i64 ((k : Int) + 1))).setCell ⟨c8, 1, none⟩ (.int .i64 1)) := ((Fr.refl _ _).setAt _ _).setAt _ _
                  refine ⟨k + 1, by omega, by go_num, by rw [HTK.out], Tab.other (Tab.other ht6 HB8.out.symm HG8.out.symm _) HB8.out.symm HG8.out.symm _, (h86.set 0 _).set 1 _, (h106.other (by simp) _).other (by simp) _, hr6.fr hset (fun j hj hs => by have hs : j = c8 := hs; subst hs; exact hv8 hj), hv8, hv10, Fr.setCell (Fr.setCell hF6 (.inr ?_) _) (.inr ?_) _⟩
                  · have := HWs.out; exact this
                  · have := HWs.out; exact this
                case measure => simp [intOf]; omega
        · have hke : k = l.length := by omega
          have ht5 := htk
          have hroot5 := h10
          have hrow5 := hrow
          have hF5 := hf
          have hlt' : ¬ (k : Int) < l.length := by omega
          clear htk h10 h8 hrow hf hn8 hn10 hke hlt
          have HOL := hid (alongOf_len k)
          obtain ⟨A5, c5, hv5, hc5⟩ := hrow5.shape
          subst hv5
          rw [alongOf_len] at hc5
          simp only [alongOf_len] at hrow5 ⊢
          have r0 := hroot5.cell 0 rfl
          have r1 := hroot5.cell 1 rfl
          go_wp2_with fail
          refine (Revoke_ok _ b g 20 (chain 20 2 3 first (l.take k)) 0 0 1 0 ⟨1, 0, 2, 3, first, -1, true⟩ ht5 (by rw [chain_len]; omega) chain_gok rfl (chain_first (by omega)) (by simp [hasB_zero HOK.out])).mono ?_
          rintro e w6 ⟨l6, n6, hft, hn6, rfl, ht6, hf6⟩
          obtain ⟨hr1, hr2, hr3⟩ := revoke_chain (by rw [HLT.out]; omega) hft
          rw [hr1, HLT.out] at hn6
          rw [HLT.out] at hr2
          subst hn6
          have hl6 : l6.length ≤ 4096 := by rw [hft.len, chain_len]; omega
          have HR2 := hid hr2
          have HR3 := hid hr3
          have hrow6 := hrow5.fr hf6 (fun j hj hs => by have hs : j = g := hs; subst hs; exact hrow5.not_blk ht5.row (by decide) hj)
          have hroot6 := hroot5.fr hf6 (fun h => HG5.out h)
          have hF6 : Fr NoB w w6 := hF5.fresh hf6 hg
          clear hr1 hr2 hr3 hft r0 r1
          go_wp2
          go_loopw [20] (fun v20 wq => ∃ j : Nat, j ≤ k ∧ v20 = .int .i64 j ∧ Fr NoB w6 wq) (fun v20 _ => k - (intOf v20).toNat)
          case atStart => exact ⟨0, Nat.zero_le _, rfl, Fr.refl _ _⟩
          case round =>
            obtain ⟨j, hj, rfl, hq⟩ := hrel
            by_cases hjk : j < k
            · obtain ⟨g', c', hv, hg', hcc⟩ := hrow6.ptr (by rw [HOL.out]; omega)
              rw [HOL.out] at hv
              injection hv with h1 h2 h3
              subst h1 h3
              have hrq : Row capCells 2 27 w6 w.heap.size (.slice (some ⟨g', 0, none⟩) (alongOf k).length c5) (alongOf k) := by rw [HOL.out]; exact hrow6
              have hjl : j < (alongOf k).length := by rw [HOL.out]; exact hjk
              have q0 := (hrq.fr_lt hq (fun k hk => hk.elim)).cell capCells_len j hjl 0 (by omega) (u := .int .i64 ((j : Int) + 1)) (by rw [alongOf_get]; rfl)
              have q1 := (hrq.fr_lt hq (fun k hk => hk.elim)).cell capCells_len j hjl 1 (by omega) (u := .int .i64 1) (by rw [alongOf_get]; rfl)
              simp only [Nat.add_zero] at q0
              have hjk' : (j : Int) < k := by omega
              have hck := Check_any wr b g 20 l6 ((j : Int) + 1) ((j : Int) + 1) 1 2 0 (ht6.fr0 hq) hl6
              have hcv : checkT l6 ((j : Int) + 1) ((j : Int) + 1) 1 2 0 = (0, 9) := by
                have h : findS l6 ((j : Int) + 1) 1 = none := HR2.out (j + 1) (by omega) (by omega)
                unfold checkT
                rw [h]
              rw [hcv] at hck
              clear hcv
              go_wp2_with fail
              refine hck.mono ?_
              clear hck q0 q1
              rintro e w7 ⟨rfl, hf7⟩
              dsimp only
              go_wp2
              go_roundw
              case rel => exact ⟨j + 1, by omega, by go_num, hq.trans hf7⟩
              case measure => simp [intOf]; omega
            · obtain rfl : j = k := by omega
              have hrt := hroot6.fr hq (fun h => h)
              have r0 := hrt.cell 0 rfl
              have r1 := hrt.cell 1 rfl
              have hck := Check_any wr b g 20 l6 0 0 1 2 first (ht6.fr0 hq) hl6
              have hcv : checkT l6 0 0 1 2 first = (3, 0) := by
                unfold checkT
                rw [HR3.out]
                simp [hasB_zero HOK.out, hasB_self HOK.out]
              rw [hcv] at hck
              clear hcv
              go_wp2_with fail
              refine hck.mono ?_
              clear hck r0 r1
              rintro e w7 ⟨rfl, hf7⟩
              dsimp only
              go_wp2_with fail
              refine (awake_any w7).mono ?_
              rintro e w8 ⟨rfl, hf8⟩
              go_wp2
              go_ret
              exact ⟨rfl, (((hF6.trans hq).trans hf7).trans hf8).below0⟩
end Go.Proofs.Ytokgcgmhfpohoaa
