import Derived.Test.YtokgcgmhfpohoaaC8
import Derived.Test.YtokgcgmhfpohoaaK5
set_option linter.unusedSimpArgs false
set_option linter.unusedVariables false
namespace Go.Proofs.Ytokgcgmhfpohoaa
open Go.RowKit Go.Proofs.YtokgcgmhfpohoaaW.PrintWords
def mine (l : List Slot) (e : Int) (k : Nat) : Prop := ∃ h : k < l.length, l[k].used = true ∧ l[k].env = e
theorem FreeTo.mine_iff {D : Nat → Prop} {l l' : List Slot} (h : FreeTo D l l') (e : Int) (k : Nat) : mine l' e k ↔ mine l e k ∧ ¬ D k := by
  constructor
  · rintro ⟨hk, h1, h2⟩
    have hk' : k < l.length := by rw [← h.len]; exact hk
    by_cases hD : D k
    · rw [h.yes k hk' hD] at h1
      cases h1
    · rw [h.no k hk' hD] at h1 h2
      exact ⟨⟨hk', h1, h2⟩, hD⟩
  · rintro ⟨⟨hk, h1, h2⟩, hD⟩
    refine ⟨by rw [h.len]; exact hk, ?_, ?_⟩
    · rw [h.no k hk hD]; exact h1
    · rw [h.no k hk hD]; exact h2
def Killed (l : List Slot) (e : Int) (k : Nat) : Nat → Prop := fun j => ∃ m, m < k ∧ mine l e m ∧ (j = m ∨ Reach l m j)
theorem killed_shut (l : List Slot) (i : Int) (k a b : Nat) (h : Killed l i k a) (c : child l a b) : Killed l i k b := by
  obtain ⟨m, hm, hc, h⟩ := h
  refine ⟨m, hm, hc, .inr ?_⟩
  rcases h with rfl | h
  · exact .base c
  · exact .step h c
theorem killed_zero (l : List Slot) (i : Int) (j : Nat) : ¬ Killed l i 0 j := by rintro ⟨m, hm, _⟩; omega
theorem killed_skip {l l' : List Slot} {i : Int} {k : Nat} (h : FreeTo (Killed l i k) l l') (hc : ¬ mine l' i k) : FreeTo (Killed l i (k + 1)) l l' := by
  refine h.congr (fun j _ => ⟨fun ⟨m, hm, hx⟩ => ⟨m, by omega, hx⟩, ?_⟩)
  rintro ⟨m, hm, hcm, hj⟩
  rcases Nat.lt_or_ge m k with h1 | h1
  · exact ⟨m, h1, hcm, hj⟩
  · obtain rfl : m = k := by omega
    have hg : Killed l i m m := by
      by_cases hg : Killed l i m m
      · exact hg
      · exact absurd ((h.mine_iff _ _).2 ⟨hcm, hg⟩) hc
    obtain ⟨m', hm', hc', h'⟩ := hg
    refine ⟨m', hm', hc', ?_⟩
    rcases hj with rfl | hj
    · exact h'
    · rcases h' with rfl | h'
      · exact .inr hj
      · exact .inr (h'.trans hj)
theorem killed_take {l l1 l2 : List Slot} {i : Int} {k : Nat} (h : FreeTo (Killed l i k) l l1) (hc : mine l1 i k) (h2 : FreeTo (fun j => j = k ∨ Reach l1 k j) l1 l2) : FreeTo (Killed l i (k + 1)) l l2 := by
  have hck := (h.mine_iff _ _).1 hc
  refine (h.then_ h2 ?_).congr (fun j _ => ?_)
  · rintro j hj (rfl | hr)
    · exact hck.2 hj
    · obtain ⟨hjl, hu⟩ := hr.used
      have hj' : j < l.length := by rw [← h.len]; exact hjl
      rw [h.yes j hj' hj] at hu
      cases hu
  · have ha := reach_after h (killed_shut l i k) k j
    constructor
    · rintro (⟨m, hm, hx⟩ | rfl | hr)
      · exact ⟨m, by omega, hx⟩
      · exact ⟨j, by omega, hck.1, .inl rfl⟩
      · rcases ha.1 (.inr hr) with ⟨m, hm, hx⟩ | ⟨hr, _⟩
        · exact ⟨m, by omega, hx⟩
        · exact ⟨k, by omega, hck.1, .inr hr⟩
    · rintro ⟨m, hm, hcm, hj⟩
      rcases Nat.lt_or_ge m k with h1 | h1
      · exact .inl ⟨m, h1, hcm, hj⟩
      · obtain rfl : m = k := by omega
        rcases hj with rfl | hj
        · exact .inr (.inl rfl)
        · rcases ha.2 (.inr ⟨hj, fun h => absurd h hck.2⟩) with h3 | h3
          · exact .inl h3
          · exact .inr (.inr h3)
set_option maxRecDepth 100000 in
set_option maxHeartbeats 4000000 in
theorem Kill_any (w : World) (b g : Nat) (q : Int) (l : List Slot) (i : Int) (ht : Tab w b g q l) (hl : l.length ≤ 4096) (hgo : GenOk l) :
    Calls Try.prog 15 #[.pointer (some ⟨b, 0, none⟩), .int .i64 i] w fun e w' => ∃ (l' : List Slot) (n : Int), FreeTo (Killed l i l.length) l l' ∧ n = (cntU l : Int) - cntU l' ∧ e = .returned (.int .i64 n) ∧ Tab w' b g q l' ∧ Fr (At g) w w' := by
  have h0 := ht.head.cell 0 rfl
  go_enter Try.func15, Try.ntmps15
  go_wp2
  go_loopw [5, 12] (fun v5 v12 wr => ∃ (k : Nat) (n : Int) (lk : List Slot), k ≤ l.length ∧ v12 = .int .i64 k ∧ v5 = .int .i64 n ∧ Hid (n = (cntU l : Int) - cntU lk) ∧ FreeTo (Killed l i k) l lk ∧ Tab wr b g q lk ∧ Fr (At g) w wr) (fun _ v12 _ => l.length - (intOf v12).toNat)
  case atStart => exact ⟨0, 0, l, Nat.zero_le _, rfl, rfl, hid (by omega), FreeTo.refl l (fun j _ => killed_zero l i j), ht, Fr.refl _ _⟩
  case round =>
    obtain ⟨k, n, lk, hk, rfl, rfl, HN, hft, htk, hf⟩ := hrel
    clear h0
    have hle := hft.cnt
    have hcl := cntU_le_len l
    have hn0 : 0 ≤ n := by have := HN.out; omega
    have hn1 : n ≤ 4096 := by have := HN.out; omega
    have HL : Hid (lk.length = l.length) := hft.len
    by_cases hlt : k < l.length
    · have hlk : k < lk.length := by rw [HL.out]; exact hlt
      have hlk' : (k : Int) < lk.length := by omega
      have h0 := htk.head.cell 0 rfl
      obtain ⟨c0, c1, c2, c3, c4, c5, c6⟩ := slots_at htk.row k hlk
      cases hu : lk[k].used
      · have HC : Hid (¬ mine lk i k) := hid (fun h => absurd h.2.1 (by rw [hu]; simp))
        rw [hu] at c6
        clear hu c0 c5 c2 c3 c4
        generalize lk[k].env = o at *
        clear hle hcl
        go_wp2
        go_roundw
        case rel => exact ⟨k + 1, n, lk, by omega, by go_num, rfl, HN, killed_skip hft HC.out, htk, hf⟩
        case measure => simp [intOf]; omega
      · by_cases ho : lk[k].env = i
        · have HC : Hid (mine lk i k) := ⟨hlk, hu, ho⟩
          have HU := hid hu
          rw [hu] at c6
          rw [ho] at c1
          clear hu ho c0 c5 c2 c3 c4
          have hi' : (i == i) = true := by simp
          go_wp2_with fail
          refine (free_any _ b g q lk k hlk htk (by rw [HL.out]; exact hl) (hgo.free hft) HU.out).mono ?_
          rintro e w1 ⟨l2, m, hf2, hm, rfl, ht2, hfr2⟩
          have hle2 := hf2.cnt
          have hm0 : 0 ≤ m := by omega
          have hm1 : n + m ≤ 4096 := by have := HN.out; omega
          have HM := hid hm
          clear hm hle2 hle hcl
          go_wp2
          go_roundw
          case rel => exact ⟨k + 1, n + m, l2, by omega, by go_num, by go_num, hid (by have := HN.out; have := HM.out; omega), killed_take hft HC.out hf2, ht2, hf.trans hfr2⟩
          case measure => simp [intOf]; omega
        · have HC : Hid (¬ mine lk i k) := hid (fun h => ho h.2.2)
          have ho' : (lk[k].env == (i : Int)) = false := by simpa using ho
          rw [hu] at c6
          clear hu ho c0 c5 c2 c3 c4
          generalize lk[k].env = o at *
          clear hle hcl
          go_wp2
          go_roundw
          case rel => exact ⟨k + 1, n, lk, by omega, by go_num, rfl, HN, killed_skip hft HC.out, htk, hf⟩
          case measure => simp [intOf]; omega
    · obtain rfl : k = l.length := by omega
      go_wp2
      go_ret
      exact ⟨lk, n, hft, HN.out, rfl, htk, hf⟩
set_option maxRecDepth 100000 in
set_option maxHeartbeats 4000000 in
/-- Where the name holds and has the right: all below it is let go. -/
theorem Revoke_ok (w : World) (b g : Nat) (q : Int) (l : List Slot) (env s gen : Int) (k : Nat) (x : Slot) (ht : Tab w b g q l) (hl : l.length ≤ 4096) (hgo : GenOk l) (hs : s = k) (hf : findS l s gen = some x) (hb : (decide (x.env = env) && hasB x.rights 0) = true) :
    Calls Try.prog 12 #[.pointer (some ⟨b, 0, none⟩), .int .i64 env, .agg #[.int .i64 s, .int .i64 gen]] w fun e w' => ∃ (l' : List Slot) (n : Int), FreeTo (Reach l k) l l' ∧ n = (cntU l : Int) - cntU l' ∧ e = .returned (.tuple #[.int .i64 n, .int .i64 0]) ∧ Tab w' b g q l' ∧ Fr (At g) w w' := by
  subst hs
  have ht1 := ht.fr0 ((Fr.refl _ _).alloc (.cells #[.int .i64 k, .int .i64 gen] 27))
  have HO : Hid (((some (k, x), 0) : Option (Nat × Slot) × Int) = match findS l k gen with | none => (none, 9) | some x => if (decide (x.env = env) && hasB x.rights 0) = false then (none, 8) else (some ((k : Int).toNat, x), 0)) := by show _ = _; rw [hf]; simp only [hb, Int.toNat_natCast]; simp
  clear hf hb
  have hbx := Blk.new w 27 [.int .i64 k, .int .i64 gen]
  go_enter Try.func12, Try.ntmps12
  go_wp2_with fail
  refine (own_all _ b g q l env 0 k gen ht1 hl (some (k, x), 0) HO.out).mono ?_
  rintro e w1 ⟨rfl, hf1⟩
  have x0 := (hbx.fr hf1 (fun h => h)).cell 0 rfl
  simp only [Option.map_some]
  go_wp2_with fail
  refine (below_any _ b g q l k (ht1.fr0 hf1) hl hgo).mono ?_
  rintro e w2 ⟨l2, n, hf2, hn, rfl, ht2, hfr2⟩
  have HN := hid hn
  clear hn
  go_wp2
  go_ret2
  exact ⟨l2, n, hf2, HN.out, rfl, ht2, Fr.trans (Fr.at0 (Fr.trans ((Fr.refl _ _).alloc _) hf1)) hfr2⟩
set_option maxRecDepth 100000 in
set_option maxHeartbeats 4000000 in
theorem Drop_ok (w : World) (b g : Nat) (q : Int) (l : List Slot) (env s gen : Int) (k : Nat) (x : Slot) (ht : Tab w b g q l) (hl : l.length ≤ 4096) (hgo : GenOk l) (hs : s = k) (hf : findS l s gen = some x) (hb : (decide (x.env = env) && hasB x.rights 4) = true) :
    Calls Try.prog 13 #[.pointer (some ⟨b, 0, none⟩), .int .i64 env, .agg #[.int .i64 s, .int .i64 gen]] w fun e w' => ∃ (l' : List Slot) (n : Int), FreeTo (fun j => j = k ∨ Reach l k j) l l' ∧ n = (cntU l : Int) - cntU l' ∧ e = .returned (.tuple #[.int .i64 n, .int .i64 0]) ∧ Tab w' b g q l' ∧ Fr (At g) w w' := by
  subst hs
  have ht1 := ht.fr0 ((Fr.refl _ _).alloc (.cells #[.int .i64 k, .int .i64 gen] 27))
  have HO : Hid (((some (k, x), 0) : Option (Nat × Slot) × Int) = match findS l k gen with | none => (none, 9) | some x => if (decide (x.env = env) && hasB x.rights 4) = false then (none, 8) else (some ((k : Int).toNat, x), 0)) := by show _ = _; rw [hf]; simp only [hb, Int.toNat_natCast]; simp
  obtain ⟨k', hk, hkk, hx, hu, hg⟩ := findS_some hf
  obtain rfl : k = k' := by omega
  have HU : Hid (l[k].used = true) := by show _ = _; rw [hx]; exact hu
  clear hf hb hx hu hg hkk
  have hbx := Blk.new w 27 [.int .i64 k, .int .i64 gen]
  go_enter Try.func13, Try.ntmps13
  go_wp2_with fail
  refine (own_all _ b g q l env 4 k gen ht1 hl (some (k, x), 0) HO.out).mono ?_
  rintro e w1 ⟨rfl, hf1⟩
  have x0 := (hbx.fr hf1 (fun h => h)).cell 0 rfl
  simp only [Option.map_some]
  go_wp2_with fail
  refine (free_any _ b g q l k hk (ht1.fr0 hf1) hl hgo HU.out).mono ?_
  rintro e w2 ⟨l2, n, hf2, hn, rfl, ht2, hfr2⟩
  have HN := hid hn
  clear hn
  go_wp2
  go_ret2
  exact ⟨l2, n, hf2, HN.out, rfl, ht2, Fr.trans (Fr.at0 (Fr.trans ((Fr.refl _ _).alloc _) hf1)) hfr2⟩
def zeroS : Slot := ⟨0, 0, 0, 0, 0, 0, false⟩
def freshS : Slot := ⟨1, 0, 0, 0, 0, 0, false⟩
def fresh (n : Nat) : List Slot := List.replicate n freshS
def half (n k : Nat) : List Slot := List.replicate k freshS ++ List.replicate (n - k) zeroS
theorem half_len {n k : Nat} (h : k ≤ n) : (half n k).length = n := by simp [half]; omega
theorem half_set {n k : Nat} (h : k < n) : (half n k).set k freshS = half n (k + 1) := by
  unfold half
  rw [List.set_append_right _ _ (by simp), show n - k = (n - (k + 1)) + 1 from by omega, List.replicate_succ]
  simp [List.replicate_succ']
theorem half_at {n k : Nat} (h : k < n) : (half n k)[k]'(by rw [half_len (by omega)]; exact h) = zeroS := by
  unfold half
  rw [List.getElem_append_right (by simp)]
  simp
set_option maxRecDepth 100000 in
set_option maxHeartbeats 4000000 in
theorem New_ok (w : World) (n : Nat) (q : Int) (h0 : 1 ≤ n) (h1 : n ≤ 4096) (hq : 1 ≤ q) :
    Calls Try.prog 8 #[.int .i64 n, .int .i64 q] w fun e w' => e = .returned (.pointer (some ⟨w.heap.size + 1, 0, none⟩)) ∧ Tab w' (w.heap.size + 1) w.heap.size q (fresh n) ∧ Fr NoB w w' := by
  have hmk := run_make_flat (P := Try.prog) Slot.cells_len (by omega) 61 65 zeroS (.agg #[.int .i64 0, .int .i64 0, .int .i64 0, .int .i64 0, .int .i64 0, .int .i64 0, .bool false]) 56 (by kernel_rfl) (by kernel_rfl) (by kernel_rfl) n (by omega) (by omega)
  have hn1 : ¬ (n : Int) < 1 := by omega
  have hn2 : ¬ (4096 : Int) < n := by omega
  go_enter Try.func8, Try.ntmps8
  go_wp2
  obtain ⟨W, hW⟩ : ∃ W, W = (w.alloc (.cells ((List.replicate n zeroS).flatMap Slot.cells).toArray 65)).alloc (.cells #[.slice (some ⟨w.heap.size, 0, none⟩) n n, .int .i64 q] 63) := ⟨_, rfl⟩
  have hT : Tab W (w.heap.size + 1) w.heap.size q (List.replicate n zeroS) := by
    rw [hW]
    refine ⟨?_, (Blk.new w 65 _).alloc _, by omega⟩
    have h := Blk.new (w.alloc (.cells ((List.replicate n zeroS).flatMap Slot.cells).toArray 65)) 63 [.slice (some ⟨w.heap.size, 0, none⟩) n n, .int .i64 q]
    simpa using h
  rw [← hW]
  have hFW : Fr NoB w W := by rw [hW]; exact ((Fr.refl _ _).alloc _).alloc _
  clear hW hmk
  go_loopw [27] (fun v27 wr => ∃ k : Nat, k ≤ n ∧ v27 = .int .i64 k ∧ Tab wr (w.heap.size + 1) w.heap.size q (half n k) ∧ Fr NoB w wr) (fun v27 _ => n - (intOf v27).toNat)
  case atStart => exact ⟨0, Nat.zero_le _, rfl, by simpa [half] using hT, hFW⟩
  case round =>
    obtain ⟨k, hk, rfl, htk, hf⟩ := hrel
    clear hT
    have hh := htk.head.cell 0 rfl
    have HL := hid (half_len hk)
    rw [half_len hk] at hh
    by_cases hlt : k < n
    · have hlk : k < (half n k).length := by rw [HL.out]; exact hlt
      have hlt' : (k : Int) < n := by omega
      obtain ⟨c0, c1, c2, c3, c4, c5, c6⟩ := slots_at htk.row k hlk
      have f0 := htk.row.frozen (k * 7)
      have HS := hid (half_set hlt)
      have HA := hid (half_at hlt)
      clear c1 c2 c3 c4 c5 c6
      go_wp2
      go_roundw
      case rel =>
        have ht2 : Tab (wr.setCell ⟨w.heap.size, k * 7, none⟩ (.int .i64 1)) (w.heap.size + 1) w.heap.size q ((half n k).set k freshS) :=
          ⟨by rw [List.length_set]; exact htk.head.other (by simp) _, Blk.eq (htk.row.set _ _) (slot_set k 0 hlk (by omega) (.int .i64 1) freshS (by rw [HA.out]; rfl)), htk.ne⟩
        rw [HS.out] at ht2
        exact ⟨k + 1, by omega, by go_num, ht2, hf.setCell (.inr (Nat.le_refl _)) _⟩
      case measure => simp [intOf]; omega
    · obtain rfl : k = n := by omega
      go_wp2
      go_ret
      exact ⟨rfl, by simpa [half, fresh] using htk, hf⟩
end Go.Proofs.Ytokgcgmhfpohoaa
