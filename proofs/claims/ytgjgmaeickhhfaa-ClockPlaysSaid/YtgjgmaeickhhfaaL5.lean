import Derived.Test.YtgjgmaeickhhfaaL4
import Derived.Deep.RegionHeld3
set_option linter.unusedSimpArgs false
set_option linter.unusedVariables false
namespace Go.Proofs.Ytgjgmaeickhhfaa
open Go.RowKit Go.Proofs.YtgjgmaeickhhfaaW.PrintWords
def orI (a b c : Int) : Int := if a ≠ 0 then a else if b ≠ 0 then b else c
theorem or_any (w : World) (g : Nat) (a b c : Int) (h0 : w.cell? ⟨g, 0, none⟩ = some (.int .i64 a)) (h1 : w.cell? ⟨g, 1, none⟩ = some (.int .i64 b)) (h2 : w.cell? ⟨g, 2, none⟩ = some (.int .i64 c)) :
    Calls Try.prog 32 #[.slice (some ⟨g, 0, none⟩) 3 3] w fun e w' => e = .returned (.int .i64 (orI a b c)) ∧ w = w' := by
  have hr : orI a b c = if a ≠ 0 then a else if b ≠ 0 then b else c := rfl
  by_cases ha : a = 0
  · subst ha
    by_cases hb : b = 0
    · subst hb
      by_cases hc : c = 0
      · subst hc
        have HR : Hid (orI 0 0 0 = 0) := rfl
        clear hr
        go_enter Try.func32, Try.ntmps32
        go_wp2
        go_loop [5, 8] (fun _ v8 => ∃ k : Nat, k ≤ 3 ∧ v8 = .int .i64 k) (fun _ v8 => 3 - (intOf v8).toNat)
        case atStart => exact ⟨0, by omega, rfl⟩
        case round =>
          obtain ⟨k, hk, rfl⟩ := hrel
          by_cases hk3 : k < 3
          · have hc : w.cell? ⟨g, k, none⟩ = some (.int .i64 0) := by
              rcases (show k = 0 ∨ k = 1 ∨ k = 2 by omega) with rfl | rfl | rfl <;> assumption
            go_wp2
            go_round
            case rel => exact ⟨k + 1, by omega, by go_num⟩
            case measure => simp [intOf]; omega
          · go_wp2
            go_ret
            exact ⟨by rw [HR.out]; rfl, rfl⟩
      · have HR : Hid (orI 0 0 c = c) := rfl
        clear hr
        have hn : (c != 0) = true := by rw [bne_iff_ne]; exact hc
        clear hc
        go_enter Try.func32, Try.ntmps32
        go_wp2
        go_loop [5, 8] (fun _ v8 => ∃ k : Nat, k ≤ 2 ∧ v8 = .int .i64 k) (fun _ v8 => 3 - (intOf v8).toNat)
        case atStart => exact ⟨0, by omega, rfl⟩
        case round =>
          obtain ⟨k, hk, rfl⟩ := hrel
          by_cases hk3 : k < 2
          · have hc : w.cell? ⟨g, k, none⟩ = some (.int .i64 0) := by
              rcases (show k = 0 ∨ k = 1 by omega) with rfl | rfl <;> assumption
            go_wp2
            go_round
            case rel => exact ⟨k + 1, by omega, by go_num⟩
            case measure => simp [intOf]; omega
          · obtain rfl : k = 2 := by omega
            go_wp2
            go_ret
            exact ⟨by rw [HR.out]; rfl, rfl⟩
    · have HR : Hid (orI 0 b c = b) := by
        show _ = _
        simp [orI, hb]
      clear hr
      have hn : (b != 0) = true := by rw [bne_iff_ne]; exact hb
      clear hb
      go_enter Try.func32, Try.ntmps32
      go_wp2
      go_loop [5, 8] (fun _ v8 => ∃ k : Nat, k ≤ 1 ∧ v8 = .int .i64 k) (fun _ v8 => 3 - (intOf v8).toNat)
      case atStart => exact ⟨0, by omega, rfl⟩
      case round =>
        obtain ⟨k, hk, rfl⟩ := hrel
        by_cases hk3 : k < 1
        · obtain rfl : k = 0 := by omega
          go_wp2
          go_round
          case rel => exact ⟨1, by omega, by go_num⟩
          case measure => simp [intOf]
        · obtain rfl : k = 1 := by omega
          go_wp2
          go_ret
          exact ⟨by rw [HR.out]; rfl, rfl⟩
  · have HR : Hid (orI a b c = a) := by
      show _ = _
      simp [orI, ha]
    clear hr
    have hn : (a != 0) = true := by rw [bne_iff_ne]; exact ha
    clear ha
    go_enter Try.func32, Try.ntmps32
    go_wp2
    go_loop [5, 8] (fun _ v8 => v8 = .int .i64 0) (fun _ v8 => 0)
    case atStart => exact rfl
    case round =>
      obtain rfl := hrel
      go_wp2
      go_ret
      exact ⟨by rw [HR.out]; rfl, rfl⟩
def ordT (a b : Tm) : Int := orI (cmpI a.at_ b.at_) (cmpI a.env b.env) (cmpI a.id b.id)
theorem cmpi_any' (x y : Int) (w : World) : Calls Try.prog 33 #[.int .i64 x, .int .i64 y] w fun e w' => e = .returned (.int .i64 (cmpI x y)) ∧ w' = w := (cmpi_any x y w).mono fun _ _ ⟨h1, h2⟩ => ⟨h1, h2.symm⟩
set_option maxHeartbeats 2000000 in
theorem order_any (w : World) (a b : Tm) : Calls Try.prog 23 #[a.v, b.v] w fun e w' => e = .returned (.int .i64 (ordT a b)) ∧ Fr NoB w w' := by
  unfold Tm.v
  have HR : Hid (ordT a b = orI (cmpI a.at_ b.at_) (cmpI a.env b.env) (cmpI a.id b.id)) := rfl
  go_enter Try.func23, Try.ntmps23
  go_wp2
  refine wp_region_still_tail 15 (by kernel_rfl) (by kernel_rfl) ?_
  change wpStill _ _ (World.drew _) _ _ _
  simp only [List.take_succ_cons, List.take_zero, List.drop_succ_cons, List.drop_zero]
  iterate 4 still_step
  still_call (cmpi_any' _ _ _)
  iterate 4 still_step
  still_call (cmpi_any' _ _ _)
  iterate 4 still_step
  still_call (cmpi_any' _ _ _)
  refine wpStill_nil ?_
  change wpList _ _ _ _ _ (World.drew _)
  go_wp2_with fail
  refine (or_any _ _ (cmpI a.at_ b.at_) (cmpI a.env b.env) (cmpI a.id b.id) (by go_simp) (by go_simp) (by go_simp)).mono ?_
  rintro e' w' ⟨rfl, rfl⟩
  go_wp2
  go_ret
  exact ⟨by rw [HR.out]; rfl, ((((Fr.refl _ w).alloc _).alloc _).alloc _).drew⟩
set_option maxHeartbeats 4000000 in
/-- The place at which a timer belongs, in timers that are in their order as seen from it. -/
theorem bsf_any (w : World) (v : Value) (xs : List Tm) (t : Tm) (hV : SV w v xs) (hl : xs.length ≤ 4096) (m : Nat) (hm : m ≤ xs.length) (hlo : ∀ k (hk : k < xs.length), k < m → ordT xs[k] t < 0) (hhi : ∀ k (hk : k < xs.length), m ≤ k → ¬ ordT xs[k] t < 0) :
    Calls Try.prog 22 #[v, t.v, .func (.func 23) #[] #[]] w fun e w' => (∃ b : Bool, e = .returned (.tuple #[.int .i64 m, .bool b])) ∧ Fr NoB w w' := by
  rcases hV with ⟨rfl, rfl⟩ | ⟨g, c, rest, rfl, hV, hxc, hcm⟩
  · obtain rfl : m = 0 := by simpa using hm
    clear hlo hhi
    unfold Tm.v
    go_enter Try.func22, Try.ntmps22
    go_wp2
    go_loop [9, 10, 11] (fun v9 v10 _ => v9 = .int .i64 0 ∧ v10 = .int .i64 0) (fun _ _ _ => 0)
    case atStart => exact ⟨rfl, rfl⟩
    case round =>
      obtain ⟨rfl, rfl⟩ := hrel
      go_wp2
      go_quiet (fail)
      go_wp2
      go_ret2
      exact ⟨⟨_, rfl⟩, ((Fr.refl _ w).alloc _).drewN _⟩
  · unfold Tm.v
    have HLo := hid hlo
    have HHi := hid hhi
    clear hlo hhi
    go_enter Try.func22, Try.ntmps22
    go_wp2
    go_loopw [9, 10, 11] (fun v9 v10 _ wr => ∃ i j : Nat, i ≤ m ∧ m ≤ j ∧ j ≤ xs.length ∧ v9 = .int .i64 i ∧ v10 = .int .i64 j ∧ Fr NoB (w.alloc (.cells t.cells.toArray 33)) wr) (fun v9 v10 _ _ => (intOf v10).toNat - (intOf v9).toNat)
    case atStart => exact ⟨0, xs.length, by omega, hm, by omega, rfl, rfl, Fr.refl _ _⟩
    case round =>
      obtain ⟨i, j, hi, hmj, hj, rfl, rfl, hf⟩ := hrel
      by_cases hij : i < j
      · go_wp2
        obtain ⟨h, hh⟩ : ∃ h : Nat, h = (i + j) / 2 := ⟨_, rfl⟩
        rw [show ((i : Int) + (j : Int)) / 2 = (h : Int) by omega]
        have hih : i ≤ h := by omega
        have hhj : h < j := by omega
        have hhx : h < xs.length := by omega
        clear hh
        obtain ⟨c0, c1, c2⟩ := TV.cells (Vec.fr hV (((Fr.refl NoB w).alloc _).trans hf) (fun h => h)) h hhx
        have hbx : Blk wr w.heap.size 33 t.cells := (Blk.new w 33 t.cells).fr hf (fun h => h)
        have b0 := hbx.cell 0 rfl
        have b1 := hbx.cell 1 rfl
        have b2 := hbx.cell 2 rfl
        have hbs := hbx.lt
        have hcall := order_any wr.drew xs[h] t
        have hL1 : ordT xs[h] t < 0 → h < m := fun h1 => by
          by_cases hhm : h < m
          · exact hhm
          · have := HHi.out h hhx (by omega); omega
        have hL2 : ¬ ordT xs[h] t < 0 → m ≤ h := fun h1 => by
          by_cases hhm : m ≤ h
          · exact hhm
          · exact absurd (HLo.out h hhx (by omega)) h1
        have HL1 := hid hL1
        have HL2 := hid hL2
        unfold Tm.v at hcall
        have HC := hid hcall
        clear hL1 hL2 hcall
        generalize xs[h] = x at *
        by_cases hx : ordT x t < 0
        · have hr : decide (ordT x t < 0) = true := by simp [hx]
          have hhm := HL1.out hx
          refine wp_region_still_tail 6 (by kernel_rfl) (by kernel_rfl) ?_
          change wpStill _ _ (World.drew _) _ _ _
          simp only [List.take_succ_cons, List.take_zero, List.drop_succ_cons, List.drop_zero]
          iterate 6 still_step
          refine wpStill_nil ?_
          change wpList _ _ _ _ _ (World.drew _)
          go_wp2_with fail
          refine HC.out.mono ?_
          rintro e' w1 ⟨rfl, hf1⟩
          clear hx
          go_wp2
          go_roundw
          case rel => exact ⟨h + 1, j, by omega, hmj, hj, by go_num, rfl, (hf.drew).trans hf1⟩
          case measure => simp [intOf]; omega
        · have hr : decide (ordT x t < 0) = false := by simp [hx]
          have hhm := HL2.out hx
          refine wp_region_still_tail 6 (by kernel_rfl) (by kernel_rfl) ?_
          change wpStill _ _ (World.drew _) _ _ _
          simp only [List.take_succ_cons, List.take_zero, List.drop_succ_cons, List.drop_zero]
          iterate 6 still_step
          refine wpStill_nil ?_
          change wpList _ _ _ _ _ (World.drew _)
          go_wp2_with fail
          refine HC.out.mono ?_
          rintro e' w1 ⟨rfl, hf1⟩
          clear hx
          go_wp2
          go_roundw
          case rel => exact ⟨i, h, hi, hhm, by omega, rfl, rfl, (hf.drew).trans hf1⟩
          case measure => simp [intOf]; omega
      · obtain rfl : i = m := by omega
        obtain rfl : j = i := by omega
        by_cases hix : j < xs.length
        · have hVr : TV wr g xs rest c := Vec.fr hV (((Fr.refl NoB w).alloc _).trans hf) (fun h => h)
          have hbx : Blk wr w.heap.size 33 t.cells := (Blk.new w 33 t.cells).fr hf (fun h => h)
          have HS : Hid (∀ w', Fr NoB wr w' → Fr NoB wr w' ∧ w'.cell? ⟨g, j * 3, none⟩ = some (.int .i64 xs[j].env) ∧ w'.cell? ⟨g, j * 3 + 1, none⟩ = some (.int .i64 xs[j].id) ∧ w'.cell? ⟨g, j * 3 + 2, none⟩ = some (.int .i64 xs[j].at_) ∧ w'.cell? ⟨w.heap.size, 0, none⟩ = some (.int .i64 t.env) ∧ w'.cell? ⟨w.heap.size, 1, none⟩ = some (.int .i64 t.id) ∧ w'.cell? ⟨w.heap.size, 2, none⟩ = some (.int .i64 t.at_)) := fun w' h => by
            obtain ⟨c0, c1, c2⟩ := TV.cells (Vec.fr hVr h (fun h => h)) j hix
            have hb := hbx.fr h (fun h => h)
            exact ⟨h, c0, c1, c2, hb.cell 0 rfl, hb.cell 1 rfl, hb.cell 2 rfl⟩
          generalize xs[j] = x at *
          have hd : decide (j < xs.length) = true := by simp [hix]
          have i1 : (0 : Int) ≤ (j : Int) := by omega
          have i2 : (j : Int) < (xs.length : Int) := by omega
          clear hbx hVr
          go_wp2
          go_region_held3 (fun w' => Fr NoB wr w' ∧ w'.cell? ⟨g, j * 3, none⟩ = some (.int .i64 x.env) ∧ w'.cell? ⟨g, j * 3 + 1, none⟩ = some (.int .i64 x.id) ∧ w'.cell? ⟨g, j * 3 + 2, none⟩ = some (.int .i64 x.at_) ∧ w'.cell? ⟨w.heap.size, 0, none⟩ = some (.int .i64 t.env) ∧ w'.cell? ⟨w.heap.size, 1, none⟩ = some (.int .i64 t.id) ∧ w'.cell? ⟨w.heap.size, 2, none⟩ = some (.int .i64 t.at_)) (first | exact HS.out _ (Fr.drew (Fr.refl _ _)) | exact HS.out _ (Fr.trans (Fr.drew (Fr.refl _ _)) (by assumption)) | exact HS.out _ (by assumption) | fail) (first | (go_at_call 23; refine (order_any _ x t).mono ?_; rintro e' w1 ⟨rfl, hf1⟩) | fail)
          go_wp2
          go_ret2
          exact ⟨⟨_, rfl⟩, (((Fr.refl NoB w).alloc _).trans hf).trans (And.left (by assumption))⟩
        · obtain rfl : j = xs.length := by omega
          go_wp2
          go_quiet (fail)
          go_wp2
          go_ret2
          exact ⟨⟨_, rfl⟩, (((Fr.refl NoB w).alloc _).trans hf).drewN _⟩
end Go.Proofs.Ytgjgmaeickhhfaa
