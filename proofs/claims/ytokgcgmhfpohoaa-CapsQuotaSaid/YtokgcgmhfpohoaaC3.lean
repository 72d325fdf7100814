import Derived.Test.YtokgcgmhfpohoaaC2
set_option linter.unusedSimpArgs false
set_option linter.unusedVariables false
namespace Go.Proofs.Ytokgcgmhfpohoaa
open Go.RowKit Go.Proofs.YtokgcgmhfpohoaaW.PrintWords
set_option maxHeartbeats 2000000 in
theorem ixc_any (w : World) (x : Slot) :
    Calls Try.prog 40 #[.agg #[.int .i64 x.gen, .int .i64 x.env, .int .i64 x.kind, .int .i64 x.obj, .int .i64 x.rights, .int .i64 x.of, .bool x.used]] w fun e w' => e = .returned (.bool (!x.used)) ∧ Fr NoB w w' := by
  go_enter Try.func40, Try.ntmps40
  go_wp2
  go_ret
  exact ⟨rfl, (Fr.refl _ _).alloc _⟩
set_option maxHeartbeats 2000000 in
theorem ix_some (w : World) (g : Nat) (l : List Slot) (hb : Blk w g 65 (l.flatMap Slot.cells)) (hl : l.length ≤ 4096) (m : Nat) (hm : m < l.length) (hu : l[m].used = false) (hlt : ∀ j (h : j < m), l[j].used = true) :
    Calls Try.prog 39 #[.slice (some ⟨g, 0, none⟩) l.length l.length, .func (.func 40) #[] #[]] w fun e w' => e = .returned (.int .i64 m) ∧ Fr NoB w w' := by
  go_enter Try.func39, Try.ntmps39
  go_wp2
  go_loopw [8] (fun v8 wr => ∃ k : Nat, k ≤ m ∧ v8 = .int .i64 k ∧ Fr NoB w wr) (fun v8 _ => l.length - (intOf v8).toNat)
  case atStart => exact ⟨0, Nat.zero_le _, rfl, Fr.refl _ _⟩
  case round =>
    obtain ⟨k, hk, rfl, hf⟩ := hrel
    obtain ⟨c0, c1, c2, c3, c4, c5, c6⟩ := slots_at (hb.fr hf (fun h => h)) k (by omega)
    have hkl : (k : Int) < l.length := by omega
    by_cases hkm : k < m
    · have hx := hlt k hkm
      generalize l[k] = x at *
      have HX := hid hx
      clear hx hlt hu
      go_wp2_with fail
      refine (ixc_any wr x).mono ?_
      rintro e w1 ⟨rfl, hf1⟩
      rw [HX.out]
      go_wp2
      go_roundw
      case rel => exact ⟨k + 1, by omega, by go_num, hf.trans hf1⟩
      case measure => simp [intOf]; omega
    · obtain rfl : k = m := by omega
      generalize l[k] = x at *
      have HX := hid hu
      clear hlt hu
      go_wp2_with fail
      refine (ixc_any wr x).mono ?_
      rintro e w1 ⟨rfl, hf1⟩
      rw [HX.out]
      go_wp2
      go_ret
      exact ⟨rfl, hf.trans hf1⟩
set_option maxHeartbeats 2000000 in
theorem ix_none (w : World) (g : Nat) (l : List Slot) (hb : Blk w g 65 (l.flatMap Slot.cells)) (hl : l.length ≤ 4096) (hlt : ∀ j (h : j < l.length), l[j].used = true) :
    Calls Try.prog 39 #[.slice (some ⟨g, 0, none⟩) l.length l.length, .func (.func 40) #[] #[]] w fun e w' => e = .returned (.int .i64 (-1)) ∧ Fr NoB w w' := by
  go_enter Try.func39, Try.ntmps39
  go_wp2
  go_loopw [8] (fun v8 wr => ∃ k : Nat, k ≤ l.length ∧ v8 = .int .i64 k ∧ Fr NoB w wr) (fun v8 _ => l.length - (intOf v8).toNat)
  case atStart => exact ⟨0, Nat.zero_le _, rfl, Fr.refl _ _⟩
  case round =>
    obtain ⟨k, hk, rfl, hf⟩ := hrel
    by_cases hkm : k < l.length
    · obtain ⟨c0, c1, c2, c3, c4, c5, c6⟩ := slots_at (hb.fr hf (fun h => h)) k hkm
      have hx := hlt k hkm
      generalize l[k] = x at *
      have HX := hid hx
      clear hx hlt
      go_wp2_with fail
      refine (ixc_any wr x).mono ?_
      rintro e w1 ⟨rfl, hf1⟩
      rw [HX.out]
      go_wp2
      go_roundw
      case rel => exact ⟨k + 1, by omega, by go_num, hf.trans hf1⟩
      case measure => simp [intOf]; omega
    · obtain rfl : k = l.length := by omega
      clear hlt
      go_wp2
      go_ret
      exact ⟨rfl, hf⟩
end Go.Proofs.Ytokgcgmhfpohoaa
