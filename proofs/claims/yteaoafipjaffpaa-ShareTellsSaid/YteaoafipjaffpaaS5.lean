import Derived.Test.YteaoafipjaffpaaS4
import Derived.Test.YteaoafipjaffpaaF5
import Derived.Deep.RegionHeld3
import Derived.Deep.QuietTactic
set_option linter.unusedSimpArgs false
set_option linter.unusedVariables false
namespace Go.Proofs.Yteaoafipjaffpaa
open Go.RowKit Go.Proofs.YteaoafipjaffpaaW.PrintWords
attribute [local go_sem] st_float
set_option maxHeartbeats 4000000 in
theorem quotas_any (w : World) (g c n : Nat) (t : List Nat) (hB : Blk w g 26 (t.flatMap fw)) (hT : FT.Tok t) (hl : t.length ≤ 64) (hn : n ≤ 512) :
    Calls Try.prog 29 #[.int .i64 n, .slice (some ⟨g, 0, none⟩) t.length c] w fun e w' => e = .returned (.slice (some ⟨w.heap.size, 0, none⟩) t.length t.length) ∧ Blk w' w.heap.size 26 ((FT.quotasL n t).flatMap fw) ∧ Fr NoB w w' := by
  have hmk := make_f64 t.length (by omega)
  have hq : FT.quotasL n t = fillL (fun x => FT.quota n (FT.sumL t) x) t t.length := (fillL_all _ t).symm
  obtain ⟨_, hs1, hs2⟩ := FT.quotas_ok hn hT (by omega)
  have hadd := FT.sum_add hT.le (by omega)
  have hle := hT.le
  have HQ := hid hq
  clear hq
  generalize hb : w.heap.size = b at *
  go_enter Try.func29, Try.ntmps29
  go_wp2
  go_loopw [5, 7, 14] (fun v5 v7 v14 wr => ∃ k : Nat, k ≤ t.length ∧ v14 = .int .i64 k ∧ v5 = .float .f64 (FT.sumL (t.take k)) ∧ (∃ x, v7 = x) ∧ w = wr) (fun _ _ v14 _ => t.length - (intOf v14).toNat)
  case atStart => exact ⟨0, Nat.zero_le _, rfl, rfl, ⟨_, rfl⟩, rfl⟩
  case round =>
    obtain ⟨k, hk, rfl, rfl, ⟨v7, rfl⟩, rfl⟩ := hrel
    by_cases hkm : k < t.length
    · have hc := hB.cell k (fw_get t k hkm)
      have ha := hadd k hkm
      have hrun := fun w => run_float_arith (P := Try.prog) w .add 26 .f64 (FT.sumL (t.take k)) t[k] (FT.sumL (t.take (k + 1))) ha
      clear ha hadd
      generalize hS : FT.sumL (t.take (k + 1)) = s1 at *
      have HS := hid hS
      clear hS
      generalize FT.sumL (t.take k) = s0 at *
      generalize t[k] = x at *
      go_wp2
      go_roundw
      case rel => exact ⟨k + 1, by omega, by go_num, by rw [HS.out], ⟨_, rfl⟩, by trivial⟩
      case measure => simp [intOf]; omega
    · obtain rfl : k = t.length := by omega
      rw [List.take_length]
      clear hadd
      have hqo := fun x (hx : x ∈ t) => FT.quota_ok hn (hle x hx) hs1 hs2
      have hof : floatOfInt .f64 (n : Int) = FT.ofN n := by
        show FT.D.write (.number (decide ((n : Int) < 0)) (n : Int).natAbs 0) = _
        rw [show decide ((n : Int) < 0) = false by simp only [decide_eq_false_iff_not]; omega, show (n : Int).natAbs = n by omega]
        rfl
      have HQO := hid hqo
      clear hqo
      generalize FT.sumL t = s at *
      go_wp2
      obtain ⟨wo, rfl⟩ : ∃ wo : World, wo = w := ⟨_, rfl⟩
      go_loopw [9, 10, 11, 27] (fun v9 v10 v11 v27 wr => ∃ k : Nat, k ≤ t.length ∧ v27 = .int .i64 k ∧ (∃ x, v9 = x) ∧ (∃ x, v10 = x) ∧ (∃ x, v11 = x) ∧ Blk wr b 26 ((fillL (fun x => FT.quota n s x) t k).flatMap fw) ∧ Fr NoB wo wr) (fun _ _ _ v27 _ => t.length - (intOf v27).toNat)
      case atStart =>
        refine ⟨0, Nat.zero_le _, rfl, ⟨_, rfl⟩, ⟨_, rfl⟩, ⟨_, rfl⟩, ?_, (Fr.refl _ _).alloc _⟩
        rw [fillL_zero, ← hb]
        exact Blk.new _ _ _
      case round =>
        obtain ⟨k, hk, rfl, ⟨v9, rfl⟩, ⟨v10, rfl⟩, ⟨v11, rfl⟩, hB2, hf3⟩ := hrel
        by_cases hkm : k < t.length
        · have hc := (hB.fr hf3 (fun h => h)).cell k (fw_get t k hkm)
          have hset := fillL_set (fun x => FT.quota n s x) t k hkm
          have hlen := fillL_len (fun x => FT.quota n s x) t k hk
          obtain ⟨q1, q2, _⟩ := HQO.out t[k] (List.getElem_mem hkm)
          generalize t[k] = x at *
          generalize h2 : fillL (fun x => FT.quota n s x) t (k + 1) = l2 at *
          generalize fillL (fun x => FT.quota n s x) t k = l1 at *
          have hrun1 := fun w => run_float_arith (P := Try.prog) w .mul 26 .f64 (FT.ofN n) x _ q1
          have hrun2 := fun w => run_float_arith (P := Try.prog) w .quo 26 .f64 _ s _ q2
          have hwset := (hB2.set k (.float .f64 (FT.quota n s x))).eq (fw_set l1 k (by omega) _)
          have hcell := hB2.cell k (fw_get l1 k (by omega))
          have hfz := hB2.frozen k
          generalize FT.quota n s x = y at *
          generalize FT.fmul (FT.ofN n) x = z at *
          have HSET := hid hset
          have HB := hid hb
          have H2 := hid h2
          clear hset hb h2 q1 q2
          go_wp2
          go_roundw
          case rel => exact ⟨k + 1, by omega, by go_num, ⟨_, rfl⟩, ⟨_, rfl⟩, ⟨_, rfl⟩, by rw [H2.out, ← HSET.out]; exact hwset, hf3.setCell (.inr (by simp [HB.out])) _⟩
          case measure => simp [intOf]; omega
        · obtain rfl : k = t.length := by omega
          go_wp2
          go_ret
          exact ⟨rfl, by rw [HQ.out]; exact hB2, hf3⟩
def bw (x : Bool) : List Value := [.bool x]
theorem bw_len (x : Bool) : (bw x).length = 1 := rfl
theorem bw_get (l : List Bool) (k : Nat) (h : k < l.length) : (l.flatMap bw)[k]? = some (.bool l[k]) := by
  have := flat_get bw_len l k 0 h (by omega)
  rw [Nat.mul_one, Nat.add_zero] at this
  rw [this]; rfl
theorem bw_set (l : List Bool) (k : Nat) (h : k < l.length) (x : Bool) : (l.flatMap bw).set k (.bool x) = (l.set k x).flatMap bw := by
  have := flat_set bw_len l k 0 h (by omega) (.bool x) x rfl
  rw [Nat.mul_one, Nat.add_zero] at this
  exact this
end Go.Proofs.Yteaoafipjaffpaa
