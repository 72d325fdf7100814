import Derived.Test.YteaoafipjaffpaaS10
import Derived.Test.YteaoafipjaffpaaK8
set_option linter.unusedSimpArgs false
set_option linter.unusedVariables false
namespace Go.Proofs.Yteaoafipjaffpaa
open Go.RowKit Go.Proofs.YteaoafipjaffpaaW.PrintWords Go.ChangeShapes Go.WideShapes
attribute [local go_sem] st_float
theorem open_fv {H : Type} {enc : TypeId × Value → H} {P : Program} {w : World} {base : Nat} {spare : Nat → Bool} {held : Bool} {t e : TypeId} {a : Option Addr} {len cap : Nat} {d : DataW H} {ps : List MemPlace}
    (ht : P.underlying t = some (.slice e)) (he : P.underlying e = some (.float .f64)) (hc : P.cellsOf e = 1) (h : DataW.Trod enc P w base spare held t (.slice a len cap) d ps) : ∃ l : List Nat, len = l.length ∧ FV w a l ∧ FT.Ws l := by
  obtain ⟨fuel, hf⟩ := h
  rcases open_rows (cl := fw) (sz := 1) (ok := fun b => b < 18446744073709551616) fw_len (fun fuel cs y hy => by
    obtain ⟨b, h1, h2⟩ := trod_float he hy
    exact ⟨b, h1, wf_lt h2⟩) ht hc hf with hcs | ⟨x, l, c, zs, hcs, hz, _, hcell, hok⟩
  · simp [Value.cells] at hcs
    obtain ⟨rfl, rfl, rfl⟩ := hcs
    exact ⟨[], rfl, ⟨fun k hk => by simp at hk⟩, fun b hb => by simp at hb⟩
  · simp [Value.cells] at hcs
    obtain ⟨rfl, rfl, rfl⟩ := hcs
    refine ⟨zs, hz.symm, ⟨fun k hk => ?_⟩, hok⟩
    have h1 := hcell k hk 0 (.float .f64 zs[k]) rfl
    rw [Nat.mul_one, Nat.add_zero] at h1
    have h2 := cell_lt h1
    rw [block_add'] at h2
    exact ⟨x, rfl, h2, h1⟩
theorem sum_take (l : List Nat) (k : Nat) (h : k < l.length) : (l.take (k + 1)).sum = (l.take k).sum + l[k] := by
  rw [List.take_succ_eq_append_getElem h, List.sum_append]
  simp
theorem sum_take_le (l : List Nat) (k : Nat) : (l.take k).sum ≤ l.sum := by
  induction l generalizing k with
  | nil => simp
  | cons x l ih =>
    cases k with
    | zero => simp
    | succ k => have := ih k; simp only [List.take_succ_cons, List.sum_cons]; omega
theorem mod513 (n : Int) (hn : (Lit.int .u16 n).wf = true) : ∃ N : Nat, (wrap64 n).tmod 513 = N ∧ N ≤ 512 := by
  have hw : 0 ≤ n ∧ n ≤ 65535 := by
    simp [Lit.wf] at hn
    obtain ⟨h1, h2⟩ := hn
    simp [IntKind.min, IntKind.signed] at h1
    simp [IntKind.max, IntKind.signed, IntKind.bits] at h2
    omega
  have e : wrap64 n = n := by unfold wrap64; omega
  refine ⟨(n % 513).toNat, ?_, by omega⟩
  rw [e, Int.tmod_eq_emod_of_nonneg hw.1]
  omega
set_option maxHeartbeats 4000000 in
theorem all_walk (n : Int) (A : Option Addr) (c : Nat) (l : List Nat) (w : World) (hn : (Lit.int .u16 n).wf = true) (hV : FV w A l) (hW : FT.Ws l) :
    Calls Try.prog 4 #[.int .u16 n, .slice A l.length c] w fun e w' => e = .returned (.bool true) ∧ Below w.heap.size w w' := by
  by_cases hl : l.length = 0 ∨ 64 < l.length
  · rcases hl with h | h
    · have h0 : ((l.length : Int) == 0) = true := by simpa using h
      generalize l.length = m at *
      clear h
      go_enter Try.func4, Try.ntmps4
      go_wp2_with (go_at_call 8; refine (awake_any w).mono ?_; rintro e w1 ⟨rfl, hf⟩)
      go_ret
      exact ⟨rfl, hf.below0⟩
    · have h0 : ((l.length : Int) == 0) = false := by simp only [beq_eq_false_iff_ne, ne_eq]; omega
      have h1 : decide ((l.length : Int) > 64) = true := by simp only [decide_eq_true_eq]; omega
      generalize l.length = m at *
      clear h
      go_enter Try.func4, Try.ntmps4
      go_wp2_with (go_at_call 8; refine (awake_any w).mono ?_; rintro e w1 ⟨rfl, hf⟩)
      go_ret
      exact ⟨rfl, hf.below0⟩
  · have hl1 : 1 ≤ l.length := by omega
    have hl2 : l.length ≤ 64 := by omega
    have h0 : ((l.length : Int) == 0) = false := by simp only [beq_eq_false_iff_ne, ne_eq]; omega
    have h1 : decide ((l.length : Int) > 64) = false := by simp only [decide_eq_false_iff_not]; omega
    obtain ⟨N, hN1, hN2⟩ := mod513 n hn
    have hne : l ≠ [] := by intro h; subst h; simp at hl1
    obtain ⟨hs1, hs2⟩ := FT.shares_sum N l hne
    have hsh := fun w (hV : FV w A l) => Shares_any w A c l N hV hW hl1 hl2 hN2
    generalize FT.sharesL N l = r at *
    have HSH := hid hsh
    clear hsh hl hne
    generalize l.length = m at *
    go_enter Try.func4, Try.ntmps4
    go_wp2_with (go_at_call 13; refine (HSH.out w hV).mono ?_; rintro e w1 ⟨⟨b, rfl, hb, hB⟩, hf⟩)
    go_loopw [7, 8] (fun v7 v8 wr => ∃ k : Nat, k ≤ m ∧ v8 = .int .i64 k ∧ v7 = .int .i64 ((r.take k).sum : Nat) ∧ Fr NoB w1 wr) (fun _ v8 _ => m - (intOf v8).toNat)
    case atStart => exact ⟨0, Nat.zero_le _, rfl, rfl, Fr.refl _ _⟩
    case round =>
      obtain ⟨k, hk, rfl, rfl, hf2⟩ := hrel
      by_cases hkm : k < m
      · have hc := (hB.fr hf2 (fun h => h)).cell k (iw_get r k (by omega))
        have hst := sum_take r k (by omega)
        have hle := sum_take_le r (k + 1)
        have hx0 : decide (((r[k]'(by omega) : Nat) : Int) < 0) = false := by simp only [decide_eq_false_iff_not]; omega
        rw [hst] at hle
        generalize (r.take k).sum = s0 at *
        generalize r[k]'(by omega) = x at *
        have HST := hid hst
        clear hst
        go_wp2
        go_roundw
        case rel => exact ⟨k + 1, by omega, by go_num, by rw [HST.out]; go_num, hf2⟩
        case measure => simp [intOf]; omega
      · obtain rfl : k = m := by omega
        have ht : r.take k = r := List.take_of_length_le (by omega)
        rw [ht, hs1]
        go_wp2_with (go_at_call 8; refine (awake_any _).mono ?_; rintro e w2 ⟨rfl, hf3⟩)
        go_ret
        exact ⟨rfl, ((hf.trans hf2).trans hf3).below0⟩
end Go.Proofs.Yteaoafipjaffpaa
