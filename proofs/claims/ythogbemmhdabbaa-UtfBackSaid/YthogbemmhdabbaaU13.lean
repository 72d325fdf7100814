import Derived.Test.YthogbemmhdabbaaU12
set_option linter.unusedSimpArgs false
set_option linter.unusedVariables false
namespace Go.Proofs.Ythogbemmhdabbaa
open Go.RowKit Go.Proofs.YthogbemmhdabbaaW.PrintWords
def puts : List Int → List Int
  | [] => []
  | r :: l => putL r ++ puts l
theorem puts_snoc (l : List Int) (r : Int) : puts (l ++ [r]) = puts l ++ putL r := by
  induction l with
  | nil => simp [puts]
  | cons x l ih => simp [puts, ih]
theorem puts_len (l : List Int) : (puts l).length ≤ 4 * l.length := by
  induction l with
  | nil => simp [puts]
  | cons x l ih =>
    have := (putL_len x).2
    simp only [puts, List.length_append, List.length_cons]
    omega
theorem puts_bytes (l : List Int) : ∀ x ∈ puts l, 0 ≤ x ∧ x ≤ 255 := by
  induction l with
  | nil => intro x hx; simp [puts] at hx
  | cons r l ih =>
    intro x hx
    rcases List.mem_append.1 hx with h | h
    · exact putL_bytes r x h
    · exact ih x h
theorem puts_run (l : List Int) : ∀ o, prun ([], o) (puts l) = ([], o ++ l.map runeOf) := by
  induction l with
  | nil => intro o; simp [puts, prun]
  | cons r l ih =>
    intro o
    simp only [puts]
    rw [prun_append, put_run, ih]
    simp
theorem pall_puts (l : List Int) : pall (puts l) = l.map runeOf := by
  unfold pall
  rw [puts_run]
  simp [pflush]
set_option maxHeartbeats 2000000 in
theorem utfBack_walk (A : Option Addr) (cap : Nat) (l : List Int) (w : World) (hC : Kd.C (Kd.int .i32) w A l.length l) (hc : l.length ≤ cap) (hy : l.length * 4 ≤ 140737488351232) (hw : ∀ x ∈ l, (Lit.int .i32 x).wf = true) :
    Calls Try.prog 7 #[.slice A l.length cap] w fun e w' => e = .returned (.bool true) ∧ Below w.heap.size w w' := by
  by_cases hl : l.length ≤ 200
  · go_enter Try.func7, Try.ntmps7
    go_wp2
    go_loopw [3, 4] (fun v3 v4 wr => ∃ k : Nat, k ≤ l.length ∧ v4 = .int .i64 k ∧ Aside0 (Kd.R (Kd.int .u8) 5 wr w.heap.size (fun _ => True) v3 (puts (l.take k))) ∧ Fr NoB w wr) (fun _ v4 _ => l.length - (intOf v4).toNat)
    case atStart => exact ⟨0, Nat.zero_le _, rfl, ⟨Kd.R_nil _ _ _ _ _⟩, Fr.refl _ _⟩
    case round =>
      obtain ⟨k, hk, rfl, ⟨hv⟩, hf⟩ := hrel
      have hsz := hf.size
      by_cases hlt : k < l.length
      · obtain ⟨ad, e, hcell⟩ := C_at (Kd.C_below hC hf.below0) k hlt
        cases e
        have hpl := putL_len l[k]
        have hln := puts_len (l.take k)
        rw [List.length_take] at hln
        have HS := hid (puts_snoc (l.take k) l[k])
        have HT := hid (List.take_succ_eq_append_getElem hlt)
        generalize puts (l.take k) = o at *
        go_wp2_with fail
        refine (put_any _ l[k]).mono ?_
        rintro e w1 ⟨A1, c1, rfl, hc1, hC1, hf1⟩
        have hsz1 := hf1.size
        have hv1 := R_fr hv hf1 (fun k hk => hk.elim)
        have hF1 := hf.trans hf1
        clear hcell hv
        go_wp2_with (at_builtin; refine app_row (k := .u8) w.heap.size 22 5 1 Try.underlying22 info_u8 (by decide) rfl rfl u3 o (putL l[k]) A1 _ c1 rfl rfl hv1 hC1 (by omega) (by omega) ?_; intro v2 w2 hv2 hf2)
        go_roundw
        case rel =>
          refine ⟨k + 1, by omega, by go_num, ⟨?_⟩, hF1.ge hf2 (Nat.le_refl _)⟩
          rw [HT.out, HS.out]; exact hv2
        case measure => simp [intOf]; omega
      · obtain rfl : k = l.length := by omega
        rw [List.take_length] at hv
        have hln := puts_len l
        obtain ⟨A1, c1, rfl, hc1, hC1⟩ := Kd.R_reads hv
        clear hv
        go_wp2_with fail
        refine (all_any _ A1 c1 (puts l) hC1 (puts_bytes l) (by omega)).mono ?_
        rintro e w2 ⟨v2, rfl, hv2, hf2⟩
        rw [pall_puts] at hv2
        obtain ⟨A2, c2, rfl, hcc2, hC2⟩ := Kd.R_reads hv2
        have hF2 := hf.trans hf2
        have hml : (l.map runeOf).length = l.length := by simp
        rw [hml] at hC2 hcc2 ⊢
        have hCl := Kd.C_below hC hF2.below0
        clear hv2 hC1
        go_wp2
        go_loopw [6] (fun v6 wr => ∃ k : Nat, k ≤ l.length ∧ v6 = .int .i64 k ∧ Drawn0 w2 wr) (fun v6 _ => l.length - (intOf v6).toNat)
        case atStart => exact ⟨0, Nat.zero_le _, rfl, Drawn0.refl _⟩
        case round =>
          obtain ⟨k, hk, rfl, hd⟩ := hrel
          by_cases hlt : k < l.length
          · obtain ⟨ad, e, h0⟩ := C_at (Kd.C_below hC2 hd.below) k (by simpa using hlt)
            obtain ⟨bd, e', h1⟩ := C_at (Kd.C_below hCl hd.below) k hlt
            subst e e'
            have hx : (l.map runeOf)[k]'(by simpa using hlt) = runeOf l[k] := by simp
            rw [hx] at h0
            have hok := lawPuts_ok l[k]
            generalize runeOf l[k] = x at *
            generalize l[k]'hlt = y at *
            clear hC2 hCl hC hx
            rcases hok with ho | ⟨hne, ho, _⟩
            · have hq : (x != y) = false := by simpa using ho
              clear ho
              go_wp2
              go_quiet (fail)
              go_wp2
              go_roundw
              case rel => exact ⟨k + 1, by omega, by go_num, hd.step _⟩
              case measure => simp [intOf]; omega
            · have hq : (x != y) = true := by simpa using hne
              have hq2 : (x != 65533) = false := by simpa using ho
              clear ho hne
              go_wp2
              go_quiet (fail)
              go_wp2
              go_roundw
              case rel => exact ⟨k + 1, by omega, by go_num, hd.step _⟩
              case measure => simp [intOf]; omega
          · obtain rfl : k = l.length := by omega
            go_wp2_with fail
            refine (awake_any _).mono ?_
            rintro e w5 ⟨rfl, hf5⟩
            go_wp2
            go_ret
            exact ⟨rfl, ((hF2.trans (Fr.of_below hd.below NoB)).trans hf5).below0⟩
  · go_enter Try.func7, Try.ntmps7
    go_wp2_with fail
    refine (awake_any _).mono ?_
    rintro e w5 ⟨rfl, hf5⟩
    go_wp2
    go_ret
    exact ⟨rfl, hf5.below0⟩
end Go.Proofs.Ythogbemmhdabbaa
