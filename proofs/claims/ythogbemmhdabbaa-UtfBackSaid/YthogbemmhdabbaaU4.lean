import Derived.Test.YthogbemmhdabbaaU3
import Derived.LoopTactic
set_option linter.unusedSimpArgs false
set_option linter.unusedVariables false
namespace Go.Proofs.Ythogbemmhdabbaa
open Go.RowKit Go.Proofs.YthogbemmhdabbaaW.PrintWords
/-- All bytes, from a state and what was told so far. -/
def prun : List Int × List Int → List Int → List Int × List Int
  | s, [] => s
  | s, c :: l => prun ((pstep s.1 c).1, s.2 ++ (pstep s.1 c).2) l
theorem prun_snoc (s : List Int × List Int) (l : List Int) (c : Int) : prun s (l ++ [c]) = ((pstep (prun s l).1 c).1, (prun s l).2 ++ (pstep (prun s l).1 c).2) := by
  induction l generalizing s with
  | nil => rfl
  | cons x l ih => exact ih _
def pall (l : List Int) : List Int := (prun ([], []) l).2 ++ pflush (prun ([], []) l).1
theorem beginR_len (c : Int) : (beginR c).length ≤ 1 := by unfold beginR; split <;> (try split) <;> simp
theorem pstep_len (p : List Int) (c : Int) : (pstep p c).2.length ≤ 2 := by
  have := beginR_len c
  cases p with
  | nil => show (beginR c).length ≤ 2; omega
  | cons a t =>
    simp only [pstep]
    split
    · split <;> simp
    · simp; omega
theorem prun_len (l : List Int) (k : Nat) : (prun ([], []) (l.take k)).2.length ≤ 2 * k := by
  induction k with
  | zero => simp [prun]
  | succ k ih =>
    rcases Nat.lt_or_ge k l.length with h | h
    · rw [List.take_succ_eq_append_getElem h, prun_snoc]
      have := pstep_len (prun ([], []) (l.take k)).1 l[k]
      simp only [List.length_append]; omega
    · rw [List.take_of_length_le (by omega)]; rw [List.take_of_length_le h] at ih; omega
theorem pflush_len (p : List Int) : (pflush p).length ≤ 1 := by unfold pflush; split <;> simp
set_option maxHeartbeats 1000000 in
theorem all_any (w : World) (A : Option Addr) (cap : Nat) (l : List Int) (hC : Kd.C (Kd.int .u8) w A l.length l) (hr : ∀ x ∈ l, 0 ≤ x ∧ x ≤ 255) (hl : l.length ≤ 1000000000000) :
    Calls Try.prog 10 #[.slice A l.length cap] w fun e w' => ∃ v, e = .returned v ∧ Runes w w' v (pall l) ∧ Fr NoB w w' := by
  go_enter Try.func10, Try.ntmps10
  go_wp2
  go_loopw [4, 9] (fun v4 v9 wr => ∃ k : Nat, k ≤ l.length ∧ v9 = .int .i64 k ∧ Aside0 (Kd.R (Kd.int .i32) 21 wr (w.heap.size + 1) (fun _ => True) v4 (prun ([], []) (l.take k)).2) ∧
      DBlk wr w.heap.size 33 [] (prun ([], []) (l.take k)).1 ∧ Fr NoB w wr) (fun _ v9 _ => l.length - (intOf v9).toNat)
  case atStart =>
    refine ⟨0, Nat.zero_le _, rfl, ⟨Kd.R_nil _ _ _ _ _⟩, ⟨⟨0, 0, 0, 0, 0⟩, ⟨rfl, rfl⟩, ?_⟩, (Fr.refl _ _).alloc _⟩
    exact Blk.new w 33 _
  case round =>
    obtain ⟨k, hk, rfl, ⟨hv⟩, hd, hf⟩ := hrel
    have hlen := prun_len l k
    have hsz := hf.size
    have hlt0 := hd.lt
    by_cases hlt : k < l.length
    · obtain ⟨ad, e, hcell⟩ := C_at (Kd.C_below hC hf.below0) k hlt
      cases e
      have hrk := hr _ (List.getElem_mem hlt)
      have HT := hid (List.take_succ_eq_append_getElem hlt)
      have hpl := pstep_len (prun ([], []) (l.take k)).1 l[k]
      generalize hs : prun ([], []) (l.take k) = s at *
      have HS := hid hs
      clear hs
      go_wp2_with fail
      refine (feed_any wr w.heap.size 33 [] s.1 _ hrk.1 hrk.2 hd).mono ?_
      rintro e w1 ⟨v, rfl, hv1, hd1, hf1⟩
      have hv2 := R_fr hv hf1 (fun k hk => by rw [hk]; omega)
      obtain ⟨A1, c1, rfl, hcc, hC1⟩ := Kd.R_reads hv1
      have hsz1 := hf1.size
      clear hv hd hcell hC
      go_wp2_with (at_builtin; refine Kd.R_append_row (Value.int .i32) 0 (w.heap.size + 1) rfl (.tmp 13) (.tmp 15) 25 21 (.int .i32 0) 4 rfl Try.underlying25 info_i32 rfl (by decide) u4 s.2 (pstep s.1 l[k]).2 A1 _ c1 (fun _ => True) rfl rfl (fun _ _ => trivial) hv2 hC1 (Below.refl _ _) (by omega) (by omega) ?_; intro v1 w2 hv3 hb2 hg2 hat2)
      go_roundw
      case rel =>
        have hs2 := prun_snoc ([], []) (l.take k) l[k]
        rw [← HT.out, HS.out] at hs2
        refine ⟨k + 1, by omega, by go_num, ⟨?_⟩, ?_, ?_⟩
        · rw [hs2]; exact hv3
        · rw [hs2]; exact hd1.move (hb2.block _ (by omega))
        · exact (hf.then_ hf1 (fun k hk => .inr (by rw [hk]; exact Nat.le_refl _))).then_ (Fr.of_grown hg2) (fun k hk => .inr (Nat.le_of_succ_le (Kd.R_base hv2 k hk)))
      case measure => simp [intOf]; omega
    · obtain rfl : k = l.length := by omega
      rw [List.take_length] at hv hd
      have hpf := pflush_len (prun ([], []) l).1
      rw [List.take_length] at hlen
      go_wp2_with fail
      refine (end_any wr w.heap.size 33 [] _ hd).mono ?_
      rintro e w1 ⟨v, rfl, hv1, hd1, hf1⟩
      have hv2 := R_fr hv hf1 (fun k hk => by rw [hk]; omega)
      obtain ⟨A1, c1, rfl, hcc, hC1⟩ := Kd.R_reads hv1
      have hsz1 := hf1.size
      clear hv hd hC
      go_wp2_with (at_builtin; refine Kd.R_append_row (Value.int .i32) 0 (w.heap.size + 1) rfl (.tmp 18) (.tmp 19) 25 21 (.int .i32 0) 4 rfl Try.underlying25 info_i32 rfl (by decide) u4 _ (pflush (prun ([], []) l).1) A1 _ c1 (fun _ => True) rfl rfl (fun _ _ => trivial) hv2 hC1 (Below.refl _ _) (by omega) (by omega) ?_; intro v1 w2 hv3 hb2 hg2 hat2)
      go_ret
      exact ⟨v1, rfl, Kd.R_lower hv3 (Nat.le_succ _), (hf.then_ hf1 (fun k hk => .inr (by rw [hk]; exact Nat.le_refl _))).then_ (Fr.of_grown hg2) (fun k hk => .inr (Nat.le_of_succ_le (Kd.R_base hv2 k hk)))⟩
end Go.Proofs.Ythogbemmhdabbaa
