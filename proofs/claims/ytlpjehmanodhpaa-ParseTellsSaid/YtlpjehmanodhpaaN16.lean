import Derived.Test.YtlpjehmanodhpaaN15
import Derived.LoopTactic
set_option linter.unusedSimpArgs false
set_option linter.unusedVariables false
namespace Go.Proofs.Ytlpjehmanodhpaa
open Go.RowKit Go.Proofs.YtlpjehmanodhpaaW.PrintWords
theorem told_src {W : World} {base : Nat} {A : Option Addr} {n c : Nat} {ss : List SqV} (h : Row SqV.cells 7 30 W base (.slice A n c) ss) : (A = none ∧ ss = [] ∧ n = 0) ∨ ∃ ad, A = some ad ∧ ss.length = n ∧ ∀ j u, (ss.flatMap SqV.cells)[j]? = some u → W.cell? (ad.add j) = some u := by
  obtain ⟨A', c', hv, _⟩ := Row.shape h
  injection hv with e1 e2 e3
  cases hss : ss with
  | nil =>
    subst hss
    cases A with
    | none => exact .inl ⟨rfl, rfl, e2⟩
    | some ad => exact .inr ⟨ad, rfl, e2.symm, fun j u hj => by simp at hj⟩
  | cons s l =>
    obtain ⟨g, c2, rest, hv2, hvec, _⟩ := Vec.of_row h (by rw [hss]; simp)
    injection hv2 with f1 f2 f3
    refine .inr ⟨⟨g, 0, none⟩, f1, by rw [← hss, f2], fun j u hj => ?_⟩
    have h5 := hvec.src SqV.len 0 (Nat.zero_le _) ss (by simp) j u (by rw [hss]; exact hj)
    rwa [Nat.zero_mul] at h5
def zeroL (tv : Value) : Lo := ⟨[], 0, 0, SqV.zero, false, tv⟩
theorem acc_zero (w : World) (b base : Nat) (hb : b = w.heap.size) (hbase : base ≤ b) : Acc (w.alloc (.cells #[.int .i32 0, .int .i64 0, .int .i64 0, .int .u8 0, .int .u8 0, .int .i64 0, .int .i64 0, .int .i64 0, .int .i32 0, .int .u8 0, .string ByteArray.empty, .slice none 0 0, .int .u8 0, .string ByteArray.empty, .bool false, .slice none 0 0] 33)) b base (zeroL (.slice none 0 0)) [] Ab.zero (.slice none 0 0) [] [] := by
  subst hb
  refine ⟨⟨⟨⟨⟨0, 0, 0, 0, 0⟩, ⟨rfl, rfl⟩, ?_⟩, Row.nil _ _ _ _ _⟩, VP.nil rfl rfl rfl, ⟨rfl, rfl, rfl, rfl, rfl, rfl, rfl, rfl, rfl, rfl⟩⟩, Row.nil _ _ _ _ _, .nil, (fun s hs => by cases hs), fun k hk => absurd hk (nil_own rfl k), hbase⟩
  exact Blk.new w 33 _
/-- Behind the append of what a Feed told. -/
theorem Acc.next {w1 w2 : World} {b base : Nat} {x : Lo} {ss : List SqV} {a : Ab} {v v2 : Value} {outs : List SqV} {us : List Sq} (h1 : FS w1 b base x ss a) (h2 : Row SqV.cells 7 30 w1 base v outs) (h3 : Fa2 (TellOk w1) (outs ++ ss) us) (h4 : ∀ s ∈ outs ++ ss, ∀ k, OwnB s.pv k → base ≤ k ∧ ¬ OwnB x.q.pv k) (h5 : ∀ k, OwnB x.q.pv k → base ≤ k) (h6 : ∀ k, OwnB v k → ¬ OwnB x.tv k) (hbb : base ≤ b)
    (hr : Row SqV.cells 7 30 w2 base v2 (outs ++ ss)) (hf : Fr (OwnB v) w1 w2) : Acc w2 b base x ss a v2 (outs ++ ss) us := by
  have hp : ∀ k, OwnB x.q.pv k → ¬ OwnB v k := fun k hk hv => h1.vp.row_ne h2 k hv hk
  refine ⟨⟨h1.pl.fr hf (fun hv => ?_) (fun k hk hv => h6 k hv hk), h1.vp.fr hf hp, h1.ab⟩, hr, h3.imp (fun s hs t ht => ht.fr hf (fun k hk hv => ht.ps.row_ne h2 k hv hk)), h4, h5, hbb⟩
  obtain ⟨d, hd, hblk⟩ := h1.pl.blk
  exact Row.not_blk h2 hblk (by decide) hv
set_option maxHeartbeats 4000000 in
theorem pall_any (w : World) (A : Option Addr) (cap : Nat) (l : List Int) (hC : Kd.C (Kd.int .u8) w A l.length l) (hr : ∀ x ∈ l, 0 ≤ x ∧ x ≤ 255) (hl : l.length ≤ 100000) :
    Calls Try.prog 10 #[.slice A l.length cap] w fun e w' => ∃ v outs, e = .returned v ∧ Row SqV.cells 7 30 w' w.heap.size v outs ∧ Fa2 (TellOk w') outs (run (Ab.zero, []) l).2 ∧ Fr NoB w w' ∧ ∀ s ∈ outs, ∀ k, OwnB s.pv k → w.heap.size ≤ k := by
  have HC := hid hC
  have HZ := hid (acc_zero w w.heap.size w.heap.size rfl (Nat.le_refl _))
  have HF0 : Hid (Fr NoB w (w.alloc (.cells #[.int .i32 0, .int .i64 0, .int .i64 0, .int .u8 0, .int .u8 0, .int .i64 0, .int .i64 0, .int .i64 0, .int .i32 0, .int .u8 0, .string ByteArray.empty, .slice none 0 0, .int .u8 0, .string ByteArray.empty, .bool false, .slice none 0 0] 33))) := (Fr.refl NoB w).alloc _
  clear hC
  go_enter Try.func10, Try.ntmps10
  go_wp2
  go_loopw [4, 9] (fun v4 v9 wr => ∃ (k : Nat) (x : Lo) (ts : List SqV) (outs : List SqV), k ≤ l.length ∧ v9 = .int .i64 k ∧ Hid (Acc wr w.heap.size w.heap.size x ts (run (Ab.zero, []) (l.take k)).1 v4 outs (run (Ab.zero, []) (l.take k)).2) ∧ Hid (Fr NoB w wr)) (fun _ v9 _ => l.length - (intOf v9).toNat)
  case atStart => exact ⟨0, _, [], [], Nat.zero_le _, rfl, HZ, HF0⟩
  case round =>
    obtain ⟨k, x, ts, outs, hk, rfl, HA, HF⟩ := hrel
    by_cases hlt : k < l.length
    · obtain ⟨ad, e, hcell⟩ := C_at (Kd.C_below HC.out HF.out.below0) k hlt
      cases e
      have hrk := hr _ (List.getElem_mem hlt)
      have hrun := run_snoc (Ab.zero, []) (l.take k) l[k]
      rw [← List.take_succ_eq_append_getElem hlt] at hrun
      have HR := hid hrun
      have hlen := run_len Ab.zero l k
      have hinv := run_inv (Inv.zero 0) [] l k
      generalize run (Ab.zero, []) (l.take k) = s at *
      have HI := hid hinv
      have hol : outs.length ≤ 2 * k := by rw [HA.out.ok.length]; exact hlen
      clear hlen
      have HFD := hid (pfeed_any wr w.heap.size w.heap.size x ts s.1 (0 + k) l[k] HA.out.fs HI.out.toOkS (by omega) HF.out.size hrk.1 hrk.2)
      clear hrun hinv
      go_wp2_with fail
      refine HFD.out.mono ?_
      intro e' w1 h1
      obtain ⟨x', ss, rfl, q1, q2, q3, _, q5, q6, q7, q8, q9, q10, q11⟩ := Acc.feed HA.out HF.out.size h1
      have hfl : ss.length ≤ 2 := by rw [q11]; exact feed_len s.1 l[k]
      clear q11
      obtain ⟨A0, c0, hv4, _⟩ := Row.shape HA.out.row
      subst hv4
      obtain ⟨A2, c2, htv, _⟩ := Row.shape q5
      rw [htv] at q5
      have HQ1 := hid q1
      have HQ2 := hid q2
      have HQ3 := hid q3
      have HQ6 := hid q6
      have HQ7 := hid q7
      have HQ8 := hid q8
      have HQ10 : Hid (Fr NoB w w1) := HF.out.then_ (q10 wr NoB (Fr.refl NoB _)) (fun k hk => .inr (hk.elim (fun h => h.elim) id))
      have HB1 := hid (Nat.le_trans HF.out.size q9)
      have HS := hid (told_src q5)
      have HTV := hid htv
      clear h1 q1 q2 q3 q5 q6 q7 q8 q9 q10
      rw [htv]
      clear htv
      rcases HS.out with ⟨rfl, e1, e2⟩ | ⟨ad2, rfl, e1, e2⟩
      · subst e1
        have HN : Hid (Acc w1 w.heap.size w.heap.size x' [] (s.1.feed l[k]).1 (.slice A0 outs.length c0) (outs ++ []) (s.2 ++ (s.1.feed l[k]).2)) := Acc.next HQ1.out HQ2.out HQ3.out HQ6.out HQ7.out HQ8.out (Nat.le_refl _) (by rw [List.append_nil]; exact HQ2.out) (Fr.refl _ _)
        rw [List.append_nil] at HN
        go_wp2_with (at_builtin; refine row_app0 (f := SqV.cells) (sz := 7) w.heap.size rfl (.tmp 13) (.tmp 15) 31 30 SqV.zero.v 80 rfl Try.underlying31 infoSeq (.slice A0 outs.length c0) outs c2 rfl rfl HQ2.out ?_)
        go_roundw
        case rel => exact ⟨k + 1, x', [], outs, by omega, by go_num, by rw [HR.out]; exact HN, HQ10⟩
        case measure => simp [intOf]; omega
      · have HE2 := hid e2

        go_wp2_with (at_builtin; (refine row_apps (f := SqV.cells) SqV.len SqV.one w.heap.size rfl (.tmp 13) (.tmp 15) 31 30 SqV.zero.v 80 rfl Try.underlying31 infoSeq rfl (by omega) (by omega) (.slice A0 outs.length c0) outs ss ad2 ss.length c2 rfl rfl (show Hid (ss.length = ss.length) from rfl) HE2.out HQ2.out HB1.out (by omega) ?_; intro v5 w2 hr5 hf5 hat5))
        have HN := hid (Acc.next HQ1.out HQ2.out HQ3.out HQ6.out HQ7.out HQ8.out (Nat.le_refl _) hr5 hf5)
        go_roundw
        case rel => exact ⟨k + 1, x', ss, outs ++ ss, by omega, by go_num, by rw [HR.out]; exact HN, HQ10.out.then_ hf5 (fun k hk => .inr (Row.lt HQ2.out k hk).1)⟩
        case measure => simp [intOf]; omega
    · obtain rfl : k = l.length := by omega
      rw [List.take_length] at HA
      go_wp2
      go_ret
      exact ⟨_, outs, rfl, HA.out.row, HA.out.ok, HF.out, fun s hs k hk => (HA.out.own s hs k hk).1⟩
end Go.Proofs.Ytlpjehmanodhpaa
