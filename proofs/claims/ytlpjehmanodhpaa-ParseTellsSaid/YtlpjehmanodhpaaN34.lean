import Derived.Test.YtlpjehmanodhpaaN30
import Derived.LoopTactic
set_option linter.unusedSimpArgs false
set_option linter.unusedVariables false
namespace Go.Proofs.Ytlpjehmanodhpaa
open Go.RowKit Go.Proofs.YtlpjehmanodhpaaW.PrintWords
theorem RF.lt {w : World} {b base : Nat} {x : RL} {ts : List SqV} {a : Ab} (h : RF w b base x ts a) (k : Nat) (hk : RB x k) : k < w.heap.size := by
  rcases hk with hk | hk | ⟨h0, ad, e, hk⟩
  · exact h.vp.lt k hk
  · exact (Row.lt h.rp.row k hk).2
  · obtain ⟨ad2, e2, hc⟩ := C_at h.cw 0 h0
    rw [e] at e2
    obtain rfl := Option.some.inj e2
    have := cell_lt hc
    rw [add_block] at this
    omega
theorem RF.fr {S : Nat → Prop} {w w1 : World} {b base : Nat} {x : RL} {ts : List SqV} {a : Ab} (h : RF w b base x ts a) (hf : Fr S w w1) (hb : ¬ S b) (hs : ∀ k, RB x k → ¬ S k) : RF w1 b base x ts a :=
  ⟨h.rp.fr hf hb (fun k hk => hs k (.inr (.inl hk))), h.vp.fr hf (fun k hk => hs k (.inl hk)), h.ab, C_fr h.cw hf (fun ad e h0 => hs _ (.inr (.inr ⟨h0, ad, e, rfl⟩))), h.cap, h.far⟩
theorem run_rinv {n : Nat} {a : Ab} (h : RInv n a) (us : List Sq) (l : List Int) (hr : ∀ x ∈ l, 0 ≤ x ∧ x ≤ 255) (k : Nat) : RInv (n + k) (run (a, us) (l.take k)).1 := by
  induction k with
  | zero => simp [run]; exact h
  | succ k ih =>
    rcases Nat.lt_or_ge k l.length with h | h
    · rw [List.take_succ_eq_append_getElem h, run_snoc]
      obtain ⟨h1, h2⟩ := hr _ (List.getElem_mem h)
      exact ih.feed _ h1 h2
    · rw [List.take_of_length_le (by omega)]
      rw [List.take_of_length_le h] at ih
      exact ⟨ih.toInv.mono (by omega), ih.ps, ih.pn, ih.pr, ih.by2⟩
structure RAcc (w : World) (b base : Nat) (x : RL) (ts : List SqV) (a : Ab) (v : Value) (outs : List SqV) (us : List Sq) : Prop where
  rf : RF w b base x ts a
  row : Row SqV.cells 7 30 w base v outs
  ok : Fa2 (TellOk w) outs us
  dis : ∀ k, OwnB v k → ¬ RB x k
  bb : base ≤ b
theorem RAcc.feed {w w1 : World} {b base : Nat} {x : RL} {ts : List SqV} {a : Ab} {v : Value} {outs : List SqV} {us : List Sq} {c : Int} {e : Ending} (h : RAcc w b base x ts a v outs us) (hf : RFOut b base x (a.feed c) w e w1) :
    e = .returned (.tuple #[]) ∧ ∃ (x' : RL) (ss : List SqV), RF w1 b base x' ss (a.feed c).1 ∧ Row SqV.cells 7 30 w1 base v outs ∧ Fa2 (TellOk w1) (outs ++ ss) (us ++ (a.feed c).2) ∧ (∀ k, OwnB v k → ¬ RB x' k) ∧ Fr (At b) w w1 ∧ ss.length = (a.feed c).2.length := by
  obtain ⟨rfl, x', ss, q1, q2, q3, q4, q5, q6⟩ := hf
  refine ⟨rfl, x', ss, q1, h.row.fr q3 (fun k hk he => Row.not_blk h.row h.rf.rp.blk (by decide) (by have he' : k = b := he; subst he'; exact hk)), (h.ok.imp (fun s hs t ht => ht.fr q3 (fun k hk he => ht.ps.ne h.rf.rp.blk (by decide) (by have he' : k = b := he; subst he'; exact hk)))).append q2, fun k hk hr => ?_, q3, q2.length⟩
  rcases q4 k hr with h5 | h5
  · exact h.dis k hk h5
  · have := (Row.lt h.row k hk).2
    omega
theorem RAcc.next {w1 w2 : World} {b base : Nat} {x : RL} {ss : List SqV} {a : Ab} {v v2 : Value} {outs : List SqV} {us : List Sq} (h1 : RF w1 b base x ss a) (h2 : Row SqV.cells 7 30 w1 base v outs) (h3 : Fa2 (TellOk w1) (outs ++ ss) us) (h4 : ∀ k, OwnB v k → ¬ RB x k) (hbb : base ≤ b)
    (hr : Row SqV.cells 7 30 w2 base v2 (outs ++ ss)) (hf : Fr (OwnB v) w1 w2) (hat : ∀ k, OwnB v2 k → OwnB v k ∨ w1.heap.size ≤ k) : RAcc w2 b base x ss a v2 (outs ++ ss) us := by
  refine ⟨h1.fr hf (fun hv => Row.not_blk h2 h1.rp.blk (by decide) hv) (fun k hk hv => h4 k hv hk), hr, h3.imp (fun s hs t ht => ht.fr hf (fun k hk hv => ht.ps.row_ne h2 k hv hk)), fun k hk hk2 => ?_, hbb⟩
  rcases hat k hk with h5 | h5
  · exact h4 k h5 hk2
  · have := h1.lt k hk2
    omega
def zeroR (tv : Value) : RL := ⟨[], none, 0, 0, 0, SqV.zero, false, tv⟩
theorem rf_zero (w : World) (base : Nat) : RF (w.alloc (.cells #[.int .i64 0, .int .i64 0, .slice none 0 0, .int .i64 0, .int .i32 0, .int .u8 0, .string ByteArray.empty, .slice none 0 0, .int .u8 0, .string ByteArray.empty, .bool false, .slice none 0 0] 36)) w.heap.size base (zeroR (.slice none 0 0)) [] Ab.zero :=
  ⟨⟨Blk.new w 36 _, Row.nil _ _ _ _ _⟩, VP.nil rfl rfl rfl, ⟨rfl, rfl, rfl, rfl, rfl, rfl, rfl, rfl, rfl, rfl⟩, C_nil _ _ _, Nat.le_refl _, fun ad e => by cases e⟩
theorem no_rb (k : Nat) : ¬ OwnB (.slice none 0 0) k := fun h => by cases h
theorem own_at {v v1 : Value} {n k : Nat} (h : v1.ownBlock = v.ownBlock ∨ v1.ownBlock = some n) (hk : OwnB v1 k) : OwnB v k ∨ n ≤ k := by
  unfold OwnB at hk ⊢
  rcases h with h | h
  · exact .inl (h.symm.trans hk)
  · rw [h] at hk
    exact .inr (Nat.le_of_eq (Option.some.inj hk))
set_option maxHeartbeats 4000000 in
theorem rall_any (w : World) (A : Option Addr) (cap : Nat) (l : List Int) (hC : Kd.C (Kd.int .u8) w A l.length l) (hr : ∀ x ∈ l, 0 ≤ x ∧ x ≤ 255) (hl : l.length ≤ 1000) :
    Calls Try.prog 11 #[.slice A l.length cap] w fun e w' => ∃ v outs, e = .returned v ∧ Row SqV.cells 7 30 w' w.heap.size v outs ∧ Fa2 (TellOk w') outs (run (Ab.zero, []) l).2 ∧ Fr NoB w w' := by
  have HC := hid hC
  have HZ : Hid (RAcc (w.alloc (.cells #[.int .i64 0, .int .i64 0, .slice none 0 0, .int .i64 0, .int .i32 0, .int .u8 0, .string ByteArray.empty, .slice none 0 0, .int .u8 0, .string ByteArray.empty, .bool false, .slice none 0 0] 36)) w.heap.size w.heap.size (zeroR (.slice none 0 0)) [] Ab.zero (.slice none 0 0) [] []) := ⟨rf_zero w _, Row.nil _ _ _ _ _, .nil, fun k hk => absurd hk (no_rb k), Nat.le_refl _⟩
  have HF0 : Hid (Fr NoB w (w.alloc (.cells #[.int .i64 0, .int .i64 0, .slice none 0 0, .int .i64 0, .int .i32 0, .int .u8 0, .string ByteArray.empty, .slice none 0 0, .int .u8 0, .string ByteArray.empty, .bool false, .slice none 0 0] 36))) := (Fr.refl NoB w).alloc _
  clear hC
  go_enter Try.func11, Try.ntmps11
  go_wp2
  go_loopw [4, 5] (fun v4 v5 wr => ∃ (k : Nat) (x : RL) (ts : List SqV) (outs : List SqV), k ≤ l.length ∧ v5 = .int .i64 k ∧ Hid (RAcc wr w.heap.size w.heap.size x ts (run (Ab.zero, []) (l.take k)).1 v4 outs (run (Ab.zero, []) (l.take k)).2) ∧ Hid (Fr NoB w wr)) (fun _ v5 _ => l.length - (intOf v5).toNat)
  case atStart => exact ⟨0, _, [], [], Nat.zero_le _, rfl, HZ, HF0⟩
  case round =>
    obtain ⟨k, x, ts, outs, hk, rfl, HA, HF⟩ := hrel
    by_cases hlt : k < l.length
    · obtain ⟨ad, e, hcell⟩ := C_at (Kd.C_below HC.out HF.out.below0) k hlt
      cases e
      have hrk := hr _ (List.getElem_mem hlt)
      have hrun := run_snoc (Ab.zero, []) (l.take k) l[k]
      rw [← List.take_succ_eq_append_getElem hlt] at hrun
      have HR := hid hrun
      have hlen := run_len Ab.zero l k
      have hinv := run_rinv (RInv.zero 0) [] l hr k
      generalize run (Ab.zero, []) (l.take k) = s at *
      have HI := hid hinv
      have hol : outs.length ≤ 2 * k := by rw [HA.out.ok.length]; exact hlen
      clear hlen
      have HFD := hid (rfeed_any wr w.heap.size w.heap.size x ts s.1 (0 + k) l[k] HA.out.rf HI.out (by omega) HF.out.size hrk.1 hrk.2)
      clear hrun hinv
      go_wp2_with fail
      refine HFD.out.mono ?_
      intro e' w1 h1
      obtain ⟨rfl, x', ss, q1, q2, q3, q4, q5, q6⟩ := RAcc.feed HA.out h1
      have hfl : ss.length ≤ 2 := by rw [q6]; exact feed_len s.1 l[k]
      clear q6
      obtain ⟨A0, c0, hv4, _⟩ := Row.shape HA.out.row
      subst hv4
      obtain ⟨A2, c2, htv, _⟩ := Row.shape q1.rp.row
      have d11 := q1.rp.blk.cell 11 rfl
      have dlt := q1.rp.blk.lt
      have q7 := q1.rp.row
      rw [htv] at d11 q7
      have HQ1 := hid q1
      have HQ2 := hid q2
      have HQ3 := hid q3
      have HQ4 := hid q4
      have HF1 : Hid (Fr NoB w w1) := HF.out.then_ q5 (fun k hk => .inr (by have hk' : k = w.heap.size := hk; omega))
      have HB1 := hid (HF1.out.size)
      have HS := hid (told_src q7)
      clear h1 q1 q2 q3 q4 q5 q7 htv
      rcases HS.out with ⟨rfl, e1, e2⟩ | ⟨ad2, rfl, e1, e2⟩
      · subst e1
        have HN : Hid (RAcc w1 w.heap.size w.heap.size x' [] (s.1.feed l[k]).1 (.slice A0 outs.length c0) (outs ++ []) (s.2 ++ (s.1.feed l[k]).2)) := RAcc.next HQ1.out HQ2.out HQ3.out HQ4.out (Nat.le_refl _) (by rw [List.append_nil]; exact HQ2.out) (Fr.refl _ _) (fun k hk => .inl hk)
        rw [List.append_nil] at HN
        go_wp2_with (at_builtin; refine row_app0 (f := SqV.cells) (sz := 7) w.heap.size rfl (.tmp 20) (.tmp 24) 31 30 SqV.zero.v 80 rfl Try.underlying31 infoSeq (.slice A0 outs.length c0) outs c2 rfl rfl HQ2.out ?_)
        go_roundw
        case rel => exact ⟨k + 1, x', [], outs, by omega, by go_num, by rw [HR.out]; exact HN, HF1⟩
        case measure => simp [intOf]; omega
      · have HE2 := hid e2
        clear e1 e2
        go_wp2_with (at_builtin; (refine row_apps (f := SqV.cells) SqV.len SqV.one w.heap.size rfl (.tmp 20) (.tmp 24) 31 30 SqV.zero.v 80 rfl Try.underlying31 infoSeq rfl (by omega) (by omega) (.slice A0 outs.length c0) outs ss ad2 ss.length c2 rfl rfl (show Hid (ss.length = ss.length) from rfl) HE2.out HQ2.out HB1.out (by omega) ?_; intro v5 w2 hr5 hf5 hat5))
        have HN := hid (RAcc.next HQ1.out HQ2.out HQ3.out HQ4.out (Nat.le_refl _) hr5 hf5 (fun k hk => own_at hat5 hk))
        go_roundw
        case rel => exact ⟨k + 1, x', ss, outs ++ ss, by omega, by go_num, by rw [HR.out]; exact HN, HF1.out.then_ hf5 (fun k hk => .inr (Row.lt HQ2.out k hk).1)⟩
        case measure => simp [intOf]; omega
    · obtain rfl : k = l.length := by omega
      rw [List.take_length] at HA
      go_wp2
      go_ret
      exact ⟨_, outs, rfl, HA.out.row, HA.out.ok, HF.out⟩
end Go.Proofs.Ytlpjehmanodhpaa
