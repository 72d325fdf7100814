import Derived.Test.YtlpjehmanodhpaaN20
import Derived.LoopTactic
set_option linter.unusedSimpArgs false
set_option linter.unusedVariables false
namespace Go.Proofs.Ytlpjehmanodhpaa
open Go.RowKit Go.Proofs.YtlpjehmanodhpaaW.PrintWords
/-- A parser that is fed, and has told nothing that is kept. -/
def Fed (w0 : Nat) (w : World) (x : Lo) (ts : List SqV) (a : Ab) : Prop := Acc w w0 w0 x ts a (.slice none 0 0) [] []
theorem Fed.feed {w0 w : World} {x : Lo} {ts : List SqV} {a : Ab} {c : Int} {e : Ending} {w1 : World} (h : Fed w0.heap.size w x ts a) (hf : Fr NoB w0 w) (hfd : FeedOut w0.heap.size w0.heap.size x (a.feed c) w e w1) :
    ∃ (x' : Lo) (ss : List SqV), e = .returned x'.tv ∧ Fed w0.heap.size w1 x' ss (a.feed c).1 ∧ Row SqV.cells 7 30 w1 w0.heap.size x'.tv ss ∧ Fa2 (TellOk w1) ss (a.feed c).2 ∧ Fr NoB w0 w1 := by
  obtain ⟨x', ss, rfl, q1, q2, q3, _, q5, q6, q7, q8, q9, q10, q11⟩ := Acc.feed h hf.size hfd
  exact ⟨x', ss, rfl, ⟨q1, Row.nil _ _ _ _ _, .nil, (fun s hs => by cases hs), q7, Nat.le_refl _⟩, q5, q3, hf.then_ (q10 w NoB (Fr.refl NoB _)) (fun k hk => .inr (hk.elim (fun h => h.elim) id))⟩
theorem ground_zero (w : World) (b base : Nat) (x : Lo) (ts : List SqV) (h : FS w b base x ts Ab.zero) : Calls Try.prog 9 #[.pointer (some ⟨b, 0, none⟩)] w fun e w' => e = .returned (.bool true) ∧ w' = w := ground_any w b base x ts Ab.zero h
set_option maxRecDepth 100000 in
set_option maxHeartbeats 8000000 in
theorem cancels_walk (A : Option Addr) (cap : Nat) (l : List Int) (B : Option Addr) (cap2 : Nat) (l2 : List Int) (can : Bool) (w : World) (hC : Kd.C (Kd.int .u8) w A l.length l) (hc : l.length ≤ cap) (hy : l.length * 1 ≤ 140737488351232) (hw : ∀ x ∈ l, (Lit.int .u8 x).wf = true)
    (hC2 : Kd.C (Kd.int .u8) w B l2.length l2) (hc2 : l2.length ≤ cap2) (hy2 : l2.length * 1 ≤ 140737488351232) (hw2 : ∀ x ∈ l2, (Lit.int .u8 x).wf = true) :
    Calls Try.prog 4 #[.slice A l.length cap, .slice B l2.length cap2, .bool can] w fun e w' => e = .returned (.bool true) ∧ Below w.heap.size w w' := by
  have hby : ∀ {l : List Int}, (∀ x ∈ l, (Lit.int .u8 x).wf = true) → ∀ x ∈ l, 0 ≤ x ∧ x ≤ 255 := fun hw x hx => by
    have := hw x hx
    simp [Lit.wf, IntKind.min, IntKind.max, IntKind.signed, IntKind.bits] at this
    omega
  have hr := hby hw
  have hr2 := hby hw2
  clear hby hw hw2
  have HCA := hid hC
  have HCB := hid hC2
  have HZ : Hid (Fed w.heap.size _ (zeroL (.slice none 0 0)) [] Ab.zero) := acc_zero w w.heap.size w.heap.size rfl (Nat.le_refl _)
  have HF0 : Hid (Fr NoB w (w.alloc (.cells #[.int .i32 0, .int .i64 0, .int .i64 0, .int .u8 0, .int .u8 0, .int .i64 0, .int .i64 0, .int .i64 0, .int .i32 0, .int .u8 0, .string ByteArray.empty, .slice none 0 0, .int .u8 0, .string ByteArray.empty, .bool false, .slice none 0 0] 33))) := (Fr.refl NoB w).alloc _
  clear hC hC2
  by_cases hl : l.length ≤ 400
  · by_cases hl2 : l2.length ≤ 400
    · go_enter Try.func4, Try.ntmps4
      go_wp2
      go_loopw [8] (fun v8 wr => ∃ (k : Nat) (x : Lo) (ts : List SqV), k ≤ l.length ∧ v8 = .int .i64 k ∧ Hid (Fed w.heap.size wr x ts (run (Ab.zero, []) (l.take k)).1) ∧ Hid (Fr NoB w wr)) (fun v8 _ => l.length - (intOf v8).toNat)
      case atStart => exact ⟨0, _, [], Nat.zero_le _, rfl, HZ, HF0⟩
      case round =>
        obtain ⟨k, x, ts, hk, rfl, HA, HF⟩ := hrel
        by_cases hlt : k < l.length
        · skip
          obtain ⟨ad, e, hcell⟩ := C_at (Kd.C_below HCA.out HF.out.below0) k hlt
          cases e
          have hrk := hr _ (List.getElem_mem hlt)
          have hrun := run_snoc (Ab.zero, []) (l.take k) l[k]
          rw [← List.take_succ_eq_append_getElem hlt] at hrun
          have HR := hid hrun
          have hinv := run_inv (Inv.zero 0) [] l k
          generalize run (Ab.zero, []) (l.take k) = s at *
          have HI := hid hinv
          have HFD := hid (pfeed_any wr w.heap.size w.heap.size x ts s.1 (0 + k) l[k] HA.out.fs HI.out.toOkS (by omega) HF.out.size hrk.1 hrk.2)
          clear hrun hinv
          go_wp2_with fail
          refine HFD.out.mono ?_
          intro e' w1 h1
          obtain ⟨x', ss, rfl, q1, q2, q3, q4⟩ := Fed.feed HA.out HF.out h1
          have hgood := feed_good HI.out l[k]
          have HQ1 := hid q1
          have HQ2 := hid q2
          have HQ3 := hid q3
          have HQ4 := hid q4
          have HG := hid hgood
          obtain ⟨A2, c2, htv, _⟩ := Row.shape q2
          clear h1 q1 q2 q3 q4 hgood
          rw [htv]
          rw [htv] at HQ2
          clear htv
          obtain ⟨n, hn⟩ : ∃ n, n = ss.length := ⟨_, rfl⟩
          have hn9 : n ≤ 2 := by rw [hn, HQ3.out.length]; exact feed_len _ _
          have HN := hid hn
          rw [← hn]
          rw [← hn] at HQ2
          clear hn
          go_wp2
          go_loopw [10] (fun v10 wq => ∃ (j : Nat), j ≤ n ∧ v10 = .int .i64 j ∧ wq = w1) (fun v10 _ => n - (intOf v10).toNat)
          case atStart => exact ⟨0, Nat.zero_le _, rfl, rfl⟩
          case round =>
            obtain ⟨j, hj, rfl, rfl⟩ := hrel
            by_cases hjn : j < n
            · have j1 : j < ss.length := by rw [← HN.out]; exact hjn
              obtain ⟨u, hu, _, tu⟩ := HQ3.out.at j j1
              have hgu := HG.out u hu
              have q := HQ2.out
              rw [HN.out] at q
              obtain ⟨g, cg, e1, _, _⟩ := Row.ptr q (by omega)
              injection e1 with e11 e12 e13
              subst e11
              clear e12 e13
              have d3 := Row.cell q SqV.len j j1 3 (by omega) rfl
              have d4 := Row.cell q SqV.len j j1 4 (by omega) rfl
              have d6 := Row.cell q SqV.len j j1 6 (by omega) rfl
              have hpc := tu.ps.pc
              obtain ⟨n1, nle, nmx⟩ := tu.ps.cap
              have n16 := hgu.len
              have i2 := hgu.inter
              have x2 := hgu.text
              rw [← n1] at n16
              rw [← tu.inter] at i2
              rw [← tu.text] at x2
              have hrng := hgu.rng
              have HPC := hid hpc
              have HRG := hid hrng
              have HN1 := hid n1
              clear q hu tu hgu hpc nle nmx hrng n1
              generalize ss[j] = sv at *
              have t1 : decide ((sv.pn : Int) > 16) = false := by simp; omega
              have t2 : decide ((sv.inter.size : Int) > 2) = false := by simp; omega
              have t3 : decide ((sv.text.size : Int) > 256) = false := by simp; omega
              clear i2 x2
              go_wp2
              go_loopw [11] (fun v11 wz => ∃ (i : Nat), i ≤ sv.pn ∧ v11 = .int .i64 i ∧ wz = wr) (fun v11 _ => sv.pn - (intOf v11).toNat)
              case atStart => exact ⟨0, Nat.zero_le _, rfl, rfl⟩
              case round =>
                obtain ⟨i, hi, rfl, rfl⟩ := hrel
                by_cases hin : i < sv.pn
                · obtain ⟨ad, hA, hcell⟩ := HPC.out i (by rw [← HN1.out]; exact hin)
                  obtain ⟨y1, y2⟩ := HRG.out _ (List.getElem_mem (show i < u.params.length by rw [← HN1.out]; exact hin))
                  generalize u.params[i]'(by rw [← HN1.out]; exact hin) = y at *
                  have t4 : decide (y < -1) = false := by simp; omega
                  have t5 : decide (y > 9999) = false := by simp; omega
                  rw [hA] at d4
                  go_wp2
                  go_roundw
                  case rel => exact ⟨i + 1, by omega, by go_num, by first | trivial | rfl⟩
                  case measure => simp [intOf]; omega
                · obtain rfl : i = sv.pn := by omega
                  go_wp2
                  go_roundw
                  case rel => exact ⟨j + 1, by omega, by go_num, by first | trivial | rfl⟩
                  case measure => simp [intOf]; omega
            · obtain rfl : j = n := by omega
              go_wp2
              go_roundw
              case rel => exact ⟨k + 1, x', ss, by omega, by go_num, by rw [HR.out]; exact HQ1, HQ4⟩
              case measure => simp [intOf]; omega
        · obtain rfl : k = l.length := by omega
          rw [List.take_length] at HA
          have hinv := run_inv (Inv.zero 0) [] l l.length
          rw [List.take_length] at hinv
          generalize run (Ab.zero, []) l = s at *
          have HI := hid hinv
          clear hinv
          cases can
          · skip
            have HFD := hid (pfeed_any wr w.heap.size w.heap.size x ts s.1 (0 + l.length) 26 HA.out.fs HI.out.toOkS (by omega) HF.out.size (by decide) (by decide))
            have hz := cancel_zero HI.out 26 (.inr rfl)
            go_wp2_with fail
            refine HFD.out.mono ?_
            intro e' w1 h1
            obtain ⟨x', ss, rfl, q1, q2, q3, q4⟩ := Fed.feed HA.out HF.out h1
            rw [hz] at q1
            have HQ1 := hid q1
            have HQ4 := hid q4
            obtain ⟨A2, c2, htv, _⟩ := Row.shape q2
            clear h1 q1 q2 q3 q4 hz HFD HA HF HI
            rw [htv]
            clear htv
            go_wp2_with fail
            refine (ground_zero w1 _ _ x' ss HQ1.out.fs).mono ?_
            rintro e' w2 ⟨rfl, rfl⟩
            go_wp2
            go_loopw [13, 14] (fun v13 v14 wr => ∃ (k : Nat) (x : Lo) (ts : List SqV) (outs : List SqV), k ≤ l2.length ∧ v14 = .int .i64 k ∧ Hid (Acc wr w.heap.size w.heap.size x ts (run (Ab.zero, []) (l2.take k)).1 v13 outs (run (Ab.zero, []) (l2.take k)).2) ∧ Hid (Fr NoB w wr)) (fun _ v14 _ => l2.length - (intOf v14).toNat)
            case atStart => exact ⟨0, _, _, [], Nat.zero_le _, rfl, HQ1, HQ4⟩
            case round =>
              obtain ⟨k, x, ts, outs, hk, rfl, HA, HF⟩ := hrel
              by_cases hlt : k < l2.length
              · obtain ⟨ad, e, hcell⟩ := C_at (Kd.C_below HCB.out HF.out.below0) k hlt
                subst e
                have hrk := hr2 _ (List.getElem_mem hlt)
                have hrun := run_snoc (Ab.zero, []) (l2.take k) l2[k]
                rw [← List.take_succ_eq_append_getElem hlt] at hrun
                have HR := hid hrun
                have hlen := run_len Ab.zero l2 k
                have hinv := run_inv (Inv.zero 0) [] l2 k
                generalize run (Ab.zero, []) (l2.take k) = s at *
                have HI := hid hinv
                have hol : outs.length ≤ 2 * k := by rw [HA.out.ok.length]; exact hlen
                clear hlen
                have HFD := hid (pfeed_any wr w.heap.size w.heap.size x ts s.1 (0 + k) l2[k] HA.out.fs HI.out.toOkS (by omega) HF.out.size hrk.1 hrk.2)
                clear hrun hinv
                obtain ⟨A0, c0, hv4, _⟩ := Row.shape HA.out.row
                subst hv4
                go_wp2_with fail
                refine HFD.out.mono ?_
                intro e' w5 h1
                obtain ⟨x', ss, rfl, q1, q2, q3, _, q5, q6, q7, q8, q9, q10, q11⟩ := Acc.feed HA.out HF.out.size h1
                have hfl : ss.length ≤ 2 := by rw [q11]; exact feed_len s.1 l2[k]
                clear q11
                obtain ⟨A2, c2, htv, _⟩ := Row.shape q5
                rw [htv] at q5
                have HQ1 := hid q1
                have HQ2 := hid q2
                have HQ3 := hid q3
                have HQ6 := hid q6
                have HQ7 := hid q7
                have HQ8 := hid q8
                have HQ10 : Hid (Fr NoB w w5) := HF.out.then_ (q10 wr NoB (Fr.refl NoB _)) (fun k hk => .inr (hk.elim (fun h => h.elim) id))
                have HB1 := hid (Nat.le_trans HF.out.size q9)
                have HS := hid (told_src q5)
                clear h1 q1 q2 q3 q5 q6 q7 q8 q9 q10
                rw [htv]
                clear htv
                rcases HS.out with ⟨rfl, e1, e2⟩ | ⟨ad2, rfl, e1, e2⟩
                · subst e1
                  have HN : Hid (Acc w5 w.heap.size w.heap.size x' [] (s.1.feed l2[k]).1 (.slice A0 outs.length c0) (outs ++ []) (s.2 ++ (s.1.feed l2[k]).2)) := Acc.next HQ1.out HQ2.out HQ3.out HQ6.out HQ7.out HQ8.out (Nat.le_refl _) (by rw [List.append_nil]; exact HQ2.out) (Fr.refl _ _)
                  rw [List.append_nil] at HN
                  go_wp2_with (at_builtin; refine row_app0 (f := SqV.cells) (sz := 7) w.heap.size rfl (.tmp 107) (.tmp 112) 31 30 SqV.zero.v 80 rfl Try.underlying31 infoSeq (.slice A0 outs.length c0) outs c2 rfl rfl HQ2.out ?_)
                  go_roundw
                  case rel => exact ⟨k + 1, x', [], outs, by omega, by go_num, by rw [HR.out]; exact HN, HQ10⟩
                  case measure => simp [intOf]; omega
                · have HE2 := hid e2
                  clear e1 e2
                  go_wp2_with (at_builtin; (refine row_apps (f := SqV.cells) SqV.len SqV.one w.heap.size rfl (.tmp 107) (.tmp 112) 31 30 SqV.zero.v 80 rfl Try.underlying31 infoSeq rfl (by omega) (by omega) (.slice A0 outs.length c0) outs ss ad2 ss.length c2 rfl rfl (show Hid (ss.length = ss.length) from rfl) HE2.out HQ2.out HB1.out (by omega) ?_; intro v5 w7 hr5 hf5 hat5))
                  have HN := hid (Acc.next HQ1.out HQ2.out HQ3.out HQ6.out HQ7.out HQ8.out (Nat.le_refl _) hr5 hf5)
                  have HF7 : Hid (Fr NoB w w7) := HQ10.out.then_ hf5 (fun k hk => .inr (Row.lt HQ2.out k hk).1)
                  clear hr5 hf5 hat5
                  go_roundw
                  case rel => exact ⟨k + 1, x', ss, outs ++ ss, by omega, by go_num, by rw [HR.out]; exact HN, HF7⟩
                  case measure => simp [intOf]; omega
              · obtain rfl : k = l2.length := by omega
                rw [List.take_length] at HA
                have hlen := run_len Ab.zero l2 l2.length
                rw [List.take_length] at hlen
                generalize hu : (run (Ab.zero, []) l2).2 = us at *
                obtain ⟨A0, c0, hv4, _⟩ := Row.shape HA.out.row
                subst hv4
                have HP := hid (pall_any wr B cap2 l2 (Kd.C_below HCB.out HF.out.below0) hr2 (by omega))
                rw [hu] at HP
                go_wp2_with fail
                refine HP.out.mono ?_
                rintro e' w5 ⟨v, outs2, rfl, r2, o2, f2, _⟩
                have HSA := hid (refSameAll_any w5 _ _ _ _ _ _ us (HA.out.row.fr f2 (fun _ _ h => h)) r2 (HA.out.ok.imp (fun s _ t h => h.fr f2 (fun _ _ h => h))) o2 (by omega))
                have HF5 := hid (HF.out.trans f2)
                obtain ⟨A6, c6, hv6, _⟩ := Row.shape r2
                rw [hv6] at HSA
                rw [hv6]
                clear r2 o2 f2 hv6 hlen
                go_wp2_with fail
                refine HSA.out.mono ?_
                rintro e' w6 ⟨rfl, f6⟩
                have HF6 := hid (HF5.out.trans f6)
                clear f6
                go_wp2_with fail
                refine (awake_any w6).mono ?_
                rintro e' w7 ⟨rfl, f7⟩
                have HF7 := hid (HF6.out.trans f7)
                clear f7
                go_wp2
                go_ret
                exact ⟨rfl, HF7.out.below0⟩
          · skip
            have HFD := hid (pfeed_any wr w.heap.size w.heap.size x ts s.1 (0 + l.length) 24 HA.out.fs HI.out.toOkS (by omega) HF.out.size (by decide) (by decide))
            have hz := cancel_zero HI.out 24 (.inl rfl)
            go_wp2_with fail
            refine HFD.out.mono ?_
            intro e' w1 h1
            obtain ⟨x', ss, rfl, q1, q2, q3, q4⟩ := Fed.feed HA.out HF.out h1
            rw [hz] at q1
            have HQ1 := hid q1
            have HQ4 := hid q4
            obtain ⟨A2, c2, htv, _⟩ := Row.shape q2
            clear h1 q1 q2 q3 q4 hz HFD HA HF HI
            rw [htv]
            clear htv
            go_wp2_with fail
            refine (ground_zero w1 _ _ x' ss HQ1.out.fs).mono ?_
            rintro e' w2 ⟨rfl, rfl⟩
            go_wp2
            go_loopw [13, 14] (fun v13 v14 wr => ∃ (k : Nat) (x : Lo) (ts : List SqV) (outs : List SqV), k ≤ l2.length ∧ v14 = .int .i64 k ∧ Hid (Acc wr w.heap.size w.heap.size x ts (run (Ab.zero, []) (l2.take k)).1 v13 outs (run (Ab.zero, []) (l2.take k)).2) ∧ Hid (Fr NoB w wr)) (fun _ v14 _ => l2.length - (intOf v14).toNat)
            case atStart => exact ⟨0, _, _, [], Nat.zero_le _, rfl, HQ1, HQ4⟩
            case round =>
              obtain ⟨k, x, ts, outs, hk, rfl, HA, HF⟩ := hrel
              by_cases hlt : k < l2.length
              · obtain ⟨ad, e, hcell⟩ := C_at (Kd.C_below HCB.out HF.out.below0) k hlt
                subst e
                have hrk := hr2 _ (List.getElem_mem hlt)
                have hrun := run_snoc (Ab.zero, []) (l2.take k) l2[k]
                rw [← List.take_succ_eq_append_getElem hlt] at hrun
                have HR := hid hrun
                have hlen := run_len Ab.zero l2 k
                have hinv := run_inv (Inv.zero 0) [] l2 k
                generalize run (Ab.zero, []) (l2.take k) = s at *
                have HI := hid hinv
                have hol : outs.length ≤ 2 * k := by rw [HA.out.ok.length]; exact hlen
                clear hlen
                have HFD := hid (pfeed_any wr w.heap.size w.heap.size x ts s.1 (0 + k) l2[k] HA.out.fs HI.out.toOkS (by omega) HF.out.size hrk.1 hrk.2)
                clear hrun hinv
                obtain ⟨A0, c0, hv4, _⟩ := Row.shape HA.out.row
                subst hv4
                go_wp2_with fail
                refine HFD.out.mono ?_
                intro e' w5 h1
                obtain ⟨x', ss, rfl, q1, q2, q3, _, q5, q6, q7, q8, q9, q10, q11⟩ := Acc.feed HA.out HF.out.size h1
                have hfl : ss.length ≤ 2 := by rw [q11]; exact feed_len s.1 l2[k]
                clear q11
                obtain ⟨A2, c2, htv, _⟩ := Row.shape q5
                rw [htv] at q5
                have HQ1 := hid q1
                have HQ2 := hid q2
                have HQ3 := hid q3
                have HQ6 := hid q6
                have HQ7 := hid q7
                have HQ8 := hid q8
                have HQ10 : Hid (Fr NoB w w5) := HF.out.then_ (q10 wr NoB (Fr.refl NoB _)) (fun k hk => .inr (hk.elim (fun h => h.elim) id))
                have HB1 := hid (Nat.le_trans HF.out.size q9)
                have HS := hid (told_src q5)
                clear h1 q1 q2 q3 q5 q6 q7 q8 q9 q10
                rw [htv]
                clear htv
                rcases HS.out with ⟨rfl, e1, e2⟩ | ⟨ad2, rfl, e1, e2⟩
                · subst e1
                  have HN : Hid (Acc w5 w.heap.size w.heap.size x' [] (s.1.feed l2[k]).1 (.slice A0 outs.length c0) (outs ++ []) (s.2 ++ (s.1.feed l2[k]).2)) := Acc.next HQ1.out HQ2.out HQ3.out HQ6.out HQ7.out HQ8.out (Nat.le_refl _) (by rw [List.append_nil]; exact HQ2.out) (Fr.refl _ _)
                  rw [List.append_nil] at HN
                  go_wp2_with (at_builtin; refine row_app0 (f := SqV.cells) (sz := 7) w.heap.size rfl (.tmp 107) (.tmp 112) 31 30 SqV.zero.v 80 rfl Try.underlying31 infoSeq (.slice A0 outs.length c0) outs c2 rfl rfl HQ2.out ?_)
                  go_roundw
                  case rel => exact ⟨k + 1, x', [], outs, by omega, by go_num, by rw [HR.out]; exact HN, HQ10⟩
                  case measure => simp [intOf]; omega
                · have HE2 := hid e2
                  clear e1 e2
                  go_wp2_with (at_builtin; (refine row_apps (f := SqV.cells) SqV.len SqV.one w.heap.size rfl (.tmp 107) (.tmp 112) 31 30 SqV.zero.v 80 rfl Try.underlying31 infoSeq rfl (by omega) (by omega) (.slice A0 outs.length c0) outs ss ad2 ss.length c2 rfl rfl (show Hid (ss.length = ss.length) from rfl) HE2.out HQ2.out HB1.out (by omega) ?_; intro v5 w7 hr5 hf5 hat5))
                  have HN := hid (Acc.next HQ1.out HQ2.out HQ3.out HQ6.out HQ7.out HQ8.out (Nat.le_refl _) hr5 hf5)
                  have HF7 : Hid (Fr NoB w w7) := HQ10.out.then_ hf5 (fun k hk => .inr (Row.lt HQ2.out k hk).1)
                  clear hr5 hf5 hat5
                  go_roundw
                  case rel => exact ⟨k + 1, x', ss, outs ++ ss, by omega, by go_num, by rw [HR.out]; exact HN, HF7⟩
                  case measure => simp [intOf]; omega
              · obtain rfl : k = l2.length := by omega
                rw [List.take_length] at HA
                have hlen := run_len Ab.zero l2 l2.length
                rw [List.take_length] at hlen
                generalize hu : (run (Ab.zero, []) l2).2 = us at *
                obtain ⟨A0, c0, hv4, _⟩ := Row.shape HA.out.row
                subst hv4
                have HP := hid (pall_any wr B cap2 l2 (Kd.C_below HCB.out HF.out.below0) hr2 (by omega))
                rw [hu] at HP
                go_wp2_with fail
                refine HP.out.mono ?_
                rintro e' w5 ⟨v, outs2, rfl, r2, o2, f2, _⟩
                have HSA := hid (refSameAll_any w5 _ _ _ _ _ _ us (HA.out.row.fr f2 (fun _ _ h => h)) r2 (HA.out.ok.imp (fun s _ t h => h.fr f2 (fun _ _ h => h))) o2 (by omega))
                have HF5 := hid (HF.out.trans f2)
                obtain ⟨A6, c6, hv6, _⟩ := Row.shape r2
                rw [hv6] at HSA
                rw [hv6]
                clear r2 o2 f2 hv6 hlen
                go_wp2_with fail
                refine HSA.out.mono ?_
                rintro e' w6 ⟨rfl, f6⟩
                have HF6 := hid (HF5.out.trans f6)
                clear f6
                go_wp2_with fail
                refine (awake_any w6).mono ?_
                rintro e' w7 ⟨rfl, f7⟩
                have HF7 := hid (HF6.out.trans f7)
                clear f7
                go_wp2
                go_ret
                exact ⟨rfl, HF7.out.below0⟩
    · go_enter Try.func4, Try.ntmps4
      go_wp2_with fail
      refine (awake_any _).mono ?_
      rintro e w4 ⟨rfl, hf4⟩
      go_wp2
      go_ret
      exact ⟨rfl, hf4.below0⟩
  · go_enter Try.func4, Try.ntmps4
    go_wp2_with fail
    refine (awake_any _).mono ?_
    rintro e w4 ⟨rfl, hf4⟩
    go_wp2
    go_ret
    exact ⟨rfl, hf4.below0⟩
end Go.Proofs.Ytlpjehmanodhpaa
