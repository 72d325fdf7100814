import Derived.Test.YtlpjehmanodhpaaN34
set_option linter.unusedSimpArgs false
set_option linter.unusedVariables false
namespace Go.Proofs.Ytlpjehmanodhpaa
open Go.RowKit Go.Proofs.YtlpjehmanodhpaaW.PrintWords
theorem FS.fr {S : Nat → Prop} {w w1 : World} {b base : Nat} {x : Lo} {ts : List SqV} {a : Ab} (h : FS w b base x ts a) (hf : Fr S w w1) (hb : ¬ S b) (h1 : ∀ k, OwnB x.tv k → ¬ S k) (h2 : ∀ k, OwnB x.q.pv k → ¬ S k) : FS w1 b base x ts a :=
  ⟨h.pl.fr hf hb h1, h.vp.fr hf h2, h.ab⟩
/-- The program's parser at pb and the reference's at rb, in the same state, apart. -/
structure Two (w : World) (pb rb base : Nat) (x : Lo) (ts : List SqV) (rx : RL) (rts : List SqV) (a : Ab) : Prop where
  fs : FS w pb base x ts a
  rf : RF w rb base rx rts a
  ne : pb ≠ rb
  lt : pb < w.heap.size
  dis : ∀ k, RB rx k → k ≠ pb ∧ ¬ OwnB x.q.pv k
  own : ∀ k, OwnB x.q.pv k → base ≤ k
theorem Two.first {w w1 : World} {pb rb base : Nat} {x : Lo} {ts : List SqV} {rx : RL} {rts : List SqV} {a : Ab} {c : Int} {e : Ending} (h : Two w pb rb base x ts rx rts a) (hf : RFOut rb base rx (a.feed c) w e w1) :
    e = .returned (.tuple #[]) ∧ FS w1 pb base x ts a ∧ Fr (At rb) w w1 := by
  obtain ⟨rfl, x', ss, q1, q2, q3, q4, q5, q6⟩ := hf
  refine ⟨rfl, h.fs.fr q3 h.ne (fun k hk he => ?_) (fun k hk he => ?_), q3⟩
  · have he' : k = rb := he
    subst he'
    exact Row.not_blk h.fs.pl.row h.rf.rp.blk (by decide) hk
  · have he' : k = rb := he
    subst he'
    exact h.fs.vp.ne h.rf.rp.blk (by decide) hk
theorem Two.second {w w1 w2 : World} {pb rb base : Nat} {x : Lo} {ts : List SqV} {rx : RL} {rts : List SqV} {a : Ab} {c : Int} {e e2 : Ending} (h : Two w pb rb base x ts rx rts a) (hbase : base ≤ w.heap.size) (hf : RFOut rb base rx (a.feed c) w e w1) (hg : FeedOut pb base x (a.feed c) w1 e2 w2) :
    ∃ (x' : Lo) (ss : List SqV) (rx' : RL) (rss : List SqV), e2 = .returned x'.tv ∧ Two w2 pb rb base x' ss rx' rss (a.feed c).1 ∧ Fa2 (TellOk w2) ss (a.feed c).2 ∧ Fa2 (TellOk w2) rss (a.feed c).2 ∧ Fr (fun k => k = pb ∨ OwnB x.q.pv k) w1 w2 := by
  obtain ⟨rfl, rx', rss, q1, q2, q3, q4, q5, q6⟩ := hf
  obtain ⟨x', ss, rfl, p1, p2, p3, p4, p5, p6, p7, p8⟩ := hg
  have hsz := q3.size
  have hfar : ∀ k, RB rx k ∨ w.heap.size ≤ k → ¬ (k = pb ∨ OwnB x.q.pv k) := fun k hk he => by
    rcases hk with hk | hk
    · obtain ⟨d1, d2⟩ := h.dis k hk
      exact he.elim d1 d2
    · rcases he with rfl | he
      · have := h.lt; omega
      · have := h.fs.vp.lt k he; omega
  refine ⟨x', ss, rx', rss, rfl, ⟨⟨p1, p2, p3⟩, q1.fr p5 (fun he => ?_) (fun k hk => hfar k (q4 k hk)), h.ne, Nat.lt_of_lt_of_le h.lt (Nat.le_trans hsz p5.size), fun k hk => ⟨fun he => hfar k (q4 k hk) (.inl he), fun he => ?_⟩, fun k hk => ?_⟩, p4, q2.imp (fun s hs t ht => ht.fr p5 (fun k hk => hfar k (q5 s hs k hk))), p5⟩
  · rcases he with he | he
    · exact h.ne he.symm
    · exact h.fs.vp.ne h.rf.rp.blk (by decide) he
  · rcases p7 k he with h5 | h5
    · exact hfar k (q4 k hk) (.inr h5)
    · have := q1.lt k hk
      omega
  · rcases p7 k hk with h5 | h5
    · exact h.own k h5
    · omega
theorem Two.frd {w w1 : World} {pb rb base : Nat} {x : Lo} {ts : List SqV} {rx : RL} {rts : List SqV} {a : Ab} (h : Two w pb rb base x ts rx rts a) (hf : Fr NoB w w1) : Two w1 pb rb base x ts rx rts a :=
  ⟨h.fs.frd hf, h.rf.fr hf (fun h => h) (fun _ _ h => h), h.ne, Nat.lt_of_lt_of_le h.lt hf.size, h.dis, h.own⟩
set_option maxRecDepth 100000 in
set_option maxHeartbeats 8000000 in
theorem tells_walk (A : Option Addr) (cap : Nat) (l : List Int) (w : World) (hC : Kd.C (Kd.int .u8) w A l.length l) (hc : l.length ≤ cap) (hy : l.length * 1 ≤ 140737488351232) (hw : ∀ x ∈ l, (Lit.int .u8 x).wf = true) :
    Calls Try.prog 3 #[.slice A l.length cap] w fun e w' => e = .returned (.bool true) ∧ Below w.heap.size w w' := by
  have hr : ∀ x ∈ l, 0 ≤ x ∧ x ≤ 255 := fun x hx => by
    have := hw x hx
    simp [Lit.wf, IntKind.min, IntKind.max, IntKind.signed, IntKind.bits] at this
    omega
  clear hw
  by_cases hl : l.length ≤ 600
  · have HCA := hid hC
    have HF0 : Hid (Fr NoB w ((w.alloc (.cells #[.int .i32 0, .int .i64 0, .int .i64 0, .int .u8 0, .int .u8 0, .int .i64 0, .int .i64 0, .int .i64 0, .int .i32 0, .int .u8 0, .string ByteArray.empty, .slice none 0 0, .int .u8 0, .string ByteArray.empty, .bool false, .slice none 0 0] 33)).alloc (.cells #[.int .i64 0, .int .i64 0, .slice none 0 0, .int .i64 0, .int .i32 0, .int .u8 0, .string ByteArray.empty, .slice none 0 0, .int .u8 0, .string ByteArray.empty, .bool false, .slice none 0 0] 36))) := ((Fr.refl NoB w).alloc _).alloc _
    have HZ : Hid (Two ((w.alloc (.cells #[.int .i32 0, .int .i64 0, .int .i64 0, .int .u8 0, .int .u8 0, .int .i64 0, .int .i64 0, .int .i64 0, .int .i32 0, .int .u8 0, .string ByteArray.empty, .slice none 0 0, .int .u8 0, .string ByteArray.empty, .bool false, .slice none 0 0] 33)).alloc (.cells #[.int .i64 0, .int .i64 0, .slice none 0 0, .int .i64 0, .int .i32 0, .int .u8 0, .string ByteArray.empty, .slice none 0 0, .int .u8 0, .string ByteArray.empty, .bool false, .slice none 0 0] 36)) w.heap.size (w.heap.size + 1) w.heap.size (zeroL (.slice none 0 0)) [] (zeroR (.slice none 0 0)) [] Ab.zero) := by
      have h1 := (acc_zero w w.heap.size w.heap.size rfl (Nat.le_refl _)).fs
      have h2 := rf_zero (w.alloc (.cells #[.int .i32 0, .int .i64 0, .int .i64 0, .int .u8 0, .int .u8 0, .int .i64 0, .int .i64 0, .int .i64 0, .int .i32 0, .int .u8 0, .string ByteArray.empty, .slice none 0 0, .int .u8 0, .string ByteArray.empty, .bool false, .slice none 0 0] 33)) w.heap.size
      rw [World.size_alloc] at h2
      refine ⟨h1.frd ((Fr.refl NoB _).alloc _), h2, by omega, by rw [World.size_alloc, World.size_alloc]; omega, fun k hk => ?_, fun k hk => absurd hk (nil_own rfl k)⟩
      rcases hk with hk | hk | ⟨hk, _⟩
      · exact absurd hk (nil_own rfl k)
      · exact absurd hk (no_rb k)
      · exact absurd hk (Nat.lt_irrefl 0)
    clear hC
    go_enter Try.func3, Try.ntmps3
    go_wp2
    go_loopw [5] (fun v5 wr => ∃ (k : Nat) (x : Lo) (ts : List SqV) (rx : RL) (rts : List SqV), k ≤ l.length ∧ v5 = .int .i64 k ∧ Hid (Two wr w.heap.size (w.heap.size + 1) w.heap.size x ts rx rts (run (Ab.zero, []) (l.take k)).1) ∧ Hid (Fr NoB w wr)) (fun v5 _ => l.length - (intOf v5).toNat)
    case atStart => exact ⟨0, _, [], _, [], Nat.zero_le _, rfl, HZ, HF0⟩
    case round =>
      obtain ⟨k, x, ts, rx, rts, hk, rfl, HA, HF⟩ := hrel
      by_cases hlt : k < l.length
      · obtain ⟨ad, e, hcell⟩ := C_at (Kd.C_below HCA.out HF.out.below0) k hlt
        cases e
        have hrk := hr _ (List.getElem_mem hlt)
        have hrun := run_snoc (Ab.zero, []) (l.take k) l[k]
        rw [← List.take_succ_eq_append_getElem hlt] at hrun
        have HR := hid hrun
        have hinv := run_rinv (RInv.zero 0) [] l hr k
        generalize run (Ab.zero, []) (l.take k) = s at *
        have HI := hid hinv
        generalize hlk : l[k] = c at *
        have HFD := hid (rfeed_any wr (w.heap.size + 1) w.heap.size rx rts s.1 (0 + k) c HA.out.rf HI.out (by omega) HF.out.size hrk.1 hrk.2)
        have HCC : Hid (∀ W, Fr NoB w W → W.cell? (ad.add k) = some (.int .u8 c)) := fun W hW => by
          obtain ⟨ad2, e2, hc2⟩ := C_at (Kd.C_below HCA.out hW.below0) k hlt
          obtain rfl := Option.some.inj e2
          rw [← hlk]
          exact hc2
        have HLK := hid hlk
        clear hrun hinv hlk
        go_wp2_with fail
        refine HFD.out.mono ?_
        intro e' w1 h1
        obtain ⟨rfl, hfs, hfr⟩ := Two.first HA.out h1
        have HPF := hid (pfeed_any w1 w.heap.size w.heap.size x ts s.1 (0 + k) c hfs HI.out.toInv.toOkS (by omega) (Nat.le_trans HF.out.size hfr.size) hrk.1 hrk.2)
        have H1 := hid h1
        have HF1 : Hid (Fr NoB w w1) := HF.out.then_ hfr (fun k hk => .inr (by have hk' : k = w.heap.size + 1 := hk; omega))
        have hcell1 := HCC.out w1 HF1.out
        clear h1 hfs hfr
        go_wp2_with fail
        refine HPF.out.mono ?_
        intro e' w2 h2
        obtain ⟨x', ss, rx', rss, rfl, q1, q2, q3, q4⟩ := Two.second HA.out HF.out.size H1.out h2
        have HF2 : Hid (Fr NoB w w2) := HF1.out.then_ q4 (fun k hk => .inr (hk.elim (fun h => by omega) (fun h => HA.out.own k h)))
        have hss : ss.length ≤ 2 := by rw [q2.length]; exact feed_len _ _
        obtain ⟨A2, c2, htv, _⟩ := Row.shape q1.fs.pl.row
        obtain ⟨A3, c3, htv3, _⟩ := Row.shape q1.rf.rp.row
        have HGr : Hid (∀ W, Fr NoB w2 W → Calls Try.prog 9 #[.pointer (some ⟨w.heap.size, 0, none⟩)] W fun e w' => e = .returned (.bool (decide ((s.1.feed c).1.st = 0 ∧ (s.1.feed c).1.p = []))) ∧ w' = W) := fun W hW => ground_any W _ _ x' ss _ (q1.fs.frd hW)
        have HSA : Hid (∀ W, Fr NoB w2 W → Calls Try.prog 8 #[x'.tv, rx'.tv] W fun e w' => e = .returned (.bool true) ∧ Fr NoB W w') := fun W hW =>
          refSameAll_any W _ _ _ _ _ _ _ (q1.fs.pl.row.fr hW (fun _ _ h => h)) (q1.rf.rp.row.fr hW (fun _ _ h => h)) (q2.imp (fun s _ t h => h.fr hW (fun _ _ h => h))) (q3.imp (fun s _ t h => h.fr hW (fun _ _ h => h))) (by rw [← q2.length]; omega)
        have b1 := q1.rf.rp.blk
        have hst := q1.rf.ab.st
        have hpp := q1.rf.ab.p
        have hltr := b1.lt
        have c0 := b1.cell 0 rfl
        have c2' := b1.cell 2 rfl
        have c11 := b1.cell 11 rfl
        rw [htv3] at c11
        rw [htv, htv3] at HSA
        rw [hst] at c0
        rw [hpp] at c2'
        have HSv : Hid (∀ W, Fr NoB w2 W → (Fr NoB w2 W ∧ W.cell? ⟨w.heap.size + 1, 0, none⟩ = some (.int .i64 (s.1.feed c).1.st) ∧ W.cell? ⟨w.heap.size + 1, 2, none⟩ = some (.slice rx'.wA (s.1.feed c).1.p.length rx'.wc) ∧ W.cell? ⟨w.heap.size + 1, 11, none⟩ = some (.slice A3 rss.length c3))) := fun W hW =>
          ⟨hW, cell_to c0 hW (fun h => h), cell_to c2' hW (fun h => h), cell_to c11 hW (fun h => h)⟩
        have HQ1 := hid q1
        clear h2 q1 q2 q3 q4 b1 hst hpp htv3
        rw [htv]
        clear htv
        have t5 : decide ((ss.length : Int) > 3) = false := decide_eq_false (by omega)
        clear hss
        generalize (s.1.feed c).1.st = st at HGr HSv
        generalize (s.1.feed c).1.p = p at HGr HSv
        by_cases h0 : st = 0
        · by_cases hp : p = []
          · have e : decide (st = 0 ∧ p = []) = true := by simp [h0, hp]
            rw [e] at HGr
            have t1 : (st == 0) = true := by rw [beq_iff_eq]; exact h0
            have t2 : ((p.length : Int) == 0) = true := by rw [hp]; rfl
            clear e h0 hp
            generalize p.length = n at HSv t2
            go_wp2
            go_region_held3 (fun W : World => Fr NoB w2 W ∧ W.cell? ⟨w.heap.size + 1, 0, none⟩ = some (.int .i64 st) ∧ W.cell? ⟨w.heap.size + 1, 2, none⟩ = some (.slice rx'.wA n rx'.wc) ∧ W.cell? ⟨w.heap.size + 1, 11, none⟩ = some (.slice A3 rss.length c3)) (first | exact HSv.out _ (Fr.drew (Fr.refl _ _)) | exact HSv.out _ (Fr.trans (Fr.drew (Fr.refl _ _)) (by assumption)) | exact HSv.out _ (Fr.trans (by assumption : Fr NoB w2 _ ∧ _ ∧ _).1 (by assumption)) | exact HSv.out _ (by assumption) | fail) (first | (go_at_call 8; refine (HSA.out _ (by first | exact (by assumption : Fr NoB w2 _ ∧ _ ∧ _).1 | exact Fr.drew (Fr.refl _ _))).mono ?_; rintro e' w6 ⟨rfl, hf6⟩) | (go_at_call 9; refine (HGr.out _ (by first | exact (by assumption : Fr NoB w2 _ ∧ _ ∧ _).1 | exact Fr.drew (Fr.refl _ _))).mono ?_; rintro e' w7 ⟨rfl, rfl⟩) | fail)
            have HF7 : Hid (Fr NoB w2 w7) := (by assumption : Fr NoB w2 w7 ∧ _ ∧ _).1
            go_wp2
            go_roundw
            case rel => exact ⟨k + 1, x', ss, rx', rss, by omega, by go_num, by rw [HR.out]; exact HQ1.out.frd HF7.out, HF2.out.trans HF7.out⟩
            case measure => simp [intOf]; omega
          · have e : decide (st = 0 ∧ p = []) = false := by simp [hp]
            rw [e] at HGr
            have t1 : (st == 0) = true := by rw [beq_iff_eq]; exact h0
            have t2 : ((p.length : Int) == 0) = false := by
              rw [beq_eq_false_iff_ne]
              intro h
              exact hp (List.eq_nil_of_length_eq_zero (by omega))
            clear e hp h0
            generalize p.length = n at HSv t2
            go_wp2
            go_region_held3 (fun W : World => Fr NoB w2 W ∧ W.cell? ⟨w.heap.size + 1, 0, none⟩ = some (.int .i64 st) ∧ W.cell? ⟨w.heap.size + 1, 2, none⟩ = some (.slice rx'.wA n rx'.wc) ∧ W.cell? ⟨w.heap.size + 1, 11, none⟩ = some (.slice A3 rss.length c3)) (first | exact HSv.out _ (Fr.drew (Fr.refl _ _)) | exact HSv.out _ (Fr.trans (Fr.drew (Fr.refl _ _)) (by assumption)) | exact HSv.out _ (Fr.trans (by assumption : Fr NoB w2 _ ∧ _ ∧ _).1 (by assumption)) | exact HSv.out _ (by assumption) | fail) (first | (go_at_call 8; refine (HSA.out _ (by first | exact (by assumption : Fr NoB w2 _ ∧ _ ∧ _).1 | exact Fr.drew (Fr.refl _ _))).mono ?_; rintro e' w6 ⟨rfl, hf6⟩) | (go_at_call 9; refine (HGr.out _ (by first | exact (by assumption : Fr NoB w2 _ ∧ _ ∧ _).1 | exact Fr.drew (Fr.refl _ _))).mono ?_; rintro e' w7 ⟨rfl, rfl⟩) | fail)
            have HF7 : Hid (Fr NoB w2 w7) := (by assumption : Fr NoB w2 w7 ∧ _ ∧ _).1
            go_wp2
            go_roundw
            case rel => exact ⟨k + 1, x', ss, rx', rss, by omega, by go_num, by rw [HR.out]; exact HQ1.out.frd HF7.out, HF2.out.trans HF7.out⟩
            case measure => simp [intOf]; omega
        · have e : decide (st = 0 ∧ p = []) = false := by simp [h0]
          rw [e] at HGr
          have t1 : (st == 0) = false := by rw [beq_eq_false_iff_ne]; exact h0
          clear e h0
          generalize p.length = n at HSv
          go_wp2
          clear HA HF HPF H1 HCC HFD HF1 hcell hcell1
          refine wp_region_held_drew (S := (fun W : World => Fr NoB w2 W ∧ W.cell? ⟨w.heap.size + 1, 0, none⟩ = some (.int .i64 st) ∧ W.cell? ⟨w.heap.size + 1, 2, none⟩ = some (.slice rx'.wA n rx'.wc) ∧ W.cell? ⟨w.heap.size + 1, 11, none⟩ = some (.slice A3 rss.length c3))) (by kernel_rfl) (HSv.out _ (Fr.drew (Fr.refl _ _))) (fun hHeld => ?_)
          refine wpAnyH_take (i := 0) (oi := { dst := some 30, op := Op.move (Operand.tmp 6), type := 31, pos := "law.go:26", after := #[], guard := none }) (v := ?v0) rfl (by kernel_rfl) (by kernel_rfl) (by kernel_rfl) (fun _ _ _ h => h) (Or.inl ⟨by rfl, ?hy0⟩) (by assumption) ?r0
          case hy0 => (intro w hSw; (try dsimp only at hSw); go_simp; try (with_reducible rfl))
          try simp only [Act.put, List.setIfInBounds_toArray, List.set_cons_zero, List.set_cons_succ]
          refine wpAnyH_take (i := 1) (oi := { dst := some 31, op := Op.move (Operand.tmp 4), type := 34, pos := "law.go:26", after := #[], guard := none }) (v := ?v1) rfl (by kernel_rfl) (by kernel_rfl) (by kernel_rfl) (fun _ _ _ h => h) (Or.inl ⟨by rfl, ?hy1⟩) (by assumption) ?r1
          case hy1 => (intro w hSw; (try dsimp only at hSw); go_simp; try (with_reducible rfl))
          try simp only [Act.put, List.setIfInBounds_toArray, List.set_cons_zero, List.set_cons_succ]
          refine wpAnyH_take (i := 2) (oi := { dst := some 32, op := Op.nilCheck (Operand.tmp 31), type := 0, pos := "law.go:26", after := #[{ on := 1, ground := Ground.data }], guard := none }) (v := ?v2) rfl (by kernel_rfl) (by kernel_rfl) (by kernel_rfl) (fun _ _ _ h => h) (Or.inl ⟨by rfl, ?hy2⟩) (by assumption) ?r2
          case hy2 => (intro w hSw; (try dsimp only at hSw); go_simp; try (with_reducible rfl))
          try simp only [Act.put, List.setIfInBounds_toArray, List.set_cons_zero, List.set_cons_succ]
          refine wpAnyH_take (i := 3) (oi := { dst := some 33, op := Op.fieldAddr 36 (Operand.tmp 32) 5, type := 0, pos := "law.go:26", after := #[{ on := 2, ground := Ground.data }], guard := none }) (v := ?v3) rfl (by kernel_rfl) (by kernel_rfl) (by kernel_rfl) (fun _ _ _ h => h) (Or.inl ⟨by rfl, ?hy3⟩) (by assumption) ?r3
          case hy3 => (intro w hSw; (try dsimp only at hSw); go_simp; try (with_reducible rfl))
          try simp only [Act.put, List.setIfInBounds_toArray, List.set_cons_zero, List.set_cons_succ]
          refine wpAnyH_take (i := 4) (oi := { dst := some 34, op := Op.load 31 (Operand.tmp 33), type := 31, pos := "law.go:26", after := #[{ on := 3, ground := Ground.data }], guard := none }) (v := ?v4) rfl (by kernel_rfl) (by kernel_rfl) (by kernel_rfl) (fun _ _ _ h => h) (Or.inl ⟨by rfl, ?hy4⟩) (by assumption) ?r4
          case hy4 => (intro w hSw; (try dsimp only at hSw); go_simp; try (with_reducible rfl))
          try simp only [Act.put, List.setIfInBounds_toArray, List.set_cons_zero, List.set_cons_succ]
          refine wpAnyH_ready (rs := [5]) (by kernel_rfl) (by simp) ?_
          refine AllReadyH.cons (o := { dst := some 35, op := Op.call { callee := Callee.value (Operand.func 8), args := #[Operand.tmp 30, Operand.tmp 34], argTypes := #[31, 31] }, type := 4, pos := "law.go:26", after := #[{ on := 0, ground := Ground.data }, { on := 4, ground := Ground.data }], guard := none }) rfl (fun K hK => ?_) AllReadyH.nil
          go_simp
          refine (HSA.out _ (Fr.drew (Fr.refl _ _))).mono ?_
          rintro e' w6 ⟨rfl, hf6⟩
          have HF6 : Hid (Fr NoB w2 w6) := Fr.trans (Fr.drew (Fr.refl _ _)) hf6
          clear hHeld
          go_wp2_with fail
          refine hK.out _ _ (HSv.out _ HF6.out) (fun hHeld => ?_)
          clear hK K
          try simp only [Act.put, List.setIfInBounds_toArray, List.set_cons_zero, List.set_cons_succ]
          refine wpAnyH_take (i := 6) (oi := { dst := some 36, op := Op.unOp UnOp.not 4 (Operand.tmp 35), type := 4, pos := "law.go:26", after := #[{ on := 5, ground := Ground.data }], guard := none }) (v := ?v6) rfl (by kernel_rfl) (by kernel_rfl) (by kernel_rfl) (fun _ _ _ h => h) (Or.inl ⟨by rfl, ?hy6⟩) (by assumption) ?r6
          case hy6 => (intro w hSw; (try dsimp only at hSw); go_simp; try (with_reducible rfl))
          try simp only [Act.put, List.setIfInBounds_toArray, List.set_cons_zero, List.set_cons_succ]
          refine wpAnyH_take (i := 7) (oi := { dst := some 37, op := Op.move (Operand.tmp 36), type := 4, pos := "law.go:26", after := #[{ on := 6, ground := Ground.data }, { on := 5, ground := Ground.chain }], guard := none }) (v := ?v7) rfl (by kernel_rfl) (by kernel_rfl) (by kernel_rfl) (fun _ _ _ h => h) (Or.inl ⟨by rfl, ?hy7⟩) (by assumption) ?r7
          case hy7 => (intro w hSw; (try dsimp only at hSw); go_simp; try (with_reducible rfl))
          try simp only [Act.put, List.setIfInBounds_toArray, List.set_cons_zero, List.set_cons_succ]
          refine wpAnyH_take (i := 8) (oi := { dst := some 38, op := Op.move (Operand.tmp 6), type := 31, pos := "law.go:26", after := #[{ on := 7, ground := Ground.guard }], guard := some (7, false) }) (v := ?v8) rfl (by kernel_rfl) (by kernel_rfl) (by kernel_rfl) (fun _ _ _ h => h) (Or.inl ⟨by rfl, ?hy8⟩) (by assumption) ?r8
          case hy8 => (intro w hSw; (try dsimp only at hSw); go_simp; try (with_reducible rfl))
          try simp only [Act.put, List.setIfInBounds_toArray, List.set_cons_zero, List.set_cons_succ]
          refine wpAnyH_take (i := 9) (oi := { dst := some 39, op := Op.call { callee := Callee.builtin Builtin.len, args := #[Operand.tmp 38], argTypes := #[31] }, type := 3, pos := "law.go:26", after := #[{ on := 8, ground := Ground.data }, { on := 7, ground := Ground.guard }], guard := some (7, false) }) (v := ?v9) rfl (by kernel_rfl) (by kernel_rfl) (by kernel_rfl) (fun _ _ _ h => h) (Or.inl ⟨by rfl, ?hy9⟩) (by assumption) ?r9
          case hy9 => (intro w hSw; (try dsimp only at hSw); go_simp; try (with_reducible rfl))
          try simp only [Act.put, List.setIfInBounds_toArray, List.set_cons_zero, List.set_cons_succ]
          refine wpAnyH_take (i := 10) (oi := { dst := some 40, op := Op.binOp BinOp.gtr 3 (Operand.tmp 39) (Operand.const (Value.int IntKind.i64 3)) 3, type := 4, pos := "law.go:26", after := #[{ on := 9, ground := Ground.data }, { on := 7, ground := Ground.guard }], guard := some (7, false) }) (v := ?v10) rfl (by kernel_rfl) (by kernel_rfl) (by kernel_rfl) (fun _ _ _ h => h) (Or.inl ⟨by rfl, ?hy10⟩) (by assumption) ?r10
          case hy10 => (intro w hSw; (try dsimp only at hSw); go_simp; try (with_reducible rfl))
          try simp only [Act.put, List.setIfInBounds_toArray, List.set_cons_zero, List.set_cons_succ]
          refine wpAnyH_take (i := 11) (oi := { dst := some 41, op := Op.pick (Operand.tmp 37) (Operand.const (Value.bool true)) (Operand.tmp 40), type := 4, pos := "law.go:26", after := #[{ on := 7, ground := Ground.data }, { on := 10, ground := Ground.data }], guard := none }) (v := ?v11) rfl (by kernel_rfl) (by kernel_rfl) (by kernel_rfl) (fun _ _ _ h => h) (Or.inl ⟨by rfl, ?hy11⟩) (by assumption) ?r11
          case hy11 => (intro w hSw; (try dsimp only at hSw); go_simp; try (with_reducible rfl))
          try simp only [Act.put, List.setIfInBounds_toArray, List.set_cons_zero, List.set_cons_succ]
          refine wpAnyH_take (i := 12) (oi := { dst := some 42, op := Op.move (Operand.tmp 41), type := 4, pos := "law.go:26", after := #[{ on := 11, ground := Ground.data }, { on := 7, ground := Ground.chain }], guard := none }) (v := ?v12) rfl (by kernel_rfl) (by kernel_rfl) (by kernel_rfl) (fun _ _ _ h => h) (Or.inl ⟨by rfl, ?hy12⟩) (by assumption) ?r12
          case hy12 => (intro w hSw; (try dsimp only at hSw); go_simp; try (with_reducible rfl))
          try simp only [Act.put, List.setIfInBounds_toArray, List.set_cons_zero, List.set_cons_succ]
          refine wpAnyH_take (i := 14) (oi := { dst := some 44, op := Op.move (Operand.tmp 4), type := 34, pos := "law.go:26", after := #[{ on := 12, ground := Ground.guard }], guard := some (12, false) }) (v := ?v14) rfl (by kernel_rfl) (by kernel_rfl) (by kernel_rfl) (fun _ _ _ h => h) (Or.inl ⟨by rfl, ?hy14⟩) (by assumption) ?r14
          case hy14 => (intro w hSw; (try dsimp only at hSw); go_simp; try (with_reducible rfl))
          try simp only [Act.put, List.setIfInBounds_toArray, List.set_cons_zero, List.set_cons_succ]
          refine wpAnyH_take (i := 15) (oi := { dst := some 45, op := Op.nilCheck (Operand.tmp 44), type := 0, pos := "law.go:26", after := #[{ on := 14, ground := Ground.data }, { on := 12, ground := Ground.guard }], guard := some (12, false) }) (v := ?v15) rfl (by kernel_rfl) (by kernel_rfl) (by kernel_rfl) (fun _ _ _ h => h) (Or.inl ⟨by rfl, ?hy15⟩) (by assumption) ?r15
          case hy15 => (intro w hSw; (try dsimp only at hSw); go_simp; try (with_reducible rfl))
          try simp only [Act.put, List.setIfInBounds_toArray, List.set_cons_zero, List.set_cons_succ]
          refine wpAnyH_take (i := 16) (oi := { dst := some 46, op := Op.fieldAddr 36 (Operand.tmp 45) 0, type := 0, pos := "law.go:26", after := #[{ on := 15, ground := Ground.data }, { on := 12, ground := Ground.guard }], guard := some (12, false) }) (v := ?v16) rfl (by kernel_rfl) (by kernel_rfl) (by kernel_rfl) (fun _ _ _ h => h) (Or.inl ⟨by rfl, ?hy16⟩) (by assumption) ?r16
          case hy16 => (intro w hSw; (try dsimp only at hSw); go_simp; try (with_reducible rfl))
          try simp only [Act.put, List.setIfInBounds_toArray, List.set_cons_zero, List.set_cons_succ]
          refine wpAnyH_take (i := 17) (oi := { dst := some 47, op := Op.load 3 (Operand.tmp 46), type := 3, pos := "law.go:26", after := #[{ on := 16, ground := Ground.data }, { on := 12, ground := Ground.guard }], guard := some (12, false) }) (v := ?v17) rfl (by kernel_rfl) (by kernel_rfl) (by kernel_rfl) (fun _ _ _ h => h) (Or.inl ⟨by rfl, ?hy17⟩) (by assumption) ?r17
          case hy17 => (intro w hSw; (try dsimp only at hSw); go_simp; try (with_reducible rfl))
          try simp only [Act.put, List.setIfInBounds_toArray, List.set_cons_zero, List.set_cons_succ]
          refine wpAnyH_take (i := 18) (oi := { dst := some 48, op := Op.binOp BinOp.eql 3 (Operand.tmp 47) (Operand.const (Value.int IntKind.i64 0)) 3, type := 4, pos := "law.go:26", after := #[{ on := 17, ground := Ground.data }, { on := 12, ground := Ground.guard }], guard := some (12, false) }) (v := ?v18) rfl (by kernel_rfl) (by kernel_rfl) (by kernel_rfl) (fun _ _ _ h => h) (Or.inl ⟨by rfl, ?hy18⟩) (by assumption) ?r18
          case hy18 => (intro w hSw; (try dsimp only at hSw); go_simp; try (with_reducible rfl))
          try simp only [Act.put, List.setIfInBounds_toArray, List.set_cons_zero, List.set_cons_succ]
          refine wpAnyH_ready (rs := [13]) (by kernel_rfl) (by simp) ?_
          refine AllReadyH.cons (o := { dst := some 43, op := Op.call { callee := Callee.value (Operand.func 9), args := #[Operand.tmp 3], argTypes := #[33] }, type := 4, pos := "law.go:26", after := #[{ on := 12, ground := Ground.chain }, { on := 12, ground := Ground.guard }], guard := some (12, false) }) rfl (fun K hK => ?_) AllReadyH.nil
          go_simp
          refine (HGr.out _ HF6.out).mono ?_
          rintro e' w7 ⟨rfl, rfl⟩
          go_wp2_with fail
          refine hK.out _ _ (HSv.out _ HF6.out) (fun hHeld => ?_)
          clear hK K
          try simp only [Act.put, List.setIfInBounds_toArray, List.set_cons_zero, List.set_cons_succ]
          refine wpAnyH_take (i := 19) (oi := { dst := some 49, op := Op.move (Operand.tmp 48), type := 4, pos := "law.go:26", after := #[{ on := 18, ground := Ground.data }, { on := 13, ground := Ground.chain }, { on := 12, ground := Ground.guard }], guard := some (12, false) }) (v := ?v19) rfl (by kernel_rfl) (by kernel_rfl) (by kernel_rfl) (fun _ _ _ h => h) (Or.inl ⟨by rfl, ?hy19⟩) (by assumption) ?r19
          case hy19 => (intro w hSw; (try dsimp only at hSw); go_simp; try (with_reducible rfl))
          try simp only [Act.put, List.setIfInBounds_toArray, List.set_cons_zero, List.set_cons_succ]
          refine wpAnyH_take (i := 20) (oi := { dst := some 50, op := Op.move (Operand.tmp 4), type := 34, pos := "law.go:26", after := #[{ on := 19, ground := Ground.guard }], guard := some (19, true) }) (v := undef) rfl (by kernel_rfl) (by kernel_rfl) (by kernel_rfl) (fun _ _ _ h => h) (Or.inr ⟨by rfl, rfl⟩) (by assumption) ?_
          try simp only [Act.put, List.setIfInBounds_toArray, List.set_cons_zero, List.set_cons_succ]
          refine wpAnyH_take (i := 21) (oi := { dst := some 51, op := Op.nilCheck (Operand.tmp 50), type := 0, pos := "law.go:26", after := #[{ on := 20, ground := Ground.data }, { on := 19, ground := Ground.guard }], guard := some (19, true) }) (v := undef) rfl (by kernel_rfl) (by kernel_rfl) (by kernel_rfl) (fun _ _ _ h => h) (Or.inr ⟨by rfl, rfl⟩) (by assumption) ?_
          try simp only [Act.put, List.setIfInBounds_toArray, List.set_cons_zero, List.set_cons_succ]
          refine wpAnyH_take (i := 22) (oi := { dst := some 52, op := Op.fieldAddr 36 (Operand.tmp 51) 2, type := 0, pos := "law.go:26", after := #[{ on := 21, ground := Ground.data }, { on := 19, ground := Ground.guard }], guard := some (19, true) }) (v := undef) rfl (by kernel_rfl) (by kernel_rfl) (by kernel_rfl) (fun _ _ _ h => h) (Or.inr ⟨by rfl, rfl⟩) (by assumption) ?_
          try simp only [Act.put, List.setIfInBounds_toArray, List.set_cons_zero, List.set_cons_succ]
          refine wpAnyH_take (i := 23) (oi := { dst := some 53, op := Op.load 22 (Operand.tmp 52), type := 22, pos := "law.go:26", after := #[{ on := 22, ground := Ground.data }, { on := 19, ground := Ground.guard }], guard := some (19, true) }) (v := undef) rfl (by kernel_rfl) (by kernel_rfl) (by kernel_rfl) (fun _ _ _ h => h) (Or.inr ⟨by rfl, rfl⟩) (by assumption) ?_
          try simp only [Act.put, List.setIfInBounds_toArray, List.set_cons_zero, List.set_cons_succ]
          refine wpAnyH_take (i := 24) (oi := { dst := some 54, op := Op.call { callee := Callee.builtin Builtin.len, args := #[Operand.tmp 53], argTypes := #[22] }, type := 3, pos := "law.go:26", after := #[{ on := 23, ground := Ground.data }, { on := 19, ground := Ground.guard }], guard := some (19, true) }) (v := undef) rfl (by kernel_rfl) (by kernel_rfl) (by kernel_rfl) (fun _ _ _ h => h) (Or.inr ⟨by rfl, rfl⟩) (by assumption) ?_
          try simp only [Act.put, List.setIfInBounds_toArray, List.set_cons_zero, List.set_cons_succ]
          refine wpAnyH_take (i := 25) (oi := { dst := some 55, op := Op.binOp BinOp.eql 3 (Operand.tmp 54) (Operand.const (Value.int IntKind.i64 0)) 3, type := 4, pos := "law.go:26", after := #[{ on := 24, ground := Ground.data }, { on := 19, ground := Ground.guard }], guard := some (19, true) }) (v := undef) rfl (by kernel_rfl) (by kernel_rfl) (by kernel_rfl) (fun _ _ _ h => h) (Or.inr ⟨by rfl, rfl⟩) (by assumption) ?_
          try simp only [Act.put, List.setIfInBounds_toArray, List.set_cons_zero, List.set_cons_succ]
          refine wpAnyH_take (i := 26) (oi := { dst := some 56, op := Op.pick (Operand.tmp 49) (Operand.tmp 55) (Operand.const (Value.bool false)), type := 4, pos := "law.go:26", after := #[{ on := 19, ground := Ground.data }, { on := 25, ground := Ground.data }, { on := 12, ground := Ground.guard }], guard := some (12, false) }) (v := ?v26) rfl (by kernel_rfl) (by kernel_rfl) (by kernel_rfl) (fun _ _ _ h => h) (Or.inl ⟨by rfl, ?hy26⟩) (by assumption) ?r26
          case hy26 => (intro w hSw; (try dsimp only at hSw); go_simp; try (with_reducible rfl))
          try simp only [Act.put, List.setIfInBounds_toArray, List.set_cons_zero, List.set_cons_succ]
          refine wpAnyH_take (i := 27) (oi := { dst := some 57, op := Op.binOp BinOp.neq 4 (Operand.tmp 43) (Operand.tmp 56) 4, type := 4, pos := "law.go:26", after := #[{ on := 13, ground := Ground.data }, { on := 26, ground := Ground.data }, { on := 12, ground := Ground.guard }], guard := some (12, false) }) (v := ?v27) rfl (by kernel_rfl) (by kernel_rfl) (by kernel_rfl) (fun _ _ _ h => h) (Or.inl ⟨by rfl, ?hy27⟩) (by assumption) ?r27
          case hy27 => (intro w hSw; (try dsimp only at hSw); go_simp; try (with_reducible rfl))
          try simp only [Act.put, List.setIfInBounds_toArray, List.set_cons_zero, List.set_cons_succ]
          refine wpAnyH_take (i := 28) (oi := { dst := some 58, op := Op.pick (Operand.tmp 42) (Operand.const (Value.bool true)) (Operand.tmp 57), type := 4, pos := "law.go:26", after := #[{ on := 12, ground := Ground.data }, { on := 27, ground := Ground.data }], guard := none }) (v := ?v28) rfl (by kernel_rfl) (by kernel_rfl) (by kernel_rfl) (fun _ _ _ h => h) (Or.inl ⟨by rfl, ?hy28⟩) (by assumption) ?r28
          case hy28 => (intro w hSw; (try dsimp only at hSw); go_simp; try (with_reducible rfl))
          try simp only [Act.put, List.setIfInBounds_toArray, List.set_cons_zero, List.set_cons_succ]
          refine wpAnyH_done (by kernel_rfl) ?_ _
          have HF7 : Hid (Fr NoB w2 w7) := (by assumption : Fr NoB w2 w7 ∧ _ ∧ _).1
          go_wp2
          go_roundw
          case rel => exact ⟨k + 1, x', ss, rx', rss, by omega, by go_num, by rw [HR.out]; exact HQ1.out.frd HF7.out, HF2.out.trans HF7.out⟩
          case measure => simp [intOf]; omega
      · obtain rfl : k = l.length := by omega
        have hlen := run_len Ab.zero l l.length
        rw [List.take_length] at hlen
        have HP := hid (pall_any wr A cap l (Kd.C_below HCA.out HF.out.below0) hr (by omega))
        generalize hu : (run (Ab.zero, []) l).2 = us at *
        have HU := hid hu
        clear hu HA
        go_wp2_with fail
        refine HP.out.mono ?_
        rintro e' w5 ⟨v, outs2, rfl, r2, o2, f2, _⟩
        have HRA := hid (rall_any w5 A cap l (Kd.C_below HCA.out (HF.out.trans f2).below0) hr (by omega))
        obtain ⟨A2, c2, hv2, _⟩ := Row.shape r2
        have HR2 := hid r2
        have HO2 := hid o2
        have HF5 := hid (HF.out.trans f2)
        clear r2 o2 f2
        rw [hv2] at HR2 ⊢
        clear hv2
        go_wp2_with fail
        refine HRA.out.mono ?_
        rintro e' w6 ⟨v', outs3, rfl, r3, o3, f3⟩
        rw [HU.out] at o3
        have HSA := hid (refSameAll_any w6 _ _ _ _ _ _ us (HR2.out.fr f3 (fun _ _ h => h)) r3 (HO2.out.imp (fun s _ t h => h.fr f3 (fun _ _ h => h))) o3 (by omega))
        have HF6 := hid (HF5.out.trans f3)
        obtain ⟨A6, c6, hv6, _⟩ := Row.shape r3
        rw [hv6] at HSA
        rw [hv6]
        clear r3 o3 f3 hv6 hlen
        go_wp2_with fail
        refine HSA.out.mono ?_
        rintro e' w7 ⟨rfl, f7⟩
        have HF7 := hid (HF6.out.trans f7)
        clear f7
        go_wp2_with fail
        refine (awake_any w7).mono ?_
        rintro e' w8 ⟨rfl, f8⟩
        have HF8 := hid (HF7.out.trans f8)
        clear f8
        go_wp2
        go_ret
        exact ⟨rfl, HF8.out.below0⟩
  · skip
    go_enter Try.func3, Try.ntmps3
    go_wp2_with fail
    refine (awake_any _).mono ?_
    rintro e w4 ⟨rfl, hf4⟩
    go_wp2
    go_ret
    exact ⟨rfl, hf4.below0⟩
end Go.Proofs.Ytlpjehmanodhpaa
