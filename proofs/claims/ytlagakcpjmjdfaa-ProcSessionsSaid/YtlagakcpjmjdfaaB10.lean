import Derived.Test.YtlagakcpjmjdfaaB7
import Derived.Test.YtlagakcpjmjdfaaA5
import Derived.Deep.AppendLies
set_option linter.unusedSimpArgs false
set_option linter.unusedVariables false
set_option maxRecDepth 20000
namespace Go.Proofs.Ytlagakcpjmjdfaa
open Go.RowKit Go.Proofs.YtlagakcpjmjdfaaW.PrintWords
/-- What Fork of the document's hands back. -/
def RNum (w : World) (v fv : Value) (r : Tb × Int × Int) (e : Ending) (w' : World) : Prop := ∃ v' fv' F', e = .returned (.tuple #[rtv v' r.1.nx fv', .int .i64 r.2.1, .int .i64 r.2.2]) ∧ RT w' v' fv' r.1 F' ∧ Fr NoB w w' ∧ (∀ k, OwnB v' k → OwnB v k ∨ w.heap.size ≤ k) ∧ (∀ k, OwnB fv' k → OwnB fv k ∨ w.heap.size ≤ k)
theorem row_apps_step {α : Type} {f : α → List Value} {sz : Nat} {P : Program} {ops : Array Oper} {o : Oper} {a : Act} {K : Act → World → Prop} {Q : Exit → Act → World → Prop} {E : Prop} {W : World} (hn : ∀ x, (f x).length = sz) (h1 : ∀ x, ∀ u ∈ f x, u.oneCell' = true) (base : Nat) (hgd : o.guard = none) (s x : Operand) (t e : TypeId) (z : Value) (bytes : Nat)
    (ho : o.op = .call { callee := .builtin .append, args := #[s, x], argTypes := #[t, t] })
    (ht : P.underlying t = some (.slice e)) (hinfo : (P.info? e).map (fun i => (i.zero, i.size, i.bytes)) = some (some z, sz, bytes)) (hz : z.cells.size = sz) (hs0 : 0 < sz) (hb0 : 0 < bytes)
    (v : Value) (xs ys : List α) (ad : Addr) (m c : Nat) (hs : a.eval s = v) (hx : a.eval x = .slice (some ad) m c) (hm : Hid (ys.length = m)) (hm0 : 0 < ys.length) (hsrc : ∀ j u, (ys.flatMap f)[j]? = some u → W.cell? (ad.add j) = some u)
    (HO : Row f sz e W base v xs) (hbase : base ≤ W.heap.size) (hl : (xs.length + m) * bytes ≤ 140737488355328)
    (h : ∀ v1 w1, Row f sz e w1 base v1 (xs ++ ys) → Fr (OwnB v) W w1 → (v1.ownBlock = v.ownBlock ∨ v1.ownBlock = some W.heap.size) → K (a.put o.dst v1) w1) :
    if Region.wanted o (yielded ops a.tmps) = true then Oper.wp P o a W K Q else E := by
  obtain ⟨i0, hi, hz0, hz1, hz2⟩ := info_parts hinfo
  have hlen : xs.length + m ≤ 140737488355328 := Nat.le_trans (Nat.le_mul_of_pos_right _ hb0) hl
  refine step_append_lies W hgd s x t ho base e i0 z sz bytes ht hi hz0 hz1 hz2 hz hs0 v xs.length (xs.flatMap f) hs HO ad m c (ys.flatMap f) hx (by rw [flat_len hn, hm.out]) hsrc (flat_one h1 ys) (by have := hm.out; omega) (by simp only [maxLen]; omega) hl hbase W.heap.size rfl ?_
  intro g cap w1 hr hg hat _
  refine h _ w1 ?_ (Fr.of_own hg) ?_
  · unfold Row
    rw [List.length_append, List.flatMap_append, hm.out]
    exact hr
  · rcases hat with e | e
    · exact .inl e.symm
    · exact .inr (congrArg some e)
theorem one_src {w : World} {b : Nat} {p : Pr} (h : Blk w b 51 p.cells) : ∀ j u, ([p].flatMap Pr.cells)[j]? = some u → w.cell? ((⟨b, 0, none⟩ : Addr).add j) = some u := by
  intro j u hj
  have hv : Vec Pr.cells 6 w b 51 [p] [] 1 := ⟨h, rfl⟩
  have h1 := Vec.src hv Pr.len 0 (Nat.zero_le _) [p] (List.prefix_refl _) j u hj
  rw [Nat.zero_mul] at h1
  exact h1
theorem le49 (n : Nat) (h : n ≤ 400) : (n + 1) * 48 ≤ 140737488355328 := by omega
def forkP (p : Pr) (nx pid : Int) : Pr := ⟨nx, pid, p.grp, p.ses, p.tty, p.deaf⟩
set_option maxHeartbeats 4000000 in
theorem rFork_any (w : World) (v fv : Value) (t : Tb) (F : List Int) (pid : Int) (h : RT w v fv t F) (hl : t.l.length ≤ 200) (hn0 : 0 ≤ t.nx) (hn1 : t.nx ≤ 100000) :
    Calls Try.prog 37 #[rtv v t.nx fv, .int .i64 pid] w (RNum w v fv (forkT t pid)) := by
  obtain ⟨A, c, hv, hc⟩ := h.l.shape
  obtain ⟨A2, c2, hfv, _⟩ := h.f.shape
  subst hv hfv
  have hf0 : Fr NoB w ((w.alloc (.cells #[.slice A t.l.length c, .int .i64 t.nx, .slice A2 F.length c2] 43)).alloc (.cells #[.slice none 0 0, .int .i64 0, .slice none 0 0] 43)) := ((Fr.refl _ _).alloc _).alloc _
  have hB := (Blk.new w 43 [.slice A t.l.length c, .int .i64 t.nx, .slice A2 F.length c2]).alloc (.cells #[.slice none 0 0, .int .i64 0, .slice none 0 0] 43)
  have hZ := Blk.new (w.alloc (.cells #[.slice A t.l.length c, .int .i64 t.nx, .slice A2 F.length c2] 43)) 43 [.slice none 0 0, .int .i64 0, .slice none 0 0]
  rw [World.size_alloc] at hZ
  have HB0 := hid hB
  have HZ0 := hid hZ
  have HF0 := hid hf0
  have HR0 := hid (h.frd hf0)
  have HRW := hid h
  have HL := hid hl
  clear h hf0 hB hZ
  have HAt := hid (rAt_any _ _ _ t.nx t F pid HR0.out (by have := HL.out; omega))
  unfold rtv at HAt
  rcases at_cases t.l pid with ⟨h1, h2⟩ | ⟨i, hi, h1, h2, h3⟩
  · have hr : forkT t pid = (t, 0, 5) := by unfold forkT; rw [h2]
    rw [hr]
    rw [h1] at HAt
    clear hr h1 h2
    unfold rtv
    go_enter Try.func37, Try.ntmps37
    go_wp2_with fail
    refine Calls.mono (HAt.out) ?_
    rintro e' w1 ⟨rfl, hfn⟩
    have HF1 := hid (HF0.out.trans hfn)
    have HR1 := hid (HR0.out.frd hfn)
    have HB1 := hid (HB0.out.fr hfn (fun h => h))
    have HZ1 := hid (HZ0.out.fr hfn (fun h => h))
    clear hfn
    have hb := HB1.out
    have hz := HZ1.out
    have b0 := hb.cell 0 rfl
    have b1 := hb.cell 1 rfl
    have b2 := hb.cell 2 rfl
    have z0 := hz.cell 0 rfl
    have z1 := hz.cell 1 rfl
    have z2 := hz.cell 2 rfl
    have y0 := hz.frozen 0
    have y1 := hz.frozen 1
    have y2 := hz.frozen 2
    have yl := hz.lt
    have bl := hb.lt
    clear hb hz
    go_wp2
    have hfz := HF1.out.then_ ((((Fr.refl (At (w.heap.size + 1)) w1).setAt 0 (.slice A t.l.length c)).setAt 1 (.int .i64 t.nx)).setAt 2 (.slice A2 F.length c2)) (fun k e => .inr (by have e' : k = w.heap.size + 1 := e; omega))
    have hne : ∀ k, OwnB (.slice A t.l.length c) k → ¬ At (w.heap.size + 1) k := fun k hk e => Row.not_blk HR1.out.l HZ1.out (by decide) (by have e' : k = w.heap.size + 1 := e; rw [← e']; exact hk)
    have hne2 : ∀ k, OwnB (.slice A2 F.length c2) k → ¬ At (w.heap.size + 1) k := fun k hk e => Row.not_blk HR1.out.f HZ1.out (by decide) (by have e' : k = w.heap.size + 1 := e; rw [← e']; exact hk)
    refine bodyPost_ret (v := .tuple #[rtv (.slice A t.l.length c) t.nx (.slice A2 F.length c2), .int .i64 0, .int .i64 5]) (by simp [results, Try.results37, go_sem, z0, z1, z2, rtv]) rfl ⟨_, _, F, rfl, HR1.out.fr ((((Fr.refl (At (w.heap.size + 1)) w1).setAt 0 _).setAt 1 _).setAt 2 _) hne hne2, hfz, fun k hk => .inl hk, fun k hk => .inl hk⟩
  · have hr : forkT t pid = (⟨t.l ++ [forkP t.l[i] t.nx pid], t.nx + 1, t.f⟩, t.nx, 0) := by unfold forkT; rw [h2]; rfl
    rw [hr]
    rw [h1] at HAt
    clear hr h1 h2 h3
    unfold rtv
    go_enter Try.func37, Try.ntmps37
    go_wp2_with fail
    refine Calls.mono (HAt.out) ?_
    rintro e' w1 ⟨rfl, hfn⟩
    have HF1 := hid (HF0.out.trans hfn)
    have HR1 := hid (HR0.out.frd hfn)
    have HB1 := hid (HB0.out.fr hfn (fun h => h))
    have HZ1 := hid (HZ0.out.fr hfn (fun h => h))
    clear hfn
    have hb := HB1.out
    have hz := HZ1.out
    have b0 := hb.cell 0 rfl
    have b1 := hb.cell 1 rfl
    have b2 := hb.cell 2 rfl
    have z0 := hz.cell 0 rfl
    have z1 := hz.cell 1 rfl
    have z2 := hz.cell 2 rfl
    have y0 := hz.frozen 0
    have y1 := hz.frozen 1
    have y2 := hz.frozen 2
    have yl := hz.lt
    have bl := hb.lt
    clear hb hz
    obtain ⟨g, c9, h9, _, d0, d1, d2, d3, d4, d5⟩ := PrR.at_ HR1.out.l i hi
    obtain rfl : A = some ⟨g, 0, none⟩ := by injection h9
    clear h9
    have HFP := hid ((Fr.refl NoB w1).alloc (.cells #[.int .i64 t.nx, .int .i64 pid, .int .i64 t.l[i].grp, .int .i64 t.l[i].ses, .int .i64 t.l[i].tty, .bool t.l[i].deaf] 51))
    go_upto_region 9 with (fail)
    generalize hw2 : World.alloc w1 _ = w2 at HFP ⊢
    have HP2 : Hid (Blk w2 w1.heap.size 51 (forkP t.l[i] t.nx pid).cells) := hid (by rw [← hw2]; exact Blk.new w1 51 (forkP t.l[i] t.nx pid).cells)
    have hfn := HFP.out
    have HF2 := hid (HF1.out.trans hfn)
    have HR2 := hid (HR1.out.frd hfn)
    have HB2 := hid (HB1.out.fr hfn (fun h => h))
    have HZ2 := hid (HZ1.out.fr hfn (fun h => h))
    clear hfn d0 d1 d2 d3 d4 d5 hw2
    clear b0 b1 b2 z0 z1 z2 y0 y1 y2 yl bl
    have HSq : Hid (∀ W, Fr (At (w.heap.size + 1)) w2 W → W.cell? ⟨w.heap.size, 0, none⟩ = some (.slice (some ⟨g, 0, none⟩) t.l.length c) ∧ W.cell? ⟨w.heap.size, 1, none⟩ = some (.int .i64 t.nx) ∧ W.cell? ⟨w.heap.size, 2, none⟩ = some (.slice A2 F.length c2) ∧ W.cell? ⟨w1.heap.size, 0, none⟩ = some (.int .i64 t.nx) ∧ W.cell? ⟨w1.heap.size, 1, none⟩ = some (.int .i64 pid) ∧ W.cell? ⟨w1.heap.size, 2, none⟩ = some (.int .i64 t.l[i].grp) ∧ W.cell? ⟨w1.heap.size, 3, none⟩ = some (.int .i64 t.l[i].ses) ∧ W.cell? ⟨w1.heap.size, 4, none⟩ = some (.int .i64 t.l[i].tty) ∧ W.cell? ⟨w1.heap.size, 5, none⟩ = some (.bool t.l[i].deaf)) := hid fun W hW => by
      have hw12 : w.heap.size + 1 < w1.heap.size := HZ1.out.lt
      have a1 := HP2.out.fr hW (fun e => by have e' : w1.heap.size = w.heap.size + 1 := e; omega)
      have a2 := HB2.out.fr hW (fun e => by have e' : w.heap.size = w.heap.size + 1 := e; omega)
      exact ⟨a2.cell 0 rfl, a2.cell 1 rfl, a2.cell 2 rfl, a1.cell 0 rfl, a1.cell 1 rfl, a1.cell 2 rfl, a1.cell 3 rfl, a1.cell 4 rfl, a1.cell 5 rfl⟩
    have hL0 : 0 < t.l.length := by omega
    have HM : Hid (t.l.length = t.l.length) := show Hid (t.l.length = t.l.length) from rfl
    have HL48 := hid (le48 (([] : List Pr).length + t.l.length) (by simp; have := HL.out; omega))
    have HL49 := hid (le49 t.l.length (by have := HL.out; omega))
    have HW : Hid (IntKind.i64.wrap (t.nx + 1) = t.nx + 1) := hid (IntWalk.i64_in _ (by omega))
    clear hn0 hn1
    refine wp_region_held_drew (S := (fun W : World => W.cell? ⟨w.heap.size, 0, none⟩ = some (.slice (some ⟨g, 0, none⟩) t.l.length c) ∧ W.cell? ⟨w.heap.size, 1, none⟩ = some (.int .i64 t.nx) ∧ W.cell? ⟨w.heap.size, 2, none⟩ = some (.slice A2 F.length c2) ∧ W.cell? ⟨w1.heap.size, 0, none⟩ = some (.int .i64 t.nx) ∧ W.cell? ⟨w1.heap.size, 1, none⟩ = some (.int .i64 pid) ∧ W.cell? ⟨w1.heap.size, 2, none⟩ = some (.int .i64 t.l[i].grp) ∧ W.cell? ⟨w1.heap.size, 3, none⟩ = some (.int .i64 t.l[i].ses) ∧ W.cell? ⟨w1.heap.size, 4, none⟩ = some (.int .i64 t.l[i].tty) ∧ W.cell? ⟨w1.heap.size, 5, none⟩ = some (.bool t.l[i].deaf))) (by kernel_rfl) (HSq.out _ (Fr.drew (Fr.refl _ _))) (fun hHeld => ?_)
    refine wpAnyH_take (i := 1) (oi := { dst := some 31, op := Op.fieldAddr 43 (Operand.tmp 2) 0, type := 0, pos := "ref.go:72", after := #[], guard := none }) (v := ?vfk1) rfl (by kernel_rfl) (by kernel_rfl) (by kernel_rfl) (fun _ _ _ h => h) (Or.inl ⟨by rfl, ?hyfk1⟩) (by assumption) ?rfk1
    case hyfk1 => (intro w hSw; (try dsimp only at hSw); go_simp; try (with_reducible rfl))
    try simp only [Act.put, List.setIfInBounds_toArray, List.set_cons_zero, List.set_cons_succ]
    refine wpAnyH_take (i := 2) (oi := { dst := some 32, op := Op.load 40 (Operand.tmp 31), type := 40, pos := "ref.go:72", after := #[{ on := 1, ground := Ground.data }], guard := none }) (v := ?vfk2) rfl (by kernel_rfl) (by kernel_rfl) (by kernel_rfl) (fun _ _ _ h => h) (Or.inl ⟨by rfl, ?hyfk2⟩) (by assumption) ?rfk2
    case hyfk2 => (intro w hSw; (try dsimp only at hSw); go_simp; try (with_reducible rfl))
    try simp only [Act.put, List.setIfInBounds_toArray, List.set_cons_zero, List.set_cons_succ]
    refine wpAnyH_take (i := 4) (oi := { dst := some 34, op := Op.load 51 (Operand.tmp 8), type := 51, pos := "ref.go:72", after := #[], guard := none }) (v := ?vfk3) rfl (by kernel_rfl) (by kernel_rfl) (by kernel_rfl) (fun _ _ _ h => h) (Or.inl ⟨by rfl, ?hyfk3⟩) (by assumption) ?rfk3
    case hyfk3 => (intro w hSw; (try dsimp only at hSw); go_simp; try (with_reducible rfl))
    try simp only [Act.put, List.setIfInBounds_toArray, List.set_cons_zero, List.set_cons_succ]
    refine wpAnyH_take (i := 7) (oi := { dst := some 37, op := Op.fieldAddr 43 (Operand.tmp 2) 1, type := 0, pos := "ref.go:72", after := #[], guard := none }) (v := ?vfk4) rfl (by kernel_rfl) (by kernel_rfl) (by kernel_rfl) (fun _ _ _ h => h) (Or.inl ⟨by rfl, ?hyfk4⟩) (by assumption) ?rfk4
    case hyfk4 => (intro w hSw; (try dsimp only at hSw); go_simp; try (with_reducible rfl))
    try simp only [Act.put, List.setIfInBounds_toArray, List.set_cons_zero, List.set_cons_succ]
    refine wpAnyH_take (i := 8) (oi := { dst := some 38, op := Op.load 3 (Operand.tmp 37), type := 3, pos := "ref.go:72", after := #[{ on := 7, ground := Ground.data }], guard := none }) (v := ?vfk5) rfl (by kernel_rfl) (by kernel_rfl) (by kernel_rfl) (fun _ _ _ h => h) (Or.inl ⟨by rfl, ?hyfk5⟩) (by assumption) ?rfk5
    case hyfk5 => (intro w hSw; (try dsimp only at hSw); go_simp; try (with_reducible rfl))
    try simp only [Act.put, List.setIfInBounds_toArray, List.set_cons_zero, List.set_cons_succ]
    refine wpAnyH_take (i := 9) (oi := { dst := some 39, op := Op.binOp BinOp.add 3 (Operand.tmp 38) (Operand.const (Value.int IntKind.i64 1)) 3, type := 3, pos := "ref.go:72", after := #[{ on := 8, ground := Ground.data }], guard := none }) (v := ?vfk6) rfl (by kernel_rfl) (by kernel_rfl) (by kernel_rfl) (fun _ _ _ h => h) (Or.inl ⟨by rfl, ?hyfk6⟩) (by assumption) ?rfk6
    case hyfk6 => (intro w hSw; (try dsimp only at hSw); go_simp; try (with_reducible rfl))
    try simp only [Act.put, List.setIfInBounds_toArray, List.set_cons_zero, List.set_cons_succ]
    refine wpAnyH_take (i := 10) (oi := { dst := some 40, op := Op.fieldAddr 43 (Operand.tmp 2) 2, type := 0, pos := "ref.go:72", after := #[], guard := none }) (v := ?vfk7) rfl (by kernel_rfl) (by kernel_rfl) (by kernel_rfl) (fun _ _ _ h => h) (Or.inl ⟨by rfl, ?hyfk7⟩) (by assumption) ?rfk7
    case hyfk7 => (intro w hSw; (try dsimp only at hSw); go_simp; try (with_reducible rfl))
    try simp only [Act.put, List.setIfInBounds_toArray, List.set_cons_zero, List.set_cons_succ]
    refine wpAnyH_take (i := 11) (oi := { dst := some 41, op := Op.load 41 (Operand.tmp 40), type := 41, pos := "ref.go:72", after := #[{ on := 10, ground := Ground.data }], guard := none }) (v := ?vfk8) rfl (by kernel_rfl) (by kernel_rfl) (by kernel_rfl) (fun _ _ _ h => h) (Or.inl ⟨by rfl, ?hyfk8⟩) (by assumption) ?rfk8
    case hyfk8 => (intro w hSw; (try dsimp only at hSw); go_simp; try (with_reducible rfl))
    try simp only [Act.put, List.setIfInBounds_toArray, List.set_cons_zero, List.set_cons_succ]
    refine wpAnyH_take (i := 13) (oi := { dst := some 43, op := Op.fieldAddr 51 (Operand.tmp 8) 0, type := 0, pos := "ref.go:72", after := #[{ on := 15, ground := Ground.gcOnly Departure.lateStores }], guard := none }) (v := ?vfk9) rfl (by kernel_rfl) (by kernel_rfl) (by kernel_rfl) (fun _ _ _ h => h) (Or.inl ⟨by rfl, ?hyfk9⟩) (by assumption) ?rfk9
    case hyfk9 => (intro w hSw; (try dsimp only at hSw); go_simp; try (with_reducible rfl))
    try simp only [Act.put, List.setIfInBounds_toArray, List.set_cons_zero, List.set_cons_succ]
    refine wpAnyH_take (i := 14) (oi := { dst := some 44, op := Op.load 3 (Operand.tmp 43), type := 3, pos := "ref.go:72", after := #[{ on := 13, ground := Ground.data }, { on := 15, ground := Ground.gcOnly Departure.lateStores }], guard := none }) (v := ?vfk10) rfl (by kernel_rfl) (by kernel_rfl) (by kernel_rfl) (fun _ _ _ h => h) (Or.inl ⟨by rfl, ?hyfk10⟩) (by assumption) ?rfk10
    case hyfk10 => (intro w hSw; (try dsimp only at hSw); go_simp; try (with_reducible rfl))
    try simp only [Act.put, List.setIfInBounds_toArray, List.set_cons_zero, List.set_cons_succ]
    refine wpAnyH_ready (rs := [0, 5]) (by kernel_rfl) (by simp) ?_
    refine AllReadyH.cons (o := { dst := some 30, op := Op.buildSlice 40 0 #[], type := 40, pos := "ref.go:72", after := #[], guard := none }) rfl (fun K hK => ?_) ?_
    · go_simp
      refine hK.out _ _ (HSq.out _ (((Fr.refl NoB w2).drew.alloc _).mono (fun _ h => h.elim))) (fun hHeld => ?_)
      clear hK K
      try simp only [Act.put, List.setIfInBounds_toArray, List.set_cons_zero, List.set_cons_succ]
      refine wpAnyH_ready (rs := [3, 5]) (by kernel_rfl) (by simp) ?_
      refine AllReadyH.cons (o := { dst := some 33, op := Op.call { callee := Callee.builtin Builtin.append, args := #[Operand.tmp 30, Operand.tmp 32], argTypes := #[40, 40] }, type := 40, pos := "ref.go:72", after := #[{ on := 0, ground := Ground.data }, { on := 2, ground := Ground.data }], guard := none }) rfl (fun K hK => ?_) ?_
      · refine row_apps_step (f := Pr.cells) Pr.len Pr.one w2.heap.size rfl (.tmp 30) (.tmp 32) 40 51 Pr.zero 48 rfl Try.underlying40 infoPr rfl (by omega) (by omega) (.slice (some ⟨w2.heap.size, 0, none⟩) 0 0) [] t.l ⟨g, 0, none⟩ t.l.length c rfl rfl HM.out hL0 (Row.src (HR2.out.l.fr ((Fr.refl NoB w2).drew.alloc _) (fun _ _ h => h)) hL0) (row_empty (Blk.new w2.drew 51 []) (Nat.le_refl _)) ((Fr.refl NoB w2).drew.alloc _).size HL48.out ?_
        intro v3 w3 hr3 hf3 hat3
        rw [List.nil_append] at hr3
        have HF3 := hid (((Fr.refl NoB w2).drew.alloc _).then_ hf3 (fun k e => .inr (by have e' : w2.heap.size = k := Option.some.inj e; omega)))
        obtain ⟨A3, c3, hv3, _⟩ := hr3.shape
        subst hv3
        have HR3 := hid hr3
        clear hr3 hf3 hat3 hHeld
        refine hK.out _ _ (HSq.out _ (HF3.out.mono (fun _ h => h.elim))) (fun hHeld => ?_)
        clear hK K
        try simp only [Act.put, List.setIfInBounds_toArray, List.set_cons_zero, List.set_cons_succ]
        refine wpAnyH_ready (rs := [5]) (by kernel_rfl) (by simp) ?_
        refine AllReadyH.cons (o := { dst := some 35, op := Op.buildSlice 40 1 #[(0, Operand.tmp 34)], type := 40, pos := "ref.go:72", after := #[{ on := 4, ground := Ground.data }], guard := none }) rfl (fun K hK => ?_) AllReadyH.nil
        go_simp
        refine hK.out _ _ (HSq.out _ ((HF3.out.alloc _).mono (fun _ h => h.elim))) (fun hHeld => ?_)
        clear hK K
        try simp only [Act.put, List.setIfInBounds_toArray, List.set_cons_zero, List.set_cons_succ]
        refine wpAnyH_ready (rs := [6]) (by kernel_rfl) (by simp) ?_
        refine AllReadyH.cons (o := { dst := some 36, op := Op.call { callee := Callee.builtin Builtin.append, args := #[Operand.tmp 33, Operand.tmp 35], argTypes := #[40, 40] }, type := 40, pos := "ref.go:72", after := #[{ on := 3, ground := Ground.data }, { on := 5, ground := Ground.data }, { on := 3, ground := Ground.chain }], guard := none }) rfl (fun K hK => ?_) AllReadyH.nil
        refine row_apps_step (f := Pr.cells) Pr.len Pr.one w2.heap.size rfl (.tmp 33) (.tmp 35) 40 51 Pr.zero 48 rfl Try.underlying40 infoPr rfl (by omega) (by omega) (.slice A3 t.l.length c3) t.l [forkP t.l[i] t.nx pid] ⟨w3.heap.size, 0, none⟩ 1 1 rfl rfl (hid rfl) Nat.zero_lt_one (one_src (Blk.new w3 51 (forkP t.l[i] t.nx pid).cells)) (HR3.out.fr ((Fr.refl NoB w3).alloc _) (fun _ _ h => h)) (HF3.out.alloc _).size HL49.out ?_
        intro v4 w4 hr4 hf4 hat4
        have HF4 := hid ((HF3.out.alloc _).then_ hf4 (fun k e => .inr (HR3.out.ge k e)))
        obtain ⟨A4, c4, hv4, _⟩ := hr4.shape
        rw [List.length_append, List.length_singleton] at hv4
        subst hv4
        have HR4 := hid hr4
        have hz := HZ2.out.fr HF4.out (fun h => h)
        have z0 := hz.cell 0 rfl
        have z1 := hz.cell 1 rfl
        have z2 := hz.cell 2 rfl
        have y0 := hz.frozen 0
        have y1 := hz.frozen 1
        have y2 := hz.frozen 2
        have yl := hz.lt
        have HZ4 := hid hz
        clear hr4 hf4 hat4 hHeld hz
        refine hK.out _ _ (HSq.out _ (HF4.out.mono (fun _ h => h.elim))) (fun hHeld => ?_)
        clear hK K
        try simp only [Act.put, List.setIfInBounds_toArray, List.set_cons_zero, List.set_cons_succ]
        refine wpAnyH_take (i := 12) (oi := { dst := some 42, op := Op.build 43 #[(0, Operand.tmp 36), (1, Operand.tmp 39), (2, Operand.tmp 41)], type := 43, pos := "ref.go:72", after := #[{ on := 6, ground := Ground.data }, { on := 9, ground := Ground.data }, { on := 11, ground := Ground.data }], guard := none }) (v := ?vfk11) rfl (by kernel_rfl) (by kernel_rfl) (by kernel_rfl) (fun _ _ _ h => h) (Or.inl ⟨by rfl, ?hyfk11⟩) (by assumption) ?rfk11
        case hyfk11 => (intro w hSw; (try dsimp only at hSw); go_simp; try (with_reducible rfl))
        try simp only [Act.put, List.setIfInBounds_toArray, List.set_cons_zero, List.set_cons_succ]
        refine wpAnyH_ready (rs := [15]) (by kernel_rfl) (by simp) ?_
        refine AllReadyH.cons (o := { dst := none, op := Op.store 43 (Operand.tmp 4) (Operand.tmp 42), type := 0, pos := "ref.go:72", after := #[{ on := 12, ground := Ground.data }, { on := 6, ground := Ground.chain }, { on := 0, ground := Ground.phase }, { on := 1, ground := Ground.phase }, { on := 2, ground := Ground.phase }, { on := 3, ground := Ground.phase }, { on := 4, ground := Ground.phase }, { on := 5, ground := Ground.phase }, { on := 6, ground := Ground.phase }, { on := 7, ground := Ground.phase }, { on := 8, ground := Ground.phase }, { on := 9, ground := Ground.phase }, { on := 10, ground := Ground.phase }, { on := 11, ground := Ground.phase }, { on := 12, ground := Ground.phase }, { on := 13, ground := Ground.textOnly Departure.lateStores }, { on := 14, ground := Ground.textOnly Departure.lateStores }], guard := none }) rfl (fun K hK => ?_) AllReadyH.nil
        go_simp
        refine hK.out _ _ (HSq.out _ ((((HF4.out.mono (fun _ h => h.elim)).setAt 0 _).setAt 1 _).setAt 2 _)) (fun hHeld => ?_)
        clear hK K
        try simp only [Act.put, List.setIfInBounds_toArray, List.set_cons_zero, List.set_cons_succ]
        refine wpAnyH_take (i := 16) (oi := { dst := some 5, op := Op.assign (Operand.tmp 44), type := 3, pos := "ref.go:72", after := #[{ on := 14, ground := Ground.data }, { on := 15, ground := Ground.chain }, { on := 0, ground := Ground.phase }, { on := 1, ground := Ground.phase }, { on := 2, ground := Ground.phase }, { on := 3, ground := Ground.phase }, { on := 4, ground := Ground.phase }, { on := 5, ground := Ground.phase }, { on := 6, ground := Ground.phase }, { on := 7, ground := Ground.phase }, { on := 8, ground := Ground.phase }, { on := 9, ground := Ground.phase }, { on := 10, ground := Ground.phase }, { on := 11, ground := Ground.phase }, { on := 12, ground := Ground.phase }, { on := 13, ground := Ground.phase }, { on := 14, ground := Ground.phase }, { on := 15, ground := Ground.phase }], guard := none }) (v := ?vfk12) rfl (by kernel_rfl) (by kernel_rfl) (by kernel_rfl) (fun _ _ _ h => h) (Or.inl ⟨by rfl, ?hyfk12⟩) (by assumption) ?rfk12
        case hyfk12 => (intro w hSw; (try dsimp only at hSw); go_simp; try (with_reducible rfl))
        try simp only [Act.put, List.setIfInBounds_toArray, List.set_cons_zero, List.set_cons_succ]
        refine wpAnyH_take (i := 17) (oi := { dst := some 6, op := Op.assign (Operand.const (Value.int IntKind.i64 0)), type := 3, pos := "ref.go:72", after := #[{ on := 16, ground := Ground.chain }, { on := 0, ground := Ground.phase }, { on := 1, ground := Ground.phase }, { on := 2, ground := Ground.phase }, { on := 3, ground := Ground.phase }, { on := 4, ground := Ground.phase }, { on := 5, ground := Ground.phase }, { on := 6, ground := Ground.phase }, { on := 7, ground := Ground.phase }, { on := 8, ground := Ground.phase }, { on := 9, ground := Ground.phase }, { on := 10, ground := Ground.phase }, { on := 11, ground := Ground.phase }, { on := 12, ground := Ground.phase }, { on := 13, ground := Ground.phase }, { on := 14, ground := Ground.phase }, { on := 15, ground := Ground.phase }, { on := 16, ground := Ground.phase }], guard := none }) (v := ?vfk13) rfl (by kernel_rfl) (by kernel_rfl) (by kernel_rfl) (fun _ _ _ h => h) (Or.inl ⟨by rfl, ?hyfk13⟩) (by assumption) ?rfk13
        case hyfk13 => (intro w hSw; (try dsimp only at hSw); go_simp; try (with_reducible rfl))
        try simp only [Act.put, List.setIfInBounds_toArray, List.set_cons_zero, List.set_cons_succ]
        refine wpAnyH_done (by kernel_rfl) ?_ _
        rw [HW.out]
        go_wp2
        have hfz := (HF2.out.trans HF4.out).then_ ((((Fr.refl (At (w.heap.size + 1)) w4).setAt 0 (.slice A4 (t.l.length + 1) c4)).setAt 1 (.int .i64 (t.nx + 1))).setAt 2 (.slice A2 F.length c2)) (fun k e => .inr (by have e' : k = w.heap.size + 1 := e; omega))
        have hw2 : w.heap.size ≤ w2.heap.size := HF2.out.size
        have hup := HR2.out.up HR4.out HF4.out (t.nx + 1)
        have hne : ∀ k, OwnB (.slice A4 (t.l.length + 1) c4) k → ¬ At (w.heap.size + 1) k := fun k hk e => Row.not_blk hup.l HZ4.out (by decide) (by have e' : k = w.heap.size + 1 := e; rw [← e']; exact hk)
        have hne2 : ∀ k, OwnB (.slice A2 F.length c2) k → ¬ At (w.heap.size + 1) k := fun k hk e => Row.not_blk hup.f HZ4.out (by decide) (by have e' : k = w.heap.size + 1 := e; rw [← e']; exact hk)
        refine bodyPost_ret (v := .tuple #[rtv (.slice A4 (t.l.length + 1) c4) (t.nx + 1) (.slice A2 F.length c2), .int .i64 t.nx, .int .i64 0]) (by simp [results, Try.results37, go_sem, z0, z1, z2, rtv]) rfl ⟨_, _, F, rfl, hup.fr ((((Fr.refl (At (w.heap.size + 1)) w4).setAt 0 _).setAt 1 _).setAt 2 _) hne hne2, hfz, fun k hk => .inr (Nat.le_trans hw2 (HR4.out.ge k hk)), fun k hk => .inl hk⟩
      refine AllReadyH.cons (o := { dst := some 35, op := Op.buildSlice 40 1 #[(0, Operand.tmp 34)], type := 40, pos := "ref.go:72", after := #[{ on := 4, ground := Ground.data }], guard := none }) rfl (fun K hK => ?_) ?_
      · go_simp
        refine hK.out _ _ (HSq.out _ ((((Fr.refl NoB w2).drew.alloc _).alloc _).mono (fun _ h => h.elim))) (fun hHeld => ?_)
        clear hK K
        try simp only [Act.put, List.setIfInBounds_toArray, List.set_cons_zero, List.set_cons_succ]
        refine wpAnyH_ready (rs := [3]) (by kernel_rfl) (by simp) ?_
        refine AllReadyH.cons (o := { dst := some 33, op := Op.call { callee := Callee.builtin Builtin.append, args := #[Operand.tmp 30, Operand.tmp 32], argTypes := #[40, 40] }, type := 40, pos := "ref.go:72", after := #[{ on := 0, ground := Ground.data }, { on := 2, ground := Ground.data }], guard := none }) rfl (fun K hK => ?_) AllReadyH.nil
        refine row_apps_step (f := Pr.cells) Pr.len Pr.one w2.heap.size rfl (.tmp 30) (.tmp 32) 40 51 Pr.zero 48 rfl Try.underlying40 infoPr rfl (by omega) (by omega) (.slice (some ⟨w2.heap.size, 0, none⟩) 0 0) [] t.l ⟨g, 0, none⟩ t.l.length c rfl rfl HM.out hL0 (Row.src (HR2.out.l.fr (((Fr.refl NoB w2).drew.alloc _).alloc _) (fun _ _ h => h)) hL0) (row_empty ((Blk.new w2.drew 51 []).alloc _) (Nat.le_refl _)) (((Fr.refl NoB w2).drew.alloc _).alloc _).size HL48.out ?_
        intro v3 w3 hr3 hf3 hat3
        rw [List.nil_append] at hr3
        have HF3 := hid ((((Fr.refl NoB w2).drew.alloc _).alloc _).then_ hf3 (fun k e => .inr (by have e' : w2.heap.size = k := Option.some.inj e; omega)))
        have HY := hid ((show Blk _ (w2.heap.size + 1) 51 (forkP t.l[i] t.nx pid).cells from by have hx := Blk.new (w2.drew.alloc (.cells #[] 51)) 51 (forkP t.l[i] t.nx pid).cells; rw [World.size_alloc] at hx; exact hx).fr hf3 (fun e => by have e' : w2.heap.size = w2.heap.size + 1 := Option.some.inj e; omega))
        obtain ⟨A3, c3, hv3, _⟩ := hr3.shape
        subst hv3
        have HR3 := hid hr3
        clear hr3 hf3 hat3 hHeld
        refine hK.out _ _ (HSq.out _ (HF3.out.mono (fun _ h => h.elim))) (fun hHeld => ?_)
        clear hK K
        try simp only [Act.put, List.setIfInBounds_toArray, List.set_cons_zero, List.set_cons_succ]
        refine wpAnyH_ready (rs := [6]) (by kernel_rfl) (by simp) ?_
        refine AllReadyH.cons (o := { dst := some 36, op := Op.call { callee := Callee.builtin Builtin.append, args := #[Operand.tmp 33, Operand.tmp 35], argTypes := #[40, 40] }, type := 40, pos := "ref.go:72", after := #[{ on := 3, ground := Ground.data }, { on := 5, ground := Ground.data }, { on := 3, ground := Ground.chain }], guard := none }) rfl (fun K hK => ?_) AllReadyH.nil
        refine row_apps_step (f := Pr.cells) Pr.len Pr.one w2.heap.size rfl (.tmp 33) (.tmp 35) 40 51 Pr.zero 48 rfl Try.underlying40 infoPr rfl (by omega) (by omega) (.slice A3 t.l.length c3) t.l [forkP t.l[i] t.nx pid] ⟨w2.heap.size + 1, 0, none⟩ 1 1 rfl rfl (hid rfl) Nat.zero_lt_one (one_src HY.out) HR3.out HF3.out.size HL49.out ?_
        intro v4 w4 hr4 hf4 hat4
        have HF4 := hid (HF3.out.then_ hf4 (fun k e => .inr (HR3.out.ge k e)))
        obtain ⟨A4, c4, hv4, _⟩ := hr4.shape
        rw [List.length_append, List.length_singleton] at hv4
        subst hv4
        have HR4 := hid hr4
        have hz := HZ2.out.fr HF4.out (fun h => h)
        have z0 := hz.cell 0 rfl
        have z1 := hz.cell 1 rfl
        have z2 := hz.cell 2 rfl
        have y0 := hz.frozen 0
        have y1 := hz.frozen 1
        have y2 := hz.frozen 2
        have yl := hz.lt
        have HZ4 := hid hz
        clear hr4 hf4 hat4 hHeld hz
        refine hK.out _ _ (HSq.out _ (HF4.out.mono (fun _ h => h.elim))) (fun hHeld => ?_)
        clear hK K
        try simp only [Act.put, List.setIfInBounds_toArray, List.set_cons_zero, List.set_cons_succ]
        refine wpAnyH_take (i := 12) (oi := { dst := some 42, op := Op.build 43 #[(0, Operand.tmp 36), (1, Operand.tmp 39), (2, Operand.tmp 41)], type := 43, pos := "ref.go:72", after := #[{ on := 6, ground := Ground.data }, { on := 9, ground := Ground.data }, { on := 11, ground := Ground.data }], guard := none }) (v := ?vfk14) rfl (by kernel_rfl) (by kernel_rfl) (by kernel_rfl) (fun _ _ _ h => h) (Or.inl ⟨by rfl, ?hyfk14⟩) (by assumption) ?rfk14
        case hyfk14 => (intro w hSw; (try dsimp only at hSw); go_simp; try (with_reducible rfl))
        try simp only [Act.put, List.setIfInBounds_toArray, List.set_cons_zero, List.set_cons_succ]
        refine wpAnyH_ready (rs := [15]) (by kernel_rfl) (by simp) ?_
        refine AllReadyH.cons (o := { dst := none, op := Op.store 43 (Operand.tmp 4) (Operand.tmp 42), type := 0, pos := "ref.go:72", after := #[{ on := 12, ground := Ground.data }, { on := 6, ground := Ground.chain }, { on := 0, ground := Ground.phase }, { on := 1, ground := Ground.phase }, { on := 2, ground := Ground.phase }, { on := 3, ground := Ground.phase }, { on := 4, ground := Ground.phase }, { on := 5, ground := Ground.phase }, { on := 6, ground := Ground.phase }, { on := 7, ground := Ground.phase }, { on := 8, ground := Ground.phase }, { on := 9, ground := Ground.phase }, { on := 10, ground := Ground.phase }, { on := 11, ground := Ground.phase }, { on := 12, ground := Ground.phase }, { on := 13, ground := Ground.textOnly Departure.lateStores }, { on := 14, ground := Ground.textOnly Departure.lateStores }], guard := none }) rfl (fun K hK => ?_) AllReadyH.nil
        go_simp
        refine hK.out _ _ (HSq.out _ ((((HF4.out.mono (fun _ h => h.elim)).setAt 0 _).setAt 1 _).setAt 2 _)) (fun hHeld => ?_)
        clear hK K
        try simp only [Act.put, List.setIfInBounds_toArray, List.set_cons_zero, List.set_cons_succ]
        refine wpAnyH_take (i := 16) (oi := { dst := some 5, op := Op.assign (Operand.tmp 44), type := 3, pos := "ref.go:72", after := #[{ on := 14, ground := Ground.data }, { on := 15, ground := Ground.chain }, { on := 0, ground := Ground.phase }, { on := 1, ground := Ground.phase }, { on := 2, ground := Ground.phase }, { on := 3, ground := Ground.phase }, { on := 4, ground := Ground.phase }, { on := 5, ground := Ground.phase }, { on := 6, ground := Ground.phase }, { on := 7, ground := Ground.phase }, { on := 8, ground := Ground.phase }, { on := 9, ground := Ground.phase }, { on := 10, ground := Ground.phase }, { on := 11, ground := Ground.phase }, { on := 12, ground := Ground.phase }, { on := 13, ground := Ground.phase }, { on := 14, ground := Ground.phase }, { on := 15, ground := Ground.phase }], guard := none }) (v := ?vfk15) rfl (by kernel_rfl) (by kernel_rfl) (by kernel_rfl) (fun _ _ _ h => h) (Or.inl ⟨by rfl, ?hyfk15⟩) (by assumption) ?rfk15
        case hyfk15 => (intro w hSw; (try dsimp only at hSw); go_simp; try (with_reducible rfl))
        try simp only [Act.put, List.setIfInBounds_toArray, List.set_cons_zero, List.set_cons_succ]
        refine wpAnyH_take (i := 17) (oi := { dst := some 6, op := Op.assign (Operand.const (Value.int IntKind.i64 0)), type := 3, pos := "ref.go:72", after := #[{ on := 16, ground := Ground.chain }, { on := 0, ground := Ground.phase }, { on := 1, ground := Ground.phase }, { on := 2, ground := Ground.phase }, { on := 3, ground := Ground.phase }, { on := 4, ground := Ground.phase }, { on := 5, ground := Ground.phase }, { on := 6, ground := Ground.phase }, { on := 7, ground := Ground.phase }, { on := 8, ground := Ground.phase }, { on := 9, ground := Ground.phase }, { on := 10, ground := Ground.phase }, { on := 11, ground := Ground.phase }, { on := 12, ground := Ground.phase }, { on := 13, ground := Ground.phase }, { on := 14, ground := Ground.phase }, { on := 15, ground := Ground.phase }, { on := 16, ground := Ground.phase }], guard := none }) (v := ?vfk16) rfl (by kernel_rfl) (by kernel_rfl) (by kernel_rfl) (fun _ _ _ h => h) (Or.inl ⟨by rfl, ?hyfk16⟩) (by assumption) ?rfk16
        case hyfk16 => (intro w hSw; (try dsimp only at hSw); go_simp; try (with_reducible rfl))
        try simp only [Act.put, List.setIfInBounds_toArray, List.set_cons_zero, List.set_cons_succ]
        refine wpAnyH_done (by kernel_rfl) ?_ _
        rw [HW.out]
        go_wp2
        have hfz := (HF2.out.trans HF4.out).then_ ((((Fr.refl (At (w.heap.size + 1)) w4).setAt 0 (.slice A4 (t.l.length + 1) c4)).setAt 1 (.int .i64 (t.nx + 1))).setAt 2 (.slice A2 F.length c2)) (fun k e => .inr (by have e' : k = w.heap.size + 1 := e; omega))
        have hw2 : w.heap.size ≤ w2.heap.size := HF2.out.size
        have hup := HR2.out.up HR4.out HF4.out (t.nx + 1)
        have hne : ∀ k, OwnB (.slice A4 (t.l.length + 1) c4) k → ¬ At (w.heap.size + 1) k := fun k hk e => Row.not_blk hup.l HZ4.out (by decide) (by have e' : k = w.heap.size + 1 := e; rw [← e']; exact hk)
        have hne2 : ∀ k, OwnB (.slice A2 F.length c2) k → ¬ At (w.heap.size + 1) k := fun k hk e => Row.not_blk hup.f HZ4.out (by decide) (by have e' : k = w.heap.size + 1 := e; rw [← e']; exact hk)
        refine bodyPost_ret (v := .tuple #[rtv (.slice A4 (t.l.length + 1) c4) (t.nx + 1) (.slice A2 F.length c2), .int .i64 t.nx, .int .i64 0]) (by simp [results, Try.results37, go_sem, z0, z1, z2, rtv]) rfl ⟨_, _, F, rfl, hup.fr ((((Fr.refl (At (w.heap.size + 1)) w4).setAt 0 _).setAt 1 _).setAt 2 _) hne hne2, hfz, fun k hk => .inr (Nat.le_trans hw2 (HR4.out.ge k hk)), fun k hk => .inl hk⟩
      exact AllReadyH.nil
    refine AllReadyH.cons (o := { dst := some 35, op := Op.buildSlice 40 1 #[(0, Operand.tmp 34)], type := 40, pos := "ref.go:72", after := #[{ on := 4, ground := Ground.data }], guard := none }) rfl (fun K hK => ?_) ?_
    · go_simp
      refine hK.out _ _ (HSq.out _ (((Fr.refl NoB w2).drew.alloc _).mono (fun _ h => h.elim))) (fun hHeld => ?_)
      clear hK K
      try simp only [Act.put, List.setIfInBounds_toArray, List.set_cons_zero, List.set_cons_succ]
      refine wpAnyH_ready (rs := [0]) (by kernel_rfl) (by simp) ?_
      refine AllReadyH.cons (o := { dst := some 30, op := Op.buildSlice 40 0 #[], type := 40, pos := "ref.go:72", after := #[], guard := none }) rfl (fun K hK => ?_) AllReadyH.nil
      go_simp
      refine hK.out _ _ (HSq.out _ ((((Fr.refl NoB w2).drew.alloc _).alloc _).mono (fun _ h => h.elim))) (fun hHeld => ?_)
      clear hK K
      try simp only [Act.put, List.setIfInBounds_toArray, List.set_cons_zero, List.set_cons_succ]
      refine wpAnyH_ready (rs := [3]) (by kernel_rfl) (by simp) ?_
      refine AllReadyH.cons (o := { dst := some 33, op := Op.call { callee := Callee.builtin Builtin.append, args := #[Operand.tmp 30, Operand.tmp 32], argTypes := #[40, 40] }, type := 40, pos := "ref.go:72", after := #[{ on := 0, ground := Ground.data }, { on := 2, ground := Ground.data }], guard := none }) rfl (fun K hK => ?_) AllReadyH.nil
      refine row_apps_step (f := Pr.cells) Pr.len Pr.one w2.heap.size rfl (.tmp 30) (.tmp 32) 40 51 Pr.zero 48 rfl Try.underlying40 infoPr rfl (by omega) (by omega) (.slice (some ⟨w2.heap.size + 1, 0, none⟩) 0 0) [] t.l ⟨g, 0, none⟩ t.l.length c rfl rfl HM.out hL0 (Row.src (HR2.out.l.fr (((Fr.refl NoB w2).drew.alloc _).alloc _) (fun _ _ h => h)) hL0) (row_empty (by have hx := Blk.new (w2.drew.alloc (.cells #[.int .i64 t.nx, .int .i64 pid, .int .i64 t.l[i].grp, .int .i64 t.l[i].ses, .int .i64 t.l[i].tty, .bool t.l[i].deaf] 51)) 51 []; rw [World.size_alloc] at hx; exact hx) (Nat.le_succ _)) (((Fr.refl NoB w2).drew.alloc _).alloc _).size HL48.out ?_
      intro v3 w3 hr3 hf3 hat3
      rw [List.nil_append] at hr3
      have HF3 := hid ((((Fr.refl NoB w2).drew.alloc _).alloc _).then_ hf3 (fun k e => .inr (by have e' : w2.heap.size + 1 = k := Option.some.inj e; omega)))
      have HY := hid ((show Blk _ w2.heap.size 51 (forkP t.l[i] t.nx pid).cells from (Blk.new w2.drew 51 (forkP t.l[i] t.nx pid).cells).alloc _).fr hf3 (fun e => by have e' : w2.heap.size + 1 = w2.heap.size := Option.some.inj e; omega))
      obtain ⟨A3, c3, hv3, _⟩ := hr3.shape
      subst hv3
      have HR3 := hid hr3
      clear hr3 hf3 hat3 hHeld
      refine hK.out _ _ (HSq.out _ (HF3.out.mono (fun _ h => h.elim))) (fun hHeld => ?_)
      clear hK K
      try simp only [Act.put, List.setIfInBounds_toArray, List.set_cons_zero, List.set_cons_succ]
      refine wpAnyH_ready (rs := [6]) (by kernel_rfl) (by simp) ?_
      refine AllReadyH.cons (o := { dst := some 36, op := Op.call { callee := Callee.builtin Builtin.append, args := #[Operand.tmp 33, Operand.tmp 35], argTypes := #[40, 40] }, type := 40, pos := "ref.go:72", after := #[{ on := 3, ground := Ground.data }, { on := 5, ground := Ground.data }, { on := 3, ground := Ground.chain }], guard := none }) rfl (fun K hK => ?_) AllReadyH.nil
      refine row_apps_step (f := Pr.cells) Pr.len Pr.one w2.heap.size rfl (.tmp 33) (.tmp 35) 40 51 Pr.zero 48 rfl Try.underlying40 infoPr rfl (by omega) (by omega) (.slice A3 t.l.length c3) t.l [forkP t.l[i] t.nx pid] ⟨w2.heap.size, 0, none⟩ 1 1 rfl rfl (hid rfl) Nat.zero_lt_one (one_src HY.out) HR3.out HF3.out.size HL49.out ?_
      intro v4 w4 hr4 hf4 hat4
      have HF4 := hid (HF3.out.then_ hf4 (fun k e => .inr (HR3.out.ge k e)))
      obtain ⟨A4, c4, hv4, _⟩ := hr4.shape
      rw [List.length_append, List.length_singleton] at hv4
      subst hv4
      have HR4 := hid hr4
      have hz := HZ2.out.fr HF4.out (fun h => h)
      have z0 := hz.cell 0 rfl
      have z1 := hz.cell 1 rfl
      have z2 := hz.cell 2 rfl
      have y0 := hz.frozen 0
      have y1 := hz.frozen 1
      have y2 := hz.frozen 2
      have yl := hz.lt
      have HZ4 := hid hz
      clear hr4 hf4 hat4 hHeld hz
      refine hK.out _ _ (HSq.out _ (HF4.out.mono (fun _ h => h.elim))) (fun hHeld => ?_)
      clear hK K
      try simp only [Act.put, List.setIfInBounds_toArray, List.set_cons_zero, List.set_cons_succ]
      refine wpAnyH_take (i := 12) (oi := { dst := some 42, op := Op.build 43 #[(0, Operand.tmp 36), (1, Operand.tmp 39), (2, Operand.tmp 41)], type := 43, pos := "ref.go:72", after := #[{ on := 6, ground := Ground.data }, { on := 9, ground := Ground.data }, { on := 11, ground := Ground.data }], guard := none }) (v := ?vfk17) rfl (by kernel_rfl) (by kernel_rfl) (by kernel_rfl) (fun _ _ _ h => h) (Or.inl ⟨by rfl, ?hyfk17⟩) (by assumption) ?rfk17
      case hyfk17 => (intro w hSw; (try dsimp only at hSw); go_simp; try (with_reducible rfl))
      try simp only [Act.put, List.setIfInBounds_toArray, List.set_cons_zero, List.set_cons_succ]
      refine wpAnyH_ready (rs := [15]) (by kernel_rfl) (by simp) ?_
      refine AllReadyH.cons (o := { dst := none, op := Op.store 43 (Operand.tmp 4) (Operand.tmp 42), type := 0, pos := "ref.go:72", after := #[{ on := 12, ground := Ground.data }, { on := 6, ground := Ground.chain }, { on := 0, ground := Ground.phase }, { on := 1, ground := Ground.phase }, { on := 2, ground := Ground.phase }, { on := 3, ground := Ground.phase }, { on := 4, ground := Ground.phase }, { on := 5, ground := Ground.phase }, { on := 6, ground := Ground.phase }, { on := 7, ground := Ground.phase }, { on := 8, ground := Ground.phase }, { on := 9, ground := Ground.phase }, { on := 10, ground := Ground.phase }, { on := 11, ground := Ground.phase }, { on := 12, ground := Ground.phase }, { on := 13, ground := Ground.textOnly Departure.lateStores }, { on := 14, ground := Ground.textOnly Departure.lateStores }], guard := none }) rfl (fun K hK => ?_) AllReadyH.nil
      go_simp
      refine hK.out _ _ (HSq.out _ ((((HF4.out.mono (fun _ h => h.elim)).setAt 0 _).setAt 1 _).setAt 2 _)) (fun hHeld => ?_)
      clear hK K
      try simp only [Act.put, List.setIfInBounds_toArray, List.set_cons_zero, List.set_cons_succ]
      refine wpAnyH_take (i := 16) (oi := { dst := some 5, op := Op.assign (Operand.tmp 44), type := 3, pos := "ref.go:72", after := #[{ on := 14, ground := Ground.data }, { on := 15, ground := Ground.chain }, { on := 0, ground := Ground.phase }, { on := 1, ground := Ground.phase }, { on := 2, ground := Ground.phase }, { on := 3, ground := Ground.phase }, { on := 4, ground := Ground.phase }, { on := 5, ground := Ground.phase }, { on := 6, ground := Ground.phase }, { on := 7, ground := Ground.phase }, { on := 8, ground := Ground.phase }, { on := 9, ground := Ground.phase }, { on := 10, ground := Ground.phase }, { on := 11, ground := Ground.phase }, { on := 12, ground := Ground.phase }, { on := 13, ground := Ground.phase }, { on := 14, ground := Ground.phase }, { on := 15, ground := Ground.phase }], guard := none }) (v := ?vfk18) rfl (by kernel_rfl) (by kernel_rfl) (by kernel_rfl) (fun _ _ _ h => h) (Or.inl ⟨by rfl, ?hyfk18⟩) (by assumption) ?rfk18
      case hyfk18 => (intro w hSw; (try dsimp only at hSw); go_simp; try (with_reducible rfl))
      try simp only [Act.put, List.setIfInBounds_toArray, List.set_cons_zero, List.set_cons_succ]
      refine wpAnyH_take (i := 17) (oi := { dst := some 6, op := Op.assign (Operand.const (Value.int IntKind.i64 0)), type := 3, pos := "ref.go:72", after := #[{ on := 16, ground := Ground.chain }, { on := 0, ground := Ground.phase }, { on := 1, ground := Ground.phase }, { on := 2, ground := Ground.phase }, { on := 3, ground := Ground.phase }, { on := 4, ground := Ground.phase }, { on := 5, ground := Ground.phase }, { on := 6, ground := Ground.phase }, { on := 7, ground := Ground.phase }, { on := 8, ground := Ground.phase }, { on := 9, ground := Ground.phase }, { on := 10, ground := Ground.phase }, { on := 11, ground := Ground.phase }, { on := 12, ground := Ground.phase }, { on := 13, ground := Ground.phase }, { on := 14, ground := Ground.phase }, { on := 15, ground := Ground.phase }, { on := 16, ground := Ground.phase }], guard := none }) (v := ?vfk19) rfl (by kernel_rfl) (by kernel_rfl) (by kernel_rfl) (fun _ _ _ h => h) (Or.inl ⟨by rfl, ?hyfk19⟩) (by assumption) ?rfk19
      case hyfk19 => (intro w hSw; (try dsimp only at hSw); go_simp; try (with_reducible rfl))
      try simp only [Act.put, List.setIfInBounds_toArray, List.set_cons_zero, List.set_cons_succ]
      refine wpAnyH_done (by kernel_rfl) ?_ _
      rw [HW.out]
      go_wp2
      have hfz := (HF2.out.trans HF4.out).then_ ((((Fr.refl (At (w.heap.size + 1)) w4).setAt 0 (.slice A4 (t.l.length + 1) c4)).setAt 1 (.int .i64 (t.nx + 1))).setAt 2 (.slice A2 F.length c2)) (fun k e => .inr (by have e' : k = w.heap.size + 1 := e; omega))
      have hw2 : w.heap.size ≤ w2.heap.size := HF2.out.size
      have hup := HR2.out.up HR4.out HF4.out (t.nx + 1)
      have hne : ∀ k, OwnB (.slice A4 (t.l.length + 1) c4) k → ¬ At (w.heap.size + 1) k := fun k hk e => Row.not_blk hup.l HZ4.out (by decide) (by have e' : k = w.heap.size + 1 := e; rw [← e']; exact hk)
      have hne2 : ∀ k, OwnB (.slice A2 F.length c2) k → ¬ At (w.heap.size + 1) k := fun k hk e => Row.not_blk hup.f HZ4.out (by decide) (by have e' : k = w.heap.size + 1 := e; rw [← e']; exact hk)
      refine bodyPost_ret (v := .tuple #[rtv (.slice A4 (t.l.length + 1) c4) (t.nx + 1) (.slice A2 F.length c2), .int .i64 t.nx, .int .i64 0]) (by simp [results, Try.results37, go_sem, z0, z1, z2, rtv]) rfl ⟨_, _, F, rfl, hup.fr ((((Fr.refl (At (w.heap.size + 1)) w4).setAt 0 _).setAt 1 _).setAt 2 _) hne hne2, hfz, fun k hk => .inr (Nat.le_trans hw2 (HR4.out.ge k hk)), fun k hk => .inl hk⟩
    exact AllReadyH.nil
end Go.Proofs.Ytlagakcpjmjdfaa
