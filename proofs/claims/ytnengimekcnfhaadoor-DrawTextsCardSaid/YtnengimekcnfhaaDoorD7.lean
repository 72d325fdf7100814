import Derived.Test.YtnengimekcnfhaaDoorH1
set_option linter.unusedSimpArgs false
set_option linter.unusedVariables false
set_option maxRecDepth 20000
namespace Go.Proofs.YtnengimekcnfhaaDoor
open Go.RowKit Go.Shelf Go.Proofs.YtnengimekcnfhaaDoorW.PrintWords
section
open Go.Proofs.YtnengimekcnfhaaDoorW.PrintMore
attribute [local go_sem] Oper.semAt_some max2_mx min2_mn max_two min_two
set_option maxHeartbeats 8000000 in
theorem dFill_in (w : World) (f g gb W H b : Nat) (cs : List Cl) (nv : Value) (ns : List Wr) (v : Value) (xs : List Wn) (next id : Int) (r : Rc) (c : Cl) (t : Wn)
    (hfd : FD w f g gb W H cs nv ns) (hsk : SK w b (rect0 W H) v xs next) (hl : xs.length ≤ 4096) (hg : getW xs id = some t) (hIx : ∀ q ∈ xs, q.r.I) (htr : t.r.Right) (htw : t.w ≤ 512) (hth : t.h ≤ 512) (hr : r.Right) (hscr : ∀ q ∈ xs, 0 ≤ q.x ∧ 0 ≤ q.y ∧ q.x + q.w ≤ W ∧ q.y + q.h ≤ H) (hid0 : id ≠ 0) (hns : ns.length ≤ 700000) :
    Calls Tryd.prog 11 #[.pointer (some ⟨f, 0, none⟩), .pointer (some ⟨b, 0, none⟩), .int .i64 id, r.v, c.v] w (DrawTo w f g gb W H b (rect0 W H) v xs next nv (foldF W xs id c cs ns (plL (t.x + (inW t r).x) (t.y + (inW t r).y) (inW t r).w.toNat (inW t r).h.toNat))) := by
  have hb0 : Fr NoB w (((((w.alloc (.cells #[.pointer (some ⟨f, 0, none⟩)] 29)).alloc (.cells #[.pointer (some ⟨b, 0, none⟩)] 31)).alloc (.cells #[.int .i64 id] 3)).alloc (.cells #[.int .i64 r.x, .int .i64 r.y, .int .i64 r.w, .int .i64 r.h] 37)).alloc (.cells #[.int .i32 c.r, .int .i64 c.fg, .int .i64 c.bg, .int .i64 c.fl] 40)) := (((((Fr.refl _ _).alloc _).alloc _).alloc _).alloc _).alloc _
  have HWi := hid (window_any _ f b (rect0 W H) v xs next id (hsk.frd hb0) hl)
  rw [hg] at HWi
  have HWi' : Hid (Calls Tryd.prog 20 #[.pointer (some ⟨f, 0, none⟩), .pointer (some ⟨b, 0, none⟩), .int .i64 id] (((((w.alloc (.cells #[.pointer (some ⟨f, 0, none⟩)] 29)).alloc (.cells #[.pointer (some ⟨b, 0, none⟩)] 31)).alloc (.cells #[.int .i64 id] 3)).alloc (.cells #[.int .i64 r.x, .int .i64 r.y, .int .i64 r.w, .int .i64 r.h] 37)).alloc (.cells #[.int .i32 c.r, .int .i64 c.fg, .int .i64 c.bg, .int .i64 c.fl] 40)) fun e w' => e = .returned (.tuple #[.agg #[.int .i64 t.id, .int .i64 t.env, .int .i64 t.x, .int .i64 t.y, .int .i64 t.w, .int .i64 t.h, .bool t.hid], .int .i64 0]) ∧ Fr NoB (((((w.alloc (.cells #[.pointer (some ⟨f, 0, none⟩)] 29)).alloc (.cells #[.pointer (some ⟨b, 0, none⟩)] 31)).alloc (.cells #[.int .i64 id] 3)).alloc (.cells #[.int .i64 r.x, .int .i64 r.y, .int .i64 r.w, .int .i64 r.h] 37)).alloc (.cells #[.int .i32 c.r, .int .i64 c.fg, .int .i64 c.bg, .int .i64 c.fl] 40)) w') := HWi
  have HF0 := hid hb0
  have B0 := ((((Blk.new w 29 [.pointer (some ⟨f, 0, none⟩)]).alloc (.cells #[.pointer (some ⟨b, 0, none⟩)] 31)).alloc (.cells #[.int .i64 id] 3)).alloc (.cells #[.int .i64 r.x, .int .i64 r.y, .int .i64 r.w, .int .i64 r.h] 37)).alloc (.cells #[.int .i32 c.r, .int .i64 c.fg, .int .i64 c.bg, .int .i64 c.fl] 40)
  have B1 := (((Blk.new (w.alloc (.cells #[.pointer (some ⟨f, 0, none⟩)] 29)) 31 [.pointer (some ⟨b, 0, none⟩)]).alloc (.cells #[.int .i64 id] 3)).alloc (.cells #[.int .i64 r.x, .int .i64 r.y, .int .i64 r.w, .int .i64 r.h] 37)).alloc (.cells #[.int .i32 c.r, .int .i64 c.fg, .int .i64 c.bg, .int .i64 c.fl] 40)
  have B2 := ((Blk.new ((w.alloc (.cells #[.pointer (some ⟨f, 0, none⟩)] 29)).alloc (.cells #[.pointer (some ⟨b, 0, none⟩)] 31)) 3 [.int .i64 id]).alloc (.cells #[.int .i64 r.x, .int .i64 r.y, .int .i64 r.w, .int .i64 r.h] 37)).alloc (.cells #[.int .i32 c.r, .int .i64 c.fg, .int .i64 c.bg, .int .i64 c.fl] 40)
  have B3 := (Blk.new (((w.alloc (.cells #[.pointer (some ⟨f, 0, none⟩)] 29)).alloc (.cells #[.pointer (some ⟨b, 0, none⟩)] 31)).alloc (.cells #[.int .i64 id] 3)) 37 r.cells).alloc (.cells #[.int .i32 c.r, .int .i64 c.fg, .int .i64 c.bg, .int .i64 c.fl] 40)
  have B4 := Blk.new ((((w.alloc (.cells #[.pointer (some ⟨f, 0, none⟩)] 29)).alloc (.cells #[.pointer (some ⟨b, 0, none⟩)] 31)).alloc (.cells #[.int .i64 id] 3)).alloc (.cells #[.int .i64 r.x, .int .i64 r.y, .int .i64 r.w, .int .i64 r.h] 37)) 40 c.cells
  simp only [World.size_alloc] at B1 B2 B3 B4
  have HB0 := hid B0
  have HB1 := hid B1
  have HB2 := hid B2
  have HB3 := hid B3
  have HB4 := hid B4
  have hgb := hfd.gd.cel.lt
  clear hb0 HWi B0 B1 B2 B3 B4 hg
  have n1 : decide r.Right = true := decide_eq_true hr
  have HRr := fun w9 => hid (rRight_any w9 r)
  unfold Rc.v at HRr
  refine (callsIn_wide (n := 3)).1 ?_
  refine callsIn_of_wp_marks Tryd.func11 rfl trivial ?_ rfl
  simp only [Tryd.ntmps11, Rc.v, Cl.v, List.size_toArray, List.length_cons, List.length_nil, Nat.reduceAdd, Nat.reduceSub, Array.replicate_succ, Array.replicate_zero, List.push_toArray, List.append_toArray, List.nil_append, List.cons_append]
  gi_wp2_with fail
  refine ⟨trivial, (callsIn_wide.2 HWi'.out).mono ?_⟩
  rintro e' w1 ⟨rfl, hf1⟩
  have HF1 := hid (HF0.out.trans hf1)
  have HC0 := hid (HB0.out.fr hf1 (fun h => h))
  have HC1 := hid (HB1.out.fr hf1 (fun h => h))
  have HC2 := hid (HB2.out.fr hf1 (fun h => h))
  have HC3 := hid (HB3.out.fr hf1 (fun h => h))
  have HC4 := hid (HB4.out.fr hf1 (fun h => h))
  have k3 := HC3.out.cell 0 rfl
  have k3b := HC3.out.cell 1 rfl
  have k3c := HC3.out.cell 2 rfl
  have k3d := HC3.out.cell 3 rfl
  have k3l := HC3.out.lt
  have k4l := HC4.out.lt
  clear hf1
  gi_wp2_with fail
  have hD := Blk.new w1 58 t.cells
  have HD := hid hD
  clear hD
  refine ⟨trivial, (callsIn_wide.2 (HRr _).out).mono ?_⟩
  rintro e' w2 ⟨rfl, hf2⟩
  rw [n1]
  have HFx := hid (((Fr.refl NoB w1).alloc (.cells #[.int .i64 t.id, .int .i64 t.env, .int .i64 t.x, .int .i64 t.y, .int .i64 t.w, .int .i64 t.h, .bool t.hid] 58)).trans hf2)
  have hD2 := HD.out.fr hf2 (fun h => h)
  have d0 := hD2.cell 0 rfl
  have d1 := hD2.cell 1 rfl
  have d2 := hD2.cell 2 rfl
  have d3 := hD2.cell 3 rfl
  have d4 := hD2.cell 4 rfl
  have d5 := hD2.cell 5 rfl
  have d6 := hD2.cell 6 rfl
  have dl := hD2.lt
  have hR2 := HC3.out.fr HFx.out (fun h => h)
  have r0 := hR2.cell 0 rfl
  have r1 := hR2.cell 1 rfl
  have r2 := hR2.cell 2 rfl
  have r3 := hR2.cell 3 rfl
  have rl := hR2.lt
  have HD2 := hid hD2
  clear hD2 hR2 hf2 k3 k3b k3c k3d
  gi_wp2_with fail
  have HPl : ∀ w0, Hid (Calls Tryd.prog 22 #[.agg #[.int .i64 t.id, .int .i64 t.env, .int .i64 t.x, .int .i64 t.y, .int .i64 t.w, .int .i64 t.h, .bool t.hid], .agg #[.int .i64 r.x, .int .i64 r.y, .int .i64 r.w, .int .i64 r.h]] w0 fun e w' => ∃ iB wB, e = .returned (.func (.func 40) #[] #[.pointer (some ⟨iB, 0, none⟩), .pointer (some ⟨wB, 0, none⟩)]) ∧ Blk w' iB 37 (inW t r).cells ∧ Blk w' wB 58 t.cells ∧ Fr NoB w0 w' ∧ w0.heap.size ≤ iB ∧ w0.heap.size ≤ wB) := fun w0 => places_any w0 t r
  have HE0 := hid (Blk.new w2 3 [.int .i64 0])
  refine ⟨trivial, (callsIn_wide.2 (HPl _).out).mono ?_⟩
  rintro e' w3 ⟨iB, wB, rfl, hiB, hwB, hf3, l1, l2⟩
  gi_wp2_with fail
  obtain ⟨iW, iH, e1, e2, e3, e4, e5⟩ := inW_ok t r htr
  have hiw : iW ≤ 512 ∧ iH ≤ 512 := by
    rcases e5 with ⟨_, h1, h2⟩ | ⟨_, h1, h2, h3, h4, h5, h6, h7, h8⟩ <;> omega
  have hmul : iH * iW ≤ 512 * 512 := Nat.mul_le_mul hiw.2 hiw.1
  generalize inW t r = ir at *
  have HFb := hid ((HFx.out.alloc (.cells #[.int .i64 0] 3)).trans hf3)
  have HF2 := hid (HF1.out.trans HFb.out)
  have hw1 : w.heap.size + 1 + 1 + 1 + 1 < w1.heap.size := k4l
  have hw2 : w1.heap.size < w2.heap.size := dl
  have HCS : Hid (FS w w3 w.heap.size w2.heap.size f g gb W H b (rect0 W H) v xs next id c nv cs ns 0) :=
    ⟨⟨nv, hfd.frd HF2.out, fun k hk => .inl hk⟩, hsk.frd HF2.out, HC0.out.fr HFb.out (fun h => h), HC1.out.fr HFb.out (fun h => h), HC2.out.fr HFb.out (fun h => h), HC4.out.fr HFb.out (fun h => h), HE0.out.fr hf3 (fun h => h), HF2.out.mono (fun _ h => h.elim), ⟨Nat.le_refl _, by omega⟩, hgb⟩
  have hn3 : (1 : Nat) ≤ 3 := by decide
  refine wpIn_rangeFunc_ownF (F := Fence.wide) (n := 3) rfl hn3 (gf := 40) (lb := #[.pointer (some ⟨iB, 0, none⟩), .pointer (some ⟨wB, 0, none⟩)]) rfl trivial (enters_of Tryd.func40 (by kernel_rfl) rfl)
    (pl_stops Fence.wide (3 - 1) trivial rfl (by decide) iB wB t ir iW iH e1 e2 (by omega) (by omega) e3 e4 htr.x htr.y w3 hiB hwB)
    (fun h k => ⟨k.1.trans h.1, k.2.trans h.2⟩)
    (fun W0 l0 o o' hle ho hc hw => ?kb) (Below.refl _ _) (fun _ => rfl)
    (fun pre W0 => FS w W0 w.heap.size w2.heap.size f g gb W H b (rect0 W H) v xs next id c nv (foldF W xs id c cs ns pre).1 (foldF W xs id c cs ns pre).2.1 (foldF W xs id c cs ns pre).2.2 ∧ Blk W0 iB 37 ir.cells ∧ Blk W0 wB 58 t.cells)
    (fun _ _ _ => False)
    (fun s A0 B0 row hs hg hr => ⟨hs.1.move hg (fun r e => ⟨Nat.le_trans HF2.out.size (hr r e).1, (hr r e).2⟩), hs.2.1.fr (Fr.of_grown hg) (fun e => by obtain ⟨_, o, h1, h2⟩ := hr _ e; exact noncell hs.2.1 h1 h2 rfl), hs.2.2.fr (Fr.of_grown hg) (fun e => by obtain ⟨_, o, h1, h2⟩ := hr _ e; exact noncell hs.2.2 h1 h2 rfl)⟩)
    (fun _ _ _ _ _ hs _ _ => hs)
    ⟨HCS.out, hiB, hwB⟩ ?a1 ?assign ?body ?done ?stop
  case assign =>
    intro l0 p W0 K hK
    gi_wp2
    exact hK
  case kb =>
    have h1 := hiB.lt
    have h2 := hwB.lt
    exact ⟨World.putObj_heap_other (by omega), World.putObj_heap_other (by omega)⟩
  case stop =>
    rintro D0 c0 pre W0 _ _ h _
    exact h.elim
  case done =>
    rintro D0 ps W0 hD rfl ⟨hI, _, _⟩ hK
    have hmv := hI.move (grownBy_putObj' W0 D0 (.deferred none)) (fun r e => by cases e; exact ⟨Nat.le_trans HF2.out.size hD, _, hK, rfl⟩)
    have c16 := hI.e.cell 0 rfl
    have l16 := hI.e.lt
    have HMV := hid hmv
    clear hI hmv
    gi_wp2
    refine ⟨by simp, .inl ⟨_, _, rfl, run_takeDeferred hK, ?_⟩⟩
    rw [e1, e2, Int.toNat_natCast, Int.toNat_natCast]
    exact ⟨_, results_tmp2 rfl _ _ _, rfl, HMV.out.fd, HMV.out.sk, HMV.out.frm⟩
  case body =>
    rintro l0 pre p W0 ⟨hI, hiW, hwW⟩ hlen
    obtain ⟨hb1, hb2, hb3⟩ := foldF_bd W xs id c cs ns pre
    have hsn := foldF_snoc W xs id c cs ns pre p
    generalize foldF W xs id c cs ns pre = st at *
    have HSN := hid hsn
    have HIW := hid hiW
    have HWW := hid hwW
    clear hsn hiW hwW
    obtain ⟨⟨pu, pv⟩, hp1, hp2, hp3, hp4⟩ := p
    simp only at hp1 hp2 hp3 hp4
    have a1 := hI.b1.cell 0 rfl
    have a2 := hI.b2.cell 0 rfl
    have l1' := hI.b1.lt
    have l2' := hI.b2.lt
    have hinner : ∀ q ∈ xs, q.r.I := hIx
    obtain ⟨nx1, nx2⟩ := e3
    obtain ⟨ny1, ny2⟩ := e4
    obtain ⟨mx1, mx2⟩ : Near t.x := htr.x
    obtain ⟨my1, my2⟩ : Near t.y := htr.y
    have hfw : Fr NoB W0 W0.drew := Fr.drew (Fr.refl _ _)
    have HOw := fun w0 h0 => hid (sOwner_any w0 b (rect0 W H) v xs next pu pv h0 hl hinner (by unfold I64; omega) (by unfold I64; omega))
    by_cases how : ownerOf xs pu pv = id
    · obtain ⟨q, hq1, hq2, hq3⟩ := ownerOf_at how hid0
      have hs := hscr q hq1
      have q1 : 0 < q.w ∧ q.x ≤ pu ∧ pu - q.x < q.w := hq2
      have q2 : 0 < q.h ∧ q.y ≤ pv ∧ pv - q.y < q.h := hq3
      obtain ⟨pn, rfl⟩ : ∃ n : Nat, pu = n := ⟨pu.toNat, by omega⟩
      obtain ⟨qn, rfl⟩ : ∃ n : Nat, pv = n := ⟨pv.toNat, by omega⟩
      have hpn : pn < W := by omega
      have hqn : qn < H := by omega
      have hst : stepF W xs id c st ((pn : Int), (qn : Int)) = (setG W st.1 pn qn c, st.2.1 ++ [⟨pn, qn, c⟩], st.2.2 + 1) := if_pos how
      have HST := hid (HSN.out.trans hst)
      have t1 : (ownerOf xs pn qn == id) = true := by rw [beq_iff_eq]; exact how
      have t4 : IntKind.i64.wrap (st.2.2 + 1) = st.2.2 + 1 := IntWalk.i64_in _ (by omega)
      obtain ⟨nv1, hfd1, hown1⟩ := hI.fd
      have HPut := hid (fun (w9 : World) (h9 : Fr NoB W0 w9) => fPut_in w9 f g gb W H st.1 nv1 st.2.1 pn qn c (hfd1.frd h9) hpn hqn (by omega))
      have HFD := hid hfd1
      have HOW := hid hown1
      have HI := hid hI
      have HSv : Hid (∀ cs' ns' many' W2, FS w W2 w.heap.size w2.heap.size f g gb W H b (rect0 W H) v xs next id c nv cs' ns' many' → W2.cell? ⟨w.heap.size, 0, none⟩ = some (.pointer (some ⟨f, 0, none⟩)) ∧ W2.cell? ⟨w.heap.size + 1, 0, none⟩ = some (.pointer (some ⟨b, 0, none⟩)) ∧ W2.cell? ⟨w.heap.size + 1 + 1, 0, none⟩ = some (.int .i64 id) ∧ W2.cell? ⟨w.heap.size + 1 + 1 + 1 + 1, 0, none⟩ = some (.int .i32 c.r) ∧ W2.cell? ⟨w.heap.size + 1 + 1 + 1 + 1, 1, none⟩ = some (.int .i64 c.fg) ∧ W2.cell? ⟨w.heap.size + 1 + 1 + 1 + 1, 2, none⟩ = some (.int .i64 c.bg) ∧ W2.cell? ⟨w.heap.size + 1 + 1 + 1 + 1, 3, none⟩ = some (.int .i64 c.fl)) := fun cs' ns' many' W2 h => ⟨h.b0.cell 0 rfl, h.b1.cell 0 rfl, h.b2.cell 0 rfl, h.b3.cell 0 rfl, h.b3.cell 1 rfl, h.b3.cell 2 rfl, h.b3.cell 3 rfl⟩
      have hBE : w.heap.size + 4 < w2.heap.size := by omega
      clear how hst hI hfd1 hown1 hq1 hq2 hq3 hs q1 q2 e5 hb1 hb2 hb3 hscr
      gi_wp2_with fail
      refine wpIn_region_round (S := (fun W : World => W.cell? ⟨w.heap.size, 0, none⟩ = some (.pointer (some ⟨f, 0, none⟩)) ∧ W.cell? ⟨w.heap.size + 1, 0, none⟩ = some (.pointer (some ⟨b, 0, none⟩)) ∧ W.cell? ⟨w.heap.size + 1 + 1, 0, none⟩ = some (.int .i64 id) ∧ W.cell? ⟨w.heap.size + 1 + 1 + 1 + 1, 0, none⟩ = some (.int .i32 c.r) ∧ W.cell? ⟨w.heap.size + 1 + 1 + 1 + 1, 1, none⟩ = some (.int .i64 c.fg) ∧ W.cell? ⟨w.heap.size + 1 + 1 + 1 + 1, 2, none⟩ = some (.int .i64 c.bg) ∧ W.cell? ⟨w.heap.size + 1 + 1 + 1 + 1, 3, none⟩ = some (.int .i64 c.fl))) (by kernel_rfl) (by kernel_rfl) (HSv.out _ _ _ _ (HI.out.frd hfw)) (fun hHeld => ?_)
      refine wpAnyH_take (i := 0) (oi := { dst := some 37, op := Op.load 31 (Operand.tmp 6), type := 31, pos := "draw.go:67", after := #[], guard := none }) (v := ?v0) rfl (by kernel_rfl) (by kernel_rfl) (by kernel_rfl) (fun _ _ _ h => h) (Or.inl ⟨by rfl, ?hy0⟩) (by assumption) ?r0
      case hy0 => (intro w hSw; (try dsimp only at hSw); go_simp; try (with_reducible rfl))
      try simp only [Act.put, List.setIfInBounds_toArray, List.set_cons_zero, List.set_cons_succ]
      refine wpAnyH_take (i := 1) (oi := { dst := some 38, op := Op.move (Operand.tmp 15), type := 3, pos := "draw.go:67", after := #[], guard := none }) (v := ?v1) rfl (by kernel_rfl) (by kernel_rfl) (by kernel_rfl) (fun _ _ _ h => h) (Or.inl ⟨by rfl, ?hy1⟩) (by assumption) ?r1
      case hy1 => (intro w hSw; (try dsimp only at hSw); go_simp; try (with_reducible rfl))
      try simp only [Act.put, List.setIfInBounds_toArray, List.set_cons_zero, List.set_cons_succ]
      refine wpAnyH_take (i := 2) (oi := { dst := some 39, op := Op.move (Operand.tmp 16), type := 3, pos := "draw.go:67", after := #[], guard := none }) (v := ?v2) rfl (by kernel_rfl) (by kernel_rfl) (by kernel_rfl) (fun _ _ _ h => h) (Or.inl ⟨by rfl, ?hy2⟩) (by assumption) ?r2
      case hy2 => (intro w hSw; (try dsimp only at hSw); go_simp; try (with_reducible rfl))
      try simp only [Act.put, List.setIfInBounds_toArray, List.set_cons_zero, List.set_cons_succ]
      refine wpAnyH_take (i := 4) (oi := { dst := some 41, op := Op.load 3 (Operand.tmp 7), type := 3, pos := "draw.go:67", after := #[], guard := none }) (v := ?v4) rfl (by kernel_rfl) (by kernel_rfl) (by kernel_rfl) (fun _ _ _ h => h) (Or.inl ⟨by rfl, ?hy4⟩) (by assumption) ?r4
      case hy4 => (intro w hSw; (try dsimp only at hSw); go_simp; try (with_reducible rfl))
      try simp only [Act.put, List.setIfInBounds_toArray, List.set_cons_zero, List.set_cons_succ]
      refine wpAnyH_ready (rs := [3]) (by kernel_rfl) (by simp) ?_
      refine AllReadyH.cons (o := { dst := some 40, op := Op.call { callee := Callee.value (Operand.func 23), args := #[Operand.tmp 37, Operand.tmp 38, Operand.tmp 39], argTypes := #[31, 3, 3] }, type := 3, pos := "draw.go:67", after := #[{ on := 0, ground := Ground.data }, { on := 1, ground := Ground.data }, { on := 2, ground := Ground.data }], guard := none }) rfl (fun K hK => ?_) AllReadyH.nil
      go_simp
      refine (HOw _ (HI.out.sk.frd hfw)).out.mono ?_
      rintro e' w5 ⟨rfl, hf5⟩
      have HF5 : Hid (Fr NoB W0 w5) := Fr.trans hfw hf5
      clear hHeld
      go_wp2_with fail
      refine hK.out _ _ (HSv.out _ _ _ _ (HI.out.frd HF5.out)) (fun hHeld => ?_)
      clear hK K
      try simp only [Act.put, List.setIfInBounds_toArray, List.set_cons_zero, List.set_cons_succ]
      refine wpAnyH_take (i := 5) (oi := { dst := some 42, op := Op.binOp BinOp.eql 3 (Operand.tmp 40) (Operand.tmp 41) 3, type := 4, pos := "draw.go:67", after := #[{ on := 3, ground := Ground.data }, { on := 4, ground := Ground.data }], guard := none }) (v := ?v5) rfl (by kernel_rfl) (by kernel_rfl) (by kernel_rfl) (fun _ _ _ h => h) (Or.inl ⟨by rfl, ?hy5⟩) (by assumption) ?r5
      case hy5 => (intro w hSw; (try dsimp only at hSw); go_simp; try (with_reducible rfl))
      try simp only [Act.put, List.setIfInBounds_toArray, List.set_cons_zero, List.set_cons_succ]
      refine wpAnyH_take (i := 6) (oi := { dst := some 43, op := Op.move (Operand.tmp 42), type := 4, pos := "draw.go:67", after := #[{ on := 5, ground := Ground.data }, { on := 3, ground := Ground.chain }], guard := none }) (v := ?v6) rfl (by kernel_rfl) (by kernel_rfl) (by kernel_rfl) (fun _ _ _ h => h) (Or.inl ⟨by rfl, ?hy6⟩) (by assumption) ?r6
      case hy6 => (intro w hSw; (try dsimp only at hSw); go_simp; try (with_reducible rfl))
      try simp only [Act.put, List.setIfInBounds_toArray, List.set_cons_zero, List.set_cons_succ]
      refine wpAnyH_take (i := 7) (oi := { dst := some 44, op := Op.load 29 (Operand.tmp 5), type := 29, pos := "draw.go:67", after := #[{ on := 6, ground := Ground.guard }], guard := some (6, true) }) (v := ?v7) rfl (by kernel_rfl) (by kernel_rfl) (by kernel_rfl) (fun _ _ _ h => h) (Or.inl ⟨by rfl, ?hy7⟩) (by assumption) ?r7
      case hy7 => (intro w hSw; (try dsimp only at hSw); go_simp; try (with_reducible rfl))
      try simp only [Act.put, List.setIfInBounds_toArray, List.set_cons_zero, List.set_cons_succ]
      refine wpAnyH_take (i := 8) (oi := { dst := some 45, op := Op.move (Operand.tmp 15), type := 3, pos := "draw.go:67", after := #[{ on := 6, ground := Ground.guard }], guard := some (6, true) }) (v := ?v8) rfl (by kernel_rfl) (by kernel_rfl) (by kernel_rfl) (fun _ _ _ h => h) (Or.inl ⟨by rfl, ?hy8⟩) (by assumption) ?r8
      case hy8 => (intro w hSw; (try dsimp only at hSw); go_simp; try (with_reducible rfl))
      try simp only [Act.put, List.setIfInBounds_toArray, List.set_cons_zero, List.set_cons_succ]
      refine wpAnyH_take (i := 9) (oi := { dst := some 46, op := Op.move (Operand.tmp 16), type := 3, pos := "draw.go:67", after := #[{ on := 6, ground := Ground.guard }], guard := some (6, true) }) (v := ?v9) rfl (by kernel_rfl) (by kernel_rfl) (by kernel_rfl) (fun _ _ _ h => h) (Or.inl ⟨by rfl, ?hy9⟩) (by assumption) ?r9
      case hy9 => (intro w hSw; (try dsimp only at hSw); go_simp; try (with_reducible rfl))
      try simp only [Act.put, List.setIfInBounds_toArray, List.set_cons_zero, List.set_cons_succ]
      refine wpAnyH_take (i := 10) (oi := { dst := some 47, op := Op.load 40 (Operand.tmp 9), type := 40, pos := "draw.go:67", after := #[{ on := 6, ground := Ground.guard }], guard := some (6, true) }) (v := ?v10) rfl (by kernel_rfl) (by kernel_rfl) (by kernel_rfl) (fun _ _ _ h => h) (Or.inl ⟨by rfl, ?hy10⟩) (by assumption) ?r10
      case hy10 => (intro w hSw; (try dsimp only at hSw); go_simp; try (with_reducible rfl))
      try simp only [Act.put, List.setIfInBounds_toArray, List.set_cons_zero, List.set_cons_succ]
      refine wpAnyH_ready (rs := [11]) (by kernel_rfl) (by simp) ?_
      refine AllReadyH.cons (o := { dst := some 48, op := Op.call { callee := Callee.value (Operand.func 24), args := #[Operand.tmp 44, Operand.tmp 45, Operand.tmp 46, Operand.tmp 47], argTypes := #[29, 3, 3, 40] }, type := 4, pos := "draw.go:67", after := #[{ on := 7, ground := Ground.data }, { on := 8, ground := Ground.data }, { on := 9, ground := Ground.data }, { on := 10, ground := Ground.data }, { on := 6, ground := Ground.chain }, { on := 6, ground := Ground.guard }], guard := some (6, true) }) rfl (fun K hK => ?_) AllReadyH.nil
      go_simp
      refine (HPut.out _ HF5.out).mono ?_
      rintro e' w6 ⟨rfl, nv', hfd6, hf6, hown6⟩
      have HI6 := hid ((HI.out.frd HF5.out).put (HFD.out.frd HF5.out) HOW.out hfd6 hf6 (fun k hk => hown6 k hk))
      have HF6 := hid (keeps_fb (HFD.out.frd HF5.out) hf6)
      have HF6' := hid hf6
      clear hHeld hfd6 hf6 hown6
      go_wp2_with fail
      refine hK.out _ _ (HSv.out _ _ _ _ HI6.out) (fun hHeld => ?_)
      clear hK K
      try simp only [Act.put, List.setIfInBounds_toArray, List.set_cons_zero, List.set_cons_succ]
      refine wpAnyH_take (i := 12) (oi := { dst := some 49, op := Op.pick (Operand.tmp 43) (Operand.tmp 48) (Operand.const (Value.bool false)), type := 4, pos := "draw.go:67", after := #[{ on := 6, ground := Ground.data }, { on := 11, ground := Ground.data }], guard := none }) (v := ?v12) rfl (by kernel_rfl) (by kernel_rfl) (by kernel_rfl) (fun _ _ _ h => h) (Or.inl ⟨by rfl, ?hy12⟩) (by assumption) ?r12
      case hy12 => (intro w hSw; (try dsimp only at hSw); go_simp; try (with_reducible rfl))
      try simp only [Act.put, List.setIfInBounds_toArray, List.set_cons_zero, List.set_cons_succ]
      refine wpAnyH_done (by kernel_rfl) ?_ _
      refine onlyOn_normal ?_
      have m16 := HI6.out.e.cell 0 rfl
      have m16f := HI6.out.e.frozen 0
      have m16l := HI6.out.e.lt
      clear hHeld
      gi_wp2_with fail
      have hEs : Fr (At w2.heap.size) w6 (w6.setCell ⟨w2.heap.size, 0, none⟩ (.int .i64 (st.2.2 + 1))) := (Fr.refl _ _).setAt 0 _
      have bI : Blk w6 iB 37 ir.cells := (HIW.out.fr HF5.out (fun h => h)).fr HF6'.out ((HFD.out.frd HF5.out).notFB (HIW.out.fr HF5.out (fun h => h)) (by decide) (by decide) (by decide))
      have bW : Blk w6 wB 58 t.cells := (HWW.out.fr HF5.out (fun h => h)).fr HF6'.out ((HFD.out.frd HF5.out).notFB (HWW.out.fr HF5.out (fun h => h)) (by decide) (by decide) (by decide))
      have bI' := bI.fr hEs (fun h => absurd (blk_type (h ▸ bI) HI6.out.e) (by decide))
      have bW' := bW.fr hEs (fun h => absurd (blk_type (h ▸ bW) HI6.out.e) (by decide))
      exact ⟨((keeps_fr HF5.out (fun _ h => h.elim)).trans HF6.out).trans (KeepsOthers.setCell _ _ _), ⟨bI'.trans HIW.out.symm, bW'.trans HWW.out.symm⟩, by rw [HST.out]; exact HI6.out.count hBE (st.2.2 + 1), bI', bW'⟩
    · have hst : stepF W xs id c st (pu, pv) = st := if_neg how
      have HST := hid (HSN.out.trans hst)
      have t1 : (ownerOf xs pu pv == id) = false := by rw [beq_eq_false_iff_ne]; exact how
      have HI := hid hI
      have HSv : Hid (∀ W, Fr NoB W0 W → W.cell? ⟨w.heap.size + 1, 0, none⟩ = some (.pointer (some ⟨b, 0, none⟩)) ∧ W.cell? ⟨w.heap.size + 1 + 1, 0, none⟩ = some (.int .i64 id)) := fun W h => ⟨(HI.out.b1.fr h (fun h => h)).cell 0 rfl, (HI.out.b2.fr h (fun h => h)).cell 0 rfl⟩
      clear how hst hI
      gi_wp2_with fail
      refine wpIn_region_round (S := (fun W : World => Fr NoB W0 W ∧ W.cell? ⟨w.heap.size + 1, 0, none⟩ = some (.pointer (some ⟨b, 0, none⟩)) ∧ W.cell? ⟨w.heap.size + 1 + 1, 0, none⟩ = some (.int .i64 id))) (by kernel_rfl) (by kernel_rfl) ⟨hfw, HSv.out _ hfw⟩ (fun hHeld => ?_)
      refine wpAnyH_take (i := 0) (oi := { dst := some 37, op := Op.load 31 (Operand.tmp 6), type := 31, pos := "draw.go:67", after := #[], guard := none }) (v := ?va0) rfl (by kernel_rfl) (by kernel_rfl) (by kernel_rfl) (fun _ _ _ h => h) (Or.inl ⟨by rfl, ?hya0⟩) (by assumption) ?ra0
      case hya0 => (intro w hSw; (try dsimp only at hSw); go_simp; try (with_reducible rfl))
      try simp only [Act.put, List.setIfInBounds_toArray, List.set_cons_zero, List.set_cons_succ]
      refine wpAnyH_take (i := 1) (oi := { dst := some 38, op := Op.move (Operand.tmp 15), type := 3, pos := "draw.go:67", after := #[], guard := none }) (v := ?va1) rfl (by kernel_rfl) (by kernel_rfl) (by kernel_rfl) (fun _ _ _ h => h) (Or.inl ⟨by rfl, ?hya1⟩) (by assumption) ?ra1
      case hya1 => (intro w hSw; (try dsimp only at hSw); go_simp; try (with_reducible rfl))
      try simp only [Act.put, List.setIfInBounds_toArray, List.set_cons_zero, List.set_cons_succ]
      refine wpAnyH_take (i := 2) (oi := { dst := some 39, op := Op.move (Operand.tmp 16), type := 3, pos := "draw.go:67", after := #[], guard := none }) (v := ?va2) rfl (by kernel_rfl) (by kernel_rfl) (by kernel_rfl) (fun _ _ _ h => h) (Or.inl ⟨by rfl, ?hya2⟩) (by assumption) ?ra2
      case hya2 => (intro w hSw; (try dsimp only at hSw); go_simp; try (with_reducible rfl))
      try simp only [Act.put, List.setIfInBounds_toArray, List.set_cons_zero, List.set_cons_succ]
      refine wpAnyH_take (i := 4) (oi := { dst := some 41, op := Op.load 3 (Operand.tmp 7), type := 3, pos := "draw.go:67", after := #[], guard := none }) (v := ?va4) rfl (by kernel_rfl) (by kernel_rfl) (by kernel_rfl) (fun _ _ _ h => h) (Or.inl ⟨by rfl, ?hya4⟩) (by assumption) ?ra4
      case hya4 => (intro w hSw; (try dsimp only at hSw); go_simp; try (with_reducible rfl))
      try simp only [Act.put, List.setIfInBounds_toArray, List.set_cons_zero, List.set_cons_succ]
      refine wpAnyH_ready (rs := [3]) (by kernel_rfl) (by simp) ?_
      refine AllReadyH.cons (o := { dst := some 40, op := Op.call { callee := Callee.value (Operand.func 23), args := #[Operand.tmp 37, Operand.tmp 38, Operand.tmp 39], argTypes := #[31, 3, 3] }, type := 3, pos := "draw.go:67", after := #[{ on := 0, ground := Ground.data }, { on := 1, ground := Ground.data }, { on := 2, ground := Ground.data }], guard := none }) rfl (fun K hK => ?_) AllReadyH.nil
      go_simp
      refine (HOw _ (HI.out.sk.frd hfw)).out.mono ?_
      rintro e' w5 ⟨rfl, hf5⟩
      have HF5 : Hid (Fr NoB W0 w5) := Fr.trans hfw hf5
      clear hHeld
      go_wp2_with fail
      refine hK.out _ _ (⟨HF5.out, HSv.out _ HF5.out⟩) (fun hHeld => ?_)
      clear hK K
      try simp only [Act.put, List.setIfInBounds_toArray, List.set_cons_zero, List.set_cons_succ]
      refine wpAnyH_take (i := 5) (oi := { dst := some 42, op := Op.binOp BinOp.eql 3 (Operand.tmp 40) (Operand.tmp 41) 3, type := 4, pos := "draw.go:67", after := #[{ on := 3, ground := Ground.data }, { on := 4, ground := Ground.data }], guard := none }) (v := ?va5) rfl (by kernel_rfl) (by kernel_rfl) (by kernel_rfl) (fun _ _ _ h => h) (Or.inl ⟨by rfl, ?hya5⟩) (by assumption) ?ra5
      case hya5 => (intro w hSw; (try dsimp only at hSw); go_simp; try (with_reducible rfl))
      try simp only [Act.put, List.setIfInBounds_toArray, List.set_cons_zero, List.set_cons_succ]
      refine wpAnyH_take (i := 6) (oi := { dst := some 43, op := Op.move (Operand.tmp 42), type := 4, pos := "draw.go:67", after := #[{ on := 5, ground := Ground.data }, { on := 3, ground := Ground.chain }], guard := none }) (v := ?va6) rfl (by kernel_rfl) (by kernel_rfl) (by kernel_rfl) (fun _ _ _ h => h) (Or.inl ⟨by rfl, ?hya6⟩) (by assumption) ?ra6
      case hya6 => (intro w hSw; (try dsimp only at hSw); go_simp; try (with_reducible rfl))
      try simp only [Act.put, List.setIfInBounds_toArray, List.set_cons_zero, List.set_cons_succ]
      refine wpAnyH_take (i := 7) (oi := { dst := some 44, op := Op.load 29 (Operand.tmp 5), type := 29, pos := "draw.go:67", after := #[{ on := 6, ground := Ground.guard }], guard := some (6, true) }) (v := undef) rfl (by kernel_rfl) (by kernel_rfl) (by kernel_rfl) (fun _ _ _ h => h) (Or.inr ⟨by rfl, rfl⟩) (by assumption) ?_
      try simp only [Act.put, List.setIfInBounds_toArray, List.set_cons_zero, List.set_cons_succ]
      refine wpAnyH_take (i := 8) (oi := { dst := some 45, op := Op.move (Operand.tmp 15), type := 3, pos := "draw.go:67", after := #[{ on := 6, ground := Ground.guard }], guard := some (6, true) }) (v := undef) rfl (by kernel_rfl) (by kernel_rfl) (by kernel_rfl) (fun _ _ _ h => h) (Or.inr ⟨by rfl, rfl⟩) (by assumption) ?_
      try simp only [Act.put, List.setIfInBounds_toArray, List.set_cons_zero, List.set_cons_succ]
      refine wpAnyH_take (i := 9) (oi := { dst := some 46, op := Op.move (Operand.tmp 16), type := 3, pos := "draw.go:67", after := #[{ on := 6, ground := Ground.guard }], guard := some (6, true) }) (v := undef) rfl (by kernel_rfl) (by kernel_rfl) (by kernel_rfl) (fun _ _ _ h => h) (Or.inr ⟨by rfl, rfl⟩) (by assumption) ?_
      try simp only [Act.put, List.setIfInBounds_toArray, List.set_cons_zero, List.set_cons_succ]
      refine wpAnyH_take (i := 10) (oi := { dst := some 47, op := Op.load 40 (Operand.tmp 9), type := 40, pos := "draw.go:67", after := #[{ on := 6, ground := Ground.guard }], guard := some (6, true) }) (v := undef) rfl (by kernel_rfl) (by kernel_rfl) (by kernel_rfl) (fun _ _ _ h => h) (Or.inr ⟨by rfl, rfl⟩) (by assumption) ?_
      try simp only [Act.put, List.setIfInBounds_toArray, List.set_cons_zero, List.set_cons_succ]
      refine wpAnyH_take (i := 11) (oi := { dst := some 48, op := Op.call { callee := Callee.value (Operand.func 24), args := #[Operand.tmp 44, Operand.tmp 45, Operand.tmp 46, Operand.tmp 47], argTypes := #[29, 3, 3, 40] }, type := 4, pos := "draw.go:67", after := #[{ on := 7, ground := Ground.data }, { on := 8, ground := Ground.data }, { on := 9, ground := Ground.data }, { on := 10, ground := Ground.data }, { on := 6, ground := Ground.chain }, { on := 6, ground := Ground.guard }], guard := some (6, true) }) (v := undef) rfl (by kernel_rfl) (by kernel_rfl) (by kernel_rfl) (fun _ _ _ h => h) (Or.inr ⟨by rfl, rfl⟩) (by assumption) ?_
      try simp only [Act.put, List.setIfInBounds_toArray, List.set_cons_zero, List.set_cons_succ]
      refine wpAnyH_take (i := 12) (oi := { dst := some 49, op := Op.pick (Operand.tmp 43) (Operand.tmp 48) (Operand.const (Value.bool false)), type := 4, pos := "draw.go:67", after := #[{ on := 6, ground := Ground.data }, { on := 11, ground := Ground.data }], guard := none }) (v := ?va12) rfl (by kernel_rfl) (by kernel_rfl) (by kernel_rfl) (fun _ _ _ h => h) (Or.inl ⟨by rfl, ?hya12⟩) (by assumption) ?ra12
      case hya12 => (intro w hSw; (try dsimp only at hSw); go_simp; try (with_reducible rfl))
      try simp only [Act.put, List.setIfInBounds_toArray, List.set_cons_zero, List.set_cons_succ]
      refine wpAnyH_done (by kernel_rfl) ?_ _
      refine onlyOn_normal ?_
      clear HSv hHeld
      gi_wp2_with fail
      exact ⟨keeps_fr HF5.out (fun _ h => h.elim), ⟨(HIW.out.fr HF5.out (fun h => h)).trans HIW.out.symm, (HWW.out.fr HF5.out (fun h => h)).trans HWW.out.symm⟩, by rw [HST.out]; exact HI.out.frd HF5.out, HIW.out.fr HF5.out (fun h => h), HWW.out.fr HF5.out (fun h => h)⟩
end
end Go.Proofs.YtnengimekcnfhaaDoor
