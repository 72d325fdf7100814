import Derived.Test.YtnengimekcnfhaaH1
import Derived.LoopIn
set_option linter.unusedSimpArgs false
set_option linter.unusedVariables false
set_option maxRecDepth 20000
namespace Go.Proofs.Ytnengimekcnfhaa
open Go.RowKit Go.Shelf Go.Proofs.YtnengimekcnfhaaW.PrintWords
section
open Go.Proofs.YtnengimekcnfhaaW.PrintMore
attribute [local go_sem] Oper.semAt_some max2_mx min2_mn max_two min_two
set_option maxHeartbeats 16000000 in
theorem dCopy_in (w : World) (f g gb W H b : Nat) (cs : List Cl) (nv : Value) (ns : List Wr) (v : Value) (xs : List Wn) (next id x y : Int) (r : Rc) (t : Wn)
    (hfd : FD w f g gb W H cs nv ns) (hsk : SK w b (rect0 W H) v xs next) (hl : xs.length ≤ 4096) (hg : getW xs id = some t) (hIx : ∀ q ∈ xs, q.r.I) (htr : t.r.Right) (htw : t.w ≤ 512) (hth : t.h ≤ 512) (hr : r.Right) (hx : Near x) (hy : Near y) (hscr : ∀ q ∈ xs, 0 ≤ q.x ∧ 0 ≤ q.y ∧ q.x + q.w ≤ W ∧ q.y + q.h ≤ H) (hid0 : id ≠ 0) (hns : ns.length ≤ 700000) (Ls : List Wr)
    (hLs : Ls = copyL W H xs id t r x y cs (plL (t.x + (inW t r).x) (t.y + (inW t r).y) (inW t r).w.toNat (inW t r).h.toNat)) :
    Calls Try.prog 23 #[.pointer (some ⟨f, 0, none⟩), .pointer (some ⟨b, 0, none⟩), .int .i64 id, r.v, .int .i64 x, .int .i64 y] w (DrawTo w f g gb W H b (rect0 W H) v xs next nv (putsG W cs Ls, ns ++ Ls, Ls.length)) := by
  have hb0 : Fr NoB w ((((((w.alloc (.cells #[.pointer (some ⟨f, 0, none⟩)] 27)).alloc (.cells #[.pointer (some ⟨b, 0, none⟩)] 29)).alloc (.cells #[.int .i64 id] 3)).alloc (.cells #[.int .i64 r.x, .int .i64 r.y, .int .i64 r.w, .int .i64 r.h] 23)).alloc (.cells #[.int .i64 x] 3)).alloc (.cells #[.int .i64 y] 3)) := ((((((Fr.refl _ _).alloc _).alloc _).alloc _).alloc _).alloc _).alloc _
  have HWi := hid (window_any _ f b (rect0 W H) v xs next id (hsk.frd hb0) hl)
  rw [hg] at HWi
  have HWi' : Hid (Calls Try.prog 28 #[.pointer (some ⟨f, 0, none⟩), .pointer (some ⟨b, 0, none⟩), .int .i64 id] ((((((w.alloc (.cells #[.pointer (some ⟨f, 0, none⟩)] 27)).alloc (.cells #[.pointer (some ⟨b, 0, none⟩)] 29)).alloc (.cells #[.int .i64 id] 3)).alloc (.cells #[.int .i64 r.x, .int .i64 r.y, .int .i64 r.w, .int .i64 r.h] 23)).alloc (.cells #[.int .i64 x] 3)).alloc (.cells #[.int .i64 y] 3)) fun e w' => e = .returned (.tuple #[.agg #[.int .i64 t.id, .int .i64 t.env, .int .i64 t.x, .int .i64 t.y, .int .i64 t.w, .int .i64 t.h, .bool t.hid], .int .i64 0]) ∧ Fr NoB ((((((w.alloc (.cells #[.pointer (some ⟨f, 0, none⟩)] 27)).alloc (.cells #[.pointer (some ⟨b, 0, none⟩)] 29)).alloc (.cells #[.int .i64 id] 3)).alloc (.cells #[.int .i64 r.x, .int .i64 r.y, .int .i64 r.w, .int .i64 r.h] 23)).alloc (.cells #[.int .i64 x] 3)).alloc (.cells #[.int .i64 y] 3)) w') := HWi
  have hgb := hfd.gd.cel.lt
  have HF0 := hid hb0
  have B0 := (((((Blk.new w 27 [.pointer (some ⟨f, 0, none⟩)]).alloc (.cells #[.pointer (some ⟨b, 0, none⟩)] 29)).alloc (.cells #[.int .i64 id] 3)).alloc (.cells #[.int .i64 r.x, .int .i64 r.y, .int .i64 r.w, .int .i64 r.h] 23)).alloc (.cells #[.int .i64 x] 3)).alloc (.cells #[.int .i64 y] 3)
  have B1 := ((((Blk.new (w.alloc (.cells #[.pointer (some ⟨f, 0, none⟩)] 27)) 29 [.pointer (some ⟨b, 0, none⟩)]).alloc (.cells #[.int .i64 id] 3)).alloc (.cells #[.int .i64 r.x, .int .i64 r.y, .int .i64 r.w, .int .i64 r.h] 23)).alloc (.cells #[.int .i64 x] 3)).alloc (.cells #[.int .i64 y] 3)
  have B2 := (((Blk.new ((w.alloc (.cells #[.pointer (some ⟨f, 0, none⟩)] 27)).alloc (.cells #[.pointer (some ⟨b, 0, none⟩)] 29)) 3 [.int .i64 id]).alloc (.cells #[.int .i64 r.x, .int .i64 r.y, .int .i64 r.w, .int .i64 r.h] 23)).alloc (.cells #[.int .i64 x] 3)).alloc (.cells #[.int .i64 y] 3)
  have B3 := ((Blk.new (((w.alloc (.cells #[.pointer (some ⟨f, 0, none⟩)] 27)).alloc (.cells #[.pointer (some ⟨b, 0, none⟩)] 29)).alloc (.cells #[.int .i64 id] 3)) 23 r.cells).alloc (.cells #[.int .i64 x] 3)).alloc (.cells #[.int .i64 y] 3)
  have B4 := (Blk.new ((((w.alloc (.cells #[.pointer (some ⟨f, 0, none⟩)] 27)).alloc (.cells #[.pointer (some ⟨b, 0, none⟩)] 29)).alloc (.cells #[.int .i64 id] 3)).alloc (.cells #[.int .i64 r.x, .int .i64 r.y, .int .i64 r.w, .int .i64 r.h] 23)) 3 [.int .i64 x]).alloc (.cells #[.int .i64 y] 3)
  have B5 := Blk.new (((((w.alloc (.cells #[.pointer (some ⟨f, 0, none⟩)] 27)).alloc (.cells #[.pointer (some ⟨b, 0, none⟩)] 29)).alloc (.cells #[.int .i64 id] 3)).alloc (.cells #[.int .i64 r.x, .int .i64 r.y, .int .i64 r.w, .int .i64 r.h] 23)).alloc (.cells #[.int .i64 x] 3)) 3 [.int .i64 y]
  simp only [World.size_alloc] at B1 B2 B3 B4 B5
  have HB0 := hid B0
  have HB1 := hid B1
  have HB2 := hid B2
  have HB3 := hid B3
  have HB4 := hid B4
  have HB5 := hid B5
  have HLs := hid hLs
  clear hb0 HWi B0 B1 B2 B3 B4 B5 hg hLs
  have n1 : decide r.Right = true := decide_eq_true hr
  have n2 : decide (Near x) = true := decide_eq_true hx
  have n3 : decide (Near y) = true := decide_eq_true hy
  have HRr := fun w9 => hid (rRight_any w9 r)
  unfold Rc.v at HRr
  refine (callsIn_wide (n := 3)).1 ?_
  refine callsIn_of_wp_marks Try.func23 rfl trivial ?_ rfl
  simp only [Try.ntmps23, Rc.v, List.size_toArray, List.length_cons, List.length_nil, Nat.reduceAdd, Nat.reduceSub, Array.replicate_succ, Array.replicate_zero, List.push_toArray, List.append_toArray, List.nil_append, List.cons_append]
  gi_wp2_with fail
  refine ⟨trivial, (callsIn_wide.2 HWi'.out).mono ?_⟩
  rintro e' w1 ⟨rfl, hf1⟩
  have HF1 := hid (HF0.out.trans hf1)
  have HC0 := hid (HB0.out.fr hf1 (fun h => h))
  have HC1 := hid (HB1.out.fr hf1 (fun h => h))
  have HC2 := hid (HB2.out.fr hf1 (fun h => h))
  have HC3 := hid (HB3.out.fr hf1 (fun h => h))
  have HC4 := hid (HB4.out.fr hf1 (fun h => h))
  have HC5 := hid (HB5.out.fr hf1 (fun h => h))
  have k3 := HC3.out.cell 0 rfl
  have k3b := HC3.out.cell 1 rfl
  have k3c := HC3.out.cell 2 rfl
  have k3d := HC3.out.cell 3 rfl
  have k3l := HC3.out.lt
  have k4 := HC4.out.cell 0 rfl
  have k4l := HC4.out.lt
  have k5 := HC5.out.cell 0 rfl
  have k5l := HC5.out.lt
  clear hf1
  gi_wp2_with fail
  have hD := Blk.new w1 73 t.cells
  have HD := hid hD
  clear hD
  refine ⟨trivial, (callsIn_wide.2 (HRr _).out).mono ?_⟩
  rintro e' w2 ⟨rfl, hf2⟩
  rw [n1]
  have HFx := hid (((Fr.refl NoB w1).alloc (.cells #[.int .i64 t.id, .int .i64 t.env, .int .i64 t.x, .int .i64 t.y, .int .i64 t.w, .int .i64 t.h, .bool t.hid] 73)).trans hf2)
  have hD2 := HD.out.fr hf2 (fun h => h)
  have d0 := hD2.cell 0 rfl
  have d1 := hD2.cell 1 rfl
  have d2 := hD2.cell 2 rfl
  have d3 := hD2.cell 3 rfl
  have d4 := hD2.cell 4 rfl
  have d5 := hD2.cell 5 rfl
  have d6 := hD2.cell 6 rfl
  have dl := hD2.lt
  have hR2 := HC3.out.fr HFx.out (fun h => h)
  have r0 := hR2.cell 0 rfl
  have r1 := hR2.cell 1 rfl
  have r2 := hR2.cell 2 rfl
  have r3 := hR2.cell 3 rfl
  have rl := hR2.lt
  have hX2 := HC4.out.fr HFx.out (fun h => h)
  have x0 := hX2.cell 0 rfl
  have xl := hX2.lt
  have hY2 := HC5.out.fr HFx.out (fun h => h)
  have y0 := hY2.cell 0 rfl
  have yl := hY2.lt
  have HD2 := hid hD2
  clear hD2 hR2 hX2 hY2 hf2 k3 k3b k3c k3d k4 k5
  gi_wp2_with fail
  have n2' : decide (Near x) = true := n2
  refine ⟨trivial, (callsIn_wide.2 (dnear_any w2 x)).mono ?_⟩
  rintro e' wx ⟨rfl, rfl⟩
  rw [n2]
  gi_wp2_with fail
  refine ⟨trivial, (callsIn_wide.2 (dnear_any wx y)).mono ?_⟩
  rintro e' w2 ⟨rfl, rfl⟩
  rw [n3]
  gi_wp2_with fail
  have HPl : ∀ w0, Hid (Calls Try.prog 30 #[.agg #[.int .i64 t.id, .int .i64 t.env, .int .i64 t.x, .int .i64 t.y, .int .i64 t.w, .int .i64 t.h, .bool t.hid], .agg #[.int .i64 r.x, .int .i64 r.y, .int .i64 r.w, .int .i64 r.h]] w0 fun e w' => ∃ iB wB, e = .returned (.func (.func 57) #[] #[.pointer (some ⟨iB, 0, none⟩), .pointer (some ⟨wB, 0, none⟩)]) ∧ Blk w' iB 23 (inW t r).cells ∧ Blk w' wB 73 t.cells ∧ Fr NoB w0 w' ∧ w0.heap.size ≤ iB ∧ w0.heap.size ≤ wB) := fun w0 => places_any w0 t r
  have HE0 := hid (Blk.new w2 41 [.slice none 0 0])
  refine ⟨trivial, (callsIn_wide.2 (HPl _).out).mono ?_⟩
  rintro e' w3 ⟨iB, wB, rfl, hiB, hwB, hf3, l1, l2⟩
  gi_wp2_with fail
  obtain ⟨iW, iH, e1, e2, e3, e4, e5⟩ := inW_ok t r htr
  have hiw : iW ≤ 512 ∧ iH ≤ 512 := by
    rcases e5 with ⟨_, h1, h2⟩ | ⟨_, h1, h2, h3, h4, h5, h6, h7, h8⟩ <;> omega
  have hmul : iH * iW ≤ 512 * 512 := Nat.mul_le_mul hiw.2 hiw.1
  generalize inW t r = ir at *
  have HFb := hid ((HFx.out.alloc (.cells #[.slice none 0 0] 41)).trans hf3)
  have HF2 := hid (HF1.out.trans HFb.out)
  have hw1 : w.heap.size + 1 + 1 + 1 + 1 + 1 < w1.heap.size := k5l
  have hw2 : w1.heap.size < w2.heap.size := dl
  have hw3 : w2.heap.size < w3.heap.size := (HE0.out.fr hf3 (fun h => h)).lt
  have HD3 := hid (HD2.out.fr (((Fr.refl NoB w2).alloc (.cells #[.slice none 0 0] 41)).trans hf3) (fun h => h))
  have HCS : Hid (KS w w3 w.heap.size w1.heap.size w2.heap.size f b id x y r t []) :=
    ⟨HC0.out.fr HFb.out (fun h => h), HC1.out.fr HFb.out (fun h => h), HC2.out.fr HFb.out (fun h => h), HC3.out.fr HFb.out (fun h => h), HC4.out.fr HFb.out (fun h => h), HC5.out.fr HFb.out (fun h => h), HD3.out, ⟨_, HE0.out.fr hf3 (fun h => h), Row.nil ..⟩, HF2.out, ⟨Nat.le_refl _, by omega, by omega⟩⟩
  have hn3 : (1 : Nat) ≤ 3 := by decide
  refine wpIn_rangeFunc_ownF (F := Fence.wide) (n := 3) rfl hn3 (gf := 57) (lb := #[.pointer (some ⟨iB, 0, none⟩), .pointer (some ⟨wB, 0, none⟩)]) rfl trivial (enters_of Try.func57 (by kernel_rfl) rfl)
    (pl_stops Fence.wide (3 - 1) trivial rfl (by decide) iB wB t ir iW iH e1 e2 (by omega) (by omega) e3 e4 htr.x htr.y w3 hiB hwB)
    (fun h k => ⟨k.1.trans h.1, k.2.trans h.2⟩)
    (fun W0 l0 o o' hle ho hc hw => ?kb) (Below.refl _ _) (fun _ => rfl)
    (fun pre W0 => KS w W0 w.heap.size w1.heap.size w2.heap.size f b id x y r t (copyL W H xs id t r x y cs pre) ∧ Blk W0 iB 23 ir.cells ∧ Blk W0 wB 73 t.cells)
    (fun _ _ _ => False)
    (fun s A0 B0 row hs hg hr => ⟨hs.1.move hg (fun r e => ⟨Nat.le_trans HF2.out.size (hr r e).1, (hr r e).2⟩), hs.2.1.fr (Fr.of_grown hg) (fun e => by obtain ⟨_, o, h1, h2⟩ := hr _ e; exact noncell hs.2.1 h1 h2 rfl), hs.2.2.fr (Fr.of_grown hg) (fun e => by obtain ⟨_, o, h1, h2⟩ := hr _ e; exact noncell hs.2.2 h1 h2 rfl)⟩)
    (fun _ _ _ _ _ hs _ _ => hs)
    ⟨HCS.out, hiB, hwB⟩ ?a1 ?assign ?body ?done ?stop
  case assign =>
    intro l0 p W0 K hK
    gi_wp2
    exact hK
  case kb =>
    have h1 := hiB.lt
    have h2 := hwB.lt
    exact ⟨World.putObj_heap_other (by omega), World.putObj_heap_other (by omega)⟩
  case stop =>
    rintro D0 c0 pre W0 _ _ h _
    exact h.elim
  case done =>
    rintro D0 ps W0 hD rfl ⟨hI, _, _⟩ hK
    have hls := HLs.out
    rw [e1, e2, Int.toNat_natCast, Int.toNat_natCast] at hls
    rw [← hls] at hI
    have HLN : Hid (Ls.length ≤ 262144) := hid (by rw [hls]; have := copyL_len W H xs id t r x y cs (plL (t.x + ir.x) (t.y + ir.y) iW iH); rw [plL_len] at this; omega)
    have HLO : Hid (∀ q ∈ Ls, ownerOf xs q.x q.y = id) := hid (by rw [hls]; exact copyL_own W H xs id t r x y cs _)
    obtain ⟨lv, hE, hR⟩ := hI.e
    have HC0 := hid (show CW w W0 W0 w.heap.size w2.heap.size f g gb W H b (rect0 W H) v xs next nv cs ns Ls lv D0 _ 0 from ⟨⟨nv, by rw [List.take_zero, List.append_nil]; exact hfd.frd hI.frm, fun j hj => .inl hj⟩, hsk.frd hI.frm, hI.b0, hE, hR, hI.frm.mono (fun _ h => h.elim), hK, rfl, Nat.le_trans HF2.out.size hD, ⟨hgb, fun j hj => (hfd.row.lt j hj).2, fun j hj => (hR.lt j hj).2, hI.frm.size, Nat.le_refl _⟩⟩)
    have HNS := hid hns
    have HSC := hid hscr
    obtain ⟨Al, cl, rfl, _⟩ := hR.shape
    have q16 := hE.cell 0 rfl
    have l16 := hE.lt
    clear hls hI hE hR hns hscr
    gi_wp2_with fail
    gi_loopw [103] (fun v103 wr => ∃ k : Nat, k ≤ Ls.length ∧ v103 = .int .i64 k ∧ Hid (CW w W0 wr w.heap.size w2.heap.size f g gb W H b (rect0 W H) v xs next nv cs ns Ls (.slice Al Ls.length cl) D0 (.deferred (some [])) k)) (fun v103 _ => Ls.length - (intOf v103).toNat)
    case atStart => exact ⟨0, Nat.zero_le _, rfl, HC0.out⟩
    case round =>
      obtain ⟨k, hk, rfl, HR⟩ := hrel
      have w0 := HR.out.e.cell 0 rfl
      have w0l := HR.out.e.lt
      by_cases hkm : k < Ls.length
      · obtain ⟨gl, c', hvv, _, _⟩ := HR.out.row.ptr (by omega)
        obtain ⟨rfl, rfl⟩ : Al = some ⟨gl, 0, none⟩ ∧ cl = c' := by injection hvv with h1 h2 h3; exact ⟨h1, h3⟩
        clear hvv
        have z0 := HR.out.row.cell Wr.len k hkm 0 (by decide) rfl
        rw [Nat.add_zero] at z0
        have z1 := HR.out.row.cell Wr.len k hkm 1 (by decide) rfl
        have z2 := HR.out.row.cell Wr.len k hkm 2 (by decide) rfl
        have z3 := HR.out.row.cell Wr.len k hkm 3 (by decide) rfl
        have z4 := HR.out.row.cell Wr.len k hkm 4 (by decide) rfl
        have z5 := HR.out.row.cell Wr.len k hkm 5 (by decide) rfl
        have b0 := HR.out.b0.cell 0 rfl
        have b0l := HR.out.b0.lt
        have how := HLO.out _ (List.getElem_mem hkm)
        have htk : Hid (Ls.take (k + 1) = Ls.take k ++ [Ls[k]]) := hid (List.take_succ_eq_append_getElem hkm)
        obtain ⟨nv1, hfd1, hown1⟩ := HR.out.fd
        have HPut : Hid (∀ W9, Fr NoB wr W9 → Calls Try.prog 31 #[.pointer (some ⟨f, 0, none⟩), .int .i64 Ls[k].x, .int .i64 Ls[k].y, Ls[k].c.v] W9 fun e w' => e = .returned (.bool true) ∧ CW w W0 w' w.heap.size w2.heap.size f g gb W H b (rect0 W H) v xs next nv cs ns Ls (.slice (some ⟨gl, 0, none⟩) Ls.length cl) D0 (.deferred (some [])) (k + 1)) := hid fun W9 h9 => by
          obtain ⟨q, hq1, hq2, hq3⟩ := ownerOf_at how hid0
          have hs := HSC.out q hq1
          have y1 : 0 < q.w ∧ q.x ≤ Ls[k].x ∧ Ls[k].x - q.x < q.w := hq2
          have y2 : 0 < q.h ∧ q.y ≤ Ls[k].y ∧ Ls[k].y - q.y < q.h := hq3
          obtain ⟨pn, hpn⟩ : ∃ n : Nat, Ls[k].x = n := ⟨Ls[k].x.toNat, by omega⟩
          obtain ⟨qn, hqn⟩ : ∃ n : Nat, Ls[k].y = n := ⟨Ls[k].y.toNat, by omega⟩
          have hput := fPut_in W9 f g gb W H _ nv1 _ pn qn Ls[k].c (hfd1.frd h9) (by omega) (by omega) (by have := HNS.out; have := HLN.out; rw [List.length_append, List.length_take]; omega)
          rw [hpn, hqn]
          refine hput.mono ?_
          rintro e' w6 ⟨rfl, nv', hfd6, hf6, hown6⟩
          refine ⟨rfl, (HR.out.frd h9).put (hfd1.frd h9) hown1 (nv' := nv') ?_ hf6 hown6⟩
          rw [htk.out, putsG_snoc, ← List.append_assoc, hpn, hqn]
          have e9 : Ls[k] = ⟨pn, qn, Ls[k].c⟩ := by rw [← hpn, ← hqn]
          rw [← e9] at hfd6
          exact hfd6
        have tw8 : IntKind.i64.wrap ((k : Int) + 1) = (k : Int) + 1 := IntWalk.i64_in _ (by have := HLN.out; omega)
        have tw9 : wrap64 ((k : Int) + 1) = (k : Int) + 1 := by
          have := HLN.out
          unfold wrap64
          omega
        generalize hq : Ls[k] = q at *
        have HQ := hid hq
        clear hfd1 hown1 how hq
        unfold Cl.v at HPut
        gi_wp2_with fail
        refine ⟨trivial, (callsIn_wide.2 (HPut.out _ ((Fr.refl _ _).alloc _))).mono ?_⟩
        rintro e' w6 ⟨rfl, hc6⟩
        have HC6 := hid hc6
        clear hc6
        gi_wp2_with fail
        go_roundw
        case rel => exact ⟨k + 1, hkm, int_succ k, HC6.out⟩
        case measure => exact meas_succ hkm
      · obtain rfl : k = Ls.length := by omega
        gi_wp2
        refine ⟨by simp, .inl ⟨_, _, rfl, run_takeDeferred HR.out.dfr, ?_⟩⟩
        obtain ⟨_, h2, h3, h4⟩ := HR.out.fin (.deferred none) rfl
        exact ⟨_, results_tmp2 rfl _ _ _, rfl, h2, h3, h4⟩
  case body =>
    rintro l0 pre p W0 ⟨hI, hiW, hwW⟩ hlen
    have hsn := copyL_snoc W H xs id t r x y cs pre p
    have hln := copyL_len W H xs id t r x y cs pre
    generalize copyL W H xs id t r x y cs pre = L at *
    have HSN := hid hsn
    have HIW := hid hiW
    have HWW := hid hwW
    clear hsn hiW hwW
    obtain ⟨⟨pu, pv⟩, hp1, hp2, hp3, hp4⟩ := p
    simp only at hp1 hp2 hp3 hp4
    obtain ⟨nx1, nx2⟩ := e3
    obtain ⟨ny1, ny2⟩ := e4
    obtain ⟨mx1, mx2⟩ : Near t.x := htr.x
    obtain ⟨my1, my2⟩ : Near t.y := htr.y
    obtain ⟨q1, q2⟩ : Near r.x := hr.x
    obtain ⟨q3, q4⟩ : Near r.y := hr.y
    obtain ⟨q5, q6⟩ : Near x := hx
    obtain ⟨q7, q8⟩ : Near y := hy
    have tw1 : IntKind.i64.wrap (pu - r.x) = pu - r.x := IntWalk.i64_in _ (by omega)
    have tw2 : IntKind.i64.wrap (pu - r.x + x) = pu - r.x + x := IntWalk.i64_in _ (by omega)
    have tw3 : IntKind.i64.wrap (pv - r.y) = pv - r.y := IntWalk.i64_in _ (by omega)
    have tw4 : IntKind.i64.wrap (pv - r.y + y) = pv - r.y + y := IntWalk.i64_in _ (by omega)
    have HI := hid hI
    have hfw : Fr NoB W0 W0.drew := Fr.drew (Fr.refl _ _)
    have HOw := fun w0 h0 => hid (sOwner_any w0 b (rect0 W H) v xs next pu pv h0 hl hIx (by unfold I64; omega) (by unfold I64; omega))
    have HOw2 := fun w0 h0 => hid (sOwner_any w0 b (rect0 W H) v xs next (pu - r.x + x) (pv - r.y + y) h0 hl hIx (by unfold I64; omega) (by unfold I64; omega))
    have HIn : ∀ w0, Hid (Calls Try.prog 32 #[.agg #[.int .i64 t.x, .int .i64 t.y, .int .i64 t.w, .int .i64 t.h], .int .i64 (pu - r.x + x), .int .i64 (pv - r.y + y)] w0 fun e w' => e = .returned (.bool (decide (t.r.has (pu - r.x + x) (pv - r.y + y)))) ∧ Fr NoB w0 w') := fun w0 => hid (rIn_any w0 t.r (pu - r.x + x) (pv - r.y + y) htr.i (by unfold I64; omega) (by unfold I64; omega))
    have HSv := hid (fun (W2 : World) (h2 : Fr NoB W0 W2) => (hI.frd h2).reads)
    have HS8 : Hid (∀ W, Fr NoB W0 W → Fr NoB W0 W ∧ W.cell? ⟨w.heap.size + 1 + 1 + 1, 0, none⟩ = some (.int .i64 r.x) ∧ W.cell? ⟨w.heap.size + 1 + 1 + 1, 1, none⟩ = some (.int .i64 r.y) ∧ W.cell? ⟨w.heap.size + 1 + 1 + 1 + 1, 0, none⟩ = some (.int .i64 x) ∧ W.cell? ⟨w.heap.size + 1 + 1 + 1 + 1 + 1, 0, none⟩ = some (.int .i64 y)) := hid fun W h => ⟨h, (HSv.out W h).2.2.2.1, (HSv.out W h).2.2.2.2.1, (HSv.out W h).2.2.2.2.2.1, (HSv.out W h).2.2.2.2.2.2.1⟩
    have HSK := hid (fun W2 (h2 : Fr NoB W0 W2) => hsk.frd (hI.frm.trans h2))
    clear hI
    gi_wp2_with fail
    refine wpIn_region_round (S := (fun W : World => Fr NoB W0 W ∧ W.cell? ⟨w.heap.size + 1 + 1 + 1, 0, none⟩ = some (.int .i64 r.x) ∧ W.cell? ⟨w.heap.size + 1 + 1 + 1, 1, none⟩ = some (.int .i64 r.y) ∧ W.cell? ⟨w.heap.size + 1 + 1 + 1 + 1, 0, none⟩ = some (.int .i64 x) ∧ W.cell? ⟨w.heap.size + 1 + 1 + 1 + 1 + 1, 0, none⟩ = some (.int .i64 y))) (by kernel_rfl) (by kernel_rfl) (HS8.out _ hfw) (fun hHeld => ?_)
    refine wpAnyH_take (i := 0) (oi := { dst := some 54, op := Op.move (Operand.tmp 17), type := 3, pos := "draw.go:82", after := #[], guard := none }) (v := ?ve1) rfl (by kernel_rfl) (by kernel_rfl) (by kernel_rfl) (fun _ _ _ h => h) (Or.inl ⟨by rfl, ?hye1⟩) (by assumption) ?re1
    case hye1 => (intro w hSw; (try dsimp only at hSw); go_simp; try (with_reducible rfl))
    try simp only [Act.put, List.setIfInBounds_toArray, List.set_cons_zero, List.set_cons_succ]
    refine wpAnyH_take (i := 1) (oi := { dst := some 55, op := Op.fieldAddr 23 (Operand.tmp 9) 0, type := 0, pos := "draw.go:82", after := #[], guard := none }) (v := ?ve2) rfl (by kernel_rfl) (by kernel_rfl) (by kernel_rfl) (fun _ _ _ h => h) (Or.inl ⟨by rfl, ?hye2⟩) (by assumption) ?re2
    case hye2 => (intro w hSw; (try dsimp only at hSw); go_simp; try (with_reducible rfl))
    try simp only [Act.put, List.setIfInBounds_toArray, List.set_cons_zero, List.set_cons_succ]
    refine wpAnyH_take (i := 2) (oi := { dst := some 56, op := Op.load 3 (Operand.tmp 55), type := 3, pos := "draw.go:82", after := #[{ on := 1, ground := Ground.data }], guard := none }) (v := ?ve3) rfl (by kernel_rfl) (by kernel_rfl) (by kernel_rfl) (fun _ _ _ h => h) (Or.inl ⟨by rfl, ?hye3⟩) (by assumption) ?re3
    case hye3 => (intro w hSw; (try dsimp only at hSw); go_simp; try (with_reducible rfl))
    try simp only [Act.put, List.setIfInBounds_toArray, List.set_cons_zero, List.set_cons_succ]
    refine wpAnyH_take (i := 3) (oi := { dst := some 57, op := Op.binOp BinOp.sub 3 (Operand.tmp 54) (Operand.tmp 56) 3, type := 3, pos := "draw.go:82", after := #[{ on := 0, ground := Ground.data }, { on := 2, ground := Ground.data }], guard := none }) (v := ?ve4) rfl (by kernel_rfl) (by kernel_rfl) (by kernel_rfl) (fun _ _ _ h => h) (Or.inl ⟨by rfl, ?hye4⟩) (by assumption) ?re4
    case hye4 => (intro w hSw; (try dsimp only at hSw); go_simp; try (with_reducible rfl))
    try simp only [Act.put, List.setIfInBounds_toArray, List.set_cons_zero, List.set_cons_succ]
    refine wpAnyH_take (i := 4) (oi := { dst := some 58, op := Op.load 3 (Operand.tmp 10), type := 3, pos := "draw.go:82", after := #[], guard := none }) (v := ?ve5) rfl (by kernel_rfl) (by kernel_rfl) (by kernel_rfl) (fun _ _ _ h => h) (Or.inl ⟨by rfl, ?hye5⟩) (by assumption) ?re5
    case hye5 => (intro w hSw; (try dsimp only at hSw); go_simp; try (with_reducible rfl))
    try simp only [Act.put, List.setIfInBounds_toArray, List.set_cons_zero, List.set_cons_succ]
    refine wpAnyH_take (i := 5) (oi := { dst := some 59, op := Op.binOp BinOp.add 3 (Operand.tmp 57) (Operand.tmp 58) 3, type := 3, pos := "draw.go:82", after := #[{ on := 3, ground := Ground.data }, { on := 4, ground := Ground.data }], guard := none }) (v := ?ve6) rfl (by kernel_rfl) (by kernel_rfl) (by kernel_rfl) (fun _ _ _ h => h) (Or.inl ⟨by rfl, ?hye6⟩) (by assumption) ?re6
    case hye6 => (intro w hSw; (try dsimp only at hSw); go_simp; try (with_reducible rfl))
    try simp only [Act.put, List.setIfInBounds_toArray, List.set_cons_zero, List.set_cons_succ]
    refine wpAnyH_take (i := 6) (oi := { dst := some 60, op := Op.move (Operand.tmp 18), type := 3, pos := "draw.go:82", after := #[{ on := 12, ground := Ground.gcOnly Departure.lateStores }], guard := none }) (v := ?ve7) rfl (by kernel_rfl) (by kernel_rfl) (by kernel_rfl) (fun _ _ _ h => h) (Or.inl ⟨by rfl, ?hye7⟩) (by assumption) ?re7
    case hye7 => (intro w hSw; (try dsimp only at hSw); go_simp; try (with_reducible rfl))
    try simp only [Act.put, List.setIfInBounds_toArray, List.set_cons_zero, List.set_cons_succ]
    refine wpAnyH_take (i := 7) (oi := { dst := some 61, op := Op.fieldAddr 23 (Operand.tmp 9) 1, type := 0, pos := "draw.go:82", after := #[{ on := 12, ground := Ground.gcOnly Departure.lateStores }], guard := none }) (v := ?ve8) rfl (by kernel_rfl) (by kernel_rfl) (by kernel_rfl) (fun _ _ _ h => h) (Or.inl ⟨by rfl, ?hye8⟩) (by assumption) ?re8
    case hye8 => (intro w hSw; (try dsimp only at hSw); go_simp; try (with_reducible rfl))
    try simp only [Act.put, List.setIfInBounds_toArray, List.set_cons_zero, List.set_cons_succ]
    refine wpAnyH_take (i := 8) (oi := { dst := some 62, op := Op.load 3 (Operand.tmp 61), type := 3, pos := "draw.go:82", after := #[{ on := 7, ground := Ground.data }, { on := 12, ground := Ground.gcOnly Departure.lateStores }], guard := none }) (v := ?ve9) rfl (by kernel_rfl) (by kernel_rfl) (by kernel_rfl) (fun _ _ _ h => h) (Or.inl ⟨by rfl, ?hye9⟩) (by assumption) ?re9
    case hye9 => (intro w hSw; (try dsimp only at hSw); go_simp; try (with_reducible rfl))
    try simp only [Act.put, List.setIfInBounds_toArray, List.set_cons_zero, List.set_cons_succ]
    refine wpAnyH_take (i := 9) (oi := { dst := some 63, op := Op.binOp BinOp.sub 3 (Operand.tmp 60) (Operand.tmp 62) 3, type := 3, pos := "draw.go:82", after := #[{ on := 6, ground := Ground.data }, { on := 8, ground := Ground.data }, { on := 12, ground := Ground.gcOnly Departure.lateStores }], guard := none }) (v := ?ve10) rfl (by kernel_rfl) (by kernel_rfl) (by kernel_rfl) (fun _ _ _ h => h) (Or.inl ⟨by rfl, ?hye10⟩) (by assumption) ?re10
    case hye10 => (intro w hSw; (try dsimp only at hSw); go_simp; try (with_reducible rfl))
    try simp only [Act.put, List.setIfInBounds_toArray, List.set_cons_zero, List.set_cons_succ]
    refine wpAnyH_take (i := 10) (oi := { dst := some 64, op := Op.load 3 (Operand.tmp 11), type := 3, pos := "draw.go:82", after := #[{ on := 12, ground := Ground.gcOnly Departure.lateStores }], guard := none }) (v := ?ve11) rfl (by kernel_rfl) (by kernel_rfl) (by kernel_rfl) (fun _ _ _ h => h) (Or.inl ⟨by rfl, ?hye11⟩) (by assumption) ?re11
    case hye11 => (intro w hSw; (try dsimp only at hSw); go_simp; try (with_reducible rfl))
    try simp only [Act.put, List.setIfInBounds_toArray, List.set_cons_zero, List.set_cons_succ]
    refine wpAnyH_take (i := 11) (oi := { dst := some 65, op := Op.binOp BinOp.add 3 (Operand.tmp 63) (Operand.tmp 64) 3, type := 3, pos := "draw.go:82", after := #[{ on := 9, ground := Ground.data }, { on := 10, ground := Ground.data }, { on := 12, ground := Ground.gcOnly Departure.lateStores }], guard := none }) (v := ?ve12) rfl (by kernel_rfl) (by kernel_rfl) (by kernel_rfl) (fun _ _ _ h => h) (Or.inl ⟨by rfl, ?hye12⟩) (by assumption) ?re12
    case hye12 => (intro w hSw; (try dsimp only at hSw); go_simp; try (with_reducible rfl))
    try simp only [Act.put, List.setIfInBounds_toArray, List.set_cons_zero, List.set_cons_succ]
    refine wpAnyH_take (i := 12) (oi := { dst := some 19, op := Op.assign (Operand.tmp 59), type := 3, pos := "draw.go:82", after := #[{ on := 5, ground := Ground.data }, { on := 0, ground := Ground.phase }, { on := 1, ground := Ground.phase }, { on := 2, ground := Ground.phase }, { on := 3, ground := Ground.phase }, { on := 4, ground := Ground.phase }, { on := 5, ground := Ground.phase }, { on := 6, ground := Ground.textOnly Departure.lateStores }, { on := 7, ground := Ground.textOnly Departure.lateStores }, { on := 8, ground := Ground.textOnly Departure.lateStores }, { on := 9, ground := Ground.textOnly Departure.lateStores }, { on := 10, ground := Ground.textOnly Departure.lateStores }, { on := 11, ground := Ground.textOnly Departure.lateStores }], guard := none }) (v := ?ve13) rfl (by kernel_rfl) (by kernel_rfl) (by kernel_rfl) (fun _ _ _ h => h) (Or.inl ⟨by rfl, ?hye13⟩) (by assumption) ?re13
    case hye13 => (intro w hSw; (try dsimp only at hSw); go_simp; try (with_reducible rfl))
    try simp only [Act.put, List.setIfInBounds_toArray, List.set_cons_zero, List.set_cons_succ]
    refine wpAnyH_take (i := 13) (oi := { dst := some 20, op := Op.assign (Operand.tmp 65), type := 3, pos := "draw.go:82", after := #[{ on := 11, ground := Ground.data }, { on := 12, ground := Ground.chain }, { on := 0, ground := Ground.phase }, { on := 1, ground := Ground.phase }, { on := 2, ground := Ground.phase }, { on := 3, ground := Ground.phase }, { on := 4, ground := Ground.phase }, { on := 5, ground := Ground.phase }, { on := 6, ground := Ground.phase }, { on := 7, ground := Ground.phase }, { on := 8, ground := Ground.phase }, { on := 9, ground := Ground.phase }, { on := 10, ground := Ground.phase }, { on := 11, ground := Ground.phase }, { on := 12, ground := Ground.phase }], guard := none }) (v := ?ve14) rfl (by kernel_rfl) (by kernel_rfl) (by kernel_rfl) (fun _ _ _ h => h) (Or.inl ⟨by rfl, ?hye14⟩) (by assumption) ?re14
    case hye14 => (intro w hSw; (try dsimp only at hSw); go_simp; try (with_reducible rfl))
    try simp only [Act.put, List.setIfInBounds_toArray, List.set_cons_zero, List.set_cons_succ]
    refine wpAnyH_done (by kernel_rfl) ?_ _
    refine onlyOn_normal ?_
    clear hHeld
    have hfw2 : Fr NoB W0 W0.drew.drew := hfw.drew
    have HS9 : Hid (∀ W, Fr NoB W0 W → Fr NoB W0 W ∧ W.cell? ⟨w.heap.size + 1, 0, none⟩ = some (.pointer (some ⟨b, 0, none⟩)) ∧ W.cell? ⟨w.heap.size + 1 + 1, 0, none⟩ = some (.int .i64 id) ∧ W.cell? ⟨w1.heap.size, 2, none⟩ = some (.int .i64 t.x) ∧ W.cell? ⟨w1.heap.size, 3, none⟩ = some (.int .i64 t.y) ∧ W.cell? ⟨w1.heap.size, 4, none⟩ = some (.int .i64 t.w) ∧ W.cell? ⟨w1.heap.size, 5, none⟩ = some (.int .i64 t.h)) := hid fun W h => ⟨h, (HSv.out W h).2.1, (HSv.out W h).2.2.1, (HSv.out W h).2.2.2.2.2.2.2⟩
    gi_wp2_with fail
    cases t1 : (ownerOf xs pu pv == id)
    · have HST : Hid (copyL W H xs id t r x y cs (pre ++ [⟨(pu, pv), hp1, hp2, hp3, hp4⟩]) = L) := hid (HSN.out.trans (by
        have hn : ¬ ownerOf xs pu pv = id := beq_eq_false_iff_ne.1 t1
        rw [show copyAt W H xs id t r x y cs (pu, pv) = [] from if_neg (fun h => hn h.1), List.append_nil]))
      refine wpIn_region_round (S := (fun W : World => Fr NoB W0 W ∧ W.cell? ⟨w.heap.size + 1, 0, none⟩ = some (.pointer (some ⟨b, 0, none⟩)) ∧ W.cell? ⟨w.heap.size + 1 + 1, 0, none⟩ = some (.int .i64 id) ∧ W.cell? ⟨w1.heap.size, 2, none⟩ = some (.int .i64 t.x) ∧ W.cell? ⟨w1.heap.size, 3, none⟩ = some (.int .i64 t.y) ∧ W.cell? ⟨w1.heap.size, 4, none⟩ = some (.int .i64 t.w) ∧ W.cell? ⟨w1.heap.size, 5, none⟩ = some (.int .i64 t.h))) (by kernel_rfl) (by kernel_rfl) (HS9.out _ hfw2) (fun hHeld => ?_)
      refine wpAnyH_take (i := 0) (oi := { dst := some 66, op := Op.load 29 (Operand.tmp 7), type := 29, pos := "draw.go:83", after := #[], guard := none }) (v := ?vfa1) rfl (by kernel_rfl) (by kernel_rfl) (by kernel_rfl) (fun _ _ _ h => h) (Or.inl ⟨by rfl, ?hyfa1⟩) (by assumption) ?rfa1
      case hyfa1 => (intro w hSw; (try dsimp only at hSw); go_simp; try (with_reducible rfl))
      try simp only [Act.put, List.setIfInBounds_toArray, List.set_cons_zero, List.set_cons_succ]
      refine wpAnyH_take (i := 1) (oi := { dst := some 67, op := Op.move (Operand.tmp 17), type := 3, pos := "draw.go:83", after := #[], guard := none }) (v := ?vfa2) rfl (by kernel_rfl) (by kernel_rfl) (by kernel_rfl) (fun _ _ _ h => h) (Or.inl ⟨by rfl, ?hyfa2⟩) (by assumption) ?rfa2
      case hyfa2 => (intro w hSw; (try dsimp only at hSw); go_simp; try (with_reducible rfl))
      try simp only [Act.put, List.setIfInBounds_toArray, List.set_cons_zero, List.set_cons_succ]
      refine wpAnyH_take (i := 2) (oi := { dst := some 68, op := Op.move (Operand.tmp 18), type := 3, pos := "draw.go:83", after := #[], guard := none }) (v := ?vfa3) rfl (by kernel_rfl) (by kernel_rfl) (by kernel_rfl) (fun _ _ _ h => h) (Or.inl ⟨by rfl, ?hyfa3⟩) (by assumption) ?rfa3
      case hyfa3 => (intro w hSw; (try dsimp only at hSw); go_simp; try (with_reducible rfl))
      try simp only [Act.put, List.setIfInBounds_toArray, List.set_cons_zero, List.set_cons_succ]
      refine wpAnyH_take (i := 4) (oi := { dst := some 70, op := Op.load 3 (Operand.tmp 8), type := 3, pos := "draw.go:83", after := #[], guard := none }) (v := ?vfa4) rfl (by kernel_rfl) (by kernel_rfl) (by kernel_rfl) (fun _ _ _ h => h) (Or.inl ⟨by rfl, ?hyfa4⟩) (by assumption) ?rfa4
      case hyfa4 => (intro w hSw; (try dsimp only at hSw); go_simp; try (with_reducible rfl))
      try simp only [Act.put, List.setIfInBounds_toArray, List.set_cons_zero, List.set_cons_succ]
      refine wpAnyH_ready (rs := [3]) (by kernel_rfl) (by simp) ?_
      refine AllReadyH.cons (o := { dst := some 69, op := Op.call { callee := Callee.value (Operand.func 17), args := #[Operand.tmp 66, Operand.tmp 67, Operand.tmp 68], argTypes := #[29, 3, 3] }, type := 3, pos := "draw.go:83", after := #[{ on := 0, ground := Ground.data }, { on := 1, ground := Ground.data }, { on := 2, ground := Ground.data }], guard := none }) rfl (fun K hK => ?_) AllReadyH.nil
      go_simp
      refine (HOw _ (HSK.out _ hfw2)).out.mono ?_
      rintro e' w5 ⟨rfl, hf5⟩
      have HF5 : Hid (Fr NoB W0 w5) := Fr.trans hfw2 hf5
      clear hHeld hf5
      go_wp2_with fail
      refine hK.out _ _ (HS9.out _ HF5.out) (fun hHeld => ?_)
      clear hK K
      try simp only [Act.put, List.setIfInBounds_toArray, List.set_cons_zero, List.set_cons_succ]
      refine wpAnyH_take (i := 5) (oi := { dst := some 71, op := Op.binOp BinOp.eql 3 (Operand.tmp 69) (Operand.tmp 70) 3, type := 4, pos := "draw.go:83", after := #[{ on := 3, ground := Ground.data }, { on := 4, ground := Ground.data }], guard := none }) (v := ?vfa5) rfl (by kernel_rfl) (by kernel_rfl) (by kernel_rfl) (fun _ _ _ h => h) (Or.inl ⟨by rfl, ?hyfa5⟩) (by assumption) ?rfa5
      case hyfa5 => (intro w hSw; (try dsimp only at hSw); go_simp; try (with_reducible rfl))
      try simp only [Act.put, List.setIfInBounds_toArray, List.set_cons_zero, List.set_cons_succ]
      refine wpAnyH_take (i := 6) (oi := { dst := some 72, op := Op.move (Operand.tmp 71), type := 4, pos := "draw.go:83", after := #[{ on := 5, ground := Ground.data }, { on := 3, ground := Ground.chain }], guard := none }) (v := ?vfa6) rfl (by kernel_rfl) (by kernel_rfl) (by kernel_rfl) (fun _ _ _ h => h) (Or.inl ⟨by rfl, ?hyfa6⟩) (by assumption) ?rfa6
      case hyfa6 => (intro w hSw; (try dsimp only at hSw); go_simp; try (with_reducible rfl))
      try simp only [Act.put, List.setIfInBounds_toArray, List.set_cons_zero, List.set_cons_succ]
      refine wpAnyH_take (i := 7) (oi := { dst := some 73, op := Op.fieldAddr 73 (Operand.tmp 14) 2, type := 0, pos := "draw.go:83", after := #[{ on := 6, ground := Ground.guard }], guard := some (6, true) }) (v := undef) rfl (by kernel_rfl) (by kernel_rfl) (by kernel_rfl) (fun _ _ _ h => h) (Or.inr ⟨by rfl, rfl⟩) (by assumption) ?_
      try simp only [Act.put, List.setIfInBounds_toArray, List.set_cons_zero, List.set_cons_succ]
      refine wpAnyH_take (i := 8) (oi := { dst := some 74, op := Op.load 23 (Operand.tmp 73), type := 23, pos := "draw.go:83", after := #[{ on := 7, ground := Ground.data }, { on := 6, ground := Ground.guard }], guard := some (6, true) }) (v := undef) rfl (by kernel_rfl) (by kernel_rfl) (by kernel_rfl) (fun _ _ _ h => h) (Or.inr ⟨by rfl, rfl⟩) (by assumption) ?_
      try simp only [Act.put, List.setIfInBounds_toArray, List.set_cons_zero, List.set_cons_succ]
      refine wpAnyH_take (i := 9) (oi := { dst := some 75, op := Op.move (Operand.tmp 19), type := 3, pos := "draw.go:83", after := #[{ on := 6, ground := Ground.guard }], guard := some (6, true) }) (v := undef) rfl (by kernel_rfl) (by kernel_rfl) (by kernel_rfl) (fun _ _ _ h => h) (Or.inr ⟨by rfl, rfl⟩) (by assumption) ?_
      try simp only [Act.put, List.setIfInBounds_toArray, List.set_cons_zero, List.set_cons_succ]
      refine wpAnyH_take (i := 10) (oi := { dst := some 76, op := Op.move (Operand.tmp 20), type := 3, pos := "draw.go:83", after := #[{ on := 6, ground := Ground.guard }], guard := some (6, true) }) (v := undef) rfl (by kernel_rfl) (by kernel_rfl) (by kernel_rfl) (fun _ _ _ h => h) (Or.inr ⟨by rfl, rfl⟩) (by assumption) ?_
      try simp only [Act.put, List.setIfInBounds_toArray, List.set_cons_zero, List.set_cons_succ]
      refine wpAnyH_take (i := 11) (oi := { dst := some 77, op := Op.call { callee := Callee.value (Operand.func 32), args := #[Operand.tmp 74, Operand.tmp 75, Operand.tmp 76], argTypes := #[23, 3, 3] }, type := 4, pos := "draw.go:83", after := #[{ on := 8, ground := Ground.data }, { on := 9, ground := Ground.data }, { on := 10, ground := Ground.data }, { on := 6, ground := Ground.chain }, { on := 6, ground := Ground.guard }], guard := some (6, true) }) (v := undef) rfl (by kernel_rfl) (by kernel_rfl) (by kernel_rfl) (fun _ _ _ h => h) (Or.inr ⟨by rfl, rfl⟩) (by assumption) ?_
      try simp only [Act.put, List.setIfInBounds_toArray, List.set_cons_zero, List.set_cons_succ]
      refine wpAnyH_take (i := 12) (oi := { dst := some 78, op := Op.pick (Operand.tmp 72) (Operand.tmp 77) (Operand.const (Value.bool false)), type := 4, pos := "draw.go:83", after := #[{ on := 6, ground := Ground.data }, { on := 11, ground := Ground.data }], guard := none }) (v := ?vfa12) rfl (by kernel_rfl) (by kernel_rfl) (by kernel_rfl) (fun _ _ _ h => h) (Or.inl ⟨by rfl, ?hyfa12⟩) (by assumption) ?rfa12
      case hyfa12 => (intro w hSw; (try dsimp only at hSw); go_simp; try (with_reducible rfl))
      try simp only [Act.put, List.setIfInBounds_toArray, List.set_cons_zero, List.set_cons_succ]
      refine wpAnyH_take (i := 13) (oi := { dst := some 79, op := Op.move (Operand.tmp 78), type := 4, pos := "draw.go:83", after := #[{ on := 12, ground := Ground.data }, { on := 11, ground := Ground.chain }], guard := none }) (v := ?vfa13) rfl (by kernel_rfl) (by kernel_rfl) (by kernel_rfl) (fun _ _ _ h => h) (Or.inl ⟨by rfl, ?hyfa13⟩) (by assumption) ?rfa13
      case hyfa13 => (intro w hSw; (try dsimp only at hSw); go_simp; try (with_reducible rfl))
      try simp only [Act.put, List.setIfInBounds_toArray, List.set_cons_zero, List.set_cons_succ]
      refine wpAnyH_take (i := 14) (oi := { dst := some 80, op := Op.load 29 (Operand.tmp 7), type := 29, pos := "draw.go:83", after := #[{ on := 13, ground := Ground.guard }], guard := some (13, true) }) (v := undef) rfl (by kernel_rfl) (by kernel_rfl) (by kernel_rfl) (fun _ _ _ h => h) (Or.inr ⟨by rfl, rfl⟩) (by assumption) ?_
      try simp only [Act.put, List.setIfInBounds_toArray, List.set_cons_zero, List.set_cons_succ]
      refine wpAnyH_take (i := 15) (oi := { dst := some 81, op := Op.move (Operand.tmp 19), type := 3, pos := "draw.go:83", after := #[{ on := 13, ground := Ground.guard }], guard := some (13, true) }) (v := undef) rfl (by kernel_rfl) (by kernel_rfl) (by kernel_rfl) (fun _ _ _ h => h) (Or.inr ⟨by rfl, rfl⟩) (by assumption) ?_
      try simp only [Act.put, List.setIfInBounds_toArray, List.set_cons_zero, List.set_cons_succ]
      refine wpAnyH_take (i := 16) (oi := { dst := some 82, op := Op.move (Operand.tmp 20), type := 3, pos := "draw.go:83", after := #[{ on := 13, ground := Ground.guard }], guard := some (13, true) }) (v := undef) rfl (by kernel_rfl) (by kernel_rfl) (by kernel_rfl) (fun _ _ _ h => h) (Or.inr ⟨by rfl, rfl⟩) (by assumption) ?_
      try simp only [Act.put, List.setIfInBounds_toArray, List.set_cons_zero, List.set_cons_succ]
      refine wpAnyH_take (i := 17) (oi := { dst := some 83, op := Op.call { callee := Callee.value (Operand.func 17), args := #[Operand.tmp 80, Operand.tmp 81, Operand.tmp 82], argTypes := #[29, 3, 3] }, type := 3, pos := "draw.go:83", after := #[{ on := 14, ground := Ground.data }, { on := 15, ground := Ground.data }, { on := 16, ground := Ground.data }, { on := 13, ground := Ground.chain }, { on := 13, ground := Ground.guard }], guard := some (13, true) }) (v := undef) rfl (by kernel_rfl) (by kernel_rfl) (by kernel_rfl) (fun _ _ _ h => h) (Or.inr ⟨by rfl, rfl⟩) (by assumption) ?_
      try simp only [Act.put, List.setIfInBounds_toArray, List.set_cons_zero, List.set_cons_succ]
      refine wpAnyH_take (i := 18) (oi := { dst := some 84, op := Op.load 3 (Operand.tmp 8), type := 3, pos := "draw.go:83", after := #[{ on := 13, ground := Ground.guard }], guard := some (13, true) }) (v := undef) rfl (by kernel_rfl) (by kernel_rfl) (by kernel_rfl) (fun _ _ _ h => h) (Or.inr ⟨by rfl, rfl⟩) (by assumption) ?_
      try simp only [Act.put, List.setIfInBounds_toArray, List.set_cons_zero, List.set_cons_succ]
      refine wpAnyH_take (i := 19) (oi := { dst := some 85, op := Op.binOp BinOp.eql 3 (Operand.tmp 83) (Operand.tmp 84) 3, type := 4, pos := "draw.go:83", after := #[{ on := 17, ground := Ground.data }, { on := 18, ground := Ground.data }, { on := 13, ground := Ground.guard }], guard := some (13, true) }) (v := undef) rfl (by kernel_rfl) (by kernel_rfl) (by kernel_rfl) (fun _ _ _ h => h) (Or.inr ⟨by rfl, rfl⟩) (by assumption) ?_
      try simp only [Act.put, List.setIfInBounds_toArray, List.set_cons_zero, List.set_cons_succ]
      refine wpAnyH_take (i := 20) (oi := { dst := some 86, op := Op.pick (Operand.tmp 79) (Operand.tmp 85) (Operand.const (Value.bool false)), type := 4, pos := "draw.go:83", after := #[{ on := 13, ground := Ground.data }, { on := 19, ground := Ground.data }], guard := none }) (v := ?vfa20) rfl (by kernel_rfl) (by kernel_rfl) (by kernel_rfl) (fun _ _ _ h => h) (Or.inl ⟨by rfl, ?hyfa20⟩) (by assumption) ?rfa20
      case hyfa20 => (intro w hSw; (try dsimp only at hSw); go_simp; try (with_reducible rfl))
      try simp only [Act.put, List.setIfInBounds_toArray, List.set_cons_zero, List.set_cons_succ]
      refine wpAnyH_take (i := 21) (oi := { dst := some 21, op := Op.assign (Operand.tmp 86), type := 4, pos := "draw.go:83", after := #[{ on := 20, ground := Ground.data }, { on := 17, ground := Ground.chain }, { on := 0, ground := Ground.phase }, { on := 1, ground := Ground.phase }, { on := 2, ground := Ground.phase }, { on := 3, ground := Ground.phase }, { on := 4, ground := Ground.phase }, { on := 5, ground := Ground.phase }, { on := 6, ground := Ground.phase }, { on := 7, ground := Ground.phase }, { on := 8, ground := Ground.phase }, { on := 9, ground := Ground.phase }, { on := 10, ground := Ground.phase }, { on := 11, ground := Ground.phase }, { on := 12, ground := Ground.phase }, { on := 13, ground := Ground.phase }, { on := 14, ground := Ground.phase }, { on := 15, ground := Ground.phase }, { on := 16, ground := Ground.phase }, { on := 17, ground := Ground.phase }, { on := 18, ground := Ground.phase }, { on := 19, ground := Ground.phase }, { on := 20, ground := Ground.phase }], guard := none }) (v := ?vfa21) rfl (by kernel_rfl) (by kernel_rfl) (by kernel_rfl) (fun _ _ _ h => h) (Or.inl ⟨by rfl, ?hyfa21⟩) (by assumption) ?rfa21
      case hyfa21 => (intro w hSw; (try dsimp only at hSw); go_simp; try (with_reducible rfl))
      try simp only [Act.put, List.setIfInBounds_toArray, List.set_cons_zero, List.set_cons_succ]
      refine wpAnyH_done (by kernel_rfl) ?_ _
      refine onlyOn_normal ?_
      clear HSv hHeld
      gi_wp2_with fail
      exact ⟨keeps_fr HF5.out (fun _ h => h.elim), ⟨(HIW.out.fr HF5.out (fun h => h)).trans HIW.out.symm, (HWW.out.fr HF5.out (fun h => h)).trans HWW.out.symm⟩, by rw [HST.out]; exact HI.out.frd HF5.out, HIW.out.fr HF5.out (fun h => h), HWW.out.fr HF5.out (fun h => h)⟩
    · have ho1 : ownerOf xs pu pv = id := by rw [← beq_iff_eq]; exact t1
      have HO1 := hid ho1
      clear ho1
      cases t2 : decide (t.r.has (pu - r.x + x) (pv - r.y + y))
      · have HST : Hid (copyL W H xs id t r x y cs (pre ++ [⟨(pu, pv), hp1, hp2, hp3, hp4⟩]) = L) := hid (HSN.out.trans (by
          rw [show copyAt W H xs id t r x y cs (pu, pv) = [] from if_neg (fun h => (of_decide_eq_false t2) h.2.1), List.append_nil]))
        refine wpIn_region_round (S := (fun W : World => Fr NoB W0 W ∧ W.cell? ⟨w.heap.size + 1, 0, none⟩ = some (.pointer (some ⟨b, 0, none⟩)) ∧ W.cell? ⟨w.heap.size + 1 + 1, 0, none⟩ = some (.int .i64 id) ∧ W.cell? ⟨w1.heap.size, 2, none⟩ = some (.int .i64 t.x) ∧ W.cell? ⟨w1.heap.size, 3, none⟩ = some (.int .i64 t.y) ∧ W.cell? ⟨w1.heap.size, 4, none⟩ = some (.int .i64 t.w) ∧ W.cell? ⟨w1.heap.size, 5, none⟩ = some (.int .i64 t.h))) (by kernel_rfl) (by kernel_rfl) (HS9.out _ hfw2) (fun hHeld => ?_)
        refine wpAnyH_take (i := 0) (oi := { dst := some 66, op := Op.load 29 (Operand.tmp 7), type := 29, pos := "draw.go:83", after := #[], guard := none }) (v := ?vfb1) rfl (by kernel_rfl) (by kernel_rfl) (by kernel_rfl) (fun _ _ _ h => h) (Or.inl ⟨by rfl, ?hyfb1⟩) (by assumption) ?rfb1
        case hyfb1 => (intro w hSw; (try dsimp only at hSw); go_simp; try (with_reducible rfl))
        try simp only [Act.put, List.setIfInBounds_toArray, List.set_cons_zero, List.set_cons_succ]
        refine wpAnyH_take (i := 1) (oi := { dst := some 67, op := Op.move (Operand.tmp 17), type := 3, pos := "draw.go:83", after := #[], guard := none }) (v := ?vfb2) rfl (by kernel_rfl) (by kernel_rfl) (by kernel_rfl) (fun _ _ _ h => h) (Or.inl ⟨by rfl, ?hyfb2⟩) (by assumption) ?rfb2
        case hyfb2 => (intro w hSw; (try dsimp only at hSw); go_simp; try (with_reducible rfl))
        try simp only [Act.put, List.setIfInBounds_toArray, List.set_cons_zero, List.set_cons_succ]
        refine wpAnyH_take (i := 2) (oi := { dst := some 68, op := Op.move (Operand.tmp 18), type := 3, pos := "draw.go:83", after := #[], guard := none }) (v := ?vfb3) rfl (by kernel_rfl) (by kernel_rfl) (by kernel_rfl) (fun _ _ _ h => h) (Or.inl ⟨by rfl, ?hyfb3⟩) (by assumption) ?rfb3
        case hyfb3 => (intro w hSw; (try dsimp only at hSw); go_simp; try (with_reducible rfl))
        try simp only [Act.put, List.setIfInBounds_toArray, List.set_cons_zero, List.set_cons_succ]
        refine wpAnyH_take (i := 4) (oi := { dst := some 70, op := Op.load 3 (Operand.tmp 8), type := 3, pos := "draw.go:83", after := #[], guard := none }) (v := ?vfb4) rfl (by kernel_rfl) (by kernel_rfl) (by kernel_rfl) (fun _ _ _ h => h) (Or.inl ⟨by rfl, ?hyfb4⟩) (by assumption) ?rfb4
        case hyfb4 => (intro w hSw; (try dsimp only at hSw); go_simp; try (with_reducible rfl))
        try simp only [Act.put, List.setIfInBounds_toArray, List.set_cons_zero, List.set_cons_succ]
        refine wpAnyH_ready (rs := [3]) (by kernel_rfl) (by simp) ?_
        refine AllReadyH.cons (o := { dst := some 69, op := Op.call { callee := Callee.value (Operand.func 17), args := #[Operand.tmp 66, Operand.tmp 67, Operand.tmp 68], argTypes := #[29, 3, 3] }, type := 3, pos := "draw.go:83", after := #[{ on := 0, ground := Ground.data }, { on := 1, ground := Ground.data }, { on := 2, ground := Ground.data }], guard := none }) rfl (fun K hK => ?_) AllReadyH.nil
        go_simp
        refine (HOw _ (HSK.out _ hfw2)).out.mono ?_
        rintro e' w5 ⟨rfl, hf5⟩
        have HF5 : Hid (Fr NoB W0 w5) := Fr.trans hfw2 hf5
        clear hHeld hf5
        go_wp2_with fail
        refine hK.out _ _ (HS9.out _ HF5.out) (fun hHeld => ?_)
        clear hK K
        try simp only [Act.put, List.setIfInBounds_toArray, List.set_cons_zero, List.set_cons_succ]
        refine wpAnyH_take (i := 5) (oi := { dst := some 71, op := Op.binOp BinOp.eql 3 (Operand.tmp 69) (Operand.tmp 70) 3, type := 4, pos := "draw.go:83", after := #[{ on := 3, ground := Ground.data }, { on := 4, ground := Ground.data }], guard := none }) (v := ?vfb5) rfl (by kernel_rfl) (by kernel_rfl) (by kernel_rfl) (fun _ _ _ h => h) (Or.inl ⟨by rfl, ?hyfb5⟩) (by assumption) ?rfb5
        case hyfb5 => (intro w hSw; (try dsimp only at hSw); go_simp; try (with_reducible rfl))
        try simp only [Act.put, List.setIfInBounds_toArray, List.set_cons_zero, List.set_cons_succ]
        refine wpAnyH_take (i := 6) (oi := { dst := some 72, op := Op.move (Operand.tmp 71), type := 4, pos := "draw.go:83", after := #[{ on := 5, ground := Ground.data }, { on := 3, ground := Ground.chain }], guard := none }) (v := ?vfb6) rfl (by kernel_rfl) (by kernel_rfl) (by kernel_rfl) (fun _ _ _ h => h) (Or.inl ⟨by rfl, ?hyfb6⟩) (by assumption) ?rfb6
        case hyfb6 => (intro w hSw; (try dsimp only at hSw); go_simp; try (with_reducible rfl))
        try simp only [Act.put, List.setIfInBounds_toArray, List.set_cons_zero, List.set_cons_succ]
        refine wpAnyH_take (i := 7) (oi := { dst := some 73, op := Op.fieldAddr 73 (Operand.tmp 14) 2, type := 0, pos := "draw.go:83", after := #[{ on := 6, ground := Ground.guard }], guard := some (6, true) }) (v := ?vfb7) rfl (by kernel_rfl) (by kernel_rfl) (by kernel_rfl) (fun _ _ _ h => h) (Or.inl ⟨by rfl, ?hyfb7⟩) (by assumption) ?rfb7
        case hyfb7 => (intro w hSw; (try dsimp only at hSw); go_simp; try (with_reducible rfl))
        try simp only [Act.put, List.setIfInBounds_toArray, List.set_cons_zero, List.set_cons_succ]
        refine wpAnyH_take (i := 8) (oi := { dst := some 74, op := Op.load 23 (Operand.tmp 73), type := 23, pos := "draw.go:83", after := #[{ on := 7, ground := Ground.data }, { on := 6, ground := Ground.guard }], guard := some (6, true) }) (v := ?vfb8) rfl (by kernel_rfl) (by kernel_rfl) (by kernel_rfl) (fun _ _ _ h => h) (Or.inl ⟨by rfl, ?hyfb8⟩) (by assumption) ?rfb8
        case hyfb8 => (intro w hSw; (try dsimp only at hSw); go_simp; try (with_reducible rfl))
        try simp only [Act.put, List.setIfInBounds_toArray, List.set_cons_zero, List.set_cons_succ]
        refine wpAnyH_take (i := 9) (oi := { dst := some 75, op := Op.move (Operand.tmp 19), type := 3, pos := "draw.go:83", after := #[{ on := 6, ground := Ground.guard }], guard := some (6, true) }) (v := ?vfb9) rfl (by kernel_rfl) (by kernel_rfl) (by kernel_rfl) (fun _ _ _ h => h) (Or.inl ⟨by rfl, ?hyfb9⟩) (by assumption) ?rfb9
        case hyfb9 => (intro w hSw; (try dsimp only at hSw); go_simp; try (with_reducible rfl))
        try simp only [Act.put, List.setIfInBounds_toArray, List.set_cons_zero, List.set_cons_succ]
        refine wpAnyH_take (i := 10) (oi := { dst := some 76, op := Op.move (Operand.tmp 20), type := 3, pos := "draw.go:83", after := #[{ on := 6, ground := Ground.guard }], guard := some (6, true) }) (v := ?vfb10) rfl (by kernel_rfl) (by kernel_rfl) (by kernel_rfl) (fun _ _ _ h => h) (Or.inl ⟨by rfl, ?hyfb10⟩) (by assumption) ?rfb10
        case hyfb10 => (intro w hSw; (try dsimp only at hSw); go_simp; try (with_reducible rfl))
        try simp only [Act.put, List.setIfInBounds_toArray, List.set_cons_zero, List.set_cons_succ]
        refine wpAnyH_ready (rs := [11]) (by kernel_rfl) (by simp) ?_
        refine AllReadyH.cons (o := { dst := some 77, op := Op.call { callee := Callee.value (Operand.func 32), args := #[Operand.tmp 74, Operand.tmp 75, Operand.tmp 76], argTypes := #[23, 3, 3] }, type := 4, pos := "draw.go:83", after := #[{ on := 8, ground := Ground.data }, { on := 9, ground := Ground.data }, { on := 10, ground := Ground.data }, { on := 6, ground := Ground.chain }, { on := 6, ground := Ground.guard }], guard := some (6, true) }) rfl (fun K hK => ?_) AllReadyH.nil
        go_simp
        refine (HIn _).out.mono ?_
        rintro e' w6 ⟨rfl, hf6⟩
        have HF6 : Hid (Fr NoB W0 w6) := Fr.trans HF5.out hf6
        clear hHeld hf6
        rw [t2]
        go_wp2_with fail
        refine hK.out _ _ (HS9.out _ HF6.out) (fun hHeld => ?_)
        clear hK K
        try simp only [Act.put, List.setIfInBounds_toArray, List.set_cons_zero, List.set_cons_succ]
        refine wpAnyH_take (i := 12) (oi := { dst := some 78, op := Op.pick (Operand.tmp 72) (Operand.tmp 77) (Operand.const (Value.bool false)), type := 4, pos := "draw.go:83", after := #[{ on := 6, ground := Ground.data }, { on := 11, ground := Ground.data }], guard := none }) (v := ?vfb11) rfl (by kernel_rfl) (by kernel_rfl) (by kernel_rfl) (fun _ _ _ h => h) (Or.inl ⟨by rfl, ?hyfb11⟩) (by assumption) ?rfb11
        case hyfb11 => (intro w hSw; (try dsimp only at hSw); go_simp; try (with_reducible rfl))
        try simp only [Act.put, List.setIfInBounds_toArray, List.set_cons_zero, List.set_cons_succ]
        refine wpAnyH_take (i := 13) (oi := { dst := some 79, op := Op.move (Operand.tmp 78), type := 4, pos := "draw.go:83", after := #[{ on := 12, ground := Ground.data }, { on := 11, ground := Ground.chain }], guard := none }) (v := ?vfb12) rfl (by kernel_rfl) (by kernel_rfl) (by kernel_rfl) (fun _ _ _ h => h) (Or.inl ⟨by rfl, ?hyfb12⟩) (by assumption) ?rfb12
        case hyfb12 => (intro w hSw; (try dsimp only at hSw); go_simp; try (with_reducible rfl))
        try simp only [Act.put, List.setIfInBounds_toArray, List.set_cons_zero, List.set_cons_succ]
        refine wpAnyH_take (i := 14) (oi := { dst := some 80, op := Op.load 29 (Operand.tmp 7), type := 29, pos := "draw.go:83", after := #[{ on := 13, ground := Ground.guard }], guard := some (13, true) }) (v := undef) rfl (by kernel_rfl) (by kernel_rfl) (by kernel_rfl) (fun _ _ _ h => h) (Or.inr ⟨by rfl, rfl⟩) (by assumption) ?_
        try simp only [Act.put, List.setIfInBounds_toArray, List.set_cons_zero, List.set_cons_succ]
        refine wpAnyH_take (i := 15) (oi := { dst := some 81, op := Op.move (Operand.tmp 19), type := 3, pos := "draw.go:83", after := #[{ on := 13, ground := Ground.guard }], guard := some (13, true) }) (v := undef) rfl (by kernel_rfl) (by kernel_rfl) (by kernel_rfl) (fun _ _ _ h => h) (Or.inr ⟨by rfl, rfl⟩) (by assumption) ?_
        try simp only [Act.put, List.setIfInBounds_toArray, List.set_cons_zero, List.set_cons_succ]
        refine wpAnyH_take (i := 16) (oi := { dst := some 82, op := Op.move (Operand.tmp 20), type := 3, pos := "draw.go:83", after := #[{ on := 13, ground := Ground.guard }], guard := some (13, true) }) (v := undef) rfl (by kernel_rfl) (by kernel_rfl) (by kernel_rfl) (fun _ _ _ h => h) (Or.inr ⟨by rfl, rfl⟩) (by assumption) ?_
        try simp only [Act.put, List.setIfInBounds_toArray, List.set_cons_zero, List.set_cons_succ]
        refine wpAnyH_take (i := 17) (oi := { dst := some 83, op := Op.call { callee := Callee.value (Operand.func 17), args := #[Operand.tmp 80, Operand.tmp 81, Operand.tmp 82], argTypes := #[29, 3, 3] }, type := 3, pos := "draw.go:83", after := #[{ on := 14, ground := Ground.data }, { on := 15, ground := Ground.data }, { on := 16, ground := Ground.data }, { on := 13, ground := Ground.chain }, { on := 13, ground := Ground.guard }], guard := some (13, true) }) (v := undef) rfl (by kernel_rfl) (by kernel_rfl) (by kernel_rfl) (fun _ _ _ h => h) (Or.inr ⟨by rfl, rfl⟩) (by assumption) ?_
        try simp only [Act.put, List.setIfInBounds_toArray, List.set_cons_zero, List.set_cons_succ]
        refine wpAnyH_take (i := 18) (oi := { dst := some 84, op := Op.load 3 (Operand.tmp 8), type := 3, pos := "draw.go:83", after := #[{ on := 13, ground := Ground.guard }], guard := some (13, true) }) (v := undef) rfl (by kernel_rfl) (by kernel_rfl) (by kernel_rfl) (fun _ _ _ h => h) (Or.inr ⟨by rfl, rfl⟩) (by assumption) ?_
        try simp only [Act.put, List.setIfInBounds_toArray, List.set_cons_zero, List.set_cons_succ]
        refine wpAnyH_take (i := 19) (oi := { dst := some 85, op := Op.binOp BinOp.eql 3 (Operand.tmp 83) (Operand.tmp 84) 3, type := 4, pos := "draw.go:83", after := #[{ on := 17, ground := Ground.data }, { on := 18, ground := Ground.data }, { on := 13, ground := Ground.guard }], guard := some (13, true) }) (v := undef) rfl (by kernel_rfl) (by kernel_rfl) (by kernel_rfl) (fun _ _ _ h => h) (Or.inr ⟨by rfl, rfl⟩) (by assumption) ?_
        try simp only [Act.put, List.setIfInBounds_toArray, List.set_cons_zero, List.set_cons_succ]
        refine wpAnyH_take (i := 20) (oi := { dst := some 86, op := Op.pick (Operand.tmp 79) (Operand.tmp 85) (Operand.const (Value.bool false)), type := 4, pos := "draw.go:83", after := #[{ on := 13, ground := Ground.data }, { on := 19, ground := Ground.data }], guard := none }) (v := ?vfb19) rfl (by kernel_rfl) (by kernel_rfl) (by kernel_rfl) (fun _ _ _ h => h) (Or.inl ⟨by rfl, ?hyfb19⟩) (by assumption) ?rfb19
        case hyfb19 => (intro w hSw; (try dsimp only at hSw); go_simp; try (with_reducible rfl))
        try simp only [Act.put, List.setIfInBounds_toArray, List.set_cons_zero, List.set_cons_succ]
        refine wpAnyH_take (i := 21) (oi := { dst := some 21, op := Op.assign (Operand.tmp 86), type := 4, pos := "draw.go:83", after := #[{ on := 20, ground := Ground.data }, { on := 17, ground := Ground.chain }, { on := 0, ground := Ground.phase }, { on := 1, ground := Ground.phase }, { on := 2, ground := Ground.phase }, { on := 3, ground := Ground.phase }, { on := 4, ground := Ground.phase }, { on := 5, ground := Ground.phase }, { on := 6, ground := Ground.phase }, { on := 7, ground := Ground.phase }, { on := 8, ground := Ground.phase }, { on := 9, ground := Ground.phase }, { on := 10, ground := Ground.phase }, { on := 11, ground := Ground.phase }, { on := 12, ground := Ground.phase }, { on := 13, ground := Ground.phase }, { on := 14, ground := Ground.phase }, { on := 15, ground := Ground.phase }, { on := 16, ground := Ground.phase }, { on := 17, ground := Ground.phase }, { on := 18, ground := Ground.phase }, { on := 19, ground := Ground.phase }, { on := 20, ground := Ground.phase }], guard := none }) (v := ?vfb20) rfl (by kernel_rfl) (by kernel_rfl) (by kernel_rfl) (fun _ _ _ h => h) (Or.inl ⟨by rfl, ?hyfb20⟩) (by assumption) ?rfb20
        case hyfb20 => (intro w hSw; (try dsimp only at hSw); go_simp; try (with_reducible rfl))
        try simp only [Act.put, List.setIfInBounds_toArray, List.set_cons_zero, List.set_cons_succ]
        refine wpAnyH_done (by kernel_rfl) ?_ _
        refine onlyOn_normal ?_
        clear HSv hHeld
        gi_wp2_with fail
        exact ⟨keeps_fr HF6.out (fun _ h => h.elim), ⟨(HIW.out.fr HF6.out (fun h => h)).trans HIW.out.symm, (HWW.out.fr HF6.out (fun h => h)).trans HWW.out.symm⟩, by rw [HST.out]; exact HI.out.frd HF6.out, HIW.out.fr HF6.out (fun h => h), HWW.out.fr HF6.out (fun h => h)⟩
      · have HO2 := hid (of_decide_eq_true t2)
        cases t3 : (ownerOf xs (pu - r.x + x) (pv - r.y + y) == id)
        · have HST : Hid (copyL W H xs id t r x y cs (pre ++ [⟨(pu, pv), hp1, hp2, hp3, hp4⟩]) = L) := hid (HSN.out.trans (by
            have hn : ¬ ownerOf xs (pu - r.x + x) (pv - r.y + y) = id := beq_eq_false_iff_ne.1 t3
            rw [show copyAt W H xs id t r x y cs (pu, pv) = [] from if_neg (fun h => hn h.2.2), List.append_nil]))
          refine wpIn_region_round (S := (fun W : World => Fr NoB W0 W ∧ W.cell? ⟨w.heap.size + 1, 0, none⟩ = some (.pointer (some ⟨b, 0, none⟩)) ∧ W.cell? ⟨w.heap.size + 1 + 1, 0, none⟩ = some (.int .i64 id) ∧ W.cell? ⟨w1.heap.size, 2, none⟩ = some (.int .i64 t.x) ∧ W.cell? ⟨w1.heap.size, 3, none⟩ = some (.int .i64 t.y) ∧ W.cell? ⟨w1.heap.size, 4, none⟩ = some (.int .i64 t.w) ∧ W.cell? ⟨w1.heap.size, 5, none⟩ = some (.int .i64 t.h))) (by kernel_rfl) (by kernel_rfl) (HS9.out _ hfw2) (fun hHeld => ?_)
          refine wpAnyH_take (i := 0) (oi := { dst := some 66, op := Op.load 29 (Operand.tmp 7), type := 29, pos := "draw.go:83", after := #[], guard := none }) (v := ?vfc1) rfl (by kernel_rfl) (by kernel_rfl) (by kernel_rfl) (fun _ _ _ h => h) (Or.inl ⟨by rfl, ?hyfc1⟩) (by assumption) ?rfc1
          case hyfc1 => (intro w hSw; (try dsimp only at hSw); go_simp; try (with_reducible rfl))
          try simp only [Act.put, List.setIfInBounds_toArray, List.set_cons_zero, List.set_cons_succ]
          refine wpAnyH_take (i := 1) (oi := { dst := some 67, op := Op.move (Operand.tmp 17), type := 3, pos := "draw.go:83", after := #[], guard := none }) (v := ?vfc2) rfl (by kernel_rfl) (by kernel_rfl) (by kernel_rfl) (fun _ _ _ h => h) (Or.inl ⟨by rfl, ?hyfc2⟩) (by assumption) ?rfc2
          case hyfc2 => (intro w hSw; (try dsimp only at hSw); go_simp; try (with_reducible rfl))
          try simp only [Act.put, List.setIfInBounds_toArray, List.set_cons_zero, List.set_cons_succ]
          refine wpAnyH_take (i := 2) (oi := { dst := some 68, op := Op.move (Operand.tmp 18), type := 3, pos := "draw.go:83", after := #[], guard := none }) (v := ?vfc3) rfl (by kernel_rfl) (by kernel_rfl) (by kernel_rfl) (fun _ _ _ h => h) (Or.inl ⟨by rfl, ?hyfc3⟩) (by assumption) ?rfc3
          case hyfc3 => (intro w hSw; (try dsimp only at hSw); go_simp; try (with_reducible rfl))
          try simp only [Act.put, List.setIfInBounds_toArray, List.set_cons_zero, List.set_cons_succ]
          refine wpAnyH_take (i := 4) (oi := { dst := some 70, op := Op.load 3 (Operand.tmp 8), type := 3, pos := "draw.go:83", after := #[], guard := none }) (v := ?vfc4) rfl (by kernel_rfl) (by kernel_rfl) (by kernel_rfl) (fun _ _ _ h => h) (Or.inl ⟨by rfl, ?hyfc4⟩) (by assumption) ?rfc4
          case hyfc4 => (intro w hSw; (try dsimp only at hSw); go_simp; try (with_reducible rfl))
          try simp only [Act.put, List.setIfInBounds_toArray, List.set_cons_zero, List.set_cons_succ]
          refine wpAnyH_ready (rs := [3]) (by kernel_rfl) (by simp) ?_
          refine AllReadyH.cons (o := { dst := some 69, op := Op.call { callee := Callee.value (Operand.func 17), args := #[Operand.tmp 66, Operand.tmp 67, Operand.tmp 68], argTypes := #[29, 3, 3] }, type := 3, pos := "draw.go:83", after := #[{ on := 0, ground := Ground.data }, { on := 1, ground := Ground.data }, { on := 2, ground := Ground.data }], guard := none }) rfl (fun K hK => ?_) AllReadyH.nil
          go_simp
          refine (HOw _ (HSK.out _ hfw2)).out.mono ?_
          rintro e' w5 ⟨rfl, hf5⟩
          have HF5 : Hid (Fr NoB W0 w5) := Fr.trans hfw2 hf5
          clear hHeld hf5
          go_wp2_with fail
          refine hK.out _ _ (HS9.out _ HF5.out) (fun hHeld => ?_)
          clear hK K
          try simp only [Act.put, List.setIfInBounds_toArray, List.set_cons_zero, List.set_cons_succ]
          refine wpAnyH_take (i := 5) (oi := { dst := some 71, op := Op.binOp BinOp.eql 3 (Operand.tmp 69) (Operand.tmp 70) 3, type := 4, pos := "draw.go:83", after := #[{ on := 3, ground := Ground.data }, { on := 4, ground := Ground.data }], guard := none }) (v := ?vfc5) rfl (by kernel_rfl) (by kernel_rfl) (by kernel_rfl) (fun _ _ _ h => h) (Or.inl ⟨by rfl, ?hyfc5⟩) (by assumption) ?rfc5
          case hyfc5 => (intro w hSw; (try dsimp only at hSw); go_simp; try (with_reducible rfl))
          try simp only [Act.put, List.setIfInBounds_toArray, List.set_cons_zero, List.set_cons_succ]
          refine wpAnyH_take (i := 6) (oi := { dst := some 72, op := Op.move (Operand.tmp 71), type := 4, pos := "draw.go:83", after := #[{ on := 5, ground := Ground.data }, { on := 3, ground := Ground.chain }], guard := none }) (v := ?vfc6) rfl (by kernel_rfl) (by kernel_rfl) (by kernel_rfl) (fun _ _ _ h => h) (Or.inl ⟨by rfl, ?hyfc6⟩) (by assumption) ?rfc6
          case hyfc6 => (intro w hSw; (try dsimp only at hSw); go_simp; try (with_reducible rfl))
          try simp only [Act.put, List.setIfInBounds_toArray, List.set_cons_zero, List.set_cons_succ]
          refine wpAnyH_take (i := 7) (oi := { dst := some 73, op := Op.fieldAddr 73 (Operand.tmp 14) 2, type := 0, pos := "draw.go:83", after := #[{ on := 6, ground := Ground.guard }], guard := some (6, true) }) (v := ?vfc7) rfl (by kernel_rfl) (by kernel_rfl) (by kernel_rfl) (fun _ _ _ h => h) (Or.inl ⟨by rfl, ?hyfc7⟩) (by assumption) ?rfc7
          case hyfc7 => (intro w hSw; (try dsimp only at hSw); go_simp; try (with_reducible rfl))
          try simp only [Act.put, List.setIfInBounds_toArray, List.set_cons_zero, List.set_cons_succ]
          refine wpAnyH_take (i := 8) (oi := { dst := some 74, op := Op.load 23 (Operand.tmp 73), type := 23, pos := "draw.go:83", after := #[{ on := 7, ground := Ground.data }, { on := 6, ground := Ground.guard }], guard := some (6, true) }) (v := ?vfc8) rfl (by kernel_rfl) (by kernel_rfl) (by kernel_rfl) (fun _ _ _ h => h) (Or.inl ⟨by rfl, ?hyfc8⟩) (by assumption) ?rfc8
          case hyfc8 => (intro w hSw; (try dsimp only at hSw); go_simp; try (with_reducible rfl))
          try simp only [Act.put, List.setIfInBounds_toArray, List.set_cons_zero, List.set_cons_succ]
          refine wpAnyH_take (i := 9) (oi := { dst := some 75, op := Op.move (Operand.tmp 19), type := 3, pos := "draw.go:83", after := #[{ on := 6, ground := Ground.guard }], guard := some (6, true) }) (v := ?vfc9) rfl (by kernel_rfl) (by kernel_rfl) (by kernel_rfl) (fun _ _ _ h => h) (Or.inl ⟨by rfl, ?hyfc9⟩) (by assumption) ?rfc9
          case hyfc9 => (intro w hSw; (try dsimp only at hSw); go_simp; try (with_reducible rfl))
          try simp only [Act.put, List.setIfInBounds_toArray, List.set_cons_zero, List.set_cons_succ]
          refine wpAnyH_take (i := 10) (oi := { dst := some 76, op := Op.move (Operand.tmp 20), type := 3, pos := "draw.go:83", after := #[{ on := 6, ground := Ground.guard }], guard := some (6, true) }) (v := ?vfc10) rfl (by kernel_rfl) (by kernel_rfl) (by kernel_rfl) (fun _ _ _ h => h) (Or.inl ⟨by rfl, ?hyfc10⟩) (by assumption) ?rfc10
          case hyfc10 => (intro w hSw; (try dsimp only at hSw); go_simp; try (with_reducible rfl))
          try simp only [Act.put, List.setIfInBounds_toArray, List.set_cons_zero, List.set_cons_succ]
          refine wpAnyH_ready (rs := [11]) (by kernel_rfl) (by simp) ?_
          refine AllReadyH.cons (o := { dst := some 77, op := Op.call { callee := Callee.value (Operand.func 32), args := #[Operand.tmp 74, Operand.tmp 75, Operand.tmp 76], argTypes := #[23, 3, 3] }, type := 4, pos := "draw.go:83", after := #[{ on := 8, ground := Ground.data }, { on := 9, ground := Ground.data }, { on := 10, ground := Ground.data }, { on := 6, ground := Ground.chain }, { on := 6, ground := Ground.guard }], guard := some (6, true) }) rfl (fun K hK => ?_) AllReadyH.nil
          go_simp
          refine (HIn _).out.mono ?_
          rintro e' w6 ⟨rfl, hf6⟩
          have HF6 : Hid (Fr NoB W0 w6) := Fr.trans HF5.out hf6
          clear hHeld hf6
          rw [t2]
          go_wp2_with fail
          refine hK.out _ _ (HS9.out _ HF6.out) (fun hHeld => ?_)
          clear hK K
          try simp only [Act.put, List.setIfInBounds_toArray, List.set_cons_zero, List.set_cons_succ]
          refine wpAnyH_take (i := 12) (oi := { dst := some 78, op := Op.pick (Operand.tmp 72) (Operand.tmp 77) (Operand.const (Value.bool false)), type := 4, pos := "draw.go:83", after := #[{ on := 6, ground := Ground.data }, { on := 11, ground := Ground.data }], guard := none }) (v := ?vfc11) rfl (by kernel_rfl) (by kernel_rfl) (by kernel_rfl) (fun _ _ _ h => h) (Or.inl ⟨by rfl, ?hyfc11⟩) (by assumption) ?rfc11
          case hyfc11 => (intro w hSw; (try dsimp only at hSw); go_simp; try (with_reducible rfl))
          try simp only [Act.put, List.setIfInBounds_toArray, List.set_cons_zero, List.set_cons_succ]
          refine wpAnyH_take (i := 13) (oi := { dst := some 79, op := Op.move (Operand.tmp 78), type := 4, pos := "draw.go:83", after := #[{ on := 12, ground := Ground.data }, { on := 11, ground := Ground.chain }], guard := none }) (v := ?vfc12) rfl (by kernel_rfl) (by kernel_rfl) (by kernel_rfl) (fun _ _ _ h => h) (Or.inl ⟨by rfl, ?hyfc12⟩) (by assumption) ?rfc12
          case hyfc12 => (intro w hSw; (try dsimp only at hSw); go_simp; try (with_reducible rfl))
          try simp only [Act.put, List.setIfInBounds_toArray, List.set_cons_zero, List.set_cons_succ]
          refine wpAnyH_take (i := 14) (oi := { dst := some 80, op := Op.load 29 (Operand.tmp 7), type := 29, pos := "draw.go:83", after := #[{ on := 13, ground := Ground.guard }], guard := some (13, true) }) (v := ?vfc13) rfl (by kernel_rfl) (by kernel_rfl) (by kernel_rfl) (fun _ _ _ h => h) (Or.inl ⟨by rfl, ?hyfc13⟩) (by assumption) ?rfc13
          case hyfc13 => (intro w hSw; (try dsimp only at hSw); go_simp; try (with_reducible rfl))
          try simp only [Act.put, List.setIfInBounds_toArray, List.set_cons_zero, List.set_cons_succ]
          refine wpAnyH_take (i := 15) (oi := { dst := some 81, op := Op.move (Operand.tmp 19), type := 3, pos := "draw.go:83", after := #[{ on := 13, ground := Ground.guard }], guard := some (13, true) }) (v := ?vfc14) rfl (by kernel_rfl) (by kernel_rfl) (by kernel_rfl) (fun _ _ _ h => h) (Or.inl ⟨by rfl, ?hyfc14⟩) (by assumption) ?rfc14
          case hyfc14 => (intro w hSw; (try dsimp only at hSw); go_simp; try (with_reducible rfl))
          try simp only [Act.put, List.setIfInBounds_toArray, List.set_cons_zero, List.set_cons_succ]
          refine wpAnyH_take (i := 16) (oi := { dst := some 82, op := Op.move (Operand.tmp 20), type := 3, pos := "draw.go:83", after := #[{ on := 13, ground := Ground.guard }], guard := some (13, true) }) (v := ?vfc15) rfl (by kernel_rfl) (by kernel_rfl) (by kernel_rfl) (fun _ _ _ h => h) (Or.inl ⟨by rfl, ?hyfc15⟩) (by assumption) ?rfc15
          case hyfc15 => (intro w hSw; (try dsimp only at hSw); go_simp; try (with_reducible rfl))
          try simp only [Act.put, List.setIfInBounds_toArray, List.set_cons_zero, List.set_cons_succ]
          refine wpAnyH_take (i := 18) (oi := { dst := some 84, op := Op.load 3 (Operand.tmp 8), type := 3, pos := "draw.go:83", after := #[{ on := 13, ground := Ground.guard }], guard := some (13, true) }) (v := ?vfc16) rfl (by kernel_rfl) (by kernel_rfl) (by kernel_rfl) (fun _ _ _ h => h) (Or.inl ⟨by rfl, ?hyfc16⟩) (by assumption) ?rfc16
          case hyfc16 => (intro w hSw; (try dsimp only at hSw); go_simp; try (with_reducible rfl))
          try simp only [Act.put, List.setIfInBounds_toArray, List.set_cons_zero, List.set_cons_succ]
          refine wpAnyH_ready (rs := [17]) (by kernel_rfl) (by simp) ?_
          refine AllReadyH.cons (o := { dst := some 83, op := Op.call { callee := Callee.value (Operand.func 17), args := #[Operand.tmp 80, Operand.tmp 81, Operand.tmp 82], argTypes := #[29, 3, 3] }, type := 3, pos := "draw.go:83", after := #[{ on := 14, ground := Ground.data }, { on := 15, ground := Ground.data }, { on := 16, ground := Ground.data }, { on := 13, ground := Ground.chain }, { on := 13, ground := Ground.guard }], guard := some (13, true) }) rfl (fun K hK => ?_) AllReadyH.nil
          go_simp
          refine (HOw2 _ (HSK.out _ HF6.out)).out.mono ?_
          rintro e' w7 ⟨rfl, hf7⟩
          have HF7 : Hid (Fr NoB W0 w7) := Fr.trans HF6.out hf7
          clear hHeld hf7
          go_wp2_with fail
          refine hK.out _ _ (HS9.out _ HF7.out) (fun hHeld => ?_)
          clear hK K
          try simp only [Act.put, List.setIfInBounds_toArray, List.set_cons_zero, List.set_cons_succ]
          refine wpAnyH_take (i := 19) (oi := { dst := some 85, op := Op.binOp BinOp.eql 3 (Operand.tmp 83) (Operand.tmp 84) 3, type := 4, pos := "draw.go:83", after := #[{ on := 17, ground := Ground.data }, { on := 18, ground := Ground.data }, { on := 13, ground := Ground.guard }], guard := some (13, true) }) (v := ?vfc17) rfl (by kernel_rfl) (by kernel_rfl) (by kernel_rfl) (fun _ _ _ h => h) (Or.inl ⟨by rfl, ?hyfc17⟩) (by assumption) ?rfc17
          case hyfc17 => (intro w hSw; (try dsimp only at hSw); go_simp; try (with_reducible rfl))
          try simp only [Act.put, List.setIfInBounds_toArray, List.set_cons_zero, List.set_cons_succ]
          refine wpAnyH_take (i := 20) (oi := { dst := some 86, op := Op.pick (Operand.tmp 79) (Operand.tmp 85) (Operand.const (Value.bool false)), type := 4, pos := "draw.go:83", after := #[{ on := 13, ground := Ground.data }, { on := 19, ground := Ground.data }], guard := none }) (v := ?vfc18) rfl (by kernel_rfl) (by kernel_rfl) (by kernel_rfl) (fun _ _ _ h => h) (Or.inl ⟨by rfl, ?hyfc18⟩) (by assumption) ?rfc18
          case hyfc18 => (intro w hSw; (try dsimp only at hSw); go_simp; try (with_reducible rfl))
          try simp only [Act.put, List.setIfInBounds_toArray, List.set_cons_zero, List.set_cons_succ]
          refine wpAnyH_take (i := 21) (oi := { dst := some 21, op := Op.assign (Operand.tmp 86), type := 4, pos := "draw.go:83", after := #[{ on := 20, ground := Ground.data }, { on := 17, ground := Ground.chain }, { on := 0, ground := Ground.phase }, { on := 1, ground := Ground.phase }, { on := 2, ground := Ground.phase }, { on := 3, ground := Ground.phase }, { on := 4, ground := Ground.phase }, { on := 5, ground := Ground.phase }, { on := 6, ground := Ground.phase }, { on := 7, ground := Ground.phase }, { on := 8, ground := Ground.phase }, { on := 9, ground := Ground.phase }, { on := 10, ground := Ground.phase }, { on := 11, ground := Ground.phase }, { on := 12, ground := Ground.phase }, { on := 13, ground := Ground.phase }, { on := 14, ground := Ground.phase }, { on := 15, ground := Ground.phase }, { on := 16, ground := Ground.phase }, { on := 17, ground := Ground.phase }, { on := 18, ground := Ground.phase }, { on := 19, ground := Ground.phase }, { on := 20, ground := Ground.phase }], guard := none }) (v := ?vfc19) rfl (by kernel_rfl) (by kernel_rfl) (by kernel_rfl) (fun _ _ _ h => h) (Or.inl ⟨by rfl, ?hyfc19⟩) (by assumption) ?rfc19
          case hyfc19 => (intro w hSw; (try dsimp only at hSw); go_simp; try (with_reducible rfl))
          try simp only [Act.put, List.setIfInBounds_toArray, List.set_cons_zero, List.set_cons_succ]
          refine wpAnyH_done (by kernel_rfl) ?_ _
          refine onlyOn_normal ?_
          clear HSv hHeld
          gi_wp2_with fail
          exact ⟨keeps_fr HF7.out (fun _ h => h.elim), ⟨(HIW.out.fr HF7.out (fun h => h)).trans HIW.out.symm, (HWW.out.fr HF7.out (fun h => h)).trans HWW.out.symm⟩, by rw [HST.out]; exact HI.out.frd HF7.out, HIW.out.fr HF7.out (fun h => h), HWW.out.fr HF7.out (fun h => h)⟩
        · have ho3 : ownerOf xs (pu - r.x + x) (pv - r.y + y) = id := by rw [← beq_iff_eq]; exact t3
          have HO3 := hid ho3
          clear ho3
          have HST : Hid (copyL W H xs id t r x y cs (pre ++ [⟨(pu, pv), hp1, hp2, hp3, hp4⟩]) = L ++ [⟨pu - r.x + x, pv - r.y + y, atG W H cs pu pv⟩]) := hid (HSN.out.trans (by
            rw [show copyAt W H xs id t r x y cs (pu, pv) = [⟨pu - r.x + x, pv - r.y + y, atG W H cs pu pv⟩] from if_pos ⟨HO1.out, HO2.out, HO3.out⟩]))
          refine wpIn_region_round (S := (fun W : World => Fr NoB W0 W ∧ W.cell? ⟨w.heap.size + 1, 0, none⟩ = some (.pointer (some ⟨b, 0, none⟩)) ∧ W.cell? ⟨w.heap.size + 1 + 1, 0, none⟩ = some (.int .i64 id) ∧ W.cell? ⟨w1.heap.size, 2, none⟩ = some (.int .i64 t.x) ∧ W.cell? ⟨w1.heap.size, 3, none⟩ = some (.int .i64 t.y) ∧ W.cell? ⟨w1.heap.size, 4, none⟩ = some (.int .i64 t.w) ∧ W.cell? ⟨w1.heap.size, 5, none⟩ = some (.int .i64 t.h))) (by kernel_rfl) (by kernel_rfl) (HS9.out _ hfw2) (fun hHeld => ?_)
          refine wpAnyH_take (i := 0) (oi := { dst := some 66, op := Op.load 29 (Operand.tmp 7), type := 29, pos := "draw.go:83", after := #[], guard := none }) (v := ?vfd1) rfl (by kernel_rfl) (by kernel_rfl) (by kernel_rfl) (fun _ _ _ h => h) (Or.inl ⟨by rfl, ?hyfd1⟩) (by assumption) ?rfd1
          case hyfd1 => (intro w hSw; (try dsimp only at hSw); go_simp; try (with_reducible rfl))
          try simp only [Act.put, List.setIfInBounds_toArray, List.set_cons_zero, List.set_cons_succ]
          refine wpAnyH_take (i := 1) (oi := { dst := some 67, op := Op.move (Operand.tmp 17), type := 3, pos := "draw.go:83", after := #[], guard := none }) (v := ?vfd2) rfl (by kernel_rfl) (by kernel_rfl) (by kernel_rfl) (fun _ _ _ h => h) (Or.inl ⟨by rfl, ?hyfd2⟩) (by assumption) ?rfd2
          case hyfd2 => (intro w hSw; (try dsimp only at hSw); go_simp; try (with_reducible rfl))
          try simp only [Act.put, List.setIfInBounds_toArray, List.set_cons_zero, List.set_cons_succ]
          refine wpAnyH_take (i := 2) (oi := { dst := some 68, op := Op.move (Operand.tmp 18), type := 3, pos := "draw.go:83", after := #[], guard := none }) (v := ?vfd3) rfl (by kernel_rfl) (by kernel_rfl) (by kernel_rfl) (fun _ _ _ h => h) (Or.inl ⟨by rfl, ?hyfd3⟩) (by assumption) ?rfd3
          case hyfd3 => (intro w hSw; (try dsimp only at hSw); go_simp; try (with_reducible rfl))
          try simp only [Act.put, List.setIfInBounds_toArray, List.set_cons_zero, List.set_cons_succ]
          refine wpAnyH_take (i := 4) (oi := { dst := some 70, op := Op.load 3 (Operand.tmp 8), type := 3, pos := "draw.go:83", after := #[], guard := none }) (v := ?vfd4) rfl (by kernel_rfl) (by kernel_rfl) (by kernel_rfl) (fun _ _ _ h => h) (Or.inl ⟨by rfl, ?hyfd4⟩) (by assumption) ?rfd4
          case hyfd4 => (intro w hSw; (try dsimp only at hSw); go_simp; try (with_reducible rfl))
          try simp only [Act.put, List.setIfInBounds_toArray, List.set_cons_zero, List.set_cons_succ]
          refine wpAnyH_ready (rs := [3]) (by kernel_rfl) (by simp) ?_
          refine AllReadyH.cons (o := { dst := some 69, op := Op.call { callee := Callee.value (Operand.func 17), args := #[Operand.tmp 66, Operand.tmp 67, Operand.tmp 68], argTypes := #[29, 3, 3] }, type := 3, pos := "draw.go:83", after := #[{ on := 0, ground := Ground.data }, { on := 1, ground := Ground.data }, { on := 2, ground := Ground.data }], guard := none }) rfl (fun K hK => ?_) AllReadyH.nil
          go_simp
          refine (HOw _ (HSK.out _ hfw2)).out.mono ?_
          rintro e' w5 ⟨rfl, hf5⟩
          have HF5 : Hid (Fr NoB W0 w5) := Fr.trans hfw2 hf5
          clear hHeld hf5
          go_wp2_with fail
          refine hK.out _ _ (HS9.out _ HF5.out) (fun hHeld => ?_)
          clear hK K
          try simp only [Act.put, List.setIfInBounds_toArray, List.set_cons_zero, List.set_cons_succ]
          refine wpAnyH_take (i := 5) (oi := { dst := some 71, op := Op.binOp BinOp.eql 3 (Operand.tmp 69) (Operand.tmp 70) 3, type := 4, pos := "draw.go:83", after := #[{ on := 3, ground := Ground.data }, { on := 4, ground := Ground.data }], guard := none }) (v := ?vfd5) rfl (by kernel_rfl) (by kernel_rfl) (by kernel_rfl) (fun _ _ _ h => h) (Or.inl ⟨by rfl, ?hyfd5⟩) (by assumption) ?rfd5
          case hyfd5 => (intro w hSw; (try dsimp only at hSw); go_simp; try (with_reducible rfl))
          try simp only [Act.put, List.setIfInBounds_toArray, List.set_cons_zero, List.set_cons_succ]
          refine wpAnyH_take (i := 6) (oi := { dst := some 72, op := Op.move (Operand.tmp 71), type := 4, pos := "draw.go:83", after := #[{ on := 5, ground := Ground.data }, { on := 3, ground := Ground.chain }], guard := none }) (v := ?vfd6) rfl (by kernel_rfl) (by kernel_rfl) (by kernel_rfl) (fun _ _ _ h => h) (Or.inl ⟨by rfl, ?hyfd6⟩) (by assumption) ?rfd6
          case hyfd6 => (intro w hSw; (try dsimp only at hSw); go_simp; try (with_reducible rfl))
          try simp only [Act.put, List.setIfInBounds_toArray, List.set_cons_zero, List.set_cons_succ]
          refine wpAnyH_take (i := 7) (oi := { dst := some 73, op := Op.fieldAddr 73 (Operand.tmp 14) 2, type := 0, pos := "draw.go:83", after := #[{ on := 6, ground := Ground.guard }], guard := some (6, true) }) (v := ?vfd7) rfl (by kernel_rfl) (by kernel_rfl) (by kernel_rfl) (fun _ _ _ h => h) (Or.inl ⟨by rfl, ?hyfd7⟩) (by assumption) ?rfd7
          case hyfd7 => (intro w hSw; (try dsimp only at hSw); go_simp; try (with_reducible rfl))
          try simp only [Act.put, List.setIfInBounds_toArray, List.set_cons_zero, List.set_cons_succ]
          refine wpAnyH_take (i := 8) (oi := { dst := some 74, op := Op.load 23 (Operand.tmp 73), type := 23, pos := "draw.go:83", after := #[{ on := 7, ground := Ground.data }, { on := 6, ground := Ground.guard }], guard := some (6, true) }) (v := ?vfd8) rfl (by kernel_rfl) (by kernel_rfl) (by kernel_rfl) (fun _ _ _ h => h) (Or.inl ⟨by rfl, ?hyfd8⟩) (by assumption) ?rfd8
          case hyfd8 => (intro w hSw; (try dsimp only at hSw); go_simp; try (with_reducible rfl))
          try simp only [Act.put, List.setIfInBounds_toArray, List.set_cons_zero, List.set_cons_succ]
          refine wpAnyH_take (i := 9) (oi := { dst := some 75, op := Op.move (Operand.tmp 19), type := 3, pos := "draw.go:83", after := #[{ on := 6, ground := Ground.guard }], guard := some (6, true) }) (v := ?vfd9) rfl (by kernel_rfl) (by kernel_rfl) (by kernel_rfl) (fun _ _ _ h => h) (Or.inl ⟨by rfl, ?hyfd9⟩) (by assumption) ?rfd9
          case hyfd9 => (intro w hSw; (try dsimp only at hSw); go_simp; try (with_reducible rfl))
          try simp only [Act.put, List.setIfInBounds_toArray, List.set_cons_zero, List.set_cons_succ]
          refine wpAnyH_take (i := 10) (oi := { dst := some 76, op := Op.move (Operand.tmp 20), type := 3, pos := "draw.go:83", after := #[{ on := 6, ground := Ground.guard }], guard := some (6, true) }) (v := ?vfd10) rfl (by kernel_rfl) (by kernel_rfl) (by kernel_rfl) (fun _ _ _ h => h) (Or.inl ⟨by rfl, ?hyfd10⟩) (by assumption) ?rfd10
          case hyfd10 => (intro w hSw; (try dsimp only at hSw); go_simp; try (with_reducible rfl))
          try simp only [Act.put, List.setIfInBounds_toArray, List.set_cons_zero, List.set_cons_succ]
          refine wpAnyH_ready (rs := [11]) (by kernel_rfl) (by simp) ?_
          refine AllReadyH.cons (o := { dst := some 77, op := Op.call { callee := Callee.value (Operand.func 32), args := #[Operand.tmp 74, Operand.tmp 75, Operand.tmp 76], argTypes := #[23, 3, 3] }, type := 4, pos := "draw.go:83", after := #[{ on := 8, ground := Ground.data }, { on := 9, ground := Ground.data }, { on := 10, ground := Ground.data }, { on := 6, ground := Ground.chain }, { on := 6, ground := Ground.guard }], guard := some (6, true) }) rfl (fun K hK => ?_) AllReadyH.nil
          go_simp
          refine (HIn _).out.mono ?_
          rintro e' w6 ⟨rfl, hf6⟩
          have HF6 : Hid (Fr NoB W0 w6) := Fr.trans HF5.out hf6
          clear hHeld hf6
          rw [t2]
          go_wp2_with fail
          refine hK.out _ _ (HS9.out _ HF6.out) (fun hHeld => ?_)
          clear hK K
          try simp only [Act.put, List.setIfInBounds_toArray, List.set_cons_zero, List.set_cons_succ]
          refine wpAnyH_take (i := 12) (oi := { dst := some 78, op := Op.pick (Operand.tmp 72) (Operand.tmp 77) (Operand.const (Value.bool false)), type := 4, pos := "draw.go:83", after := #[{ on := 6, ground := Ground.data }, { on := 11, ground := Ground.data }], guard := none }) (v := ?vfd11) rfl (by kernel_rfl) (by kernel_rfl) (by kernel_rfl) (fun _ _ _ h => h) (Or.inl ⟨by rfl, ?hyfd11⟩) (by assumption) ?rfd11
          case hyfd11 => (intro w hSw; (try dsimp only at hSw); go_simp; try (with_reducible rfl))
          try simp only [Act.put, List.setIfInBounds_toArray, List.set_cons_zero, List.set_cons_succ]
          refine wpAnyH_take (i := 13) (oi := { dst := some 79, op := Op.move (Operand.tmp 78), type := 4, pos := "draw.go:83", after := #[{ on := 12, ground := Ground.data }, { on := 11, ground := Ground.chain }], guard := none }) (v := ?vfd12) rfl (by kernel_rfl) (by kernel_rfl) (by kernel_rfl) (fun _ _ _ h => h) (Or.inl ⟨by rfl, ?hyfd12⟩) (by assumption) ?rfd12
          case hyfd12 => (intro w hSw; (try dsimp only at hSw); go_simp; try (with_reducible rfl))
          try simp only [Act.put, List.setIfInBounds_toArray, List.set_cons_zero, List.set_cons_succ]
          refine wpAnyH_take (i := 14) (oi := { dst := some 80, op := Op.load 29 (Operand.tmp 7), type := 29, pos := "draw.go:83", after := #[{ on := 13, ground := Ground.guard }], guard := some (13, true) }) (v := ?vfd13) rfl (by kernel_rfl) (by kernel_rfl) (by kernel_rfl) (fun _ _ _ h => h) (Or.inl ⟨by rfl, ?hyfd13⟩) (by assumption) ?rfd13
          case hyfd13 => (intro w hSw; (try dsimp only at hSw); go_simp; try (with_reducible rfl))
          try simp only [Act.put, List.setIfInBounds_toArray, List.set_cons_zero, List.set_cons_succ]
          refine wpAnyH_take (i := 15) (oi := { dst := some 81, op := Op.move (Operand.tmp 19), type := 3, pos := "draw.go:83", after := #[{ on := 13, ground := Ground.guard }], guard := some (13, true) }) (v := ?vfd14) rfl (by kernel_rfl) (by kernel_rfl) (by kernel_rfl) (fun _ _ _ h => h) (Or.inl ⟨by rfl, ?hyfd14⟩) (by assumption) ?rfd14
          case hyfd14 => (intro w hSw; (try dsimp only at hSw); go_simp; try (with_reducible rfl))
          try simp only [Act.put, List.setIfInBounds_toArray, List.set_cons_zero, List.set_cons_succ]
          refine wpAnyH_take (i := 16) (oi := { dst := some 82, op := Op.move (Operand.tmp 20), type := 3, pos := "draw.go:83", after := #[{ on := 13, ground := Ground.guard }], guard := some (13, true) }) (v := ?vfd15) rfl (by kernel_rfl) (by kernel_rfl) (by kernel_rfl) (fun _ _ _ h => h) (Or.inl ⟨by rfl, ?hyfd15⟩) (by assumption) ?rfd15
          case hyfd15 => (intro w hSw; (try dsimp only at hSw); go_simp; try (with_reducible rfl))
          try simp only [Act.put, List.setIfInBounds_toArray, List.set_cons_zero, List.set_cons_succ]
          refine wpAnyH_take (i := 18) (oi := { dst := some 84, op := Op.load 3 (Operand.tmp 8), type := 3, pos := "draw.go:83", after := #[{ on := 13, ground := Ground.guard }], guard := some (13, true) }) (v := ?vfd16) rfl (by kernel_rfl) (by kernel_rfl) (by kernel_rfl) (fun _ _ _ h => h) (Or.inl ⟨by rfl, ?hyfd16⟩) (by assumption) ?rfd16
          case hyfd16 => (intro w hSw; (try dsimp only at hSw); go_simp; try (with_reducible rfl))
          try simp only [Act.put, List.setIfInBounds_toArray, List.set_cons_zero, List.set_cons_succ]
          refine wpAnyH_ready (rs := [17]) (by kernel_rfl) (by simp) ?_
          refine AllReadyH.cons (o := { dst := some 83, op := Op.call { callee := Callee.value (Operand.func 17), args := #[Operand.tmp 80, Operand.tmp 81, Operand.tmp 82], argTypes := #[29, 3, 3] }, type := 3, pos := "draw.go:83", after := #[{ on := 14, ground := Ground.data }, { on := 15, ground := Ground.data }, { on := 16, ground := Ground.data }, { on := 13, ground := Ground.chain }, { on := 13, ground := Ground.guard }], guard := some (13, true) }) rfl (fun K hK => ?_) AllReadyH.nil
          go_simp
          refine (HOw2 _ (HSK.out _ HF6.out)).out.mono ?_
          rintro e' w7 ⟨rfl, hf7⟩
          have HF7 : Hid (Fr NoB W0 w7) := Fr.trans HF6.out hf7
          clear hHeld hf7
          go_wp2_with fail
          refine hK.out _ _ (HS9.out _ HF7.out) (fun hHeld => ?_)
          clear hK K
          try simp only [Act.put, List.setIfInBounds_toArray, List.set_cons_zero, List.set_cons_succ]
          refine wpAnyH_take (i := 19) (oi := { dst := some 85, op := Op.binOp BinOp.eql 3 (Operand.tmp 83) (Operand.tmp 84) 3, type := 4, pos := "draw.go:83", after := #[{ on := 17, ground := Ground.data }, { on := 18, ground := Ground.data }, { on := 13, ground := Ground.guard }], guard := some (13, true) }) (v := ?vfd17) rfl (by kernel_rfl) (by kernel_rfl) (by kernel_rfl) (fun _ _ _ h => h) (Or.inl ⟨by rfl, ?hyfd17⟩) (by assumption) ?rfd17
          case hyfd17 => (intro w hSw; (try dsimp only at hSw); go_simp; try (with_reducible rfl))
          try simp only [Act.put, List.setIfInBounds_toArray, List.set_cons_zero, List.set_cons_succ]
          refine wpAnyH_take (i := 20) (oi := { dst := some 86, op := Op.pick (Operand.tmp 79) (Operand.tmp 85) (Operand.const (Value.bool false)), type := 4, pos := "draw.go:83", after := #[{ on := 13, ground := Ground.data }, { on := 19, ground := Ground.data }], guard := none }) (v := ?vfd18) rfl (by kernel_rfl) (by kernel_rfl) (by kernel_rfl) (fun _ _ _ h => h) (Or.inl ⟨by rfl, ?hyfd18⟩) (by assumption) ?rfd18
          case hyfd18 => (intro w hSw; (try dsimp only at hSw); go_simp; try (with_reducible rfl))
          try simp only [Act.put, List.setIfInBounds_toArray, List.set_cons_zero, List.set_cons_succ]
          refine wpAnyH_take (i := 21) (oi := { dst := some 21, op := Op.assign (Operand.tmp 86), type := 4, pos := "draw.go:83", after := #[{ on := 20, ground := Ground.data }, { on := 17, ground := Ground.chain }, { on := 0, ground := Ground.phase }, { on := 1, ground := Ground.phase }, { on := 2, ground := Ground.phase }, { on := 3, ground := Ground.phase }, { on := 4, ground := Ground.phase }, { on := 5, ground := Ground.phase }, { on := 6, ground := Ground.phase }, { on := 7, ground := Ground.phase }, { on := 8, ground := Ground.phase }, { on := 9, ground := Ground.phase }, { on := 10, ground := Ground.phase }, { on := 11, ground := Ground.phase }, { on := 12, ground := Ground.phase }, { on := 13, ground := Ground.phase }, { on := 14, ground := Ground.phase }, { on := 15, ground := Ground.phase }, { on := 16, ground := Ground.phase }, { on := 17, ground := Ground.phase }, { on := 18, ground := Ground.phase }, { on := 19, ground := Ground.phase }, { on := 20, ground := Ground.phase }], guard := none }) (v := ?vfd19) rfl (by kernel_rfl) (by kernel_rfl) (by kernel_rfl) (fun _ _ _ h => h) (Or.inl ⟨by rfl, ?hyfd19⟩) (by assumption) ?rfd19
          case hyfd19 => (intro w hSw; (try dsimp only at hSw); go_simp; try (with_reducible rfl))
          try simp only [Act.put, List.setIfInBounds_toArray, List.set_cons_zero, List.set_cons_succ]
          refine wpAnyH_done (by kernel_rfl) ?_ _
          refine onlyOn_normal ?_
          clear hHeld
          have hfw3 : Fr NoB W0 w7.drew := HF7.out.drew
          have HAt : Hid (∀ W2, Fr NoB W0 W2 → Calls Try.prog 12 #[.pointer (some ⟨g, 0, none⟩), .int .i64 pu, .int .i64 pv] W2 fun e w' => e = .returned (atG W H cs pu pv).v ∧ Fr NoB W2 w') := hid fun W2 h2 => by
            obtain ⟨q, hq1, hq2, hq3⟩ := ownerOf_at HO1.out hid0
            have hs := hscr q hq1
            have z1 : 0 < q.w ∧ q.x ≤ pu ∧ pu - q.x < q.w := hq2
            have z2 : 0 < q.h ∧ q.y ≤ pv ∧ pv - q.y < q.h := hq3
            obtain ⟨pn, hpn⟩ : ∃ n : Nat, pu = n := ⟨pu.toNat, by omega⟩
            obtain ⟨qn, hqn⟩ : ∃ n : Nat, pv = n := ⟨pv.toNat, by omega⟩
            rw [hpn, hqn]
            exact gAt_in W2 g gb W H cs pn qn (hfd.gd.frd (HI.out.frm.trans h2)) (by omega) (by omega)
          generalize atG W H cs pu pv = c at HAt HST
          unfold Cl.v at HAt
          obtain ⟨lv, hEL, hRL⟩ := HI.out.e
          have HEL := hid hEL
          have HRL := hid hRL
          have hFB := hfd.blk.fr HI.out.frm (fun h => h)
          have HFB := hid hFB
          have HS11 : Hid (∀ W2, Fr NoB W0 W2 → W2.cell? ⟨w.heap.size, 0, none⟩ = some (.pointer (some ⟨f, 0, none⟩)) ∧ W2.cell? ⟨f, 0, none⟩ = some (.pointer (some ⟨g, 0, none⟩))) := hid fun W2 h2 => ⟨(HSv.out W2 h2).1, (HFB.out.fr h2 (fun h => h)).cell 0 rfl⟩
          have HKp : Hid (∀ W2, Fr NoB W0 W2 → ∀ W3, Fr (OwnB lv) W2 W3 → (W3.cell? ⟨w.heap.size, 0, none⟩ = some (.pointer (some ⟨f, 0, none⟩)) ∧ W3.cell? ⟨f, 0, none⟩ = some (.pointer (some ⟨g, 0, none⟩))) ∧ ∀ u, (W3.setCell ⟨w2.heap.size, 0, none⟩ u).cell? ⟨w.heap.size, 0, none⟩ = some (.pointer (some ⟨f, 0, none⟩)) ∧ (W3.setCell ⟨w2.heap.size, 0, none⟩ u).cell? ⟨f, 0, none⟩ = some (.pointer (some ⟨g, 0, none⟩))) := hid fun W2 h2 W3 h3 => by
            have k1 := KS.keepBlk (HEL.out.fr h2 (fun h => h)) (HRL.out.fr h2 (fun _ _ h => h)) h3 ((HI.out.b0).fr h2 (fun h => h)) (by decide) (by decide)
            have k2 := KS.keepBlk (HEL.out.fr h2 (fun h => h)) (HRL.out.fr h2 (fun _ _ h => h)) h3 (HFB.out.fr h2 (fun h => h)) (by decide) (by decide)
            exact ⟨⟨k1.1.cell 0 rfl, k2.1.cell 0 rfl⟩, fun u => ⟨(k1.2 u).cell 0 rfl, (k2.2 u).cell 0 rfl⟩⟩
          have a8 := hEL.cell 0 rfl
          have z7 := cellto a8 hfw3
          have HM1 : Hid (([⟨pu - r.x + x, pv - r.y + y, c⟩] : List Wr).length = 1) := rfl
          have HBS := hid HI.out.frm.size
          have HL88 : Hid ((L.length + 1) * 48 ≤ 140737488355328) := hid (by omega)
          clear hEL hRL hFB t1 t2 t3
          gi_wp2_with fail
          refine wpIn_region_round (S := (fun W : World => W.cell? ⟨w.heap.size, 0, none⟩ = some (.pointer (some ⟨f, 0, none⟩)) ∧ W.cell? ⟨f, 0, none⟩ = some (.pointer (some ⟨g, 0, none⟩)))) (by kernel_rfl) (by kernel_rfl) (HS11.out _ hfw3) (fun hHeld => ?_)
          refine wpAnyH_take (i := 1) (oi := { dst := some 89, op := Op.move (Operand.tmp 19), type := 3, pos := "draw.go:85", after := #[], guard := none }) (v := ?vg1) rfl (by kernel_rfl) (by kernel_rfl) (by kernel_rfl) (fun _ _ _ h => h) (Or.inl ⟨by rfl, ?hyg1⟩) (by assumption) ?rg1
          case hyg1 => (intro w hSw; (try dsimp only at hSw); go_simp; try (with_reducible rfl))
          try simp only [Act.put, List.setIfInBounds_toArray, List.set_cons_zero, List.set_cons_succ]
          refine wpAnyH_take (i := 2) (oi := { dst := some 90, op := Op.move (Operand.tmp 20), type := 3, pos := "draw.go:85", after := #[], guard := none }) (v := ?vg2) rfl (by kernel_rfl) (by kernel_rfl) (by kernel_rfl) (fun _ _ _ h => h) (Or.inl ⟨by rfl, ?hyg2⟩) (by assumption) ?rg2
          case hyg2 => (intro w hSw; (try dsimp only at hSw); go_simp; try (with_reducible rfl))
          try simp only [Act.put, List.setIfInBounds_toArray, List.set_cons_zero, List.set_cons_succ]
          refine wpAnyH_take (i := 3) (oi := { dst := some 91, op := Op.load 27 (Operand.tmp 6), type := 27, pos := "draw.go:85", after := #[], guard := none }) (v := ?vg3) rfl (by kernel_rfl) (by kernel_rfl) (by kernel_rfl) (fun _ _ _ h => h) (Or.inl ⟨by rfl, ?hyg3⟩) (by assumption) ?rg3
          case hyg3 => (intro w hSw; (try dsimp only at hSw); go_simp; try (with_reducible rfl))
          try simp only [Act.put, List.setIfInBounds_toArray, List.set_cons_zero, List.set_cons_succ]
          refine wpAnyH_take (i := 4) (oi := { dst := some 92, op := Op.nilCheck (Operand.tmp 91), type := 0, pos := "draw.go:85", after := #[{ on := 3, ground := Ground.data }], guard := none }) (v := ?vg4) rfl (by kernel_rfl) (by kernel_rfl) (by kernel_rfl) (fun _ _ _ h => h) (Or.inl ⟨by rfl, ?hyg4⟩) (by assumption) ?rg4
          case hyg4 => (intro w hSw; (try dsimp only at hSw); go_simp; try (with_reducible rfl))
          try simp only [Act.put, List.setIfInBounds_toArray, List.set_cons_zero, List.set_cons_succ]
          refine wpAnyH_take (i := 5) (oi := { dst := some 93, op := Op.fieldAddr 43 (Operand.tmp 92) 0, type := 0, pos := "draw.go:85", after := #[{ on := 4, ground := Ground.data }], guard := none }) (v := ?vg5) rfl (by kernel_rfl) (by kernel_rfl) (by kernel_rfl) (fun _ _ _ h => h) (Or.inl ⟨by rfl, ?hyg5⟩) (by assumption) ?rg5
          case hyg5 => (intro w hSw; (try dsimp only at hSw); go_simp; try (with_reducible rfl))
          try simp only [Act.put, List.setIfInBounds_toArray, List.set_cons_zero, List.set_cons_succ]
          refine wpAnyH_take (i := 6) (oi := { dst := some 94, op := Op.load 40 (Operand.tmp 93), type := 40, pos := "draw.go:85", after := #[{ on := 5, ground := Ground.data }], guard := none }) (v := ?vg6) rfl (by kernel_rfl) (by kernel_rfl) (by kernel_rfl) (fun _ _ _ h => h) (Or.inl ⟨by rfl, ?hyg6⟩) (by assumption) ?rg6
          case hyg6 => (intro w hSw; (try dsimp only at hSw); go_simp; try (with_reducible rfl))
          try simp only [Act.put, List.setIfInBounds_toArray, List.set_cons_zero, List.set_cons_succ]
          refine wpAnyH_take (i := 7) (oi := { dst := some 95, op := Op.move (Operand.tmp 17), type := 3, pos := "draw.go:85", after := #[], guard := none }) (v := ?vg7) rfl (by kernel_rfl) (by kernel_rfl) (by kernel_rfl) (fun _ _ _ h => h) (Or.inl ⟨by rfl, ?hyg7⟩) (by assumption) ?rg7
          case hyg7 => (intro w hSw; (try dsimp only at hSw); go_simp; try (with_reducible rfl))
          try simp only [Act.put, List.setIfInBounds_toArray, List.set_cons_zero, List.set_cons_succ]
          refine wpAnyH_take (i := 8) (oi := { dst := some 96, op := Op.move (Operand.tmp 18), type := 3, pos := "draw.go:85", after := #[], guard := none }) (v := ?vg8) rfl (by kernel_rfl) (by kernel_rfl) (by kernel_rfl) (fun _ _ _ h => h) (Or.inl ⟨by rfl, ?hyg8⟩) (by assumption) ?rg8
          case hyg8 => (intro w hSw; (try dsimp only at hSw); go_simp; try (with_reducible rfl))
          try simp only [Act.put, List.setIfInBounds_toArray, List.set_cons_zero, List.set_cons_succ]
          refine wpAnyH_ready (rs := [0, 9]) (by kernel_rfl) (by simp) ?_
          refine AllReadyH.cons (o := { dst := some 88, op := Op.load 41 (Operand.tmp 16), type := 41, pos := "draw.go:85", after := #[], guard := none }) rfl (fun K hK => ?_) ?_
          · go_simp
            refine hK.out _ _ (by first | exact HS11.out _ HF9.out | exact HS11.out _ HF8.out | exact HS11.out _ hfw3) (fun hHeld => ?_)
            clear hK K
            try simp only [Act.put, List.setIfInBounds_toArray, List.set_cons_zero, List.set_cons_succ]
            refine wpAnyH_ready (rs := [9]) (by kernel_rfl) (by simp) ?_
            refine AllReadyH.cons (o := { dst := some 97, op := Op.call { callee := Callee.value (Operand.func 12), args := #[Operand.tmp 94, Operand.tmp 95, Operand.tmp 96], argTypes := #[40, 3, 3] }, type := 38, pos := "draw.go:85", after := #[{ on := 6, ground := Ground.data }, { on := 7, ground := Ground.data }, { on := 8, ground := Ground.data }], guard := none }) rfl (fun K hK => ?_) AllReadyH.nil
            go_simp
            refine (HAt.out _ hfw3).mono ?_
            rintro e' w8 ⟨rfl, hf8⟩
            have HF8 : Hid (Fr NoB W0 w8) := Fr.trans hfw3 hf8
            have z8 := cellto a8 HF8.out
            clear hHeld hf8
            go_wp2_with fail
            refine hK.out _ _ (HS11.out _ HF8.out) (fun hHeld => ?_)
            clear hK K
            try simp only [Act.put, List.setIfInBounds_toArray, List.set_cons_zero, List.set_cons_succ]
            refine wpAnyH_take (i := 10) (oi := { dst := some 98, op := Op.build 57 #[(0, Operand.tmp 89), (1, Operand.tmp 90), (2, Operand.tmp 97)], type := 57, pos := "draw.go:85", after := #[{ on := 1, ground := Ground.data }, { on := 2, ground := Ground.data }, { on := 9, ground := Ground.data }], guard := none }) (v := ?vg9) rfl (by kernel_rfl) (by kernel_rfl) (by kernel_rfl) (fun _ _ _ h => h) (Or.inl ⟨by rfl, ?hyg9⟩) (by assumption) ?rg9
            case hyg9 => (intro w hSw; (try dsimp only at hSw); go_simp; try (with_reducible rfl))
            try simp only [Act.put, List.setIfInBounds_toArray, List.set_cons_zero, List.set_cons_succ]
            refine wpAnyH_ready (rs := [11]) (by kernel_rfl) (by simp) ?_
            refine AllReadyH.cons (o := { dst := some 99, op := Op.buildSlice 41 1 #[(0, Operand.tmp 98)], type := 41, pos := "draw.go:85", after := #[{ on := 10, ground := Ground.data }], guard := none }) rfl (fun K hK => ?_) AllReadyH.nil
            have HSr := hid (srcOf w8 ⟨pu - r.x + x, pv - r.y + y, c⟩)
            have HRw := hid (HRL.out.fr (HF8.out.alloc (.cells #[.int .i64 (pu - r.x + x), .int .i64 (pv - r.y + y), .int .i32 c.r, .int .i64 c.fg, .int .i64 c.bg, .int .i64 c.fl] 57)) (fun _ _ h => h))
            have HBs := hid (Nat.le_trans HBS.out (HF8.out.alloc (.cells #[.int .i64 (pu - r.x + x), .int .i64 (pv - r.y + y), .int .i32 c.r, .int .i64 c.fg, .int .i64 c.bg, .int .i64 c.fl] 57)).size)
            have HF9 := hid (HF8.out.alloc (.cells #[.int .i64 (pu - r.x + x), .int .i64 (pv - r.y + y), .int .i32 c.r, .int .i64 c.fg, .int .i64 c.bg, .int .i64 c.fl] 57))
            have z9 := cellto a8 HF9.out
            go_simp
            refine hK.out _ _ (HS11.out _ HF9.out) (fun hHeld => ?_)
            clear hK K
            try simp only [Act.put, List.setIfInBounds_toArray, List.set_cons_zero, List.set_cons_succ]
            refine wpAnyH_ready (rs := [12]) (by kernel_rfl) (by simp) ?_
            refine AllReadyH.cons (o := { dst := some 100, op := Op.call { callee := Callee.builtin Builtin.append, args := #[Operand.tmp 88, Operand.tmp 99], argTypes := #[41, 41] }, type := 41, pos := "draw.go:85", after := #[{ on := 0, ground := Ground.data }, { on := 11, ground := Ground.data }, { on := 9, ground := Ground.chain }], guard := none }) rfl (fun K hK => ?_) AllReadyH.nil
            refine step_row_apps (f := Wr.cells) Wr.len Wr.one w.heap.size rfl (.tmp 88) (.tmp 99) 41 57 Wr.zero 48 rfl Try.underlying41 infoWr rfl (by omega) (by omega) lv L [⟨pu - r.x + x, pv - r.y + y, c⟩] ⟨w8.heap.size, 0, none⟩ 1 1 rfl rfl HM1.out HSr.out HRw.out HBs.out HL88.out ?_
            intro v1 wz hr1 hf1 hat
            obtain ⟨A1, n1, c1, hv1⟩ : ∃ A n c, v1 = .slice A n c := by obtain ⟨A1, c1, h1, _⟩ := Row.shape hr1; exact ⟨A1, _, c1, h1⟩
            have HE9 := hid (HEL.out.fr HF9.out (fun h => h))
            have hE1 := HE9.out.fr hf1 (fun hk => HRw.out.not_blk HE9.out (by decide) hk)
            have y1 := hE1.frozen 0
            have y2 := hE1.cell 0 rfl
            have y3 := hE1.lt
            have HKB := hid (HKp.out _ HF9.out _ hf1)
            have HR1 := hid hr1
            have HF1 := hid hf1
            have HV1 := hid hv1
            clear hHeld hr1 hf1 hat hE1
            rw [hv1]
            clear hv1
            refine hK.out _ _ (HKB.out.1) (fun hHeld => ?_)
            clear hK K
            try simp only [Act.put, List.setIfInBounds_toArray, List.set_cons_zero, List.set_cons_succ]
            refine wpAnyH_ready (rs := [13]) (by kernel_rfl) (by simp) ?_
            refine AllReadyH.cons (o := { dst := none, op := Op.store 41 (Operand.tmp 16) (Operand.tmp 100), type := 0, pos := "draw.go:85", after := #[{ on := 12, ground := Ground.data }, { on := 12, ground := Ground.chain }, { on := 0, ground := Ground.phase }, { on := 1, ground := Ground.phase }, { on := 2, ground := Ground.phase }, { on := 3, ground := Ground.phase }, { on := 4, ground := Ground.phase }, { on := 5, ground := Ground.phase }, { on := 6, ground := Ground.phase }, { on := 7, ground := Ground.phase }, { on := 8, ground := Ground.phase }, { on := 9, ground := Ground.phase }, { on := 10, ground := Ground.phase }, { on := 11, ground := Ground.phase }, { on := 12, ground := Ground.phase }], guard := none }) rfl (fun K hK => ?_) AllReadyH.nil
            go_simp
            refine hK.out _ _ (HKB.out.2 _) (fun hHeld => ?_)
            clear hK K
            try simp only [Act.put, List.setIfInBounds_toArray, List.set_cons_zero, List.set_cons_succ]
            refine wpAnyH_done (by kernel_rfl) ?_ _
            refine onlyOn_normal ?_
            clear hHeld
            gi_wp2_with fail
            have hst := HI.out.round HEL.out HRL.out HF9.out HR1.out HF1.out HV1.out HIW.out HWW.out
            exact ⟨hst.1, hst.2.1, by rw [HST.out]; exact hst.2.2.1, hst.2.2.2.1, hst.2.2.2.2⟩
          refine AllReadyH.cons (o := { dst := some 97, op := Op.call { callee := Callee.value (Operand.func 12), args := #[Operand.tmp 94, Operand.tmp 95, Operand.tmp 96], argTypes := #[40, 3, 3] }, type := 38, pos := "draw.go:85", after := #[{ on := 6, ground := Ground.data }, { on := 7, ground := Ground.data }, { on := 8, ground := Ground.data }], guard := none }) rfl (fun K hK => ?_) ?_
          · go_simp
            refine (HAt.out _ hfw3).mono ?_
            rintro e' w8 ⟨rfl, hf8⟩
            have HF8 : Hid (Fr NoB W0 w8) := Fr.trans hfw3 hf8
            have z8 := cellto a8 HF8.out
            clear hHeld hf8
            go_wp2_with fail
            refine hK.out _ _ (HS11.out _ HF8.out) (fun hHeld => ?_)
            clear hK K
            try simp only [Act.put, List.setIfInBounds_toArray, List.set_cons_zero, List.set_cons_succ]
            refine wpAnyH_take (i := 10) (oi := { dst := some 98, op := Op.build 57 #[(0, Operand.tmp 89), (1, Operand.tmp 90), (2, Operand.tmp 97)], type := 57, pos := "draw.go:85", after := #[{ on := 1, ground := Ground.data }, { on := 2, ground := Ground.data }, { on := 9, ground := Ground.data }], guard := none }) (v := ?vg10) rfl (by kernel_rfl) (by kernel_rfl) (by kernel_rfl) (fun _ _ _ h => h) (Or.inl ⟨by rfl, ?hyg10⟩) (by assumption) ?rg10
            case hyg10 => (intro w hSw; (try dsimp only at hSw); go_simp; try (with_reducible rfl))
            try simp only [Act.put, List.setIfInBounds_toArray, List.set_cons_zero, List.set_cons_succ]
            refine wpAnyH_ready (rs := [0, 11]) (by kernel_rfl) (by simp) ?_
            refine AllReadyH.cons (o := { dst := some 88, op := Op.load 41 (Operand.tmp 16), type := 41, pos := "draw.go:85", after := #[], guard := none }) rfl (fun K hK => ?_) ?_
            · go_simp
              refine hK.out _ _ (by first | exact HS11.out _ HF9.out | exact HS11.out _ HF8.out | exact HS11.out _ hfw3) (fun hHeld => ?_)
              clear hK K
              try simp only [Act.put, List.setIfInBounds_toArray, List.set_cons_zero, List.set_cons_succ]
              refine wpAnyH_ready (rs := [11]) (by kernel_rfl) (by simp) ?_
              refine AllReadyH.cons (o := { dst := some 99, op := Op.buildSlice 41 1 #[(0, Operand.tmp 98)], type := 41, pos := "draw.go:85", after := #[{ on := 10, ground := Ground.data }], guard := none }) rfl (fun K hK => ?_) AllReadyH.nil
              have HSr := hid (srcOf w8 ⟨pu - r.x + x, pv - r.y + y, c⟩)
              have HRw := hid (HRL.out.fr (HF8.out.alloc (.cells #[.int .i64 (pu - r.x + x), .int .i64 (pv - r.y + y), .int .i32 c.r, .int .i64 c.fg, .int .i64 c.bg, .int .i64 c.fl] 57)) (fun _ _ h => h))
              have HBs := hid (Nat.le_trans HBS.out (HF8.out.alloc (.cells #[.int .i64 (pu - r.x + x), .int .i64 (pv - r.y + y), .int .i32 c.r, .int .i64 c.fg, .int .i64 c.bg, .int .i64 c.fl] 57)).size)
              have HF9 := hid (HF8.out.alloc (.cells #[.int .i64 (pu - r.x + x), .int .i64 (pv - r.y + y), .int .i32 c.r, .int .i64 c.fg, .int .i64 c.bg, .int .i64 c.fl] 57))
              have z9 := cellto a8 HF9.out
              go_simp
              refine hK.out _ _ (HS11.out _ HF9.out) (fun hHeld => ?_)
              clear hK K
              try simp only [Act.put, List.setIfInBounds_toArray, List.set_cons_zero, List.set_cons_succ]
              refine wpAnyH_ready (rs := [12]) (by kernel_rfl) (by simp) ?_
              refine AllReadyH.cons (o := { dst := some 100, op := Op.call { callee := Callee.builtin Builtin.append, args := #[Operand.tmp 88, Operand.tmp 99], argTypes := #[41, 41] }, type := 41, pos := "draw.go:85", after := #[{ on := 0, ground := Ground.data }, { on := 11, ground := Ground.data }, { on := 9, ground := Ground.chain }], guard := none }) rfl (fun K hK => ?_) AllReadyH.nil
              refine step_row_apps (f := Wr.cells) Wr.len Wr.one w.heap.size rfl (.tmp 88) (.tmp 99) 41 57 Wr.zero 48 rfl Try.underlying41 infoWr rfl (by omega) (by omega) lv L [⟨pu - r.x + x, pv - r.y + y, c⟩] ⟨w8.heap.size, 0, none⟩ 1 1 rfl rfl HM1.out HSr.out HRw.out HBs.out HL88.out ?_
              intro v1 wz hr1 hf1 hat
              obtain ⟨A1, n1, c1, hv1⟩ : ∃ A n c, v1 = .slice A n c := by obtain ⟨A1, c1, h1, _⟩ := Row.shape hr1; exact ⟨A1, _, c1, h1⟩
              have HE9 := hid (HEL.out.fr HF9.out (fun h => h))
              have hE1 := HE9.out.fr hf1 (fun hk => HRw.out.not_blk HE9.out (by decide) hk)
              have y1 := hE1.frozen 0
              have y2 := hE1.cell 0 rfl
              have y3 := hE1.lt
              have HKB := hid (HKp.out _ HF9.out _ hf1)
              have HR1 := hid hr1
              have HF1 := hid hf1
              have HV1 := hid hv1
              clear hHeld hr1 hf1 hat hE1
              rw [hv1]
              clear hv1
              refine hK.out _ _ (HKB.out.1) (fun hHeld => ?_)
              clear hK K
              try simp only [Act.put, List.setIfInBounds_toArray, List.set_cons_zero, List.set_cons_succ]
              refine wpAnyH_ready (rs := [13]) (by kernel_rfl) (by simp) ?_
              refine AllReadyH.cons (o := { dst := none, op := Op.store 41 (Operand.tmp 16) (Operand.tmp 100), type := 0, pos := "draw.go:85", after := #[{ on := 12, ground := Ground.data }, { on := 12, ground := Ground.chain }, { on := 0, ground := Ground.phase }, { on := 1, ground := Ground.phase }, { on := 2, ground := Ground.phase }, { on := 3, ground := Ground.phase }, { on := 4, ground := Ground.phase }, { on := 5, ground := Ground.phase }, { on := 6, ground := Ground.phase }, { on := 7, ground := Ground.phase }, { on := 8, ground := Ground.phase }, { on := 9, ground := Ground.phase }, { on := 10, ground := Ground.phase }, { on := 11, ground := Ground.phase }, { on := 12, ground := Ground.phase }], guard := none }) rfl (fun K hK => ?_) AllReadyH.nil
              go_simp
              refine hK.out _ _ (HKB.out.2 _) (fun hHeld => ?_)
              clear hK K
              try simp only [Act.put, List.setIfInBounds_toArray, List.set_cons_zero, List.set_cons_succ]
              refine wpAnyH_done (by kernel_rfl) ?_ _
              refine onlyOn_normal ?_
              clear hHeld
              gi_wp2_with fail
              have hst := HI.out.round HEL.out HRL.out HF9.out HR1.out HF1.out HV1.out HIW.out HWW.out
              exact ⟨hst.1, hst.2.1, by rw [HST.out]; exact hst.2.2.1, hst.2.2.2.1, hst.2.2.2.2⟩
            refine AllReadyH.cons (o := { dst := some 99, op := Op.buildSlice 41 1 #[(0, Operand.tmp 98)], type := 41, pos := "draw.go:85", after := #[{ on := 10, ground := Ground.data }], guard := none }) rfl (fun K hK => ?_) ?_
            · have HSr := hid (srcOf w8 ⟨pu - r.x + x, pv - r.y + y, c⟩)
              have HRw := hid (HRL.out.fr (HF8.out.alloc (.cells #[.int .i64 (pu - r.x + x), .int .i64 (pv - r.y + y), .int .i32 c.r, .int .i64 c.fg, .int .i64 c.bg, .int .i64 c.fl] 57)) (fun _ _ h => h))
              have HBs := hid (Nat.le_trans HBS.out (HF8.out.alloc (.cells #[.int .i64 (pu - r.x + x), .int .i64 (pv - r.y + y), .int .i32 c.r, .int .i64 c.fg, .int .i64 c.bg, .int .i64 c.fl] 57)).size)
              have HF9 := hid (HF8.out.alloc (.cells #[.int .i64 (pu - r.x + x), .int .i64 (pv - r.y + y), .int .i32 c.r, .int .i64 c.fg, .int .i64 c.bg, .int .i64 c.fl] 57))
              have z9 := cellto a8 HF9.out
              go_simp
              refine hK.out _ _ (HS11.out _ HF9.out) (fun hHeld => ?_)
              clear hK K
              try simp only [Act.put, List.setIfInBounds_toArray, List.set_cons_zero, List.set_cons_succ]
              refine wpAnyH_ready (rs := [0]) (by kernel_rfl) (by simp) ?_
              refine AllReadyH.cons (o := { dst := some 88, op := Op.load 41 (Operand.tmp 16), type := 41, pos := "draw.go:85", after := #[], guard := none }) rfl (fun K hK => ?_) AllReadyH.nil
              go_simp
              refine hK.out _ _ (by first | exact HS11.out _ HF9.out | exact HS11.out _ HF8.out | exact HS11.out _ hfw3) (fun hHeld => ?_)
              clear hK K
              try simp only [Act.put, List.setIfInBounds_toArray, List.set_cons_zero, List.set_cons_succ]
              refine wpAnyH_ready (rs := [12]) (by kernel_rfl) (by simp) ?_
              refine AllReadyH.cons (o := { dst := some 100, op := Op.call { callee := Callee.builtin Builtin.append, args := #[Operand.tmp 88, Operand.tmp 99], argTypes := #[41, 41] }, type := 41, pos := "draw.go:85", after := #[{ on := 0, ground := Ground.data }, { on := 11, ground := Ground.data }, { on := 9, ground := Ground.chain }], guard := none }) rfl (fun K hK => ?_) AllReadyH.nil
              refine step_row_apps (f := Wr.cells) Wr.len Wr.one w.heap.size rfl (.tmp 88) (.tmp 99) 41 57 Wr.zero 48 rfl Try.underlying41 infoWr rfl (by omega) (by omega) lv L [⟨pu - r.x + x, pv - r.y + y, c⟩] ⟨w8.heap.size, 0, none⟩ 1 1 rfl rfl HM1.out HSr.out HRw.out HBs.out HL88.out ?_
              intro v1 wz hr1 hf1 hat
              obtain ⟨A1, n1, c1, hv1⟩ : ∃ A n c, v1 = .slice A n c := by obtain ⟨A1, c1, h1, _⟩ := Row.shape hr1; exact ⟨A1, _, c1, h1⟩
              have HE9 := hid (HEL.out.fr HF9.out (fun h => h))
              have hE1 := HE9.out.fr hf1 (fun hk => HRw.out.not_blk HE9.out (by decide) hk)
              have y1 := hE1.frozen 0
              have y2 := hE1.cell 0 rfl
              have y3 := hE1.lt
              have HKB := hid (HKp.out _ HF9.out _ hf1)
              have HR1 := hid hr1
              have HF1 := hid hf1
              have HV1 := hid hv1
              clear hHeld hr1 hf1 hat hE1
              rw [hv1]
              clear hv1
              refine hK.out _ _ (HKB.out.1) (fun hHeld => ?_)
              clear hK K
              try simp only [Act.put, List.setIfInBounds_toArray, List.set_cons_zero, List.set_cons_succ]
              refine wpAnyH_ready (rs := [13]) (by kernel_rfl) (by simp) ?_
              refine AllReadyH.cons (o := { dst := none, op := Op.store 41 (Operand.tmp 16) (Operand.tmp 100), type := 0, pos := "draw.go:85", after := #[{ on := 12, ground := Ground.data }, { on := 12, ground := Ground.chain }, { on := 0, ground := Ground.phase }, { on := 1, ground := Ground.phase }, { on := 2, ground := Ground.phase }, { on := 3, ground := Ground.phase }, { on := 4, ground := Ground.phase }, { on := 5, ground := Ground.phase }, { on := 6, ground := Ground.phase }, { on := 7, ground := Ground.phase }, { on := 8, ground := Ground.phase }, { on := 9, ground := Ground.phase }, { on := 10, ground := Ground.phase }, { on := 11, ground := Ground.phase }, { on := 12, ground := Ground.phase }], guard := none }) rfl (fun K hK => ?_) AllReadyH.nil
              go_simp
              refine hK.out _ _ (HKB.out.2 _) (fun hHeld => ?_)
              clear hK K
              try simp only [Act.put, List.setIfInBounds_toArray, List.set_cons_zero, List.set_cons_succ]
              refine wpAnyH_done (by kernel_rfl) ?_ _
              refine onlyOn_normal ?_
              clear hHeld
              gi_wp2_with fail
              have hst := HI.out.round HEL.out HRL.out HF9.out HR1.out HF1.out HV1.out HIW.out HWW.out
              exact ⟨hst.1, hst.2.1, by rw [HST.out]; exact hst.2.2.1, hst.2.2.2.1, hst.2.2.2.2⟩
            exact AllReadyH.nil
          exact AllReadyH.nil

end
end Go.Proofs.Ytnengimekcnfhaa
