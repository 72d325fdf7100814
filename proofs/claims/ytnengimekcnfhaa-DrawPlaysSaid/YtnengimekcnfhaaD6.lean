import Derived.Test.YtnengimekcnfhaaH1
set_option linter.unusedSimpArgs false
set_option linter.unusedVariables false
set_option maxRecDepth 20000
namespace Go.Proofs.Ytnengimekcnfhaa
open Go.RowKit Go.Shelf Go.Proofs.YtnengimekcnfhaaW.PrintWords
section
open Go.Proofs.YtnengimekcnfhaaW.PrintMore
attribute [local go_sem] Oper.semAt_some max2_mx min2_mn max_two min_two
set_option maxHeartbeats 8000000 in
theorem dCells_in (w : World) (f g gb W H b : Nat) (cs : List Cl) (nv : Value) (ns : List Wr) (v : Value) (xs : List Wn) (next id x y : Int) (A : Option Addr) (cap : Nat) (l : List Cl) (t : Wn)
    (hfd : FD w f g gb W H cs nv ns) (hsk : SK w b (rect0 W H) v xs next) (hl : xs.length ≤ 4096) (hg : getW xs id = some t) (hIx : ∀ q ∈ xs, q.r.I) (htr : t.r.Right) (htw : t.w ≤ 1000) (hth : t.h ≤ 1000) (hx : Near x) (hy : Near y) (hll : l.length ≤ 1000) (hca : CA w A l) (hcap : l.length ≤ cap) (hscr : ∀ q ∈ xs, 0 ≤ q.x ∧ 0 ≤ q.y ∧ q.x + q.w ≤ W ∧ q.y + q.h ≤ H) (hid0 : id ≠ 0) (hns : ns.length ≤ 900000)
    (hfar : ∀ ad, A = some ad → 0 < l.length → ¬ FB f gb nv ad.block ∧ ad.block < w.heap.size) :
    Calls Try.prog 11 #[.pointer (some ⟨f, 0, none⟩), .pointer (some ⟨b, 0, none⟩), .int .i64 id, .int .i64 x, .int .i64 y, .slice A l.length cap] w (DrawTo w f g gb W H b (rect0 W H) v xs next nv (foldC W xs id (t.x + x) l cs ns (plL (t.x + (inW t ⟨x, y, min (l.length : Int) 1073741824, 1⟩).x) (t.y + (inW t ⟨x, y, min (l.length : Int) 1073741824, 1⟩).y) (inW t ⟨x, y, min (l.length : Int) 1073741824, 1⟩).w.toNat (inW t ⟨x, y, min (l.length : Int) 1073741824, 1⟩).h.toNat))) := by
  have hb0 : Fr NoB w (((((w.alloc (.cells #[.pointer (some ⟨f, 0, none⟩)] 27)).alloc (.cells #[.pointer (some ⟨b, 0, none⟩)] 29)).alloc (.cells #[.int .i64 id] 3)).alloc (.cells #[.int .i64 x] 3)).alloc (.cells #[.slice A l.length cap] 24)) := (((((Fr.refl _ _).alloc _).alloc _).alloc _).alloc _).alloc _
  have HWi := hid (window_any _ f b (rect0 W H) v xs next id (hsk.frd hb0) hl)
  rw [hg] at HWi
  have HWi' : Hid (Calls Try.prog 28 #[.pointer (some ⟨f, 0, none⟩), .pointer (some ⟨b, 0, none⟩), .int .i64 id] (((((w.alloc (.cells #[.pointer (some ⟨f, 0, none⟩)] 27)).alloc (.cells #[.pointer (some ⟨b, 0, none⟩)] 29)).alloc (.cells #[.int .i64 id] 3)).alloc (.cells #[.int .i64 x] 3)).alloc (.cells #[.slice A l.length cap] 24)) fun e w' => e = .returned (.tuple #[.agg #[.int .i64 t.id, .int .i64 t.env, .int .i64 t.x, .int .i64 t.y, .int .i64 t.w, .int .i64 t.h, .bool t.hid], .int .i64 0]) ∧ Fr NoB (((((w.alloc (.cells #[.pointer (some ⟨f, 0, none⟩)] 27)).alloc (.cells #[.pointer (some ⟨b, 0, none⟩)] 29)).alloc (.cells #[.int .i64 id] 3)).alloc (.cells #[.int .i64 x] 3)).alloc (.cells #[.slice A l.length cap] 24)) w') := HWi
  have n1 : decide (Near x) = true := decide_eq_true hx
  have n2 : decide (Near y) = true := decide_eq_true hy
  have HF0 := hid hb0
  have B0 := ((((Blk.new w 27 [.pointer (some ⟨f, 0, none⟩)]).alloc (.cells #[.pointer (some ⟨b, 0, none⟩)] 29)).alloc (.cells #[.int .i64 id] 3)).alloc (.cells #[.int .i64 x] 3)).alloc (.cells #[.slice A l.length cap] 24)
  have B1 := (((Blk.new (w.alloc (.cells #[.pointer (some ⟨f, 0, none⟩)] 27)) 29 [.pointer (some ⟨b, 0, none⟩)]).alloc (.cells #[.int .i64 id] 3)).alloc (.cells #[.int .i64 x] 3)).alloc (.cells #[.slice A l.length cap] 24)
  have B2 := ((Blk.new ((w.alloc (.cells #[.pointer (some ⟨f, 0, none⟩)] 27)).alloc (.cells #[.pointer (some ⟨b, 0, none⟩)] 29)) 3 [.int .i64 id]).alloc (.cells #[.int .i64 x] 3)).alloc (.cells #[.slice A l.length cap] 24)
  have B3 := (Blk.new (((w.alloc (.cells #[.pointer (some ⟨f, 0, none⟩)] 27)).alloc (.cells #[.pointer (some ⟨b, 0, none⟩)] 29)).alloc (.cells #[.int .i64 id] 3)) 3 [.int .i64 x]).alloc (.cells #[.slice A l.length cap] 24)
  have B4 := Blk.new ((((w.alloc (.cells #[.pointer (some ⟨f, 0, none⟩)] 27)).alloc (.cells #[.pointer (some ⟨b, 0, none⟩)] 29)).alloc (.cells #[.int .i64 id] 3)).alloc (.cells #[.int .i64 x] 3)) 24 [.slice A l.length cap]
  simp only [World.size_alloc] at B1 B2 B3 B4
  have HB0 := hid B0
  have HB1 := hid B1
  have HB2 := hid B2
  have HB3 := hid B3
  have HB4 := hid B4
  clear hb0 HWi B0 B1 B2 B3 B4 hg
  refine (callsIn_wide (n := 3)).1 ?_
  refine callsIn_of_wp_marks Try.func11 rfl trivial ?_ rfl
  simp only [Try.ntmps11, List.size_toArray, List.length_cons, List.length_nil, Nat.reduceAdd, Nat.reduceSub, Array.replicate_succ, Array.replicate_zero, List.push_toArray, List.append_toArray, List.nil_append, List.cons_append]
  gi_wp2_with fail
  refine ⟨trivial, (callsIn_wide.2 HWi'.out).mono ?_⟩
  rintro e' w1 ⟨rfl, hf1⟩
  have HF1 := hid (HF0.out.trans hf1)
  have HC0 := hid (HB0.out.fr hf1 (fun h => h))
  have HC1 := hid (HB1.out.fr hf1 (fun h => h))
  have HC2 := hid (HB2.out.fr hf1 (fun h => h))
  have HC3 := hid (HB3.out.fr hf1 (fun h => h))
  have HC4 := hid (HB4.out.fr hf1 (fun h => h))
  have k3 := HC3.out.cell 0 rfl
  have k4 := HC4.out.cell 0 rfl
  have k3l := HC3.out.lt
  have k4l := HC4.out.lt
  clear hf1
  have hD := Blk.new w1 73 t.cells
  have hE := (Blk.new (w1.alloc (.cells #[.int .i64 t.id, .int .i64 t.env, .int .i64 t.x, .int .i64 t.y, .int .i64 t.w, .int .i64 t.h, .bool t.hid] 73)) 3 [.int .i64 0])
  rw [World.size_alloc] at hE
  have HD := hid (hD.alloc (.cells #[.int .i64 0] 3))
  have HE := hid hE
  clear hD hE
  gi_wp2_with fail
  refine ⟨trivial, (callsIn_wide.2 (dnear_any _ _)).mono ?_⟩
  rintro e' w' ⟨rfl, rfl⟩
  rw [n1]
  gi_wp2_with fail
  refine ⟨trivial, (callsIn_wide.2 (dnear_any _ _)).mono ?_⟩
  rintro e' w' ⟨rfl, rfl⟩
  rw [n2]
  have m3 := (((HC3.out.alloc (.cells #[.int .i64 t.id, .int .i64 t.env, .int .i64 t.x, .int .i64 t.y, .int .i64 t.w, .int .i64 t.h, .bool t.hid] 73)).alloc (.cells #[.int .i64 0] 3))).cell 0 rfl
  have m4 := (((HC4.out.alloc (.cells #[.int .i64 t.id, .int .i64 t.env, .int .i64 t.x, .int .i64 t.y, .int .i64 t.w, .int .i64 t.h, .bool t.hid] 73)).alloc (.cells #[.int .i64 0] 3))).cell 0 rfl
  clear k3 k4
  have HPl : ∀ w0, Hid (Calls Try.prog 30 #[.agg #[.int .i64 t.id, .int .i64 t.env, .int .i64 t.x, .int .i64 t.y, .int .i64 t.w, .int .i64 t.h, .bool t.hid], .agg #[.int .i64 x, .int .i64 y, .int .i64 (min (l.length : Int) 1073741824), .int .i64 1]] w0 fun e w' => ∃ iB wB, e = .returned (.func (.func 57) #[] #[.pointer (some ⟨iB, 0, none⟩), .pointer (some ⟨wB, 0, none⟩)]) ∧ Blk w' iB 23 (inW t ⟨x, y, min (l.length : Int) 1073741824, 1⟩).cells ∧ Blk w' wB 73 t.cells ∧ Fr NoB w0 w' ∧ w0.heap.size ≤ iB ∧ w0.heap.size ≤ wB) := fun w0 => places_any w0 t ⟨x, y, min (l.length : Int) 1073741824, 1⟩
  gi_wp2_with fail
  refine ⟨trivial, (callsIn_wide.2 (HPl _).out).mono ?_⟩
  rintro e' w2 ⟨iB, wB, rfl, hiB, hwB, hf2, l1, l2⟩
  gi_wp2_with fail
  obtain ⟨iW, iH, e1, e2, e3, e4, e5⟩ := inW_ok t ⟨x, y, min (l.length : Int) 1073741824, 1⟩ htr
  generalize inW t ⟨x, y, min (l.length : Int) 1073741824, 1⟩ = ir at *
  have HF2 := hid (((HF1.out.alloc (.cells #[.int .i64 t.id, .int .i64 t.env, .int .i64 t.x, .int .i64 t.y, .int .i64 t.w, .int .i64 t.h, .bool t.hid] 73)).alloc (.cells #[.int .i64 0] 3)).trans hf2)
  have HFa := hid ((((Fr.refl NoB w1).alloc (.cells #[.int .i64 t.id, .int .i64 t.env, .int .i64 t.x, .int .i64 t.y, .int .i64 t.w, .int .i64 t.h, .bool t.hid] 73)).alloc (.cells #[.int .i64 0] 3)).trans hf2)
  have hw1 : w.heap.size + 1 + 1 + 1 + 1 < w1.heap.size := k4l
  have HCS : Hid (CS w w2 w.heap.size w1.heap.size (w1.heap.size + 1) f g gb W H b (rect0 W H) v xs next id x A l cap t nv cs ns 0) := by
    refine ⟨⟨nv, hfd.frd HF2.out, fun k hk => .inl hk⟩, hsk.frd HF2.out, ⟨HC0.out.fr HFa.out (fun h => h), HC1.out.fr HFa.out (fun h => h), HC2.out.fr HFa.out (fun h => h), HC3.out.fr HFa.out (fun h => h), HC4.out.fr HFa.out (fun h => h), HD.out.fr hf2 (fun h => h), HE.out.fr hf2 (fun h => h)⟩, hca.fr HF2.out (fun _ _ _ h => h), HF2.out.mono (fun _ h => h.elim), hfar, by omega⟩
  have hn3 : (1 : Nat) ≤ 3 := by decide
  refine wpIn_rangeFunc_ownF (F := Fence.wide) (n := 3) rfl hn3 (gf := 57) (lb := #[.pointer (some ⟨iB, 0, none⟩), .pointer (some ⟨wB, 0, none⟩)]) rfl trivial (enters_of Try.func57 (by kernel_rfl) rfl)
    (pl_stops Fence.wide (3 - 1) trivial rfl (by decide) iB wB t ir iW iH e1 e2 (by omega) (by omega) e3 e4 htr.x htr.y w2 hiB hwB)
    (fun h k => ⟨k.1.trans h.1, k.2.trans h.2⟩)
    (fun W0 l0 o o' hle ho hc hw => ?kb) (Below.refl _ _) (fun _ => rfl)
    (fun pre W0 => CS w W0 w.heap.size w1.heap.size (w1.heap.size + 1) f g gb W H b (rect0 W H) v xs next id x A l cap t nv (foldC W xs id (t.x + x) l cs ns pre).1 (foldC W xs id (t.x + x) l cs ns pre).2.1 (foldC W xs id (t.x + x) l cs ns pre).2.2 ∧ Blk W0 iB 23 ir.cells ∧ Blk W0 wB 73 t.cells)
    (fun _ _ _ => False)
    (fun s A0 B0 row hs hg hr => ⟨hs.1.move hg (fun r e => ⟨Nat.le_trans HF2.out.size (hr r e).1, (hr r e).2⟩), hs.2.1.fr (Fr.of_grown hg) (fun e => by obtain ⟨_, o, h1, h2⟩ := hr _ e; exact noncell hs.2.1 h1 h2 rfl), hs.2.2.fr (Fr.of_grown hg) (fun e => by obtain ⟨_, o, h1, h2⟩ := hr _ e; exact noncell hs.2.2 h1 h2 rfl)⟩)
    (fun _ _ _ _ _ hs _ _ => hs)
    ⟨HCS.out, hiB, hwB⟩ ?a1 ?assign ?body ?done ?stop
  case assign =>
    intro l0 p W0 K hK
    gi_wp2
    exact hK
  case kb =>
    have h1 := hiB.lt
    have h2 := hwB.lt
    exact ⟨World.putObj_heap_other (by omega), World.putObj_heap_other (by omega)⟩
  case stop =>
    rintro D0 c0 pre W0 _ _ h _
    exact h.elim
  case done =>
    rintro D0 ps W0 hD rfl ⟨hI, _, _⟩ hK
    have hmv := hI.move (grownBy_putObj' W0 D0 (.deferred none)) (fun r e => by cases e; exact ⟨Nat.le_trans HF2.out.size hD, _, hK, rfl⟩)
    have c16 := hI.bx.e.cell 0 rfl
    have l16 := hI.bx.e.lt
    have HMV := hid hmv
    clear hI hmv
    gi_wp2
    refine ⟨by simp, .inl ⟨_, _, rfl, run_takeDeferred hK, ?_⟩⟩
    rw [e1, e2, Int.toNat_natCast, Int.toNat_natCast]
    exact ⟨_, results_tmp2 rfl _ _ _, rfl, HMV.out.fd, HMV.out.sk, HMV.out.frm⟩
  case body =>
    rintro l0 pre p W0 ⟨hI, hiW, hwW⟩ hlen
    obtain ⟨hb1, hb2, hb3⟩ := foldC_bd W xs id (t.x + x) l cs ns pre
    have hsn := foldC_snoc W xs id (t.x + x) l cs ns pre p
    generalize foldC W xs id (t.x + x) l cs ns pre = st at *
    have HSN := hid hsn
    have HIW := hid hiW
    have HWW := hid hwW
    clear hsn hiW hwW
    obtain ⟨⟨pu, pv⟩, hp1, hp2, hp3, hp4⟩ := p
    simp only at hp1 hp2 hp3 hp4
    have a1 := hI.bx.b1.cell 0 rfl
    have a2 := hI.bx.b2.cell 0 rfl
    have l1' := hI.bx.b1.lt
    have l2' := hI.bx.b2.lt
    have hinner : ∀ q ∈ xs, q.r.I := hIx
    obtain ⟨nx1, nx2⟩ := e3
    obtain ⟨ny1, ny2⟩ := e4
    obtain ⟨mx1, mx2⟩ : Near t.x := htr.x
    obtain ⟨my1, my2⟩ : Near t.y := htr.y
    have hfw : Fr NoB W0 W0.drew := Fr.drew (Fr.refl _ _)
    have hd : 1 ≤ 3 - 1 - 1 := by decide
    have hmx : Try.prog.follows .mixedOrders = true := by kernel_rfl
    have HOw := fun w0 h0 => hid (sOwner_any w0 b (rect0 W H) v xs next pu pv h0 hl hinner (by unfold I64; omega) (by unfold I64; omega))
    by_cases how : ownerOf xs pu pv = id
    · obtain ⟨q, hq1, hq2, hq3⟩ := ownerOf_at how hid0
      have hs := hscr q hq1
      have q1 : 0 < q.w ∧ q.x ≤ pu ∧ pu - q.x < q.w := hq2
      have q2 : 0 < q.h ∧ q.y ≤ pv ∧ pv - q.y < q.h := hq3
      obtain ⟨pn, rfl⟩ : ∃ n : Nat, pu = n := ⟨pu.toNat, by omega⟩
      obtain ⟨qn, rfl⟩ : ∃ n : Nat, pv = n := ⟨pv.toNat, by omega⟩
      have hpn : pn < W := by omega
      have hqn : qn < H := by omega
      have hiW : iW ≤ l.length ∧ iH ≤ 1 ∧ x ≤ ir.x ∧ ir.x + iW ≤ x + l.length := by
        rcases e5 with ⟨_, h1, h2⟩ | ⟨_, h1, h2, h3, h4, h5, h6, h7, h8⟩
        · exfalso
          omega
        · simp only at h5 h6 h7 h8
          omega
      have hk0 : 0 ≤ (pn : Int) - t.x - x ∧ (pn : Int) - t.x - x < l.length := by omega
      obtain ⟨k, hk⟩ : ∃ k : Nat, (pn : Int) - t.x - x = k := ⟨((pn : Int) - t.x - x).toNat, by omega⟩
      have hkl : k < l.length := by omega
      have hklI : (k : Int) < (l.length : Int) := by omega
      have hgetD : l.getD ((pn : Int) - (t.x + x)).toNat Cl.zero = l[k] := by
        rw [show ((pn : Int) - (t.x + x)).toNat = k by omega]
        simp [hkl]
      have hst : stepC W xs id (t.x + x) l st ((pn : Int), (qn : Int)) = (setG W st.1 pn qn l[k], st.2.1 ++ [⟨pn, qn, l[k]⟩], st.2.2 + 1) := by
        unfold stepC
        rw [if_pos how]
        simp only [hgetD]
      have HST := hid (HSN.out.trans hst)
      have t1 : (ownerOf xs pn qn == id) = true := by rw [beq_iff_eq]; exact how
      have t2 : IntKind.i64.wrap ((pn : Int) - t.x) = (pn : Int) - t.x := IntWalk.i64_in _ (by omega)
      have t3 : IntKind.i64.wrap ((pn : Int) - t.x - x) = (k : Int) := by rw [hk]; exact IntWalk.i64_in _ (by omega)
      have hmn : pre.length < 1000 := by
        have := Nat.mul_le_mul hiW.2.1 hiW.1
        omega
      have t4 : IntKind.i64.wrap (st.2.2 + 1) = st.2.2 + 1 := IntWalk.i64_in _ (by omega)
      obtain ⟨nv1, hfd1, hown1⟩ := hI.fd
      have HPut := hid (fun (w9 : World) (h9 : Fr NoB W0 w9) => fPut_in w9 f g gb W H st.1 nv1 st.2.1 pn qn l[k] (hfd1.frd h9) hpn hqn (by omega))
      have HFD := hid hfd1
      have HOW := hid hown1
      have HI := hid hI
      have hkca : ∀ {W2 : World}, CA W2 A l → ∃ ad, A = some ad ∧ W2.cell? (ad.add (k * 4)) = some (.int .i32 l[k].r) ∧ W2.cell? (ad.add (k * 4 + 1)) = some (.int .i64 l[k].fg) ∧ W2.cell? (ad.add (k * 4 + 2)) = some (.int .i64 l[k].bg) ∧ W2.cell? (ad.add (k * 4 + 3)) = some (.int .i64 l[k].fl) := fun h => h k hkl
      generalize l[k] = c at *
      obtain ⟨ad, rfl, _⟩ := hkca hI.ca
      have HSv : Hid (∀ cs' ns' many' W2, CS w W2 w.heap.size w1.heap.size (w1.heap.size + 1) f g gb W H b (rect0 W H) v xs next id x (some ad) l cap t nv cs' ns' many' → W2.cell? ⟨w.heap.size, 0, none⟩ = some (.pointer (some ⟨f, 0, none⟩)) ∧ W2.cell? ⟨w.heap.size + 1, 0, none⟩ = some (.pointer (some ⟨b, 0, none⟩)) ∧ W2.cell? ⟨w.heap.size + 1 + 1, 0, none⟩ = some (.int .i64 id) ∧ W2.cell? ⟨w.heap.size + 1 + 1 + 1, 0, none⟩ = some (.int .i64 x) ∧ W2.cell? ⟨w.heap.size + 1 + 1 + 1 + 1, 0, none⟩ = some (.slice (some ad) l.length cap) ∧ W2.cell? ⟨w1.heap.size, 2, none⟩ = some (.int .i64 t.x) ∧ W2.cell? (ad.add (k * 4)) = some (.int .i32 c.r) ∧ W2.cell? ⟨(ad.add (k * 4)).block, (ad.add (k * 4)).off + 1, none⟩ = some (.int .i64 c.fg) ∧ W2.cell? ⟨(ad.add (k * 4)).block, (ad.add (k * 4)).off + 2, none⟩ = some (.int .i64 c.bg) ∧ W2.cell? ⟨(ad.add (k * 4)).block, (ad.add (k * 4)).off + 3, none⟩ = some (.int .i64 c.fl)) := fun cs' ns' many' W2 h => by
        obtain ⟨ad', e', c1, c2, c3, c4⟩ := hkca h.ca
        obtain rfl := Option.some.inj e'
        exact ⟨h.bx.b0.cell 0 rfl, h.bx.b1.cell 0 rfl, h.bx.b2.cell 0 rfl, h.bx.b3.cell 0 rfl, h.bx.b4.cell 0 rfl, h.bx.d.cell 2 rfl, c1, by show W2.cell? ((ad.add (k * 4)).add 1) = _; rw [Addr.add_add]; exact c2, by show W2.cell? ((ad.add (k * 4)).add 2) = _; rw [Addr.add_add]; exact c3, by show W2.cell? ((ad.add (k * 4)).add 3) = _; rw [Addr.add_add]; exact c4⟩
      have hBE : w.heap.size + 4 < w1.heap.size + 1 := by omega
      clear how hst hI hkca hgetD hfd1 hown1 hq1 hq2 hq3 hs q1 q2 hk0 hk e5 hb1 hb2 hb3 hmn hscr hca hfar
      gi_wp2_with fail
      refine wpIn_region_round (S := (fun W : World => W.cell? ⟨w.heap.size, 0, none⟩ = some (.pointer (some ⟨f, 0, none⟩)) ∧ W.cell? ⟨w.heap.size + 1, 0, none⟩ = some (.pointer (some ⟨b, 0, none⟩)) ∧ W.cell? ⟨w.heap.size + 1 + 1, 0, none⟩ = some (.int .i64 id) ∧ W.cell? ⟨w.heap.size + 1 + 1 + 1, 0, none⟩ = some (.int .i64 x) ∧ W.cell? ⟨w.heap.size + 1 + 1 + 1 + 1, 0, none⟩ = some (.slice (some ad) l.length cap) ∧ W.cell? ⟨w1.heap.size, 2, none⟩ = some (.int .i64 t.x) ∧ W.cell? (ad.add (k * 4)) = some (.int .i32 c.r) ∧ W.cell? ⟨(ad.add (k * 4)).block, (ad.add (k * 4)).off + 1, none⟩ = some (.int .i64 c.fg) ∧ W.cell? ⟨(ad.add (k * 4)).block, (ad.add (k * 4)).off + 2, none⟩ = some (.int .i64 c.bg) ∧ W.cell? ⟨(ad.add (k * 4)).block, (ad.add (k * 4)).off + 3, none⟩ = some (.int .i64 c.fl))) (by kernel_rfl) (by kernel_rfl) (HSv.out _ _ _ _ (HI.out.frd hfw)) (fun hHeld => ?_)
      refine wpAnyH_take (i := 0) (oi := { dst := some 49, op := Op.load 29 (Operand.tmp 7), type := 29, pos := "draw.go:52", after := #[], guard := none }) (v := ?v0) rfl (by kernel_rfl) (by kernel_rfl) (by kernel_rfl) (fun _ _ _ h => h) (Or.inl ⟨by rfl, ?hy0⟩) (by assumption) ?r0
      case hy0 => (intro w hSw; (try dsimp only at hSw); go_simp; try (with_reducible rfl))
      try simp only [Act.put, List.setIfInBounds_toArray, List.set_cons_zero, List.set_cons_succ]
      refine wpAnyH_take (i := 1) (oi := { dst := some 50, op := Op.move (Operand.tmp 17), type := 3, pos := "draw.go:52", after := #[], guard := none }) (v := ?v1) rfl (by kernel_rfl) (by kernel_rfl) (by kernel_rfl) (fun _ _ _ h => h) (Or.inl ⟨by rfl, ?hy1⟩) (by assumption) ?r1
      case hy1 => (intro w hSw; (try dsimp only at hSw); go_simp; try (with_reducible rfl))
      try simp only [Act.put, List.setIfInBounds_toArray, List.set_cons_zero, List.set_cons_succ]
      refine wpAnyH_take (i := 2) (oi := { dst := some 51, op := Op.move (Operand.tmp 18), type := 3, pos := "draw.go:52", after := #[], guard := none }) (v := ?v2) rfl (by kernel_rfl) (by kernel_rfl) (by kernel_rfl) (fun _ _ _ h => h) (Or.inl ⟨by rfl, ?hy2⟩) (by assumption) ?r2
      case hy2 => (intro w hSw; (try dsimp only at hSw); go_simp; try (with_reducible rfl))
      try simp only [Act.put, List.setIfInBounds_toArray, List.set_cons_zero, List.set_cons_succ]
      refine wpAnyH_take (i := 4) (oi := { dst := some 53, op := Op.load 3 (Operand.tmp 8), type := 3, pos := "draw.go:52", after := #[], guard := none }) (v := ?v4) rfl (by kernel_rfl) (by kernel_rfl) (by kernel_rfl) (fun _ _ _ h => h) (Or.inl ⟨by rfl, ?hy4⟩) (by assumption) ?r4
      case hy4 => (intro w hSw; (try dsimp only at hSw); go_simp; try (with_reducible rfl))
      try simp only [Act.put, List.setIfInBounds_toArray, List.set_cons_zero, List.set_cons_succ]
      refine wpAnyH_ready (rs := [3]) (by kernel_rfl) (by simp) ?_
      refine AllReadyH.cons (o := { dst := some 52, op := Op.call { callee := Callee.value (Operand.func 17), args := #[Operand.tmp 49, Operand.tmp 50, Operand.tmp 51], argTypes := #[29, 3, 3] }, type := 3, pos := "draw.go:52", after := #[{ on := 0, ground := Ground.data }, { on := 1, ground := Ground.data }, { on := 2, ground := Ground.data }], guard := none }) rfl (fun K hK => ?_) AllReadyH.nil
      go_simp
      refine (HOw _ (HI.out.sk.frd hfw)).out.mono ?_
      rintro e' w5 ⟨rfl, hf5⟩
      have HF5 : Hid (Fr NoB W0 w5) := Fr.trans hfw hf5
      clear hHeld
      go_wp2_with fail
      refine hK.out _ _ (HSv.out _ _ _ _ (HI.out.frd HF5.out)) (fun hHeld => ?_)
      clear hK K
      try simp only [Act.put, List.setIfInBounds_toArray, List.set_cons_zero, List.set_cons_succ]
      refine wpAnyH_take (i := 5) (oi := { dst := some 54, op := Op.binOp BinOp.eql 3 (Operand.tmp 52) (Operand.tmp 53) 3, type := 4, pos := "draw.go:52", after := #[{ on := 3, ground := Ground.data }, { on := 4, ground := Ground.data }], guard := none }) (v := ?v5) rfl (by kernel_rfl) (by kernel_rfl) (by kernel_rfl) (fun _ _ _ h => h) (Or.inl ⟨by rfl, ?hy5⟩) (by assumption) ?r5
      case hy5 => (intro w hSw; (try dsimp only at hSw); go_simp; try (with_reducible rfl))
      try simp only [Act.put, List.setIfInBounds_toArray, List.set_cons_zero, List.set_cons_succ]
      refine wpAnyH_take (i := 6) (oi := { dst := some 55, op := Op.move (Operand.tmp 54), type := 4, pos := "draw.go:52", after := #[{ on := 5, ground := Ground.data }, { on := 3, ground := Ground.chain }], guard := none }) (v := ?v6) rfl (by kernel_rfl) (by kernel_rfl) (by kernel_rfl) (fun _ _ _ h => h) (Or.inl ⟨by rfl, ?hy6⟩) (by assumption) ?r6
      case hy6 => (intro w hSw; (try dsimp only at hSw); go_simp; try (with_reducible rfl))
      try simp only [Act.put, List.setIfInBounds_toArray, List.set_cons_zero, List.set_cons_succ]
      refine wpAnyH_take (i := 7) (oi := { dst := some 56, op := Op.load 27 (Operand.tmp 6), type := 27, pos := "draw.go:52", after := #[{ on := 6, ground := Ground.guard }], guard := some (6, true) }) (v := ?v7) rfl (by kernel_rfl) (by kernel_rfl) (by kernel_rfl) (fun _ _ _ h => h) (Or.inl ⟨by rfl, ?hy7⟩) (by assumption) ?r7
      case hy7 => (intro w hSw; (try dsimp only at hSw); go_simp; try (with_reducible rfl))
      try simp only [Act.put, List.setIfInBounds_toArray, List.set_cons_zero, List.set_cons_succ]
      refine wpAnyH_take (i := 8) (oi := { dst := some 57, op := Op.move (Operand.tmp 17), type := 3, pos := "draw.go:52", after := #[{ on := 6, ground := Ground.guard }], guard := some (6, true) }) (v := ?v8) rfl (by kernel_rfl) (by kernel_rfl) (by kernel_rfl) (fun _ _ _ h => h) (Or.inl ⟨by rfl, ?hy8⟩) (by assumption) ?r8
      case hy8 => (intro w hSw; (try dsimp only at hSw); go_simp; try (with_reducible rfl))
      try simp only [Act.put, List.setIfInBounds_toArray, List.set_cons_zero, List.set_cons_succ]
      refine wpAnyH_take (i := 9) (oi := { dst := some 58, op := Op.move (Operand.tmp 18), type := 3, pos := "draw.go:52", after := #[{ on := 6, ground := Ground.guard }], guard := some (6, true) }) (v := ?v9) rfl (by kernel_rfl) (by kernel_rfl) (by kernel_rfl) (fun _ _ _ h => h) (Or.inl ⟨by rfl, ?hy9⟩) (by assumption) ?r9
      case hy9 => (intro w hSw; (try dsimp only at hSw); go_simp; try (with_reducible rfl))
      try simp only [Act.put, List.setIfInBounds_toArray, List.set_cons_zero, List.set_cons_succ]
      refine wpAnyH_take (i := 10) (oi := { dst := some 59, op := Op.load 24 (Operand.tmp 11), type := 24, pos := "draw.go:52", after := #[{ on := 6, ground := Ground.guard }], guard := some (6, true) }) (v := ?v10) rfl (by kernel_rfl) (by kernel_rfl) (by kernel_rfl) (fun _ _ _ h => h) (Or.inl ⟨by rfl, ?hy10⟩) (by assumption) ?r10
      case hy10 => (intro w hSw; (try dsimp only at hSw); go_simp; try (with_reducible rfl))
      try simp only [Act.put, List.setIfInBounds_toArray, List.set_cons_zero, List.set_cons_succ]
      refine wpAnyH_take (i := 11) (oi := { dst := some 60, op := Op.move (Operand.tmp 17), type := 3, pos := "draw.go:52", after := #[{ on := 6, ground := Ground.guard }], guard := some (6, true) }) (v := ?v11) rfl (by kernel_rfl) (by kernel_rfl) (by kernel_rfl) (fun _ _ _ h => h) (Or.inl ⟨by rfl, ?hy11⟩) (by assumption) ?r11
      case hy11 => (intro w hSw; (try dsimp only at hSw); go_simp; try (with_reducible rfl))
      try simp only [Act.put, List.setIfInBounds_toArray, List.set_cons_zero, List.set_cons_succ]
      refine wpAnyH_take (i := 12) (oi := { dst := some 61, op := Op.fieldAddr 73 (Operand.tmp 14) 2, type := 0, pos := "draw.go:52", after := #[{ on := 6, ground := Ground.guard }], guard := some (6, true) }) (v := ?v12) rfl (by kernel_rfl) (by kernel_rfl) (by kernel_rfl) (fun _ _ _ h => h) (Or.inl ⟨by rfl, ?hy12⟩) (by assumption) ?r12
      case hy12 => (intro w hSw; (try dsimp only at hSw); go_simp; try (with_reducible rfl))
      try simp only [Act.put, List.setIfInBounds_toArray, List.set_cons_zero, List.set_cons_succ]
      refine wpAnyH_take (i := 13) (oi := { dst := some 62, op := Op.fieldAddr 23 (Operand.tmp 61) 0, type := 0, pos := "draw.go:52", after := #[{ on := 12, ground := Ground.data }, { on := 6, ground := Ground.guard }], guard := some (6, true) }) (v := ?v13) rfl (by kernel_rfl) (by kernel_rfl) (by kernel_rfl) (fun _ _ _ h => h) (Or.inl ⟨by rfl, ?hy13⟩) (by assumption) ?r13
      case hy13 => (intro w hSw; (try dsimp only at hSw); go_simp; try (with_reducible rfl))
      try simp only [Act.put, List.setIfInBounds_toArray, List.set_cons_zero, List.set_cons_succ]
      refine wpAnyH_take (i := 14) (oi := { dst := some 63, op := Op.load 3 (Operand.tmp 62), type := 3, pos := "draw.go:52", after := #[{ on := 13, ground := Ground.data }, { on := 6, ground := Ground.guard }], guard := some (6, true) }) (v := ?v14) rfl (by kernel_rfl) (by kernel_rfl) (by kernel_rfl) (fun _ _ _ h => h) (Or.inl ⟨by rfl, ?hy14⟩) (by assumption) ?r14
      case hy14 => (intro w hSw; (try dsimp only at hSw); go_simp; try (with_reducible rfl))
      try simp only [Act.put, List.setIfInBounds_toArray, List.set_cons_zero, List.set_cons_succ]
      refine wpAnyH_take (i := 15) (oi := { dst := some 64, op := Op.binOp BinOp.sub 3 (Operand.tmp 60) (Operand.tmp 63) 3, type := 3, pos := "draw.go:52", after := #[{ on := 11, ground := Ground.data }, { on := 14, ground := Ground.data }, { on := 6, ground := Ground.guard }], guard := some (6, true) }) (v := ?v15) rfl (by kernel_rfl) (by kernel_rfl) (by kernel_rfl) (fun _ _ _ h => h) (Or.inl ⟨by rfl, ?hy15⟩) (by assumption) ?r15
      case hy15 => (intro w hSw; (try dsimp only at hSw); go_simp; try (with_reducible rfl))
      try simp only [Act.put, List.setIfInBounds_toArray, List.set_cons_zero, List.set_cons_succ]
      refine wpAnyH_take (i := 16) (oi := { dst := some 65, op := Op.load 3 (Operand.tmp 9), type := 3, pos := "draw.go:52", after := #[{ on := 6, ground := Ground.guard }], guard := some (6, true) }) (v := ?v16) rfl (by kernel_rfl) (by kernel_rfl) (by kernel_rfl) (fun _ _ _ h => h) (Or.inl ⟨by rfl, ?hy16⟩) (by assumption) ?r16
      case hy16 => (intro w hSw; (try dsimp only at hSw); go_simp; try (with_reducible rfl))
      try simp only [Act.put, List.setIfInBounds_toArray, List.set_cons_zero, List.set_cons_succ]
      refine wpAnyH_take (i := 17) (oi := { dst := some 66, op := Op.binOp BinOp.sub 3 (Operand.tmp 64) (Operand.tmp 65) 3, type := 3, pos := "draw.go:52", after := #[{ on := 15, ground := Ground.data }, { on := 16, ground := Ground.data }, { on := 6, ground := Ground.guard }], guard := some (6, true) }) (v := ?v17) rfl (by kernel_rfl) (by kernel_rfl) (by kernel_rfl) (fun _ _ _ h => h) (Or.inl ⟨by rfl, ?hy17⟩) (by assumption) ?r17
      case hy17 => (intro w hSw; (try dsimp only at hSw); go_simp; try (with_reducible rfl))
      try simp only [Act.put, List.setIfInBounds_toArray, List.set_cons_zero, List.set_cons_succ]
      refine wpAnyH_take (i := 18) (oi := { dst := some 67, op := Op.indexAddr 24 (Operand.tmp 59) (Operand.tmp 66), type := 0, pos := "draw.go:52", after := #[{ on := 10, ground := Ground.data }, { on := 17, ground := Ground.data }, { on := 6, ground := Ground.guard }], guard := some (6, true) }) (v := ?v18) rfl (by kernel_rfl) (by kernel_rfl) (by kernel_rfl) (fun _ _ _ h => h) (Or.inl ⟨by rfl, ?hy18⟩) (by assumption) ?r18
      case hy18 => (intro w hSw; (try dsimp only at hSw); go_simp; try (with_reducible rfl))
      try simp only [Act.put, List.setIfInBounds_toArray, List.set_cons_zero, List.set_cons_succ]
      refine wpAnyH_take (i := 19) (oi := { dst := some 68, op := Op.load 38 (Operand.tmp 67), type := 38, pos := "draw.go:52", after := #[{ on := 18, ground := Ground.data }, { on := 6, ground := Ground.guard }], guard := some (6, true) }) (v := ?v19) rfl (by kernel_rfl) (by kernel_rfl) (by kernel_rfl) (fun _ _ _ h => h) (Or.inl ⟨by rfl, ?hy19⟩) (by assumption) ?r19
      case hy19 => (intro w hSw; (try dsimp only at hSw); go_simp; try (with_reducible rfl))
      try simp only [Act.put, List.setIfInBounds_toArray, List.set_cons_zero, List.set_cons_succ]
      refine wpAnyH_ready (rs := [20]) (by kernel_rfl) (by simp) ?_
      refine AllReadyH.cons (o := { dst := some 69, op := Op.call { callee := Callee.value (Operand.func 31), args := #[Operand.tmp 56, Operand.tmp 57, Operand.tmp 58, Operand.tmp 68], argTypes := #[27, 3, 3, 38] }, type := 4, pos := "draw.go:52", after := #[{ on := 7, ground := Ground.data }, { on := 8, ground := Ground.data }, { on := 9, ground := Ground.data }, { on := 19, ground := Ground.data }, { on := 6, ground := Ground.chain }, { on := 6, ground := Ground.guard }], guard := some (6, true) }) rfl (fun K hK => ?_) AllReadyH.nil
      go_simp
      refine (HPut.out _ HF5.out).mono ?_
      rintro e' w6 ⟨rfl, nv', hfd6, hf6, hown6⟩
      have HI6 := hid ((HI.out.frd HF5.out).put (HFD.out.frd HF5.out) HOW.out hfd6 hf6 (fun k hk => hown6 k hk))
      have HF6 := hid (keeps_fb (HFD.out.frd HF5.out) hf6)
      have HF6' := hid hf6
      clear hHeld hfd6 hf6 hown6
      go_wp2_with fail
      refine hK.out _ _ (HSv.out _ _ _ _ HI6.out) (fun hHeld => ?_)
      clear hK K
      try simp only [Act.put, List.setIfInBounds_toArray, List.set_cons_zero, List.set_cons_succ]
      refine wpAnyH_take (i := 21) (oi := { dst := some 70, op := Op.pick (Operand.tmp 55) (Operand.tmp 69) (Operand.const (Value.bool false)), type := 4, pos := "draw.go:52", after := #[{ on := 6, ground := Ground.data }, { on := 20, ground := Ground.data }], guard := none }) (v := ?v21) rfl (by kernel_rfl) (by kernel_rfl) (by kernel_rfl) (fun _ _ _ h => h) (Or.inl ⟨by rfl, ?hy21⟩) (by assumption) ?r21
      case hy21 => (intro w hSw; (try dsimp only at hSw); go_simp; try (with_reducible rfl))
      try simp only [Act.put, List.setIfInBounds_toArray, List.set_cons_zero, List.set_cons_succ]
      refine wpAnyH_done (by kernel_rfl) ?_ _
      refine onlyOn_normal ?_
      have m16 := HI6.out.bx.e.cell 0 rfl
      have m16f := HI6.out.bx.e.frozen 0
      have m16l := HI6.out.bx.e.lt
      clear hHeld
      gi_wp2_with fail
      have hEs : Fr (At (w1.heap.size + 1)) w6 (w6.setCell ⟨w1.heap.size + 1, 0, none⟩ (.int .i64 (st.2.2 + 1))) := (Fr.refl _ _).setAt 0 _
      have bI : Blk w6 iB 23 ir.cells := (HIW.out.fr HF5.out (fun h => h)).fr HF6'.out ((HFD.out.frd HF5.out).notFB (HIW.out.fr HF5.out (fun h => h)) (by decide) (by decide) (by decide))
      have bW : Blk w6 wB 73 t.cells := (HWW.out.fr HF5.out (fun h => h)).fr HF6'.out ((HFD.out.frd HF5.out).notFB (HWW.out.fr HF5.out (fun h => h)) (by decide) (by decide) (by decide))
      have bI' := bI.fr hEs (fun h => absurd (blk_type (h ▸ bI) HI6.out.bx.e) (by decide))
      have bW' := bW.fr hEs (fun h => absurd (blk_type (h ▸ bW) HI6.out.bx.e) (by decide))
      exact ⟨((keeps_fr HF5.out (fun _ h => h.elim)).trans HF6.out).trans (KeepsOthers.setCell _ _ _), ⟨bI'.trans HIW.out.symm, bW'.trans HWW.out.symm⟩, by rw [HST.out]; exact HI6.out.count hBE (st.2.2 + 1), bI', bW'⟩
    · have hst : stepC W xs id (t.x + x) l st (pu, pv) = st := if_neg how
      have HST := hid (HSN.out.trans hst)
      have t1 : (ownerOf xs pu pv == id) = false := by rw [beq_eq_false_iff_ne]; exact how
      have HI := hid hI
      have HSv : Hid (∀ W, Fr NoB W0 W → W.cell? ⟨w.heap.size + 1, 0, none⟩ = some (.pointer (some ⟨b, 0, none⟩)) ∧ W.cell? ⟨w.heap.size + 1 + 1, 0, none⟩ = some (.int .i64 id)) := fun W h => ⟨(HI.out.bx.b1.fr h (fun h => h)).cell 0 rfl, (HI.out.bx.b2.fr h (fun h => h)).cell 0 rfl⟩
      clear how hst hI
      gi_wp2_with fail
      refine wpIn_region_round (S := (fun W : World => Fr NoB W0 W ∧ W.cell? ⟨w.heap.size + 1, 0, none⟩ = some (.pointer (some ⟨b, 0, none⟩)) ∧ W.cell? ⟨w.heap.size + 1 + 1, 0, none⟩ = some (.int .i64 id))) (by kernel_rfl) (by kernel_rfl) ⟨hfw, HSv.out _ hfw⟩ (fun hHeld => ?_)
      refine wpAnyH_take (i := 0) (oi := { dst := some 49, op := Op.load 29 (Operand.tmp 7), type := 29, pos := "draw.go:52", after := #[], guard := none }) (v := ?va0) rfl (by kernel_rfl) (by kernel_rfl) (by kernel_rfl) (fun _ _ _ h => h) (Or.inl ⟨by rfl, ?hya0⟩) (by assumption) ?ra0
      case hya0 => (intro w hSw; (try dsimp only at hSw); go_simp; try (with_reducible rfl))
      try simp only [Act.put, List.setIfInBounds_toArray, List.set_cons_zero, List.set_cons_succ]
      refine wpAnyH_take (i := 1) (oi := { dst := some 50, op := Op.move (Operand.tmp 17), type := 3, pos := "draw.go:52", after := #[], guard := none }) (v := ?va1) rfl (by kernel_rfl) (by kernel_rfl) (by kernel_rfl) (fun _ _ _ h => h) (Or.inl ⟨by rfl, ?hya1⟩) (by assumption) ?ra1
      case hya1 => (intro w hSw; (try dsimp only at hSw); go_simp; try (with_reducible rfl))
      try simp only [Act.put, List.setIfInBounds_toArray, List.set_cons_zero, List.set_cons_succ]
      refine wpAnyH_take (i := 2) (oi := { dst := some 51, op := Op.move (Operand.tmp 18), type := 3, pos := "draw.go:52", after := #[], guard := none }) (v := ?va2) rfl (by kernel_rfl) (by kernel_rfl) (by kernel_rfl) (fun _ _ _ h => h) (Or.inl ⟨by rfl, ?hya2⟩) (by assumption) ?ra2
      case hya2 => (intro w hSw; (try dsimp only at hSw); go_simp; try (with_reducible rfl))
      try simp only [Act.put, List.setIfInBounds_toArray, List.set_cons_zero, List.set_cons_succ]
      refine wpAnyH_take (i := 4) (oi := { dst := some 53, op := Op.load 3 (Operand.tmp 8), type := 3, pos := "draw.go:52", after := #[], guard := none }) (v := ?va4) rfl (by kernel_rfl) (by kernel_rfl) (by kernel_rfl) (fun _ _ _ h => h) (Or.inl ⟨by rfl, ?hya4⟩) (by assumption) ?ra4
      case hya4 => (intro w hSw; (try dsimp only at hSw); go_simp; try (with_reducible rfl))
      try simp only [Act.put, List.setIfInBounds_toArray, List.set_cons_zero, List.set_cons_succ]
      refine wpAnyH_ready (rs := [3]) (by kernel_rfl) (by simp) ?_
      refine AllReadyH.cons (o := { dst := some 52, op := Op.call { callee := Callee.value (Operand.func 17), args := #[Operand.tmp 49, Operand.tmp 50, Operand.tmp 51], argTypes := #[29, 3, 3] }, type := 3, pos := "draw.go:52", after := #[{ on := 0, ground := Ground.data }, { on := 1, ground := Ground.data }, { on := 2, ground := Ground.data }], guard := none }) rfl (fun K hK => ?_) AllReadyH.nil
      go_simp
      refine (HOw _ (HI.out.sk.frd hfw)).out.mono ?_
      rintro e' w5 ⟨rfl, hf5⟩
      have HF5 : Hid (Fr NoB W0 w5) := Fr.trans hfw hf5
      clear hHeld
      go_wp2_with fail
      refine hK.out _ _ (⟨HF5.out, HSv.out _ HF5.out⟩) (fun hHeld => ?_)
      clear hK K
      try simp only [Act.put, List.setIfInBounds_toArray, List.set_cons_zero, List.set_cons_succ]
      refine wpAnyH_take (i := 5) (oi := { dst := some 54, op := Op.binOp BinOp.eql 3 (Operand.tmp 52) (Operand.tmp 53) 3, type := 4, pos := "draw.go:52", after := #[{ on := 3, ground := Ground.data }, { on := 4, ground := Ground.data }], guard := none }) (v := ?va5) rfl (by kernel_rfl) (by kernel_rfl) (by kernel_rfl) (fun _ _ _ h => h) (Or.inl ⟨by rfl, ?hya5⟩) (by assumption) ?ra5
      case hya5 => (intro w hSw; (try dsimp only at hSw); go_simp; try (with_reducible rfl))
      try simp only [Act.put, List.setIfInBounds_toArray, List.set_cons_zero, List.set_cons_succ]
      refine wpAnyH_take (i := 6) (oi := { dst := some 55, op := Op.move (Operand.tmp 54), type := 4, pos := "draw.go:52", after := #[{ on := 5, ground := Ground.data }, { on := 3, ground := Ground.chain }], guard := none }) (v := ?va6) rfl (by kernel_rfl) (by kernel_rfl) (by kernel_rfl) (fun _ _ _ h => h) (Or.inl ⟨by rfl, ?hya6⟩) (by assumption) ?ra6
      case hya6 => (intro w hSw; (try dsimp only at hSw); go_simp; try (with_reducible rfl))
      try simp only [Act.put, List.setIfInBounds_toArray, List.set_cons_zero, List.set_cons_succ]
      refine wpAnyH_take (i := 7) (oi := { dst := some 56, op := Op.load 27 (Operand.tmp 6), type := 27, pos := "draw.go:52", after := #[{ on := 6, ground := Ground.guard }], guard := some (6, true) }) (v := undef) rfl (by kernel_rfl) (by kernel_rfl) (by kernel_rfl) (fun _ _ _ h => h) (Or.inr ⟨by rfl, rfl⟩) (by assumption) ?_
      try simp only [Act.put, List.setIfInBounds_toArray, List.set_cons_zero, List.set_cons_succ]
      refine wpAnyH_take (i := 8) (oi := { dst := some 57, op := Op.move (Operand.tmp 17), type := 3, pos := "draw.go:52", after := #[{ on := 6, ground := Ground.guard }], guard := some (6, true) }) (v := undef) rfl (by kernel_rfl) (by kernel_rfl) (by kernel_rfl) (fun _ _ _ h => h) (Or.inr ⟨by rfl, rfl⟩) (by assumption) ?_
      try simp only [Act.put, List.setIfInBounds_toArray, List.set_cons_zero, List.set_cons_succ]
      refine wpAnyH_take (i := 9) (oi := { dst := some 58, op := Op.move (Operand.tmp 18), type := 3, pos := "draw.go:52", after := #[{ on := 6, ground := Ground.guard }], guard := some (6, true) }) (v := undef) rfl (by kernel_rfl) (by kernel_rfl) (by kernel_rfl) (fun _ _ _ h => h) (Or.inr ⟨by rfl, rfl⟩) (by assumption) ?_
      try simp only [Act.put, List.setIfInBounds_toArray, List.set_cons_zero, List.set_cons_succ]
      refine wpAnyH_take (i := 10) (oi := { dst := some 59, op := Op.load 24 (Operand.tmp 11), type := 24, pos := "draw.go:52", after := #[{ on := 6, ground := Ground.guard }], guard := some (6, true) }) (v := undef) rfl (by kernel_rfl) (by kernel_rfl) (by kernel_rfl) (fun _ _ _ h => h) (Or.inr ⟨by rfl, rfl⟩) (by assumption) ?_
      try simp only [Act.put, List.setIfInBounds_toArray, List.set_cons_zero, List.set_cons_succ]
      refine wpAnyH_take (i := 11) (oi := { dst := some 60, op := Op.move (Operand.tmp 17), type := 3, pos := "draw.go:52", after := #[{ on := 6, ground := Ground.guard }], guard := some (6, true) }) (v := undef) rfl (by kernel_rfl) (by kernel_rfl) (by kernel_rfl) (fun _ _ _ h => h) (Or.inr ⟨by rfl, rfl⟩) (by assumption) ?_
      try simp only [Act.put, List.setIfInBounds_toArray, List.set_cons_zero, List.set_cons_succ]
      refine wpAnyH_take (i := 12) (oi := { dst := some 61, op := Op.fieldAddr 73 (Operand.tmp 14) 2, type := 0, pos := "draw.go:52", after := #[{ on := 6, ground := Ground.guard }], guard := some (6, true) }) (v := undef) rfl (by kernel_rfl) (by kernel_rfl) (by kernel_rfl) (fun _ _ _ h => h) (Or.inr ⟨by rfl, rfl⟩) (by assumption) ?_
      try simp only [Act.put, List.setIfInBounds_toArray, List.set_cons_zero, List.set_cons_succ]
      refine wpAnyH_take (i := 13) (oi := { dst := some 62, op := Op.fieldAddr 23 (Operand.tmp 61) 0, type := 0, pos := "draw.go:52", after := #[{ on := 12, ground := Ground.data }, { on := 6, ground := Ground.guard }], guard := some (6, true) }) (v := undef) rfl (by kernel_rfl) (by kernel_rfl) (by kernel_rfl) (fun _ _ _ h => h) (Or.inr ⟨by rfl, rfl⟩) (by assumption) ?_
      try simp only [Act.put, List.setIfInBounds_toArray, List.set_cons_zero, List.set_cons_succ]
      refine wpAnyH_take (i := 14) (oi := { dst := some 63, op := Op.load 3 (Operand.tmp 62), type := 3, pos := "draw.go:52", after := #[{ on := 13, ground := Ground.data }, { on := 6, ground := Ground.guard }], guard := some (6, true) }) (v := undef) rfl (by kernel_rfl) (by kernel_rfl) (by kernel_rfl) (fun _ _ _ h => h) (Or.inr ⟨by rfl, rfl⟩) (by assumption) ?_
      try simp only [Act.put, List.setIfInBounds_toArray, List.set_cons_zero, List.set_cons_succ]
      refine wpAnyH_take (i := 15) (oi := { dst := some 64, op := Op.binOp BinOp.sub 3 (Operand.tmp 60) (Operand.tmp 63) 3, type := 3, pos := "draw.go:52", after := #[{ on := 11, ground := Ground.data }, { on := 14, ground := Ground.data }, { on := 6, ground := Ground.guard }], guard := some (6, true) }) (v := undef) rfl (by kernel_rfl) (by kernel_rfl) (by kernel_rfl) (fun _ _ _ h => h) (Or.inr ⟨by rfl, rfl⟩) (by assumption) ?_
      try simp only [Act.put, List.setIfInBounds_toArray, List.set_cons_zero, List.set_cons_succ]
      refine wpAnyH_take (i := 16) (oi := { dst := some 65, op := Op.load 3 (Operand.tmp 9), type := 3, pos := "draw.go:52", after := #[{ on := 6, ground := Ground.guard }], guard := some (6, true) }) (v := undef) rfl (by kernel_rfl) (by kernel_rfl) (by kernel_rfl) (fun _ _ _ h => h) (Or.inr ⟨by rfl, rfl⟩) (by assumption) ?_
      try simp only [Act.put, List.setIfInBounds_toArray, List.set_cons_zero, List.set_cons_succ]
      refine wpAnyH_take (i := 17) (oi := { dst := some 66, op := Op.binOp BinOp.sub 3 (Operand.tmp 64) (Operand.tmp 65) 3, type := 3, pos := "draw.go:52", after := #[{ on := 15, ground := Ground.data }, { on := 16, ground := Ground.data }, { on := 6, ground := Ground.guard }], guard := some (6, true) }) (v := undef) rfl (by kernel_rfl) (by kernel_rfl) (by kernel_rfl) (fun _ _ _ h => h) (Or.inr ⟨by rfl, rfl⟩) (by assumption) ?_
      try simp only [Act.put, List.setIfInBounds_toArray, List.set_cons_zero, List.set_cons_succ]
      refine wpAnyH_take (i := 18) (oi := { dst := some 67, op := Op.indexAddr 24 (Operand.tmp 59) (Operand.tmp 66), type := 0, pos := "draw.go:52", after := #[{ on := 10, ground := Ground.data }, { on := 17, ground := Ground.data }, { on := 6, ground := Ground.guard }], guard := some (6, true) }) (v := undef) rfl (by kernel_rfl) (by kernel_rfl) (by kernel_rfl) (fun _ _ _ h => h) (Or.inr ⟨by rfl, rfl⟩) (by assumption) ?_
      try simp only [Act.put, List.setIfInBounds_toArray, List.set_cons_zero, List.set_cons_succ]
      refine wpAnyH_take (i := 19) (oi := { dst := some 68, op := Op.load 38 (Operand.tmp 67), type := 38, pos := "draw.go:52", after := #[{ on := 18, ground := Ground.data }, { on := 6, ground := Ground.guard }], guard := some (6, true) }) (v := undef) rfl (by kernel_rfl) (by kernel_rfl) (by kernel_rfl) (fun _ _ _ h => h) (Or.inr ⟨by rfl, rfl⟩) (by assumption) ?_
      try simp only [Act.put, List.setIfInBounds_toArray, List.set_cons_zero, List.set_cons_succ]
      refine wpAnyH_take (i := 20) (oi := { dst := some 69, op := Op.call { callee := Callee.value (Operand.func 31), args := #[Operand.tmp 56, Operand.tmp 57, Operand.tmp 58, Operand.tmp 68], argTypes := #[27, 3, 3, 38] }, type := 4, pos := "draw.go:52", after := #[{ on := 7, ground := Ground.data }, { on := 8, ground := Ground.data }, { on := 9, ground := Ground.data }, { on := 19, ground := Ground.data }, { on := 6, ground := Ground.chain }, { on := 6, ground := Ground.guard }], guard := some (6, true) }) (v := undef) rfl (by kernel_rfl) (by kernel_rfl) (by kernel_rfl) (fun _ _ _ h => h) (Or.inr ⟨by rfl, rfl⟩) (by assumption) ?_
      try simp only [Act.put, List.setIfInBounds_toArray, List.set_cons_zero, List.set_cons_succ]
      refine wpAnyH_take (i := 21) (oi := { dst := some 70, op := Op.pick (Operand.tmp 55) (Operand.tmp 69) (Operand.const (Value.bool false)), type := 4, pos := "draw.go:52", after := #[{ on := 6, ground := Ground.data }, { on := 20, ground := Ground.data }], guard := none }) (v := ?va21) rfl (by kernel_rfl) (by kernel_rfl) (by kernel_rfl) (fun _ _ _ h => h) (Or.inl ⟨by rfl, ?hya21⟩) (by assumption) ?ra21
      case hya21 => (intro w hSw; (try dsimp only at hSw); go_simp; try (with_reducible rfl))
      try simp only [Act.put, List.setIfInBounds_toArray, List.set_cons_zero, List.set_cons_succ]
      refine wpAnyH_done (by kernel_rfl) ?_ _
      refine onlyOn_normal ?_
      clear HSv hHeld
      gi_wp2_with fail
      exact ⟨keeps_fr HF5.out (fun _ h => h.elim), ⟨(HIW.out.fr HF5.out (fun h => h)).trans HIW.out.symm, (HWW.out.fr HF5.out (fun h => h)).trans HWW.out.symm⟩, by rw [HST.out]; exact HI.out.frd HF5.out, HIW.out.fr HF5.out (fun h => h), HWW.out.fr HF5.out (fun h => h)⟩
end
end Go.Proofs.Ytnengimekcnfhaa
