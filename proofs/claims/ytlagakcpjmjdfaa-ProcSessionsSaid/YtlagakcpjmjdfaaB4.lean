import Derived.Test.YtlagakcpjmjdfaaB3
set_option linter.unusedSimpArgs false
set_option linter.unusedVariables false
set_option maxRecDepth 20000
namespace Go.Proofs.Ytlagakcpjmjdfaa
open Go.RowKit Go.Proofs.YtlagakcpjmjdfaaW.PrintWords
def put6 (w : World) (g o : Nat) (q : Pr) : World := (((((w.setCell ⟨g, o, none⟩ (.int .i64 q.pid)).setCell ⟨g, o + 1, none⟩ (.int .i64 q.par)).setCell ⟨g, o + 2, none⟩ (.int .i64 q.grp)).setCell ⟨g, o + 3, none⟩ (.int .i64 q.ses)).setCell ⟨g, o + 4, none⟩ (.int .i64 q.tty)).setCell ⟨g, o + 5, none⟩ (.bool q.deaf)
theorem Vec.put6 {w : World} {g c : Nat} {T : TypeId} {xs : List Pr} {rest : List Value} (h : Vec Pr.cells 6 w g T xs rest c) (k : Nat) (hk : k < xs.length) (q : Pr) : Vec Pr.cells 6 (put6 w g (k * 6) q) g T (xs.set k q) rest c := by
  have h0 := Vec.set1p h Pr.len k 0 hk (by decide) (.int .i64 q.pid) ⟨q.pid, xs[k].par, xs[k].grp, xs[k].ses, xs[k].tty, xs[k].deaf⟩ rfl
  have h1 := Vec.set1p h0 Pr.len k 1 (by simpa using hk) (by decide) (.int .i64 q.par) ⟨q.pid, q.par, xs[k].grp, xs[k].ses, xs[k].tty, xs[k].deaf⟩ (by rw [List.getElem_set_self]; rfl)
  have h2 := Vec.set1p h1 Pr.len k 2 (by simpa using hk) (by decide) (.int .i64 q.grp) ⟨q.pid, q.par, q.grp, xs[k].ses, xs[k].tty, xs[k].deaf⟩ (by rw [List.getElem_set_self]; rfl)
  have h3 := Vec.set1p h2 Pr.len k 3 (by simpa using hk) (by decide) (.int .i64 q.ses) ⟨q.pid, q.par, q.grp, q.ses, xs[k].tty, xs[k].deaf⟩ (by rw [List.getElem_set_self]; rfl)
  have h4 := Vec.set1p h3 Pr.len k 4 (by simpa using hk) (by decide) (.int .i64 q.tty) ⟨q.pid, q.par, q.grp, q.ses, q.tty, xs[k].deaf⟩ (by rw [List.getElem_set_self]; rfl)
  have h5 := Vec.set1p h4 Pr.len k 5 (by simpa using hk) (by decide) (.bool q.deaf) q (by rw [List.getElem_set_self]; rfl)
  rw [List.set_set, List.set_set, List.set_set, List.set_set, List.set_set, Nat.add_zero] at h5
  exact h5
theorem Fr.put6 {S : Nat → Prop} {w w1 : World} {g : Nat} (h : Fr S w w1) (hg : S g ∨ w.heap.size ≤ g) (o : Nat) (q : Pr) : Fr S w (put6 w1 g o q) :=
  (((((h.setCell (p := ⟨g, o, none⟩) hg _).setCell (p := ⟨g, o + 1, none⟩) hg _).setCell (p := ⟨g, o + 2, none⟩) hg _).setCell (p := ⟨g, o + 3, none⟩) hg _).setCell (p := ⟨g, o + 4, none⟩) hg _).setCell (p := ⟨g, o + 5, none⟩) hg _
theorem row_empty {w : World} {base P : Nat} (hb : Blk w P 51 []) (hp : base ≤ P) : Row Pr.cells 6 51 w base (.slice (some ⟨P, 0, none⟩) 0 0) [] := by
  have hv : Vec Pr.cells 6 w P 51 ([] : List Pr) [] 0 := ⟨hb, rfl⟩
  exact hv.row Pr.len hp (Nat.le_refl _) (by decide)
theorem Row.src {w : World} {base g c : Nat} {l : List Pr} (h : Row Pr.cells 6 51 w base (.slice (some ⟨g, 0, none⟩) l.length c) l) (h0 : 0 < l.length) : ∀ j u, (l.flatMap Pr.cells)[j]? = some u → w.cell? ((⟨g, 0, none⟩ : Addr).add j) = some u := by
  intro j u hj
  obtain ⟨g2, c2, rest, e, hv, _⟩ := Vec.of_row h h0
  obtain rfl : g = g2 := by injection e with e _ _; injection e with e; injection e
  have h1 := Vec.src hv Pr.len 0 (Nat.zero_le _) l (List.prefix_refl _) j u hj
  rw [Nat.zero_mul] at h1
  exact h1
theorem blk_ne {w : World} {a b : Nat} {T T2 : TypeId} {l l2 : List Value} (h1 : Blk w a T l) (h2 : Blk w b T2 l2) (ht : T ≠ T2) : a ≠ b := by
  rintro rfl
  unfold Blk at h1 h2
  rw [h1] at h2
  injection h2 with h2
  injection h2 with _ h2
  exact ht h2
def TbTo (w : World) (nx : Int) (l : List Pr) (fv : Value) (e : Ending) (w' : World) : Prop := ∃ v', e = .returned (rtv v' nx fv) ∧ Row Pr.cells 6 51 w' w.heap.size v' l ∧ Fr NoB w w'
set_option maxHeartbeats 4000000 in
theorem rWith_any (w : World) (v fv : Value) (nx : Int) (t : Tb) (F : List Int) (i : Nat) (q : Pr) (h : RT w v fv t F) (hl : t.l.length ≤ 400) (hi : i < t.l.length) :
    Calls Try.prog 56 #[rtv v nx fv, .int .i64 i, q.v] w (TbTo w nx (t.l.set i q) fv) := by
  obtain ⟨g, c, hv, _, hc⟩ := h.l.ptr (by omega)
  subst hv
  obtain ⟨A2, c2, hfv, _⟩ := h.f.shape
  subst hfv
  have HR := hid h
  obtain ⟨w4, hw4⟩ : ∃ w4, w4 = ((((w.alloc (.cells #[.slice (some ⟨g, 0, none⟩) t.l.length c, .int .i64 nx, .slice A2 F.length c2] 43)).alloc (.cells #[.int .i64 q.pid, .int .i64 q.par, .int .i64 q.grp, .int .i64 q.ses, .int .i64 q.tty, .bool q.deaf] 51)).alloc (.cells #[.slice none 0 0, .int .i64 0, .slice none 0 0] 43)).alloc (.cells #[] 51)) := ⟨_, rfl⟩
  have hf4 : Fr NoB w w4 := by rw [hw4]; exact ((((Fr.refl NoB w).alloc _).alloc _).alloc _).alloc _
  have hB : Blk w4 w.heap.size 43 [.slice (some ⟨g, 0, none⟩) t.l.length c, .int .i64 nx, .slice A2 F.length c2] := by rw [hw4]; exact (((Blk.new w 43 _).alloc _).alloc _).alloc _
  have hQ : Blk w4 (w.heap.size + 1) 51 q.cells := by
    have := (((Blk.new (w.alloc (.cells #[.slice (some ⟨g, 0, none⟩) t.l.length c, .int .i64 nx, .slice A2 F.length c2] 43)) 51 q.cells).alloc (.cells #[.slice none 0 0, .int .i64 0, .slice none 0 0] 43)).alloc (.cells #[] 51))
    rw [World.size_alloc] at this
    rw [hw4]
    exact this
  have hZ : Blk w4 (w.heap.size + 1 + 1) 43 [.slice none 0 0, .int .i64 0, .slice none 0 0] := by
    have := ((Blk.new ((w.alloc (.cells #[.slice (some ⟨g, 0, none⟩) t.l.length c, .int .i64 nx, .slice A2 F.length c2] 43)).alloc (.cells #[.int .i64 q.pid, .int .i64 q.par, .int .i64 q.grp, .int .i64 q.ses, .int .i64 q.tty, .bool q.deaf] 51)) 43 [.slice none 0 0, .int .i64 0, .slice none 0 0]).alloc (.cells #[] 51))
    simp only [World.size_alloc] at this
    rw [hw4]
    exact this
  have hE : Blk w4 (w.heap.size + 1 + 1 + 1) 51 [] := by
    have := Blk.new (((w.alloc (.cells #[.slice (some ⟨g, 0, none⟩) t.l.length c, .int .i64 nx, .slice A2 F.length c2] 43)).alloc (.cells #[.int .i64 q.pid, .int .i64 q.par, .int .i64 q.grp, .int .i64 q.ses, .int .i64 q.tty, .bool q.deaf] 51)).alloc (.cells #[.slice none 0 0, .int .i64 0, .slice none 0 0] 43)) 51 []
    simp only [World.size_alloc] at this
    rw [hw4]
    exact this
  have HE := hid (row_empty (base := w.heap.size) hE (by omega))
  have HSr := hid (Row.src (h.l.fr hf4 (fun _ _ h => h)) (by omega))
  have HSz := hid hf4.size
  have HM : Hid (t.l.length = t.l.length) := show Hid (t.l.length = t.l.length) from rfl
  have HL48 := hid (le48 (([] : List Pr).length + t.l.length) (by simp; omega))
  have HB := hid hB
  have HQ := hid hQ
  have HZ := hid hZ
  have HF4 := hid hf4
  have hN : w4.heap.size = w.heap.size + 1 + 1 + 1 + 1 := by rw [hw4]; simp only [World.size_alloc]
  have HN := hid hN
  have HW4 := hid hw4
  clear h hf4 hB hQ hZ hE hN hw4
  unfold rtv Pr.v
  go_enter Try.func56, Try.ntmps56
  go_upto_region 2 with (at_builtin; rw [← HW4.out]; go_must (refine row_apps (f := Pr.cells) Pr.len Pr.one w.heap.size rfl (.tmp 8) (.tmp 10) 40 51 Pr.zero 48 rfl Try.underlying40 infoPr rfl (by omega) (by omega) (.slice (some ⟨w.heap.size + 1 + 1 + 1, 0, none⟩) 0 0) [] t.l ⟨g, 0, none⟩ t.l.length c rfl rfl HM.out HSr.out HE.out HSz.out HL48.out ?_); intro v7 w7 hr7 hf7 hat7; rw [List.nil_append] at hr7; obtain ⟨g7, c7, rest7, rfl, hV7, hb7, hc7, hm7⟩ := Vec.of_row hr7 (Nat.lt_of_le_of_lt (Nat.zero_le _) hi); have HV7 := hid hV7; have HG7 := hid hb7; have HC7 := hid hc7; have HM7 := hid hm7; have HR7 := hid hr7; have hne : ∀ k, OwnB (.slice (some ⟨w.heap.size + 1 + 1 + 1, 0, none⟩) 0 0) k → k = w.heap.size + 1 + 1 + 1 := fun k e => (Option.some.inj e).symm; have hb8 := HB.out.fr hf7 (fun e => by have := hne _ e; omega); have hq8 := HQ.out.fr hf7 (fun e => by have := hne _ e; omega); have hz8 := HZ.out.fr hf7 (fun e => by have := hne _ e; omega); have HB8 := hid hb8; have HQ8 := hid hq8; have HZ8 := hid hz8; have HF7 := hid (HF4.out.then_ hf7 (fun k e => .inr (by have := hne _ e; omega))); have q0 := hq8.cell 0 rfl; have q1 := hq8.cell 1 rfl; have q2 := hq8.cell 2 rfl; have q3 := hq8.cell 3 rfl; have q4 := hq8.cell 4 rfl; have q5 := hq8.cell 5 rfl; have s0 := Vec.cell hV7 Pr.len i hi 0 (by decide) rfl; have s1 := Vec.cell hV7 Pr.len i hi 1 (by decide) rfl; have s2 := Vec.cell hV7 Pr.len i hi 2 (by decide) rfl; have s3 := Vec.cell hV7 Pr.len i hi 3 (by decide) rfl; have s4 := Vec.cell hV7 Pr.len i hi 4 (by decide) rfl; have s5 := Vec.cell hV7 Pr.len i hi 5 (by decide) rfl; rw [Nat.add_zero] at s0; have y0 := hV7.blk.frozen (i * 6); have y1 := hV7.blk.frozen (i * 6 + 1); have y2 := hV7.blk.frozen (i * 6 + 2); have y3 := hV7.blk.frozen (i * 6 + 3); have y4 := hV7.blk.frozen (i * 6 + 4); have y5 := hV7.blk.frozen (i * 6 + 5); have yl := hV7.blk.lt; clear hr7 hf7 hat7 hV7 hb7 hc7 hm7 hne hb8 hq8 hz8)
  have hbg : w.heap.size ≠ g7 := blk_ne HB8.out HV7.out.blk (by decide)
  have hzg : w.heap.size + 1 + 1 ≠ g7 := blk_ne HZ8.out HV7.out.blk (by decide)
  have hV8 := Vec.put6 HV7.out i hi q
  have hf8 : Fr (At g7) w7 (put6 w7 g7 (i * 6) q) := (Fr.refl (At g7) w7).put6 (.inl rfl) _ _
  have HB9 := hid (HB8.out.fr hf8 (fun e => hbg e))
  have HZ9 := hid (HZ8.out.fr hf8 (fun e => hzg e))
  have HF9 := hid (HF7.out.then_ hf8 (fun k e => .inr (by have e' : k = g7 := e; have := HG7.out; omega)))
  have HV9 := hid hV8
  have HZG := hid hzg
  clear hV8 hf8 hbg hzg
  go_upto_region 3 with (fail)
  change Code.wp _ _ _ _ (put6 w7 g7 (i * 6) q)
  generalize put6 w7 g7 (i * 6) q = w8 at HB9 HZ9 HF9 HV9 ⊢
  clear s0 s1 s2 s3 s4 s5 y0 y1 y2 y3 y4 y5 yl q0 q1 q2 q3 q4 q5
  have b1 := HB9.out.cell 1 rfl
  have b2 := HB9.out.cell 2 rfl
  have z0 := HZ9.out.cell 0 rfl
  have z1 := HZ9.out.cell 1 rfl
  have z2 := HZ9.out.cell 2 rfl
  have z3 := HZ9.out.frozen 0
  have z4 := HZ9.out.frozen 1
  have z5 := HZ9.out.frozen 2
  have zl := HZ9.out.lt
  go_wp2
  refine bodyPost_ret (v := rtv (.slice (some ⟨g7, 0, none⟩) t.l.length c7) nx (.slice A2 F.length c2)) (by simp [results, Try.results56, go_sem, z0, z1, z2, rtv]) rfl ⟨_, rfl, ?_, ?_⟩
  · have hr := (Vec.row HV9.out Pr.len HG7.out (by rw [List.length_set]; exact HC7.out) HM7.out)
    rw [List.length_set] at hr
    exact Row.fr hr ((((Fr.refl (At (w.heap.size + 1 + 1)) w8).setAt 0 _).setAt 1 _).setAt 2 _) (fun k hk e => HZG.out (by have e' : k = w.heap.size + 1 + 1 := e; rw [← e']; exact (Option.some.inj hk).symm))
  · exact HF9.out.then_ ((((Fr.refl (At (w.heap.size + 1 + 1)) w8).setAt 0 _).setAt 1 _).setAt 2 _) (fun k e => .inr (by have e' : k = w.heap.size + 1 + 1 := e; omega))
theorem irow_empty {w : World} {base P : Nat} (hb : Blk w P 3 []) (hp : base ≤ P) : Row ic 1 3 w base (.slice (some ⟨P, 0, none⟩) 0 0) [] := by
  have hv : Vec ic 1 w P 3 ([] : List Int) [] 0 := ⟨hb, rfl⟩
  exact hv.row ic_len hp (Nat.le_refl _) (by decide)
theorem Row.isrc {w : World} {base g c n : Nat} {l : List Int} (h : Row ic 1 3 w base (.slice (some ⟨g, 0, none⟩) n c) l) (h0 : 0 < l.length) : ∀ j u, (l.flatMap ic)[j]? = some u → w.cell? ((⟨g, 0, none⟩ : Addr).add j) = some u := by
  intro j u hj
  obtain ⟨g2, c2, rest, e, hv, _⟩ := Vec.of_row h h0
  obtain rfl : g = g2 := by injection e with e _ _; injection e with e; injection e
  have h1 := Vec.src hv ic_len 0 (Nat.zero_le _) l (List.prefix_refl _) j u hj
  rw [Nat.zero_mul] at h1
  exact h1
def FrTo (w : World) (v : Value) (nx : Int) (F : List Int) (e : Ending) (w' : World) : Prop := ∃ fv', e = .returned (rtv v nx fv') ∧ Row ic 1 3 w' w.heap.size fv' F ∧ Fr NoB w w'
set_option maxHeartbeats 4000000 in
theorem rFr_any (w : World) (v fv : Value) (nx : Int) (t : Tb) (F : List Int) (i : Nat) (gr : Int) (h : RT w v fv t F) (hi : i < 65) :
    Calls Try.prog 58 #[rtv v nx fv, .int .i64 i, .int .i64 gr] w (FrTo w v nx (F.set i gr)) := by
  have hlen := h.len
  obtain ⟨g, c, hfv, _, hc⟩ := h.f.ptr (by rw [hlen]; decide)
  rw [hlen] at hfv hc
  subst hfv
  obtain ⟨A, c1, hv, _⟩ := h.l.shape
  subst hv
  obtain ⟨w4, hw4⟩ : ∃ w4, w4 = (((w.alloc (.cells #[.slice A t.l.length c1, .int .i64 nx, .slice (some ⟨g, 0, none⟩) 65 c] 43)).alloc (.cells #[.slice none 0 0, .int .i64 0, .slice none 0 0] 43)).alloc (.cells #[] 3)) := ⟨_, rfl⟩
  have hf4 : Fr NoB w w4 := by rw [hw4]; exact (((Fr.refl NoB w).alloc _).alloc _).alloc _
  have hB : Blk w4 w.heap.size 43 [.slice A t.l.length c1, .int .i64 nx, .slice (some ⟨g, 0, none⟩) 65 c] := by rw [hw4]; exact ((Blk.new w 43 _).alloc _).alloc _
  have hZ : Blk w4 (w.heap.size + 1) 43 [.slice none 0 0, .int .i64 0, .slice none 0 0] := by
    have := ((Blk.new (w.alloc (.cells #[.slice A t.l.length c1, .int .i64 nx, .slice (some ⟨g, 0, none⟩) 65 c] 43)) 43 [.slice none 0 0, .int .i64 0, .slice none 0 0]).alloc (.cells #[] 3))
    simp only [World.size_alloc] at this
    rw [hw4]
    exact this
  have hE : Blk w4 (w.heap.size + 1 + 1) 3 [] := by
    have := Blk.new ((w.alloc (.cells #[.slice A t.l.length c1, .int .i64 nx, .slice (some ⟨g, 0, none⟩) 65 c] 43)).alloc (.cells #[.slice none 0 0, .int .i64 0, .slice none 0 0] 43)) 3 []
    simp only [World.size_alloc] at this
    rw [hw4]
    exact this
  have HE := hid (irow_empty (base := w.heap.size) hE (by omega))
  have HSr := hid (Row.isrc (h.f.fr hf4 (fun _ _ h => h)) (by rw [hlen]; decide))
  have HSz := hid hf4.size
  have HM : Hid (F.length = 65) := hid hlen
  have HL8 : Hid ((([] : List Int).length + 65) * 8 ≤ 140737488355328) := hid (by decide)
  have HB := hid hB
  have HZ := hid hZ
  have HF4 := hid hf4
  have hN : w4.heap.size = w.heap.size + 1 + 1 + 1 := by rw [hw4]; simp only [World.size_alloc]
  have HN := hid hN
  have HW4 := hid hw4
  have hiF : i < F.length := by omega
  clear h hf4 hB hZ hE hN hw4 hlen
  unfold rtv
  go_enter Try.func58, Try.ntmps58
  go_upto_region 2 with (at_builtin; rw [← HW4.out]; go_must (refine row_apps (f := ic) ic_len ic_one w.heap.size rfl (.tmp 8) (.tmp 10) 41 3 (.int .i64 0) 8 rfl Try.underlying41 infoI rfl (by omega) (by omega) (.slice (some ⟨w.heap.size + 1 + 1, 0, none⟩) 0 0) [] F ⟨g, 0, none⟩ 65 c rfl rfl HM.out HSr.out HE.out HSz.out HL8.out ?_); intro v7 w7 hr7 hf7 hat7; rw [List.nil_append] at hr7; obtain ⟨g7, c7, rest7, rfl, hV7, hb7, hc7, hm7⟩ := Vec.of_row hr7 (Nat.lt_of_le_of_lt (Nat.zero_le _) hiF); rw [HM.out] at hr7 hc7 ⊢; have HV7 := hid hV7; have HG7 := hid hb7; have HC7 := hid hc7; have HM7 := hid hm7; have hne : ∀ k, OwnB (.slice (some ⟨w.heap.size + 1 + 1, 0, none⟩) 0 0) k → k = w.heap.size + 1 + 1 := fun k e => (Option.some.inj e).symm; have hb8 := HB.out.fr hf7 (fun e => by have := hne _ e; omega); have hz8 := HZ.out.fr hf7 (fun e => by have := hne _ e; omega); have HB8 := hid hb8; have HZ8 := hid hz8; have HF7 := hid (HF4.out.then_ hf7 (fun k e => .inr (by have := hne _ e; omega))); have s0 := Vec.cell hV7 ic_len i hiF 0 (by decide) rfl; rw [Nat.mul_one, Nat.add_zero] at s0; have y0 := hV7.blk.frozen i; have yl := hV7.blk.lt; clear hr7 hf7 hat7 hV7 hb7 hc7 hm7 hne hb8 hz8)
  have hbg : w.heap.size ≠ g7 := blk_ne HB8.out HV7.out.blk (by decide)
  have hzg : w.heap.size + 1 ≠ g7 := blk_ne HZ8.out HV7.out.blk (by decide)
  have hV8 := Vec.set1p HV7.out ic_len i 0 hiF (by decide) (.int .i64 gr) gr rfl
  rw [Nat.mul_one, Nat.add_zero] at hV8
  have hf8 : Fr (At g7) w7 (w7.setCell ⟨g7, i, none⟩ (.int .i64 gr)) := (Fr.refl (At g7) w7).setAt i _
  have HB9 := hid (HB8.out.fr hf8 (fun e => hbg e))
  have HZ9 := hid (HZ8.out.fr hf8 (fun e => hzg e))
  have HF9 := hid (HF7.out.then_ hf8 (fun k e => .inr (by have e' : k = g7 := e; have := HG7.out; omega)))
  have HV9 := hid hV8
  have HZG := hid hzg
  clear hV8 hf8 hbg hzg
  go_upto_region 3 with (fail)
  generalize (w7.setCell ⟨g7, i, none⟩ (.int .i64 gr)) = w8 at HB9 HZ9 HF9 HV9 ⊢
  clear s0 y0 yl
  have b0 := HB9.out.cell 0 rfl
  have b1 := HB9.out.cell 1 rfl
  have z0 := HZ9.out.cell 0 rfl
  have z1 := HZ9.out.cell 1 rfl
  have z2 := HZ9.out.cell 2 rfl
  have z3 := HZ9.out.frozen 0
  have z4 := HZ9.out.frozen 1
  have z5 := HZ9.out.frozen 2
  have zl := HZ9.out.lt
  go_wp2
  refine bodyPost_ret (v := rtv (.slice A t.l.length c1) nx (.slice (some ⟨g7, 0, none⟩) 65 c7)) (by simp [results, Try.results58, go_sem, z0, z1, z2, rtv]) rfl ⟨_, rfl, ?_, ?_⟩
  · have hr := (Vec.row HV9.out ic_len HG7.out (by rw [List.length_set, HM.out]; exact HC7.out) HM7.out)
    rw [List.length_set, HM.out] at hr
    exact Row.fr hr ((((Fr.refl (At (w.heap.size + 1)) w8).setAt 0 _).setAt 1 _).setAt 2 _) (fun k hk e => HZG.out (by have e' : k = w.heap.size + 1 := e; rw [← e']; exact (Option.some.inj hk).symm))
  · exact HF9.out.then_ ((((Fr.refl (At (w.heap.size + 1)) w8).setAt 0 _).setAt 1 _).setAt 2 _) (fun k e => .inr (by have e' : k = w.heap.size + 1 := e; omega))
end Go.Proofs.Ytlagakcpjmjdfaa
