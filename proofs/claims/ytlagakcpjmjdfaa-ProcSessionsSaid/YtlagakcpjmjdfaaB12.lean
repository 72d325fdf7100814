import Derived.Test.YtlagakcpjmjdfaaB7
import Derived.Deep.Upon
import Derived.Test.YtlagakcpjmjdfaaA9
set_option linter.unusedSimpArgs false
set_option linter.unusedVariables false
set_option maxRecDepth 20000
namespace Go.Proofs.Ytlagakcpjmjdfaa
open Go.RowKit Go.Proofs.YtlagakcpjmjdfaaW.PrintWords
theorem row_app0 {α : Type} {f : α → List Value} {sz : Nat} {P : Program} {ops : Array Oper} {rest : List Oper} {o : Oper} {a : Act} {Q : Exit → Act → World → Prop} {W : World} (base : Nat) (hgd : o.guard = none) (s x : Operand) (t e : TypeId) (z : Value) (bytes : Nat)
    (ho : o.op = .call { callee := .builtin .append, args := #[s, x], argTypes := #[t, t] })
    (ht : P.underlying t = some (.slice e)) (hinfo : (P.info? e).map (fun i => (i.zero, i.size, i.bytes)) = some (some z, sz, bytes))
    (v : Value) (xs : List α) (c : Nat) (hs : a.eval s = v) (hx : a.eval x = .slice none 0 c) (HO : Row f sz e W base v xs)
    (h : wpList P ops Q rest (a.put o.dst v) W) : wpList P ops Q (o :: rest) a W := by
  obtain ⟨i0, hi, hz0, hz1, hz2⟩ := info_parts hinfo
  obtain ⟨A, cc, rfl, hc⟩ := Row.shape HO
  refine wpList_plain hgd fun K hK => ?_
  have hrun := run_append_nothing (P := P) W t t o.type e i0 ht hi A xs.length cc hc (.slice none 0 c) (Src.ofNil W ht c)
  unfold Oper.wp
  simp [execOp, ho, resolve, invoke, builtin, hs, hx, hrun, Result.andThen]
  exact hK _ _ h
set_option maxHeartbeats 4000000 in
/-- give, of a table that is empty. -/
theorem rGive0_any (w : World) (v fv : Value) (nx : Int) (t : Tb) (F : List Int) (s tt : Int) (h : RT w v fv t F) (h0 : t.l = []) :
    Calls Try.prog 59 #[rtv v nx fv, .int .i64 s, .int .i64 tt] w (TbTo w nx [] fv) := by
  have hrow := h.l
  rw [h0] at hrow
  obtain ⟨A, c, hv, hc⟩ := hrow.shape
  rw [List.length_nil] at hv
  subst hv
  obtain ⟨A2, c2, hfv, _⟩ := h.f.shape
  subst hfv
  obtain ⟨w4, hw4⟩ : ∃ w4, w4 = (((w.alloc (.cells #[.slice A 0 c, .int .i64 nx, .slice A2 F.length c2] 43)).alloc (.cells #[.slice none 0 0, .int .i64 0, .slice none 0 0] 43)).alloc (.cells #[] 51)) := ⟨_, rfl⟩
  have hf4 : Fr NoB w w4 := by rw [hw4]; exact (((Fr.refl NoB w).alloc _).alloc _).alloc _
  have hB : Blk w4 w.heap.size 43 [.slice A 0 c, .int .i64 nx, .slice A2 F.length c2] := by rw [hw4]; exact ((Blk.new w 43 _).alloc _).alloc _
  have hZ : Blk w4 (w.heap.size + 1) 43 [.slice none 0 0, .int .i64 0, .slice none 0 0] := by
    have := ((Blk.new (w.alloc (.cells #[.slice A 0 c, .int .i64 nx, .slice A2 F.length c2] 43)) 43 [.slice none 0 0, .int .i64 0, .slice none 0 0]).alloc (.cells #[] 51))
    simp only [World.size_alloc] at this
    rw [hw4]
    exact this
  have hE : Blk w4 (w.heap.size + 1 + 1) 51 [] := by
    have := Blk.new ((w.alloc (.cells #[.slice A 0 c, .int .i64 nx, .slice A2 F.length c2] 43)).alloc (.cells #[.slice none 0 0, .int .i64 0, .slice none 0 0] 43)) 51 []
    simp only [World.size_alloc] at this
    rw [hw4]
    exact this
  have HE := hid (row_empty (base := w.heap.size) hE (by omega))
  have HSz := hid hf4.size
  have HB := hid hB
  have HZ := hid hZ
  have HF4 := hid hf4
  have hN : w4.heap.size = w.heap.size + 1 + 1 + 1 := by rw [hw4]; simp only [World.size_alloc]
  have HN := hid hN
  have HW4 := hid hw4
  have HH := hid hrow
  clear h hf4 hB hZ hE hN hw4 h0 hrow hc
  unfold rtv
  rcases HH.out.2 with ⟨e0, _⟩ | ⟨g, c', cur, e0, _⟩
  · obtain ⟨rfl, rfl⟩ : A = none ∧ c = 0 := by injection e0 with e1 e2 e3; exact ⟨e1, e3⟩
    clear e0
    go_enter Try.func59, Try.ntmps59
    go_upto_region 2 with (at_builtin; rw [← HW4.out]; go_must (refine row_app0 (f := Pr.cells) (sz := 6) w.heap.size rfl (.tmp 9) (.tmp 11) 40 51 Pr.zero 48 rfl Try.underlying40 infoPr (.slice (some ⟨w.heap.size + 1 + 1, 0, none⟩) 0 0) [] 0 rfl rfl HE.out ?_))
    obtain ⟨w7, h7⟩ : ∃ w7, w7 = w4 := ⟨_, rfl⟩
    rw [← h7] at HE HB HZ HF4 ⊢
    have HR7 : Hid (Row Pr.cells 6 51 w7 w.heap.size (.slice (some ⟨w.heap.size + 1 + 1, 0, none⟩) 0 0) []) := HE
    have HB8 := HB
    have HZ8 := HZ
    have HF7 := HF4
    go_wp2
    go_loopw [8] (fun v8 wr => v8 = .int .i64 0 ∧ Hid (Fr NoB w7 wr)) (fun v8 _ => 0)
    case atStart => exact ⟨rfl, Fr.refl _ _⟩
    case round =>
      obtain ⟨rfl, HF⟩ := hrel
      have HB9 := hid (HB8.out.fr HF.out (fun h => h))
      have HZ9 := hid (HZ8.out.fr HF.out (fun h => h))
      have HR9 := hid (HR7.out.fr HF.out (fun _ _ h => h))
      have HF9 := hid (HF7.out.trans HF.out)
      have b1 := HB9.out.cell 1 rfl
      have b2 := HB9.out.cell 2 rfl
      have z0 := HZ9.out.cell 0 rfl
      have z1 := HZ9.out.cell 1 rfl
      have z2 := HZ9.out.cell 2 rfl
      have z3 := HZ9.out.frozen 0
      have z4 := HZ9.out.frozen 1
      have z5 := HZ9.out.frozen 2
      have zl := HZ9.out.lt
      go_wp2
      refine bodyPost_ret (v := rtv (.slice (some ⟨w.heap.size + 1 + 1, 0, none⟩) 0 0) nx (.slice A2 F.length c2)) (by simp [results, Try.results59, go_sem, z0, z1, z2, rtv]) rfl ⟨_, rfl, ?_, ?_⟩
      · exact Row.fr HR9.out ((((Fr.refl (At (w.heap.size + 1)) wr).setAt 0 _).setAt 1 _).setAt 2 _) (fun k hk e => Row.not_blk HR9.out HZ9.out (by decide) (by have e' : k = w.heap.size + 1 := e; subst e'; exact hk))
      · exact HF9.out.then_ ((((Fr.refl (At (w.heap.size + 1)) wr).setAt 0 _).setAt 1 _).setAt 2 _) (fun k e => .inr (by have e' : k = w.heap.size + 1 := e; omega))
  · obtain rfl : A = some ⟨g, 0, none⟩ := by injection e0
    clear e0
    have HM : Hid (([] : List Pr).length = 0) := hid rfl
    have HL48 : Hid ((([] : List Pr).length + 0) * 48 ≤ 140737488355328) := hid (by decide)
    go_enter Try.func59, Try.ntmps59
    go_upto_region 2 with (at_builtin; rw [← HW4.out]; go_must (refine row_apps (f := Pr.cells) Pr.len Pr.one w.heap.size rfl (.tmp 9) (.tmp 11) 40 51 Pr.zero 48 rfl Try.underlying40 infoPr rfl (by omega) (by omega) (.slice (some ⟨w.heap.size + 1 + 1, 0, none⟩) 0 0) [] [] ⟨g, 0, none⟩ 0 c rfl rfl HM.out (by intro j u hj; simp at hj) HE.out HSz.out HL48.out ?_); intro v7 w7 hr7 hf7 hat7; obtain ⟨A7, c7, hv7, _⟩ := hr7.shape; subst hv7; have HR7 := hid hr7; have hne : ∀ k, OwnB (.slice (some ⟨w.heap.size + 1 + 1, 0, none⟩) 0 0) k → k = w.heap.size + 1 + 1 := fun k e => (Option.some.inj e).symm; have HB8 := hid (HB.out.fr hf7 (fun e => by have := hne _ e; omega)); have HZ8 := hid (HZ.out.fr hf7 (fun e => by have := hne _ e; omega)); have HF7 := hid (HF4.out.then_ hf7 (fun k e => .inr (by have := hne _ e; omega))); clear hr7 hf7 hat7 hne)
    go_wp2
    go_loopw [8] (fun v8 wr => v8 = .int .i64 0 ∧ Hid (Fr NoB w7 wr)) (fun v8 _ => 0)
    case atStart => exact ⟨rfl, Fr.refl _ _⟩
    case round =>
      obtain ⟨rfl, HF⟩ := hrel
      have HB9 := hid (HB8.out.fr HF.out (fun h => h))
      have HZ9 := hid (HZ8.out.fr HF.out (fun h => h))
      have HR9 := hid (HR7.out.fr HF.out (fun _ _ h => h))
      have HF9 := hid (HF7.out.trans HF.out)
      have b1 := HB9.out.cell 1 rfl
      have b2 := HB9.out.cell 2 rfl
      have z0 := HZ9.out.cell 0 rfl
      have z1 := HZ9.out.cell 1 rfl
      have z2 := HZ9.out.cell 2 rfl
      have z3 := HZ9.out.frozen 0
      have z4 := HZ9.out.frozen 1
      have z5 := HZ9.out.frozen 2
      have zl := HZ9.out.lt
      go_wp2
      refine bodyPost_ret (v := rtv (.slice A7 0 c7) nx (.slice A2 F.length c2)) (by simp [results, Try.results59, go_sem, z0, z1, z2, rtv]) rfl ⟨_, rfl, ?_, ?_⟩
      · exact Row.fr HR9.out ((((Fr.refl (At (w.heap.size + 1)) wr).setAt 0 _).setAt 1 _).setAt 2 _) (fun k hk e => Row.not_blk HR9.out HZ9.out (by decide) (by have e' : k = w.heap.size + 1 := e; subst e'; exact hk))
      · exact HF9.out.then_ ((((Fr.refl (At (w.heap.size + 1)) wr).setAt 0 _).setAt 1 _).setAt 2 _) (fun k e => .inr (by have e' : k = w.heap.size + 1 := e; omega))
theorem rGiveA_any (w : World) (v fv : Value) (nx : Int) (t : Tb) (F : List Int) (s tt : Int) (h : RT w v fv t F) (hl : t.l.length ≤ 400) :
    Calls Try.prog 59 #[rtv v nx fv, .int .i64 s, .int .i64 tt] w (TbTo w nx (giveL s tt t.l) fv) := by
  by_cases h0 : t.l = []
  · rw [h0]
    exact rGive0_any w v fv nx t F s tt h h0
  · exact rGive_any w v fv nx t F s tt h hl (List.length_pos_iff.2 h0)
/-- A table and signals. -/
def RSig (w : World) (v fv : Value) (r : Tb × List (Int × Int)) (e : Ending) (w' : World) : Prop := ∃ v' fv' F' sv, e = .returned (.tuple #[rtv v' r.1.nx fv', sv]) ∧ RT w' v' fv' r.1 F' ∧ SgR w' w.heap.size sv r.2 ∧ Fr NoB w w' ∧ (∀ k, OwnB v' k → OwnB v k ∨ w.heap.size ≤ k) ∧ (∀ k, OwnB fv' k → OwnB fv k ∨ w.heap.size ≤ k)
set_option maxHeartbeats 4000000 in
theorem rHang_any (w : World) (v fv : Value) (t : Tb) (F : List Int) (tty : Int) (h : RT w v fv t F) (hl : t.l.length ≤ 400) (hfr : frontOf t tty = t.f tty) (htt : ∀ p ∈ t.l, 0 ≤ p.tty ∧ p.tty ≤ 64) :
    Calls Try.prog 44 #[rtv v t.nx fv, .int .i64 tty] w (RSig w v fv (hangT t tty)) := by
  obtain ⟨A, c, hv, hc⟩ := h.l.shape
  obtain ⟨A2, c2, hfv, _⟩ := h.f.shape
  subst hv hfv
  have hf0 : Fr NoB w ((w.alloc (.cells #[.slice A t.l.length c, .int .i64 t.nx, .slice A2 F.length c2] 43)).alloc (.cells #[.slice none 0 0, .int .i64 0, .slice none 0 0] 43)) := ((Fr.refl _ _).alloc _).alloc _
  have hB := (Blk.new w 43 [.slice A t.l.length c, .int .i64 t.nx, .slice A2 F.length c2]).alloc (.cells #[.slice none 0 0, .int .i64 0, .slice none 0 0] 43)
  have hZ := Blk.new (w.alloc (.cells #[.slice A t.l.length c, .int .i64 t.nx, .slice A2 F.length c2] 43)) 43 [.slice none 0 0, .int .i64 0, .slice none 0 0]
  rw [World.size_alloc] at hZ
  have HB0 := hid hB
  have HZ0 := hid hZ
  have HF0 := hid hf0
  have HR0 := hid (h.frd hf0)
  have HRW := hid h
  have HL := hid hl
  clear h hf0 hB hZ
  have HSes := hid (rSes_any _ _ _ t.nx t F tty HR0.out (by have := HL.out; omega))
  unfold rtv at HSes
  by_cases hs : sesOf t.l tty = 0
  · have hr : hangT t tty = (t, []) := by unfold hangT; rw [if_pos hs]
    rw [hr]
    rw [hs] at HSes
    clear hr hs hfr htt
    unfold rtv
    go_enter Try.func44, Try.ntmps44
    go_wp2_with fail
    refine Calls.mono (HSes.out) ?_
    rintro e' w1 ⟨rfl, hfn⟩
    have HF1 := hid (HF0.out.trans hfn)
    have HR1 := hid (HR0.out.frd hfn)
    have HB1 := hid (HB0.out.fr hfn (fun h => h))
    have HZ1 := hid (HZ0.out.fr hfn (fun h => h))
    clear hfn
    have hb := HB1.out
    have hz := HZ1.out
    have b0 := hb.cell 0 rfl
    have b1 := hb.cell 1 rfl
    have b2 := hb.cell 2 rfl
    have z0 := hz.cell 0 rfl
    have z1 := hz.cell 1 rfl
    have z2 := hz.cell 2 rfl
    have y0 := hz.frozen 0
    have y1 := hz.frozen 1
    have y2 := hz.frozen 2
    have yl := hz.lt
    have bl := hb.lt
    clear hb hz
    go_wp2
    have hfz := HF1.out.then_ ((((Fr.refl (At (w.heap.size + 1)) w1).setAt 0 (.slice A t.l.length c)).setAt 1 (.int .i64 t.nx)).setAt 2 (.slice A2 F.length c2)) (fun k e => .inr (by have e' : k = w.heap.size + 1 := e; omega))
    have hne : ∀ k, OwnB (.slice A t.l.length c) k → ¬ At (w.heap.size + 1) k := fun k hk e => Row.not_blk HR1.out.l HZ1.out (by decide) (by have e' : k = w.heap.size + 1 := e; rw [← e']; exact hk)
    have hne2 : ∀ k, OwnB (.slice A2 F.length c2) k → ¬ At (w.heap.size + 1) k := fun k hk e => Row.not_blk HR1.out.f HZ1.out (by decide) (by have e' : k = w.heap.size + 1 := e; rw [← e']; exact hk)
    refine bodyPost_ret (v := .tuple #[rtv (.slice A t.l.length c) t.nx (.slice A2 F.length c2), .slice none 0 0]) (by simp [results, Try.results44, go_sem, z0, z1, z2, rtv]) rfl ⟨_, _, F, _, rfl, HR1.out.fr ((((Fr.refl (At (w.heap.size + 1)) w1).setAt 0 _).setAt 1 _).setAt 2 _) hne hne2, Row.nil _ _ _ _ _, hfz, fun k hk => .inl hk, fun k hk => .inl hk⟩
  · have hr : hangT t tty = (⟨giveL (sesOf t.l tty) 0 t.l, t.nx, fun j => if j = tty then 0 else t.f j⟩, if hasG (giveL (sesOf t.l tty) 0 t.l) (t.f tty) 0 then [(t.f tty, 4), (t.f tty, 5)] else []) := by unfold hangT; rw [if_neg hs]
    have hany : t.l.any (onTty tty) = true := by
      cases hq : t.l.any (onTty tty)
      · exact absurd (sesOf_none _ _ hq) hs
      · rfl
    obtain ⟨p, hp, hpt⟩ := List.any_eq_true.1 hany
    have hti := htt p hp
    unfold onTty at hpt
    simp only [Bool.and_eq_true, bne_iff_ne, ne_eq, beq_iff_eq] at hpt
    have ht1 : 1 ≤ tty ∧ tty ≤ 64 := by omega
    obtain ⟨j, rfl⟩ := Int.eq_ofNat_of_zero_le (show 0 ≤ tty by omega)
    have hj : j < 65 := by omega
    rw [hr]
    have HFo := hid fun W (hW : Fr NoB w W) => rFront_any W _ _ t.nx t F j (HRW.out.frd hW)
    rw [hfr] at HFo
    unfold rtv at HFo
    clear hr hany hp hti hpt ht1 hfr htt p
    obtain ⟨s, hse⟩ : ∃ s, s = sesOf t.l (j : Int) := ⟨_, rfl⟩
    rw [← hse] at HSes hs ⊢
    obtain ⟨fr, hfre⟩ : ∃ fr, fr = t.f (j : Int) := ⟨_, rfl⟩
    rw [← hfre] at HFo ⊢
    clear hse hfre
    have HHas := hid fun (W : World) (v3 : Value) (fv4 : Value) (nx : Int) (F' : List Int) (f' : Int → Int) (hW : RT W v3 fv4 ⟨giveL s 0 t.l, nx, f'⟩ F') => rHas_any W v3 fv4 t.nx ⟨giveL s 0 t.l, nx, f'⟩ F' fr 0 hW (by show (giveL s 0 t.l).length ≤ _; rw [giveL_len]; have := HL.out; omega)
    unfold rtv at HHas
    cases hg : hasG (giveL s 0 t.l) fr 0
    · simp only [hg] at HHas
      rw [if_neg (by decide)]
      clear hg
      unfold rtv
      go_enter Try.func44, Try.ntmps44
      go_wp2_with fail
      refine Calls.mono (HSes.out) ?_
      rintro e' w1 ⟨rfl, hfn⟩
      have HF1 := hid (HF0.out.trans hfn)
      have HR1 := hid (HR0.out.frd hfn)
      have HB1 := hid (HB0.out.fr hfn (fun h => h))
      have HZ1 := hid (HZ0.out.fr hfn (fun h => h))
      clear hfn
      have hb := HB1.out
      have hz := HZ1.out
      have b0 := hb.cell 0 rfl
      have b1 := hb.cell 1 rfl
      have b2 := hb.cell 2 rfl
      have z0 := hz.cell 0 rfl
      have z1 := hz.cell 1 rfl
      have z2 := hz.cell 2 rfl
      have y0 := hz.frozen 0
      have y1 := hz.frozen 1
      have y2 := hz.frozen 2
      have yl := hz.lt
      have bl := hb.lt
      clear hb hz
      go_wp2_with fail
      clear b0 b1 b2 z0 z1 z2 y0 y1 y2 yl bl
      refine Calls.mono (HFo.out _ HF1.out) ?_
      rintro e' w2 ⟨rfl, hfn⟩
      have HF2 := hid (HF1.out.trans hfn)
      have HR2 := hid (HR1.out.frd hfn)
      have HB2 := hid (HB1.out.fr hfn (fun h => h))
      have HZ2 := hid (HZ1.out.fr hfn (fun h => h))
      clear hfn
      have hb := HB2.out
      have hz := HZ2.out
      have b0 := hb.cell 0 rfl
      have b1 := hb.cell 1 rfl
      have b2 := hb.cell 2 rfl
      have z0 := hz.cell 0 rfl
      have z1 := hz.cell 1 rfl
      have z2 := hz.cell 2 rfl
      have y0 := hz.frozen 0
      have y1 := hz.frozen 1
      have y2 := hz.frozen 2
      have yl := hz.lt
      have bl := hb.lt
      clear hb hz
      go_wp2_with fail
      refine Calls.mono (rGiveA_any _ _ _ t.nx t F s 0 HR2.out HL.out) ?_
      rintro e' w3 ⟨v3, rfl, hr3, hf3⟩
      obtain ⟨A3, c3, hv3, _⟩ := hr3.shape
      rw [giveL_len] at hv3
      subst hv3
      have HF3 := hid (HF2.out.trans hf3)
      have HR3 := hid (HR2.out.up hr3 hf3 t.nx)
      have HV3 := hid hr3.ge
      have HSZ := hid HF2.out.size
      have HB3 := hid (HB2.out.fr hf3 (fun h => h))
      have HZ3 := hid (HZ2.out.fr hf3 (fun h => h))
      unfold rtv
      clear b0 b1 b2 z0 z1 z2 y0 y1 y2 yl bl
      clear hr3 hf3
      go_wp2_with fail
      refine Calls.mono (rFr_any _ _ _ t.nx ⟨giveL s 0 t.l, t.nx, t.f⟩ F j 0 HR3.out hj) ?_
      rintro e' w4 ⟨fv4, rfl, hr4, hf4⟩
      obtain ⟨A4, c4, hv4, _⟩ := hr4.shape
      rw [List.length_set] at hv4
      subst hv4
      have HF4 := hid (HF3.out.trans hf4)
      have HR4 := hid (HR3.out.setF hr4 hf4 hj)
      have HV4 := hid hr4.ge
      have HSZ2 := hid HF3.out.size
      have HB4 := hid (HB3.out.fr hf4 (fun h => h))
      have HZ4 := hid (HZ3.out.fr hf4 (fun h => h))
      have HN4 := hid (Blk.new w4 43 [.slice A3 t.l.length c3, .int .i64 t.nx, .slice A4 F.length c4])
      have HFN := hid ((Fr.refl NoB w4).alloc (.cells #[.slice A3 t.l.length c3, .int .i64 t.nx, .slice A4 F.length c4] 43))
      unfold rtv
      clear hr4 hf4
      go_wp2_with fail
      refine Calls.mono (HHas.out _ _ _ _ _ _ (HR4.out.frd HFN.out)) ?_
      rintro e' w5 ⟨rfl, hf5⟩
      have hfn := HFN.out.trans hf5
      have HF5 := hid (HF4.out.trans hfn)
      have HR5 := hid (HR4.out.frd hfn)
      have HZ5 := hid (HZ4.out.fr hfn (fun h => h))
      have hn := HN4.out.fr hf5 (fun h => h)
      have n0 := hn.cell 0 rfl
      have n1 := hn.cell 1 rfl
      have n2 := hn.cell 2 rfl
      have hz := HZ5.out
      have z0 := hz.cell 0 rfl
      have z1 := hz.cell 1 rfl
      have z2 := hz.cell 2 rfl
      have y0 := hz.frozen 0
      have y1 := hz.frozen 1
      have y2 := hz.frozen 2
      have yl := hz.lt
      clear hz
      clear hf5 hfn hn
      go_wp2
      have hfz := HF5.out.then_ ((((Fr.refl (At (w.heap.size + 1)) w5).setAt 0 (.slice A3 t.l.length c3)).setAt 1 (.int .i64 t.nx)).setAt 2 (.slice A4 F.length c4)) (fun k e => .inr (by have e' : k = w.heap.size + 1 := e; omega))
      have hne : ∀ k, OwnB (.slice A3 t.l.length c3) k → ¬ At (w.heap.size + 1) k := fun k hk e => Row.not_blk HR5.out.l HZ5.out (by decide) (by have e' : k = w.heap.size + 1 := e; rw [← e']; exact hk)
      have hne2 : ∀ k, OwnB (.slice A4 F.length c4) k → ¬ At (w.heap.size + 1) k := fun k hk e => Row.not_blk HR5.out.f HZ5.out (by decide) (by have e' : k = w.heap.size + 1 := e; rw [← e']; exact hk)
      refine bodyPost_ret (v := .tuple #[rtv (.slice A3 t.l.length c3) t.nx (.slice A4 F.length c4), (.slice none 0 0)]) (by simp [results, Try.results44, go_sem, z0, z1, z2, rtv]) rfl ⟨_, _, _, _, rfl, HR5.out.fr ((((Fr.refl (At (w.heap.size + 1)) w5).setAt 0 _).setAt 1 _).setAt 2 _) hne hne2, (Row.nil _ _ _ _ _), hfz, fun k hk => .inr (Nat.le_trans HSZ.out (HV3.out k hk)), fun k hk => .inr (Nat.le_trans HSZ2.out (HV4.out k hk))⟩
    · simp only [hg] at HHas
      rw [if_pos rfl]
      clear hg
      unfold rtv
      go_enter Try.func44, Try.ntmps44
      go_wp2_with fail
      refine Calls.mono (HSes.out) ?_
      rintro e' w1 ⟨rfl, hfn⟩
      have HF1 := hid (HF0.out.trans hfn)
      have HR1 := hid (HR0.out.frd hfn)
      have HB1 := hid (HB0.out.fr hfn (fun h => h))
      have HZ1 := hid (HZ0.out.fr hfn (fun h => h))
      clear hfn
      have hb := HB1.out
      have hz := HZ1.out
      have b0 := hb.cell 0 rfl
      have b1 := hb.cell 1 rfl
      have b2 := hb.cell 2 rfl
      have z0 := hz.cell 0 rfl
      have z1 := hz.cell 1 rfl
      have z2 := hz.cell 2 rfl
      have y0 := hz.frozen 0
      have y1 := hz.frozen 1
      have y2 := hz.frozen 2
      have yl := hz.lt
      have bl := hb.lt
      clear hb hz
      go_wp2_with fail
      clear b0 b1 b2 z0 z1 z2 y0 y1 y2 yl bl
      refine Calls.mono (HFo.out _ HF1.out) ?_
      rintro e' w2 ⟨rfl, hfn⟩
      have HF2 := hid (HF1.out.trans hfn)
      have HR2 := hid (HR1.out.frd hfn)
      have HB2 := hid (HB1.out.fr hfn (fun h => h))
      have HZ2 := hid (HZ1.out.fr hfn (fun h => h))
      clear hfn
      have hb := HB2.out
      have hz := HZ2.out
      have b0 := hb.cell 0 rfl
      have b1 := hb.cell 1 rfl
      have b2 := hb.cell 2 rfl
      have z0 := hz.cell 0 rfl
      have z1 := hz.cell 1 rfl
      have z2 := hz.cell 2 rfl
      have y0 := hz.frozen 0
      have y1 := hz.frozen 1
      have y2 := hz.frozen 2
      have yl := hz.lt
      have bl := hb.lt
      clear hb hz
      go_wp2_with fail
      refine Calls.mono (rGiveA_any _ _ _ t.nx t F s 0 HR2.out HL.out) ?_
      rintro e' w3 ⟨v3, rfl, hr3, hf3⟩
      obtain ⟨A3, c3, hv3, _⟩ := hr3.shape
      rw [giveL_len] at hv3
      subst hv3
      have HF3 := hid (HF2.out.trans hf3)
      have HR3 := hid (HR2.out.up hr3 hf3 t.nx)
      have HV3 := hid hr3.ge
      have HSZ := hid HF2.out.size
      have HB3 := hid (HB2.out.fr hf3 (fun h => h))
      have HZ3 := hid (HZ2.out.fr hf3 (fun h => h))
      unfold rtv
      clear b0 b1 b2 z0 z1 z2 y0 y1 y2 yl bl
      clear hr3 hf3
      go_wp2_with fail
      refine Calls.mono (rFr_any _ _ _ t.nx ⟨giveL s 0 t.l, t.nx, t.f⟩ F j 0 HR3.out hj) ?_
      rintro e' w4 ⟨fv4, rfl, hr4, hf4⟩
      obtain ⟨A4, c4, hv4, _⟩ := hr4.shape
      rw [List.length_set] at hv4
      subst hv4
      have HF4 := hid (HF3.out.trans hf4)
      have HR4 := hid (HR3.out.setF hr4 hf4 hj)
      have HV4 := hid hr4.ge
      have HSZ2 := hid HF3.out.size
      have HB4 := hid (HB3.out.fr hf4 (fun h => h))
      have HZ4 := hid (HZ3.out.fr hf4 (fun h => h))
      have HN4 := hid (Blk.new w4 43 [.slice A3 t.l.length c3, .int .i64 t.nx, .slice A4 F.length c4])
      have HFN := hid ((Fr.refl NoB w4).alloc (.cells #[.slice A3 t.l.length c3, .int .i64 t.nx, .slice A4 F.length c4] 43))
      unfold rtv
      clear hr4 hf4
      go_wp2_with fail
      refine Calls.mono (HHas.out _ _ _ _ _ _ (HR4.out.frd HFN.out)) ?_
      rintro e' w5 ⟨rfl, hf5⟩
      have hfn := HFN.out.trans hf5
      have HF5 := hid (HF4.out.trans hfn)
      have HR5 := hid (HR4.out.frd hfn)
      have HZ5 := hid (HZ4.out.fr hfn (fun h => h))
      have hn := HN4.out.fr hf5 (fun h => h)
      have n0 := hn.cell 0 rfl
      have n1 := hn.cell 1 rfl
      have n2 := hn.cell 2 rfl
      have hz := HZ5.out
      have z0 := hz.cell 0 rfl
      have z1 := hz.cell 1 rfl
      have z2 := hz.cell 2 rfl
      have y0 := hz.frozen 0
      have y1 := hz.frozen 1
      have y2 := hz.frozen 2
      have yl := hz.lt
      clear hz
      clear hf5 hfn hn
      go_wp2
      have hfz := HF5.out.then_ ((((Fr.refl (At (w.heap.size + 1)) w5).setAt 0 (.slice A3 t.l.length c3)).setAt 1 (.int .i64 t.nx)).setAt 2 (.slice A4 F.length c4)) (fun k e => .inr (by have e' : k = w.heap.size + 1 := e; omega))
      have hne : ∀ k, OwnB (.slice A3 t.l.length c3) k → ¬ At (w.heap.size + 1) k := fun k hk e => Row.not_blk HR5.out.l HZ5.out (by decide) (by have e' : k = w.heap.size + 1 := e; rw [← e']; exact hk)
      have hne2 : ∀ k, OwnB (.slice A4 F.length c4) k → ¬ At (w.heap.size + 1) k := fun k hk e => Row.not_blk HR5.out.f HZ5.out (by decide) (by have e' : k = w.heap.size + 1 := e; rw [← e']; exact hk)
      have hzf := (((HZ5.out.set 0 (.slice A3 t.l.length c3)).set 1 (.int .i64 t.nx)).set 2 (.slice A4 F.length c4)).alloc (.cells #[.int .i64 fr, .int .i64 4, .int .i64 fr, .int .i64 5] 37)
      have r0 := hzf.cell 0 rfl
      have r1 := hzf.cell 1 rfl
      have r2 := hzf.cell 2 rfl
      refine bodyPost_ret (v := .tuple #[rtv (.slice A3 t.l.length c3) t.nx (.slice A4 F.length c4), .slice (some ⟨w5.heap.size, 0, none⟩) 2 2]) (by simp [results, Try.results44, go_sem, r0, r1, r2, rtv]) rfl ⟨_, _, _, _, rfl, (HR5.out.fr ((((Fr.refl (At (w.heap.size + 1)) w5).setAt 0 _).setAt 1 _).setAt 2 _) hne hne2).frd ((Fr.refl NoB _).alloc _), ?_, hfz.alloc _, fun k hk => .inr (Nat.le_trans HSZ.out (HV3.out k hk)), fun k hk => .inr (Nat.le_trans HSZ2.out (HV4.out k hk))⟩
      have ht := SgR.two (fr, 4) (fr, 5) hfz.size
      simp only [World.size_setCell] at ht
      exact ht
end Go.Proofs.Ytlagakcpjmjdfaa
