import Derived.Test.YtlagakcpjmjdfaaB16
set_option linter.unusedSimpArgs false
set_option linter.unusedVariables false
set_option maxRecDepth 20000
namespace Go.Proofs.Ytlagakcpjmjdfaa
open Go.RowKit Go.Proofs.YtlagakcpjmjdfaaW.PrintWords
theorem get_cases (t : Tb) (pid : Int) : (getT t pid = (⟨0, 0, 0, 0, 0, false⟩, false) ∧ ixP (isPid pid) t.l = -1) ∨ ∃ (i : Nat) (hi : i < t.l.length), getT t pid = (t.l[i], true) ∧ ixP (isPid pid) t.l = i := by
  rcases at_cases t.l pid with ⟨h1, h2⟩ | ⟨i, hi, h1, h2, _⟩
  · exact .inl ⟨by unfold getT; rw [h2], h1⟩
  · exact .inr ⟨i, hi, by unfold getT; rw [h2], h1⟩
theorem mayT_len (t : Tb) (pid tty : Int) (wr ts : Bool) : (mayT t pid tty wr ts).2.length ≤ 1 := by
  unfold mayT
  repeat' split
  all_goals simp
set_option maxHeartbeats 16000000 in
theorem plays_walk (A : Option Addr) (c : Nat) (l : List AcT) (write tostop : Bool) (w : World) (hV : AV w A l) (hlc : l.length ≤ c) :
    Calls Try.prog 6 #[.slice A l.length c, .bool write, .bool tostop] w fun e w' => e = .returned (.bool true) ∧ Below w.heap.size w w' := by
  by_cases hbig : l.length > 60
  · go_enter Try.func6, Try.ntmps6
    go_wp2_with fail
    refine (pAwake_any w).mono ?_
    rintro e' w8 ⟨rfl, hf⟩
    go_wp2
    go_ret
    exact ⟨rfl, hf.below0⟩
  have hl : l.length ≤ 60 := by omega
  have hb40 : decide ((l.length : Int) > 60) = false := by simp; omega
  clear hbig
  have HV := hid hV
  clear hV
  go_enter Try.func6, Try.ntmps6
  go_wp2_with fail
  refine (pNew_any w).mono ?_
  rintro e' w1 ⟨tb, S1, rfl, ht, hf1, hs1⟩
  have HT1 := hid ht
  have HF1 := hid hf1
  have HS1 := hid hs1
  clear ht hf1 hs1
  go_wp2_with fail
  refine (rNew_any w1).mono ?_
  rintro e' w2 ⟨v2, fv2, F2, rfl, hr, hf2, hv, hfv⟩
  obtain ⟨A2, c2, hv2, _⟩ := hr.l.shape
  obtain ⟨A3, c3, hfv2, _⟩ := hr.f.shape
  have hls := LS.new HT1.out HF1.out HS1.out hr hf2 hv hfv
  have hnx : newT.nx = 2 := rfl
  have hnl : newT.l.length = 1 := rfl
  rw [hnl] at hv2
  subst hv2 hfv2
  obtain ⟨S, hls⟩ := hls
  obtain ⟨xb, hxb⟩ : ∃ xb, xb = w2.heap.size := ⟨_, rfl⟩
  rw [← hxb] at hls
  have HXB := hid hxb
  have HLS := hid hls
  clear hr hf2 hv hfv hls hnx hnl HT1 HF1 HS1 hxb
  unfold rtv
  go_wp2
  rw [← HXB.out]
  go_loopw [9] (fun v9 wr => ∃ (k : Nat) (S : Nat → Prop) (t : Tb) (n : Nat) (v fv : Value) (F : List Int), k ≤ l.length ∧ v9 = .int .i64 k ∧ Hid (LS w wr tb xb k S t n v fv F)) (fun v9 _ => l.length - (intOf v9).toNat)
  case atStart => exact ⟨0, S, newT, 0, _, _, F2, Nat.zero_le _, rfl, HLS.out⟩
  case round =>
    clear HLS
    obtain ⟨k, S, t, n, v, fv, F, hk, rfl, HQ⟩ := hrel
    by_cases hkl : k < l.length
    · skip
      have hz := HQ.out.dx.rt
      obtain ⟨Av, cv, hvv, _⟩ := hz.l.shape
      obtain ⟨Af, cf, hff, _⟩ := hz.f.shape
      subst hvv hff
      clear hz
      obtain ⟨ad, rfl, hadb, a0, a1, a2, a3, a4, a5⟩ := HV.out.cells HQ.out.dx.fr k hkl
      have hbx := HQ.out.bx
      have b0 := hbx.cell 0 rfl
      have b1 := hbx.cell 1 rfl
      have b2 := hbx.cell 2 rfl
      clear hbx
      have hdo := fun W (hW : Fr NoB wr W) => lDo_any w W l[k] tb n S t _ _ F (HQ.out.dx.frd hW) HQ.out.inv (by have := HQ.out.len; omega) (by have := HQ.out.nx; omega) (by have := HQ.out.nn; omega) (HV.out.2 _ (List.getElem_mem hkl)).1 (HV.out.2 _ (List.getElem_mem hkl)).2
      unfold rtv AcT.v at hdo
      have HDO := hid hdo
      clear hdo
      have ham : l[k] ∈ l := List.getElem_mem hkl
      generalize hack : l[k] = a at *
      clear hack
      have HBA : Hid (∀ W, Fr S (wr.alloc (.cells #[.int .i64 a.d, .int .i64 a.pid, .int .i64 a.who, .int .i64 a.grp, .int .i64 a.tty, .bool a.deaf] 48)) W → Blk W wr.heap.size 48 a.cells) := hid fun W hW => (Blk.new wr 48 a.cells).fr hW (fun e => Nat.lt_irrefl _ (HQ.out.dx.hi _ e))
      have al0 : wr.heap.size < wr.heap.size + 1 := Nat.lt_succ_self _
      have xlw : xb < wr.heap.size := HQ.out.bx.lt
      go_wp2_with fail
      refine (HDO.out _ ((Fr.refl NoB wr).alloc _)).mono ?_
      rintro e' w4 ⟨S4, v4, fv4, F4, rfl, hdx, hfs, hss⟩
      obtain ⟨Av4, cv4, hv4, _⟩ := hdx.rt.l.shape
      obtain ⟨Af4, cf4, hf4, _⟩ := hdx.rt.f.shape
      subst hv4 hf4
      unfold rtv
      have HDX := hid hdx
      have HFS := hid hfs
      have hss5 : ∀ k, S4 k → S k ∨ wr.heap.size ≤ k := fun k hk => (hss k hk).imp id (fun h => Nat.le_trans ((Fr.refl NoB wr).alloc (.cells #[.int .i64 a.d, .int .i64 a.pid, .int .i64 a.who, .int .i64 a.grp, .int .i64 a.tty, .bool a.deaf] 48)).size h)
      have hssa : ¬ S4 wr.heap.size := fun e => by
        rcases hss _ e with e | e
        · exact Nat.lt_irrefl _ (HQ.out.dx.hi _ e)
        · rw [World.size_alloc] at e; omega
      have HSS5 := hid hss5
      have HSSA := hid hssa
      have HFW : Hid (Fr S wr w4) := hid (((Fr.refl S wr).alloc _).trans hfs)
      clear hdx hfs hss hss5 hssa
      go_upto_region 9 with (fail)
      generalize hw5 : World.alloc w4 _ = w5
      have hfn : Fr NoB w4 w5 := by rw [← hw5]; exact (Fr.refl NoB w4).alloc _
      have hy5 : Blk w5 w4.heap.size 43 [.slice Av4 (stepT t a).l.length cv4, .int .i64 (stepT t a).nx, .slice Af4 F4.length cf4] := by rw [← hw5]; exact Blk.new w4 43 _
      have HDX5 := hid (HDX.out.frd hfn)
      have HFW5 := hid (HFW.out.trans (hfn.mono (fun _ h => h.elim)))
      have HY5 := hid hy5
      have HBA5 := hid ((HBA.out _ HFS.out).fr hfn (fun h => h))
      have hyx : w4.heap.size ≠ xb := fun e => by have := (HQ.out.bx.fr HFW.out HQ.out.xs).lt; omega
      have HYX := hid hyx
      clear hw5 hfn hy5 hyx
      have hy := HY5.out
      have n0 := hy.cell 0 rfl
      have n1 := hy.cell 1 rfl
      have n2 := hy.cell 2 rfl
      have hx := HQ.out.bx.fr HFW5.out HQ.out.xs
      have x0 := hx.cell 0 rfl
      have x1 := hx.cell 1 rfl
      have x2 := hx.cell 2 rfl
      have y0 := hx.frozen 0
      have y1 := hx.frozen 1
      have y2 := hx.frozen 2
      have yl := hx.lt
      have HN := hid (HQ.out.next (Fr.refl NoB wr) HDX5.out HFW5.out HSS5.out)
      clear hy hx a0 a1 a2 a3 a4 a5 b0 b1 b2
      go_upto_region 10 with (fail)
      generalize hw6 : World.setCell (World.setCell (World.setCell w5 _ _) _ _) _ _ = w6
      have hfa : Fr (At xb) w5 w6 := by rw [← hw6]; exact (((Fr.refl (At xb) w5).setAt 0 _).setAt 1 _).setAt 2 _
      have HN6 : Hid (LS w w6 tb xb (k + 1) S4 (stepT t a) (n + 1) (.slice Av4 (stepT t a).l.length cv4) (.slice Af4 F4.length cf4) F4) := hid (by rw [← hw6]; exact HN.out)
      have HBA6 := hid (HBA5.out.fr hfa (fun e => by have e' : wr.heap.size = xb := e; omega))
      clear hw6 hfa n0 n1 n2 x0 x1 x2 y0 y1 y2 yl HN HBA5
      have HJ := hid (HV.out.2 a ham).2
      have hTl : (stepT t a).l.length ≤ 200 := by have := HN6.out.len; omega
      have HTl := hid hTl
      have HInv := hid HN6.out.inv
      have HFo := hid (HN6.out.inv.front a.tty)
      clear hTl
      generalize stepT t a = T at *
      have hgt := fun W (hW : Fr NoB w6 W) => pGet_any W tb (n + 1) S4 T a.pid (HN6.out.dx.tab.frd hW) (by have := HTl.out; omega)
      have hat := fun W (hW : Fr NoB w6 W) => rAt_any W _ _ T.nx T F4 a.pid (HN6.out.dx.rt.frd hW) (by have := HTl.out; omega)
      unfold rtv at hat
      rcases get_cases T a.pid with ⟨g1, g2⟩ | ⟨i, hi, g1, g2⟩
      · rw [g1] at hgt
        rw [g2] at hat
        have HGt := hid hgt
        have HAt := hid hat
        clear hgt hat g1 g2
        have hb := HBA6.out
        have a1 := hb.cell 1 rfl
        have a3 := hb.cell 3 rfl
        have a4 := hb.cell 4 rfl
        have al := hb.lt
        have hx := HN6.out.bx
        have b0 := hx.cell 0 rfl
        have b1 := hx.cell 1 rfl
        have b2 := hx.cell 2 rfl
        have bl := hx.lt
        clear hb hx
        have hm1 := pMay_any w6 tb (n + 1) S4 T a.pid a.tty write tostop HN6.out.dx.tab (by have := HTl.out; omega) HJ.out
        have hm2 := fun W (hW : Fr NoB w6 W) => rMay_any W _ _ T F4 a.pid a.tty write tostop (HN6.out.dx.rt.frd hW) (by have := HTl.out; omega) HFo.out
        have hml : (mayT T a.pid a.tty write tostop).2.length ≤ 1 := mayT_len ..
        generalize mayT T a.pid a.tty write tostop = mr at hm1 hm2 hml
        obtain ⟨mn, ms⟩ := mr
        have HM1 := hid hm1
        have HM2 := hid hm2
        have HML := hid hml
        clear hm1 hm2 hml
        unfold rtv at HM2
        go_wp2_with fail
        refine HM1.out.mono ?_
        rintro e' w7 ⟨sv1, rfl, hs1, hf7⟩
        have HS1 := hid hs1
        have HF7 := hid hf7
        have HN7 := hid (HN6.out.frd hf7)
        have HBA7 := hid (HBA6.out.fr hf7 (fun h => h))
        clear hs1 hf7
        clear a1 a3 a4 al b0 b1 b2 bl
        have hb := HBA7.out
        have a1 := hb.cell 1 rfl
        have a3 := hb.cell 3 rfl
        have a4 := hb.cell 4 rfl
        have al := hb.lt
        have hx := HN7.out.bx
        have b0 := hx.cell 0 rfl
        have b1 := hx.cell 1 rfl
        have b2 := hx.cell 2 rfl
        have bl := hx.lt
        clear hb hx
        go_wp2_with fail
        refine (HM2.out _ HF7.out).mono ?_
        rintro e' w8 ⟨sv2, rfl, hs2, hf8⟩
        have HS2 := hid hs2
        have HS1' := hid (Row.fr HS1.out hf8 (fun _ _ h => h))
        have HF8 := hid (HF7.out.trans hf8)
        have HN8 := hid (HN7.out.frd hf8)
        have HBA8 := hid (HBA7.out.fr hf8 (fun h => h))
        clear hs2 hf8
        clear a1 a3 a4 al b0 b1 b2 bl
        have hb := HBA8.out
        have a1 := hb.cell 1 rfl
        have a3 := hb.cell 3 rfl
        have a4 := hb.cell 4 rfl
        have al := hb.lt
        have hx := HN8.out.bx
        have b0 := hx.cell 0 rfl
        have b1 := hx.cell 1 rfl
        have b2 := hx.cell 2 rfl
        have bl := hx.lt
        clear hb hx
        go_wp2_with fail
        refine (HGt.out _ HF8.out).mono ?_
        rintro e' w9 ⟨rfl, hf9⟩
        have HF9 := hid (HF8.out.trans hf9)
        have HS1n := hid (Row.fr HS1'.out hf9 (fun _ _ h => h))
        have HS2n := hid (Row.fr HS2.out hf9 (fun _ _ h => h))
        have HN9 := hid (HN8.out.frd hf9)
        have HBA9 := hid (HBA8.out.fr hf9 (fun h => h))
        clear hf9
        clear a1 a3 a4 al b0 b1 b2 bl
        unfold Pr.v
        go_upto_region 15 with (fail)
        generalize hwa : World.alloc w9 _ = wa
        have hfn : Fr NoB w9 wa := by rw [← hwa]; exact (Fr.refl NoB w9).alloc _
        have HPa : Hid (Blk wa w9.heap.size 51 (⟨0, 0, 0, 0, 0, false⟩ : Pr).cells) := hid (by rw [← hwa]; exact Blk.new w9 51 (⟨0, 0, 0, 0, 0, false⟩ : Pr).cells)
        have HFa := hid (HF9.out.trans hfn)
        have HNa := hid (HN9.out.frd hfn)
        have HBAa := hid (HBA9.out.fr hfn (fun h => h))
        have HS1a := hid (Row.fr HS1n.out hfn (fun _ _ h => h))
        have HS2a := hid (Row.fr HS2n.out hfn (fun _ _ h => h))
        clear hfn hwa
        have hb := HBAa.out
        have a1 := hb.cell 1 rfl
        have a3 := hb.cell 3 rfl
        have a4 := hb.cell 4 rfl
        have al := hb.lt
        have hx := HNa.out.bx
        have b0 := hx.cell 0 rfl
        have b1 := hx.cell 1 rfl
        have b2 := hx.cell 2 rfl
        have bl := hx.lt
        clear hb hx
        go_wp2_with fail
        refine (HAt.out _ HFa.out).mono ?_
        rintro e' wb ⟨rfl, hfb⟩
        have HFb := hid (HFa.out.trans hfb)
        have HPb := hid (HPa.out.fr hfb (fun h => h))
        have HNb := hid (HNa.out.frd hfb)
        have HBAb := hid (HBAa.out.fr hfb (fun h => h))
        have HS1b := hid (Row.fr HS1a.out hfb (fun _ _ h => h))
        have HS2b := hid (Row.fr HS2a.out hfb (fun _ _ h => h))
        clear hfb
        clear a1 a3 a4 al b0 b1 b2 bl
        go_upto_region 16 with (fail)
        have hor := fun W (hW : Fr NoB wb W) => rOrph_any W _ _ T.nx T F4 a.grp (HNb.out.dx.rt.frd hW) (Nat.le_trans HTl.out (by decide))
        have hfr := fun W (hW : Fr NoB wb W) => rFront_any W _ _ T.nx T F4 a.tty (HNb.out.dx.rt.frd hW)
        rw [HFo.out] at hfr
        unfold rtv at hor hfr
        have HOr := hid hor
        have HFR := hid hfr
        clear hor hfr
        have HSv : Hid (∀ W, Fr NoB wb W → W.cell? ⟨wr.heap.size, 3, none⟩ = some (.int .i64 a.grp) ∧ W.cell? ⟨wr.heap.size, 4, none⟩ = some (.int .i64 a.tty) ∧ W.cell? ⟨xb, 0, none⟩ = some (.slice Av4 T.l.length cv4) ∧ W.cell? ⟨xb, 1, none⟩ = some (.int .i64 T.nx) ∧ W.cell? ⟨xb, 2, none⟩ = some (.slice Af4 F4.length cf4)) := hid fun W hW => by
          have h1 := HBAb.out.fr hW (fun h => h)
          have h2 := HNb.out.bx.fr hW (fun h => h)
          exact ⟨h1.cell 3 rfl, h1.cell 4 rfl, h2.cell 0 rfl, h2.cell 1 rfl, h2.cell 2 rfl⟩
        refine wp_region_held_drew (S := (fun W : World => W.cell? ⟨wr.heap.size, 3, none⟩ = some (.int .i64 a.grp) ∧ W.cell? ⟨wr.heap.size, 4, none⟩ = some (.int .i64 a.tty) ∧ W.cell? ⟨xb, 0, none⟩ = some (.slice Av4 T.l.length cv4) ∧ W.cell? ⟨xb, 1, none⟩ = some (.int .i64 T.nx) ∧ W.cell? ⟨xb, 2, none⟩ = some (.slice Af4 F4.length cf4))) (by kernel_rfl) (HSv.out _ (Fr.refl NoB wb).drew) (fun hHeld => ?_)
        refine wpAnyH_take (i := 0) (oi := { dst := some 79, op := Op.move (Operand.tmp 13), type := 3, pos := "law.go:82", after := #[], guard := none }) (v := ?vpa1) rfl (by kernel_rfl) (by kernel_rfl) (by kernel_rfl) (fun _ _ _ h => h) (Or.inl ⟨by rfl, ?hypa1⟩) (by assumption) ?rpa1
        case hypa1 => (intro w hSw; (try dsimp only at hSw); go_simp; try (with_reducible rfl))
        try simp only [Act.put, List.setIfInBounds_toArray, List.set_cons_zero, List.set_cons_succ]
        refine wpAnyH_take (i := 1) (oi := { dst := some 80, op := Op.move (Operand.tmp 15), type := 3, pos := "law.go:82", after := #[], guard := none }) (v := ?vpa2) rfl (by kernel_rfl) (by kernel_rfl) (by kernel_rfl) (fun _ _ _ h => h) (Or.inl ⟨by rfl, ?hypa2⟩) (by assumption) ?rpa2
        case hypa2 => (intro w hSw; (try dsimp only at hSw); go_simp; try (with_reducible rfl))
        try simp only [Act.put, List.setIfInBounds_toArray, List.set_cons_zero, List.set_cons_succ]
        refine wpAnyH_take (i := 2) (oi := { dst := some 81, op := Op.binOp BinOp.neq 3 (Operand.tmp 79) (Operand.tmp 80) 3, type := 4, pos := "law.go:82", after := #[{ on := 0, ground := Ground.data }, { on := 1, ground := Ground.data }], guard := none }) (v := ?vpa3) rfl (by kernel_rfl) (by kernel_rfl) (by kernel_rfl) (fun _ _ _ h => h) (Or.inl ⟨by rfl, ?hypa3⟩) (by assumption) ?rpa3
        case hypa3 => (intro w hSw; (try dsimp only at hSw); go_simp; try (with_reducible rfl))
        try simp only [Act.put, List.setIfInBounds_toArray, List.set_cons_zero, List.set_cons_succ]
        refine wpAnyH_take (i := 3) (oi := { dst := some 82, op := Op.move (Operand.tmp 81), type := 4, pos := "law.go:82", after := #[{ on := 2, ground := Ground.data }], guard := none }) (v := ?vpa4) rfl (by kernel_rfl) (by kernel_rfl) (by kernel_rfl) (fun _ _ _ h => h) (Or.inl ⟨by rfl, ?hypa4⟩) (by assumption) ?rpa4
        case hypa4 => (intro w hSw; (try dsimp only at hSw); go_simp; try (with_reducible rfl))
        try simp only [Act.put, List.setIfInBounds_toArray, List.set_cons_zero, List.set_cons_succ]
        refine wpAnyH_take (i := 4) (oi := { dst := some 83, op := Op.move (Operand.tmp 14), type := 31, pos := "law.go:82", after := #[{ on := 3, ground := Ground.guard }], guard := some (3, false) }) (v := ?vpa5) rfl (by kernel_rfl) (by kernel_rfl) (by kernel_rfl) (fun _ _ _ h => h) (Or.inl ⟨by rfl, ?hypa5⟩) (by assumption) ?rpa5
        case hypa5 => (intro w hSw; (try dsimp only at hSw); go_simp; try (with_reducible rfl))
        try simp only [Act.put, List.setIfInBounds_toArray, List.set_cons_zero, List.set_cons_succ]
        refine wpAnyH_take (i := 5) (oi := { dst := some 84, op := Op.move (Operand.tmp 16), type := 31, pos := "law.go:82", after := #[{ on := 3, ground := Ground.guard }], guard := some (3, false) }) (v := ?vpa6) rfl (by kernel_rfl) (by kernel_rfl) (by kernel_rfl) (fun _ _ _ h => h) (Or.inl ⟨by rfl, ?hypa6⟩) (by assumption) ?rpa6
        case hypa6 => (intro w hSw; (try dsimp only at hSw); go_simp; try (with_reducible rfl))
        try simp only [Act.put, List.setIfInBounds_toArray, List.set_cons_zero, List.set_cons_succ]
        refine wpAnyH_ready (rs := [6]) (by kernel_rfl) (by simp) ?_
        refine AllReadyH.cons (o := { dst := some 85, op := Op.call { callee := Callee.value (Operand.func 23), args := #[Operand.tmp 83, Operand.tmp 84], argTypes := #[31, 31] }, type := 4, pos := "law.go:82", after := #[{ on := 4, ground := Ground.data }, { on := 5, ground := Ground.data }, { on := 3, ground := Ground.chain }, { on := 3, ground := Ground.guard }], guard := some (3, false) }) rfl (fun K hK => ?_) AllReadyH.nil
        go_simp
        refine Calls.mono (rSame_any _ _ _ _ _ ms (Row.fr HS1b.out (Fr.refl NoB wb).drew (fun _ _ h => h)) (Row.fr HS2b.out (Fr.refl NoB wb).drew (fun _ _ h => h)) (Nat.le_trans HML.out (by decide))) ?_
        rintro e' wc ⟨rfl, hfc⟩
        have HFC := hid ((Fr.refl NoB wb).drew.trans hfc)
        clear hHeld hfc
        go_wp2_with fail
        refine hK.out _ _ (HSv.out _ HFC.out) (fun hHeld => ?_)
        clear hK K
        try simp only [Act.put, List.setIfInBounds_toArray, List.set_cons_zero, List.set_cons_succ]
        refine wpAnyH_take (i := 7) (oi := { dst := some 86, op := Op.unOp UnOp.not 4 (Operand.tmp 85), type := 4, pos := "law.go:82", after := #[{ on := 6, ground := Ground.data }, { on := 3, ground := Ground.guard }], guard := some (3, false) }) (v := ?vpa7) rfl (by kernel_rfl) (by kernel_rfl) (by kernel_rfl) (fun _ _ _ h => h) (Or.inl ⟨by rfl, ?hypa7⟩) (by assumption) ?rpa7
        case hypa7 => (intro w hSw; (try dsimp only at hSw); go_simp; try (with_reducible rfl))
        try simp only [Act.put, List.setIfInBounds_toArray, List.set_cons_zero, List.set_cons_succ]
        refine wpAnyH_take (i := 8) (oi := { dst := some 87, op := Op.pick (Operand.tmp 82) (Operand.const (Value.bool true)) (Operand.tmp 86), type := 4, pos := "law.go:82", after := #[{ on := 3, ground := Ground.data }, { on := 7, ground := Ground.data }], guard := none }) (v := ?vpa8) rfl (by kernel_rfl) (by kernel_rfl) (by kernel_rfl) (fun _ _ _ h => h) (Or.inl ⟨by rfl, ?hypa8⟩) (by assumption) ?rpa8
        case hypa8 => (intro w hSw; (try dsimp only at hSw); go_simp; try (with_reducible rfl))
        try simp only [Act.put, List.setIfInBounds_toArray, List.set_cons_zero, List.set_cons_succ]
        refine wpAnyH_take (i := 9) (oi := { dst := some 88, op := Op.move (Operand.tmp 87), type := 4, pos := "law.go:82", after := #[{ on := 8, ground := Ground.data }, { on := 6, ground := Ground.chain }], guard := none }) (v := ?vpa9) rfl (by kernel_rfl) (by kernel_rfl) (by kernel_rfl) (fun _ _ _ h => h) (Or.inl ⟨by rfl, ?hypa9⟩) (by assumption) ?rpa9
        case hypa9 => (intro w hSw; (try dsimp only at hSw); go_simp; try (with_reducible rfl))
        try simp only [Act.put, List.setIfInBounds_toArray, List.set_cons_zero, List.set_cons_succ]
        refine wpAnyH_take (i := 10) (oi := { dst := some 89, op := Op.move (Operand.tmp 7), type := 22, pos := "law.go:82", after := #[{ on := 9, ground := Ground.guard }], guard := some (9, false) }) (v := ?vpa10) rfl (by kernel_rfl) (by kernel_rfl) (by kernel_rfl) (fun _ _ _ h => h) (Or.inl ⟨by rfl, ?hypa10⟩) (by assumption) ?rpa10
        case hypa10 => (intro w hSw; (try dsimp only at hSw); go_simp; try (with_reducible rfl))
        try simp only [Act.put, List.setIfInBounds_toArray, List.set_cons_zero, List.set_cons_succ]
        refine wpAnyH_take (i := 11) (oi := { dst := some 90, op := Op.fieldAddr 48 (Operand.tmp 10) 3, type := 0, pos := "law.go:82", after := #[{ on := 9, ground := Ground.guard }], guard := some (9, false) }) (v := ?vpa11) rfl (by kernel_rfl) (by kernel_rfl) (by kernel_rfl) (fun _ _ _ h => h) (Or.inl ⟨by rfl, ?hypa11⟩) (by assumption) ?rpa11
        case hypa11 => (intro w hSw; (try dsimp only at hSw); go_simp; try (with_reducible rfl))
        try simp only [Act.put, List.setIfInBounds_toArray, List.set_cons_zero, List.set_cons_succ]
        refine wpAnyH_take (i := 12) (oi := { dst := some 91, op := Op.load 3 (Operand.tmp 90), type := 3, pos := "law.go:82", after := #[{ on := 11, ground := Ground.data }, { on := 9, ground := Ground.guard }], guard := some (9, false) }) (v := ?vpa12) rfl (by kernel_rfl) (by kernel_rfl) (by kernel_rfl) (fun _ _ _ h => h) (Or.inl ⟨by rfl, ?hypa12⟩) (by assumption) ?rpa12
        case hypa12 => (intro w hSw; (try dsimp only at hSw); go_simp; try (with_reducible rfl))
        try simp only [Act.put, List.setIfInBounds_toArray, List.set_cons_zero, List.set_cons_succ]
        refine wpAnyH_take (i := 14) (oi := { dst := some 93, op := Op.load 43 (Operand.tmp 8), type := 43, pos := "law.go:82", after := #[{ on := 9, ground := Ground.guard }], guard := some (9, false) }) (v := ?vpa13) rfl (by kernel_rfl) (by kernel_rfl) (by kernel_rfl) (fun _ _ _ h => h) (Or.inl ⟨by rfl, ?hypa13⟩) (by assumption) ?rpa13
        case hypa13 => (intro w hSw; (try dsimp only at hSw); go_simp; try (with_reducible rfl))
        try simp only [Act.put, List.setIfInBounds_toArray, List.set_cons_zero, List.set_cons_succ]
        refine wpAnyH_take (i := 15) (oi := { dst := some 94, op := Op.fieldAddr 48 (Operand.tmp 10) 3, type := 0, pos := "law.go:82", after := #[{ on := 9, ground := Ground.guard }], guard := some (9, false) }) (v := ?vpa14) rfl (by kernel_rfl) (by kernel_rfl) (by kernel_rfl) (fun _ _ _ h => h) (Or.inl ⟨by rfl, ?hypa14⟩) (by assumption) ?rpa14
        case hypa14 => (intro w hSw; (try dsimp only at hSw); go_simp; try (with_reducible rfl))
        try simp only [Act.put, List.setIfInBounds_toArray, List.set_cons_zero, List.set_cons_succ]
        refine wpAnyH_take (i := 16) (oi := { dst := some 95, op := Op.load 3 (Operand.tmp 94), type := 3, pos := "law.go:82", after := #[{ on := 15, ground := Ground.data }, { on := 9, ground := Ground.guard }], guard := some (9, false) }) (v := ?vpa15) rfl (by kernel_rfl) (by kernel_rfl) (by kernel_rfl) (fun _ _ _ h => h) (Or.inl ⟨by rfl, ?hypa15⟩) (by assumption) ?rpa15
        case hypa15 => (intro w hSw; (try dsimp only at hSw); go_simp; try (with_reducible rfl))
        try simp only [Act.put, List.setIfInBounds_toArray, List.set_cons_zero, List.set_cons_succ]
        refine wpAnyH_ready (rs := [13]) (by kernel_rfl) (by simp) ?_
        refine AllReadyH.cons (o := { dst := some 92, op := Op.call { callee := Callee.value (Operand.func 24), args := #[Operand.tmp 89, Operand.tmp 91], argTypes := #[22, 3] }, type := 4, pos := "law.go:82", after := #[{ on := 10, ground := Ground.data }, { on := 12, ground := Ground.data }, { on := 9, ground := Ground.chain }, { on := 9, ground := Ground.guard }], guard := some (9, false) }) rfl (fun K hK => ?_) AllReadyH.nil
        go_simp
        refine Calls.mono ((HNb.out.dx.tab.frd HFC.out).orph (Nat.le_trans HTl.out (by decide)) a.grp) ?_
        rintro e' wd ⟨rfl, hfc⟩
        have HFD := hid (HFC.out.trans hfc)
        clear hHeld hfc
        go_wp2_with fail
        refine hK.out _ _ (HSv.out _ HFD.out) (fun hHeld => ?_)
        clear hK K
        try simp only [Act.put, List.setIfInBounds_toArray, List.set_cons_zero, List.set_cons_succ]
        refine wpAnyH_ready (rs := [17]) (by kernel_rfl) (by simp) ?_
        refine AllReadyH.cons (o := { dst := some 96, op := Op.call { callee := Callee.value (Operand.func 25), args := #[Operand.tmp 93, Operand.tmp 95], argTypes := #[43, 3] }, type := 4, pos := "law.go:82", after := #[{ on := 14, ground := Ground.data }, { on := 16, ground := Ground.data }, { on := 13, ground := Ground.chain }, { on := 9, ground := Ground.guard }], guard := some (9, false) }) rfl (fun K hK => ?_) AllReadyH.nil
        go_simp
        refine Calls.mono (HOr.out _ HFD.out) ?_
        rintro e' we ⟨rfl, hfc⟩
        have HFE := hid (HFD.out.trans hfc)
        clear hHeld hfc
        go_wp2_with fail
        refine hK.out _ _ (HSv.out _ HFE.out) (fun hHeld => ?_)
        clear hK K
        try simp only [Act.put, List.setIfInBounds_toArray, List.set_cons_zero, List.set_cons_succ]
        refine wpAnyH_take (i := 18) (oi := { dst := some 97, op := Op.binOp BinOp.neq 4 (Operand.tmp 92) (Operand.tmp 96) 4, type := 4, pos := "law.go:82", after := #[{ on := 13, ground := Ground.data }, { on := 17, ground := Ground.data }, { on := 9, ground := Ground.guard }], guard := some (9, false) }) (v := ?vpa16) rfl (by kernel_rfl) (by kernel_rfl) (by kernel_rfl) (fun _ _ _ h => h) (Or.inl ⟨by rfl, ?hypa16⟩) (by assumption) ?rpa16
        case hypa16 => (intro w hSw; (try dsimp only at hSw); go_simp; try (with_reducible rfl))
        try simp only [Act.put, List.setIfInBounds_toArray, List.set_cons_zero, List.set_cons_succ]
        refine wpAnyH_take (i := 19) (oi := { dst := some 98, op := Op.pick (Operand.tmp 88) (Operand.const (Value.bool true)) (Operand.tmp 97), type := 4, pos := "law.go:82", after := #[{ on := 9, ground := Ground.data }, { on := 18, ground := Ground.data }], guard := none }) (v := ?vpa17) rfl (by kernel_rfl) (by kernel_rfl) (by kernel_rfl) (fun _ _ _ h => h) (Or.inl ⟨by rfl, ?hypa17⟩) (by assumption) ?rpa17
        case hypa17 => (intro w hSw; (try dsimp only at hSw); go_simp; try (with_reducible rfl))
        try simp only [Act.put, List.setIfInBounds_toArray, List.set_cons_zero, List.set_cons_succ]
        refine wpAnyH_take (i := 20) (oi := { dst := some 99, op := Op.move (Operand.tmp 98), type := 4, pos := "law.go:82", after := #[{ on := 19, ground := Ground.data }, { on := 17, ground := Ground.chain }], guard := none }) (v := ?vpa18) rfl (by kernel_rfl) (by kernel_rfl) (by kernel_rfl) (fun _ _ _ h => h) (Or.inl ⟨by rfl, ?hypa18⟩) (by assumption) ?rpa18
        case hypa18 => (intro w hSw; (try dsimp only at hSw); go_simp; try (with_reducible rfl))
        try simp only [Act.put, List.setIfInBounds_toArray, List.set_cons_zero, List.set_cons_succ]
        refine wpAnyH_take (i := 21) (oi := { dst := some 100, op := Op.move (Operand.tmp 7), type := 22, pos := "law.go:82", after := #[{ on := 20, ground := Ground.guard }], guard := some (20, false) }) (v := ?vpa19) rfl (by kernel_rfl) (by kernel_rfl) (by kernel_rfl) (fun _ _ _ h => h) (Or.inl ⟨by rfl, ?hypa19⟩) (by assumption) ?rpa19
        case hypa19 => (intro w hSw; (try dsimp only at hSw); go_simp; try (with_reducible rfl))
        try simp only [Act.put, List.setIfInBounds_toArray, List.set_cons_zero, List.set_cons_succ]
        refine wpAnyH_take (i := 22) (oi := { dst := some 101, op := Op.fieldAddr 48 (Operand.tmp 10) 4, type := 0, pos := "law.go:82", after := #[{ on := 20, ground := Ground.guard }], guard := some (20, false) }) (v := ?vpa20) rfl (by kernel_rfl) (by kernel_rfl) (by kernel_rfl) (fun _ _ _ h => h) (Or.inl ⟨by rfl, ?hypa20⟩) (by assumption) ?rpa20
        case hypa20 => (intro w hSw; (try dsimp only at hSw); go_simp; try (with_reducible rfl))
        try simp only [Act.put, List.setIfInBounds_toArray, List.set_cons_zero, List.set_cons_succ]
        refine wpAnyH_take (i := 23) (oi := { dst := some 102, op := Op.load 3 (Operand.tmp 101), type := 3, pos := "law.go:82", after := #[{ on := 22, ground := Ground.data }, { on := 20, ground := Ground.guard }], guard := some (20, false) }) (v := ?vpa21) rfl (by kernel_rfl) (by kernel_rfl) (by kernel_rfl) (fun _ _ _ h => h) (Or.inl ⟨by rfl, ?hypa21⟩) (by assumption) ?rpa21
        case hypa21 => (intro w hSw; (try dsimp only at hSw); go_simp; try (with_reducible rfl))
        try simp only [Act.put, List.setIfInBounds_toArray, List.set_cons_zero, List.set_cons_succ]
        refine wpAnyH_take (i := 25) (oi := { dst := some 104, op := Op.load 43 (Operand.tmp 8), type := 43, pos := "law.go:82", after := #[{ on := 20, ground := Ground.guard }], guard := some (20, false) }) (v := ?vpa22) rfl (by kernel_rfl) (by kernel_rfl) (by kernel_rfl) (fun _ _ _ h => h) (Or.inl ⟨by rfl, ?hypa22⟩) (by assumption) ?rpa22
        case hypa22 => (intro w hSw; (try dsimp only at hSw); go_simp; try (with_reducible rfl))
        try simp only [Act.put, List.setIfInBounds_toArray, List.set_cons_zero, List.set_cons_succ]
        refine wpAnyH_take (i := 26) (oi := { dst := some 105, op := Op.fieldAddr 48 (Operand.tmp 10) 4, type := 0, pos := "law.go:82", after := #[{ on := 20, ground := Ground.guard }], guard := some (20, false) }) (v := ?vpa23) rfl (by kernel_rfl) (by kernel_rfl) (by kernel_rfl) (fun _ _ _ h => h) (Or.inl ⟨by rfl, ?hypa23⟩) (by assumption) ?rpa23
        case hypa23 => (intro w hSw; (try dsimp only at hSw); go_simp; try (with_reducible rfl))
        try simp only [Act.put, List.setIfInBounds_toArray, List.set_cons_zero, List.set_cons_succ]
        refine wpAnyH_take (i := 27) (oi := { dst := some 106, op := Op.load 3 (Operand.tmp 105), type := 3, pos := "law.go:82", after := #[{ on := 26, ground := Ground.data }, { on := 20, ground := Ground.guard }], guard := some (20, false) }) (v := ?vpa24) rfl (by kernel_rfl) (by kernel_rfl) (by kernel_rfl) (fun _ _ _ h => h) (Or.inl ⟨by rfl, ?hypa24⟩) (by assumption) ?rpa24
        case hypa24 => (intro w hSw; (try dsimp only at hSw); go_simp; try (with_reducible rfl))
        try simp only [Act.put, List.setIfInBounds_toArray, List.set_cons_zero, List.set_cons_succ]
        refine wpAnyH_ready (rs := [24]) (by kernel_rfl) (by simp) ?_
        refine AllReadyH.cons (o := { dst := some 103, op := Op.call { callee := Callee.value (Operand.func 26), args := #[Operand.tmp 100, Operand.tmp 102], argTypes := #[22, 3] }, type := 3, pos := "law.go:82", after := #[{ on := 21, ground := Ground.data }, { on := 23, ground := Ground.data }, { on := 20, ground := Ground.chain }, { on := 20, ground := Ground.guard }], guard := some (20, false) }) rfl (fun K hK => ?_) AllReadyH.nil
        go_simp
        refine Calls.mono ((HNb.out.dx.tab.frd HFE.out).front a.tty HJ.out) ?_
        rintro e' _ ⟨rfl, rfl⟩
        clear hHeld
        go_wp2_with fail
        refine hK.out _ _ (HSv.out _ HFE.out) (fun hHeld => ?_)
        clear hK K
        try simp only [Act.put, List.setIfInBounds_toArray, List.set_cons_zero, List.set_cons_succ]
        refine wpAnyH_ready (rs := [28]) (by kernel_rfl) (by simp) ?_
        refine AllReadyH.cons (o := { dst := some 107, op := Op.call { callee := Callee.value (Operand.func 27), args := #[Operand.tmp 104, Operand.tmp 106], argTypes := #[43, 3] }, type := 3, pos := "law.go:82", after := #[{ on := 25, ground := Ground.data }, { on := 27, ground := Ground.data }, { on := 24, ground := Ground.chain }, { on := 20, ground := Ground.guard }], guard := some (20, false) }) rfl (fun K hK => ?_) AllReadyH.nil
        go_simp
        refine Calls.mono (HFR.out _ HFE.out) ?_
        rintro e' wf ⟨rfl, hfc⟩
        have HFF := hid (HFE.out.trans hfc)
        clear hHeld hfc
        go_wp2_with fail
        refine hK.out _ _ (HSv.out _ HFF.out) (fun hHeld => ?_)
        clear hK K
        try simp only [Act.put, List.setIfInBounds_toArray, List.set_cons_zero, List.set_cons_succ]
        refine wpAnyH_take (i := 29) (oi := { dst := some 108, op := Op.binOp BinOp.neq 3 (Operand.tmp 103) (Operand.tmp 107) 3, type := 4, pos := "law.go:82", after := #[{ on := 24, ground := Ground.data }, { on := 28, ground := Ground.data }, { on := 20, ground := Ground.guard }], guard := some (20, false) }) (v := ?vpa25) rfl (by kernel_rfl) (by kernel_rfl) (by kernel_rfl) (fun _ _ _ h => h) (Or.inl ⟨by rfl, ?hypa25⟩) (by assumption) ?rpa25
        case hypa25 => (intro w hSw; (try dsimp only at hSw); go_simp; try (with_reducible rfl))
        try simp only [Act.put, List.setIfInBounds_toArray, List.set_cons_zero, List.set_cons_succ]
        refine wpAnyH_take (i := 30) (oi := { dst := some 109, op := Op.pick (Operand.tmp 99) (Operand.const (Value.bool true)) (Operand.tmp 108), type := 4, pos := "law.go:82", after := #[{ on := 20, ground := Ground.data }, { on := 29, ground := Ground.data }], guard := none }) (v := ?vpa26) rfl (by kernel_rfl) (by kernel_rfl) (by kernel_rfl) (fun _ _ _ h => h) (Or.inl ⟨by rfl, ?hypa26⟩) (by assumption) ?rpa26
        case hypa26 => (intro w hSw; (try dsimp only at hSw); go_simp; try (with_reducible rfl))
        try simp only [Act.put, List.setIfInBounds_toArray, List.set_cons_zero, List.set_cons_succ]
        refine wpAnyH_take (i := 31) (oi := { dst := some 110, op := Op.move (Operand.tmp 109), type := 4, pos := "law.go:82", after := #[{ on := 30, ground := Ground.data }, { on := 28, ground := Ground.chain }], guard := none }) (v := ?vpa27) rfl (by kernel_rfl) (by kernel_rfl) (by kernel_rfl) (fun _ _ _ h => h) (Or.inl ⟨by rfl, ?hypa27⟩) (by assumption) ?rpa27
        case hypa27 => (intro w hSw; (try dsimp only at hSw); go_simp; try (with_reducible rfl))
        try simp only [Act.put, List.setIfInBounds_toArray, List.set_cons_zero, List.set_cons_succ]
        refine wpAnyH_take (i := 32) (oi := { dst := some 111, op := Op.move (Operand.tmp 18), type := 4, pos := "law.go:82", after := #[{ on := 31, ground := Ground.guard }], guard := some (31, false) }) (v := ?vpa28) rfl (by kernel_rfl) (by kernel_rfl) (by kernel_rfl) (fun _ _ _ h => h) (Or.inl ⟨by rfl, ?hypa28⟩) (by assumption) ?rpa28
        case hypa28 => (intro w hSw; (try dsimp only at hSw); go_simp; try (with_reducible rfl))
        try simp only [Act.put, List.setIfInBounds_toArray, List.set_cons_zero, List.set_cons_succ]
        refine wpAnyH_take (i := 33) (oi := { dst := some 112, op := Op.move (Operand.tmp 19), type := 3, pos := "law.go:82", after := #[{ on := 31, ground := Ground.guard }], guard := some (31, false) }) (v := ?vpa29) rfl (by kernel_rfl) (by kernel_rfl) (by kernel_rfl) (fun _ _ _ h => h) (Or.inl ⟨by rfl, ?hypa29⟩) (by assumption) ?rpa29
        case hypa29 => (intro w hSw; (try dsimp only at hSw); go_simp; try (with_reducible rfl))
        try simp only [Act.put, List.setIfInBounds_toArray, List.set_cons_zero, List.set_cons_succ]
        refine wpAnyH_take (i := 34) (oi := { dst := some 113, op := Op.binOp BinOp.geq 3 (Operand.tmp 112) (Operand.const (Value.int IntKind.i64 0)) 3, type := 4, pos := "law.go:82", after := #[{ on := 33, ground := Ground.data }, { on := 31, ground := Ground.guard }], guard := some (31, false) }) (v := ?vpa30) rfl (by kernel_rfl) (by kernel_rfl) (by kernel_rfl) (fun _ _ _ h => h) (Or.inl ⟨by rfl, ?hypa30⟩) (by assumption) ?rpa30
        case hypa30 => (intro w hSw; (try dsimp only at hSw); go_simp; try (with_reducible rfl))
        try simp only [Act.put, List.setIfInBounds_toArray, List.set_cons_zero, List.set_cons_succ]
        refine wpAnyH_take (i := 35) (oi := { dst := some 114, op := Op.binOp BinOp.neq 4 (Operand.tmp 111) (Operand.tmp 113) 4, type := 4, pos := "law.go:82", after := #[{ on := 32, ground := Ground.data }, { on := 34, ground := Ground.data }, { on := 31, ground := Ground.guard }], guard := some (31, false) }) (v := ?vpa31) rfl (by kernel_rfl) (by kernel_rfl) (by kernel_rfl) (fun _ _ _ h => h) (Or.inl ⟨by rfl, ?hypa31⟩) (by assumption) ?rpa31
        case hypa31 => (intro w hSw; (try dsimp only at hSw); go_simp; try (with_reducible rfl))
        try simp only [Act.put, List.setIfInBounds_toArray, List.set_cons_zero, List.set_cons_succ]
        refine wpAnyH_take (i := 36) (oi := { dst := some 115, op := Op.pick (Operand.tmp 110) (Operand.const (Value.bool true)) (Operand.tmp 114), type := 4, pos := "law.go:82", after := #[{ on := 31, ground := Ground.data }, { on := 35, ground := Ground.data }], guard := none }) (v := ?vpa32) rfl (by kernel_rfl) (by kernel_rfl) (by kernel_rfl) (fun _ _ _ h => h) (Or.inl ⟨by rfl, ?hypa32⟩) (by assumption) ?rpa32
        case hypa32 => (intro w hSw; (try dsimp only at hSw); go_simp; try (with_reducible rfl))
        try simp only [Act.put, List.setIfInBounds_toArray, List.set_cons_zero, List.set_cons_succ]
        refine wpAnyH_take (i := 37) (oi := { dst := some 116, op := Op.move (Operand.tmp 115), type := 4, pos := "law.go:82", after := #[{ on := 36, ground := Ground.data }, { on := 31, ground := Ground.chain }], guard := none }) (v := ?vpa33) rfl (by kernel_rfl) (by kernel_rfl) (by kernel_rfl) (fun _ _ _ h => h) (Or.inl ⟨by rfl, ?hypa33⟩) (by assumption) ?rpa33
        case hypa33 => (intro w hSw; (try dsimp only at hSw); go_simp; try (with_reducible rfl))
        try simp only [Act.put, List.setIfInBounds_toArray, List.set_cons_zero, List.set_cons_succ]
        refine wpAnyH_take (i := 38) (oi := { dst := some 117, op := Op.move (Operand.tmp 18), type := 4, pos := "law.go:82", after := #[{ on := 37, ground := Ground.guard }], guard := some (37, false) }) (v := ?vpa34) rfl (by kernel_rfl) (by kernel_rfl) (by kernel_rfl) (fun _ _ _ h => h) (Or.inl ⟨by rfl, ?hypa34⟩) (by assumption) ?rpa34
        case hypa34 => (intro w hSw; (try dsimp only at hSw); go_simp; try (with_reducible rfl))
        try simp only [Act.put, List.setIfInBounds_toArray, List.set_cons_zero, List.set_cons_succ]
        refine wpAnyH_take (i := 39) (oi := { dst := some 118, op := Op.move (Operand.tmp 117), type := 4, pos := "law.go:82", after := #[{ on := 38, ground := Ground.data }, { on := 37, ground := Ground.chain }, { on := 37, ground := Ground.guard }], guard := some (37, false) }) (v := ?vpa35) rfl (by kernel_rfl) (by kernel_rfl) (by kernel_rfl) (fun _ _ _ h => h) (Or.inl ⟨by rfl, ?hypa35⟩) (by assumption) ?rpa35
        case hypa35 => (intro w hSw; (try dsimp only at hSw); go_simp; try (with_reducible rfl))
        try simp only [Act.put, List.setIfInBounds_toArray, List.set_cons_zero, List.set_cons_succ]
        refine wpAnyH_take (i := 40) (oi := { dst := some 119, op := Op.load 51 (Operand.tmp 17), type := 51, pos := "law.go:82", after := #[{ on := 39, ground := Ground.guard }], guard := some (39, true) }) (v := undef) rfl (by kernel_rfl) (by kernel_rfl) (by kernel_rfl) (fun _ _ _ h => h) (Or.inr ⟨by rfl, rfl⟩) (by assumption) ?_
        try simp only [Act.put, List.setIfInBounds_toArray, List.set_cons_zero, List.set_cons_succ]
        refine wpAnyH_take (i := 41) (oi := { dst := some 120, op := Op.fieldAddr 43 (Operand.tmp 8) 0, type := 0, pos := "law.go:82", after := #[{ on := 39, ground := Ground.guard }], guard := some (39, true) }) (v := undef) rfl (by kernel_rfl) (by kernel_rfl) (by kernel_rfl) (fun _ _ _ h => h) (Or.inr ⟨by rfl, rfl⟩) (by assumption) ?_
        try simp only [Act.put, List.setIfInBounds_toArray, List.set_cons_zero, List.set_cons_succ]
        refine wpAnyH_take (i := 42) (oi := { dst := some 121, op := Op.load 40 (Operand.tmp 120), type := 40, pos := "law.go:82", after := #[{ on := 41, ground := Ground.data }, { on := 39, ground := Ground.guard }], guard := some (39, true) }) (v := undef) rfl (by kernel_rfl) (by kernel_rfl) (by kernel_rfl) (fun _ _ _ h => h) (Or.inr ⟨by rfl, rfl⟩) (by assumption) ?_
        try simp only [Act.put, List.setIfInBounds_toArray, List.set_cons_zero, List.set_cons_succ]
        refine wpAnyH_take (i := 43) (oi := { dst := some 122, op := Op.move (Operand.tmp 19), type := 3, pos := "law.go:82", after := #[{ on := 39, ground := Ground.guard }], guard := some (39, true) }) (v := undef) rfl (by kernel_rfl) (by kernel_rfl) (by kernel_rfl) (fun _ _ _ h => h) (Or.inr ⟨by rfl, rfl⟩) (by assumption) ?_
        try simp only [Act.put, List.setIfInBounds_toArray, List.set_cons_zero, List.set_cons_succ]
        refine wpAnyH_take (i := 44) (oi := { dst := some 123, op := Op.indexAddr 40 (Operand.tmp 121) (Operand.tmp 122), type := 0, pos := "law.go:82", after := #[{ on := 42, ground := Ground.data }, { on := 43, ground := Ground.data }, { on := 39, ground := Ground.guard }], guard := some (39, true) }) (v := undef) rfl (by kernel_rfl) (by kernel_rfl) (by kernel_rfl) (fun _ _ _ h => h) (Or.inr ⟨by rfl, rfl⟩) (by assumption) ?_
        try simp only [Act.put, List.setIfInBounds_toArray, List.set_cons_zero, List.set_cons_succ]
        refine wpAnyH_take (i := 45) (oi := { dst := some 124, op := Op.load 51 (Operand.tmp 123), type := 51, pos := "law.go:82", after := #[{ on := 44, ground := Ground.data }, { on := 39, ground := Ground.guard }], guard := some (39, true) }) (v := undef) rfl (by kernel_rfl) (by kernel_rfl) (by kernel_rfl) (fun _ _ _ h => h) (Or.inr ⟨by rfl, rfl⟩) (by assumption) ?_
        try simp only [Act.put, List.setIfInBounds_toArray, List.set_cons_zero, List.set_cons_succ]
        refine wpAnyH_take (i := 46) (oi := { dst := some 125, op := Op.binOp BinOp.neq 51 (Operand.tmp 119) (Operand.tmp 124) 51, type := 4, pos := "law.go:82", after := #[{ on := 40, ground := Ground.data }, { on := 45, ground := Ground.data }, { on := 39, ground := Ground.guard }], guard := some (39, true) }) (v := undef) rfl (by kernel_rfl) (by kernel_rfl) (by kernel_rfl) (fun _ _ _ h => h) (Or.inr ⟨by rfl, rfl⟩) (by assumption) ?_
        try simp only [Act.put, List.setIfInBounds_toArray, List.set_cons_zero, List.set_cons_succ]
        refine wpAnyH_take (i := 47) (oi := { dst := some 126, op := Op.pick (Operand.tmp 118) (Operand.tmp 125) (Operand.const (Value.bool false)), type := 4, pos := "law.go:82", after := #[{ on := 39, ground := Ground.data }, { on := 46, ground := Ground.data }, { on := 37, ground := Ground.guard }], guard := some (37, false) }) (v := ?vpa43) rfl (by kernel_rfl) (by kernel_rfl) (by kernel_rfl) (fun _ _ _ h => h) (Or.inl ⟨by rfl, ?hypa43⟩) (by assumption) ?rpa43
        case hypa43 => (intro w hSw; (try dsimp only at hSw); go_simp; try (with_reducible rfl))
        try simp only [Act.put, List.setIfInBounds_toArray, List.set_cons_zero, List.set_cons_succ]
        refine wpAnyH_take (i := 48) (oi := { dst := some 127, op := Op.pick (Operand.tmp 116) (Operand.const (Value.bool true)) (Operand.tmp 126), type := 4, pos := "law.go:82", after := #[{ on := 37, ground := Ground.data }, { on := 47, ground := Ground.data }], guard := none }) (v := ?vpa44) rfl (by kernel_rfl) (by kernel_rfl) (by kernel_rfl) (fun _ _ _ h => h) (Or.inl ⟨by rfl, ?hypa44⟩) (by assumption) ?rpa44
        case hypa44 => (intro w hSw; (try dsimp only at hSw); go_simp; try (with_reducible rfl))
        try simp only [Act.put, List.setIfInBounds_toArray, List.set_cons_zero, List.set_cons_succ]
        refine wpAnyH_done (by kernel_rfl) ?_ _
        go_wp2
        go_roundw
        case rel => exact ⟨k + 1, S4, T, n + 1, _, _, F4, by omega, by go_num, HNb.out.frd HFF.out⟩
        case measure => simp [intOf]; omega
      · rw [g1] at hgt
        rw [g2] at hat
        have HGt := hid hgt
        have HAt := hid hat
        clear hgt hat g1 g2
        have hb := HBA6.out
        have a1 := hb.cell 1 rfl
        have a3 := hb.cell 3 rfl
        have a4 := hb.cell 4 rfl
        have al := hb.lt
        have hx := HN6.out.bx
        have b0 := hx.cell 0 rfl
        have b1 := hx.cell 1 rfl
        have b2 := hx.cell 2 rfl
        have bl := hx.lt
        clear hb hx
        have hm1 := pMay_any w6 tb (n + 1) S4 T a.pid a.tty write tostop HN6.out.dx.tab (by have := HTl.out; omega) HJ.out
        have hm2 := fun W (hW : Fr NoB w6 W) => rMay_any W _ _ T F4 a.pid a.tty write tostop (HN6.out.dx.rt.frd hW) (by have := HTl.out; omega) HFo.out
        have hml : (mayT T a.pid a.tty write tostop).2.length ≤ 1 := mayT_len ..
        generalize mayT T a.pid a.tty write tostop = mr at hm1 hm2 hml
        obtain ⟨mn, ms⟩ := mr
        have HM1 := hid hm1
        have HM2 := hid hm2
        have HML := hid hml
        clear hm1 hm2 hml
        unfold rtv at HM2
        go_wp2_with fail
        refine HM1.out.mono ?_
        rintro e' w7 ⟨sv1, rfl, hs1, hf7⟩
        have HS1 := hid hs1
        have HF7 := hid hf7
        have HN7 := hid (HN6.out.frd hf7)
        have HBA7 := hid (HBA6.out.fr hf7 (fun h => h))
        clear hs1 hf7
        clear a1 a3 a4 al b0 b1 b2 bl
        have hb := HBA7.out
        have a1 := hb.cell 1 rfl
        have a3 := hb.cell 3 rfl
        have a4 := hb.cell 4 rfl
        have al := hb.lt
        have hx := HN7.out.bx
        have b0 := hx.cell 0 rfl
        have b1 := hx.cell 1 rfl
        have b2 := hx.cell 2 rfl
        have bl := hx.lt
        clear hb hx
        go_wp2_with fail
        refine (HM2.out _ HF7.out).mono ?_
        rintro e' w8 ⟨sv2, rfl, hs2, hf8⟩
        have HS2 := hid hs2
        have HS1' := hid (Row.fr HS1.out hf8 (fun _ _ h => h))
        have HF8 := hid (HF7.out.trans hf8)
        have HN8 := hid (HN7.out.frd hf8)
        have HBA8 := hid (HBA7.out.fr hf8 (fun h => h))
        clear hs2 hf8
        clear a1 a3 a4 al b0 b1 b2 bl
        have hb := HBA8.out
        have a1 := hb.cell 1 rfl
        have a3 := hb.cell 3 rfl
        have a4 := hb.cell 4 rfl
        have al := hb.lt
        have hx := HN8.out.bx
        have b0 := hx.cell 0 rfl
        have b1 := hx.cell 1 rfl
        have b2 := hx.cell 2 rfl
        have bl := hx.lt
        clear hb hx
        go_wp2_with fail
        refine (HGt.out _ HF8.out).mono ?_
        rintro e' w9 ⟨rfl, hf9⟩
        have HF9 := hid (HF8.out.trans hf9)
        have HS1n := hid (Row.fr HS1'.out hf9 (fun _ _ h => h))
        have HS2n := hid (Row.fr HS2.out hf9 (fun _ _ h => h))
        have HN9 := hid (HN8.out.frd hf9)
        have HBA9 := hid (HBA8.out.fr hf9 (fun h => h))
        clear hf9
        clear a1 a3 a4 al b0 b1 b2 bl
        unfold Pr.v
        go_upto_region 15 with (fail)
        generalize hwa : World.alloc w9 _ = wa
        have hfn : Fr NoB w9 wa := by rw [← hwa]; exact (Fr.refl NoB w9).alloc _
        have HPa : Hid (Blk wa w9.heap.size 51 (T.l[i] : Pr).cells) := hid (by rw [← hwa]; exact Blk.new w9 51 (T.l[i] : Pr).cells)
        have HFa := hid (HF9.out.trans hfn)
        have HNa := hid (HN9.out.frd hfn)
        have HBAa := hid (HBA9.out.fr hfn (fun h => h))
        have HS1a := hid (Row.fr HS1n.out hfn (fun _ _ h => h))
        have HS2a := hid (Row.fr HS2n.out hfn (fun _ _ h => h))
        clear hfn hwa
        have hb := HBAa.out
        have a1 := hb.cell 1 rfl
        have a3 := hb.cell 3 rfl
        have a4 := hb.cell 4 rfl
        have al := hb.lt
        have hx := HNa.out.bx
        have b0 := hx.cell 0 rfl
        have b1 := hx.cell 1 rfl
        have b2 := hx.cell 2 rfl
        have bl := hx.lt
        clear hb hx
        go_wp2_with fail
        refine (HAt.out _ HFa.out).mono ?_
        rintro e' wb ⟨rfl, hfb⟩
        have HFb := hid (HFa.out.trans hfb)
        have HPb := hid (HPa.out.fr hfb (fun h => h))
        have HNb := hid (HNa.out.frd hfb)
        have HBAb := hid (HBAa.out.fr hfb (fun h => h))
        have HS1b := hid (Row.fr HS1a.out hfb (fun _ _ h => h))
        have HS2b := hid (Row.fr HS2a.out hfb (fun _ _ h => h))
        clear hfb
        clear a1 a3 a4 al b0 b1 b2 bl
        go_upto_region 16 with (fail)
        obtain ⟨g, c9, h9, _⟩ := PrR.at_ HNb.out.dx.rt.l i hi
        obtain rfl : Av4 = some ⟨g, 0, none⟩ := by injection h9
        clear h9
        have hor := fun W (hW : Fr NoB wb W) => rOrph_any W _ _ T.nx T F4 a.grp (HNb.out.dx.rt.frd hW) (Nat.le_trans HTl.out (by decide))
        have hfr := fun W (hW : Fr NoB wb W) => rFront_any W _ _ T.nx T F4 a.tty (HNb.out.dx.rt.frd hW)
        rw [HFo.out] at hfr
        unfold rtv at hor hfr
        have HOr := hid hor
        have HFR := hid hfr
        clear hor hfr
        have HSv : Hid (∀ W, Fr NoB wb W → W.cell? ⟨wr.heap.size, 3, none⟩ = some (.int .i64 a.grp) ∧ W.cell? ⟨wr.heap.size, 4, none⟩ = some (.int .i64 a.tty) ∧ W.cell? ⟨xb, 0, none⟩ = some (.slice (some ⟨g, 0, none⟩) T.l.length cv4) ∧ W.cell? ⟨xb, 1, none⟩ = some (.int .i64 T.nx) ∧ W.cell? ⟨xb, 2, none⟩ = some (.slice Af4 F4.length cf4) ∧ W.cell? ⟨w9.heap.size, 0, none⟩ = some (.int .i64 T.l[i].pid) ∧ W.cell? ⟨w9.heap.size, 1, none⟩ = some (.int .i64 T.l[i].par) ∧ W.cell? ⟨w9.heap.size, 2, none⟩ = some (.int .i64 T.l[i].grp) ∧ W.cell? ⟨w9.heap.size, 3, none⟩ = some (.int .i64 T.l[i].ses) ∧ W.cell? ⟨w9.heap.size, 4, none⟩ = some (.int .i64 T.l[i].tty) ∧ W.cell? ⟨w9.heap.size, 5, none⟩ = some (.bool T.l[i].deaf) ∧ W.cell? ⟨g, i * 6, none⟩ = some (.int .i64 T.l[i].pid) ∧ W.cell? ⟨g, i * 6 + 1, none⟩ = some (.int .i64 T.l[i].par) ∧ W.cell? ⟨g, i * 6 + 2, none⟩ = some (.int .i64 T.l[i].grp) ∧ W.cell? ⟨g, i * 6 + 3, none⟩ = some (.int .i64 T.l[i].ses) ∧ W.cell? ⟨g, i * 6 + 4, none⟩ = some (.int .i64 T.l[i].tty) ∧ W.cell? ⟨g, i * 6 + 5, none⟩ = some (.bool T.l[i].deaf)) := hid fun W hW => by
          have h1 := HBAb.out.fr hW (fun h => h)
          have h2 := HNb.out.bx.fr hW (fun h => h)
          have h3 := HPb.out.fr hW (fun h => h)
          obtain ⟨d0, d1, d2, d3, d4, d5⟩ := PrR.at2 (HNb.out.dx.rt.frd hW).l i hi
          exact ⟨h1.cell 3 rfl, h1.cell 4 rfl, h2.cell 0 rfl, h2.cell 1 rfl, h2.cell 2 rfl, h3.cell 0 rfl, h3.cell 1 rfl, h3.cell 2 rfl, h3.cell 3 rfl, h3.cell 4 rfl, h3.cell 5 rfl, d0, d1, d2, d3, d4, d5⟩
        have hse := fun (w : World) => prEqA 9998 w T.l[i]
        refine wp_region_held_drew (S := (fun W : World => W.cell? ⟨wr.heap.size, 3, none⟩ = some (.int .i64 a.grp) ∧ W.cell? ⟨wr.heap.size, 4, none⟩ = some (.int .i64 a.tty) ∧ W.cell? ⟨xb, 0, none⟩ = some (.slice (some ⟨g, 0, none⟩) T.l.length cv4) ∧ W.cell? ⟨xb, 1, none⟩ = some (.int .i64 T.nx) ∧ W.cell? ⟨xb, 2, none⟩ = some (.slice Af4 F4.length cf4) ∧ W.cell? ⟨w9.heap.size, 0, none⟩ = some (.int .i64 T.l[i].pid) ∧ W.cell? ⟨w9.heap.size, 1, none⟩ = some (.int .i64 T.l[i].par) ∧ W.cell? ⟨w9.heap.size, 2, none⟩ = some (.int .i64 T.l[i].grp) ∧ W.cell? ⟨w9.heap.size, 3, none⟩ = some (.int .i64 T.l[i].ses) ∧ W.cell? ⟨w9.heap.size, 4, none⟩ = some (.int .i64 T.l[i].tty) ∧ W.cell? ⟨w9.heap.size, 5, none⟩ = some (.bool T.l[i].deaf) ∧ W.cell? ⟨g, i * 6, none⟩ = some (.int .i64 T.l[i].pid) ∧ W.cell? ⟨g, i * 6 + 1, none⟩ = some (.int .i64 T.l[i].par) ∧ W.cell? ⟨g, i * 6 + 2, none⟩ = some (.int .i64 T.l[i].grp) ∧ W.cell? ⟨g, i * 6 + 3, none⟩ = some (.int .i64 T.l[i].ses) ∧ W.cell? ⟨g, i * 6 + 4, none⟩ = some (.int .i64 T.l[i].tty) ∧ W.cell? ⟨g, i * 6 + 5, none⟩ = some (.bool T.l[i].deaf))) (by kernel_rfl) (HSv.out _ (Fr.refl NoB wb).drew) (fun hHeld => ?_)
        refine wpAnyH_take (i := 0) (oi := { dst := some 79, op := Op.move (Operand.tmp 13), type := 3, pos := "law.go:82", after := #[], guard := none }) (v := ?vpb1) rfl (by kernel_rfl) (by kernel_rfl) (by kernel_rfl) (fun _ _ _ h => h) (Or.inl ⟨by rfl, ?hypb1⟩) (by assumption) ?rpb1
        case hypb1 => (intro w hSw; (try dsimp only at hSw); go_simp; try (with_reducible rfl))
        try simp only [Act.put, List.setIfInBounds_toArray, List.set_cons_zero, List.set_cons_succ]
        refine wpAnyH_take (i := 1) (oi := { dst := some 80, op := Op.move (Operand.tmp 15), type := 3, pos := "law.go:82", after := #[], guard := none }) (v := ?vpb2) rfl (by kernel_rfl) (by kernel_rfl) (by kernel_rfl) (fun _ _ _ h => h) (Or.inl ⟨by rfl, ?hypb2⟩) (by assumption) ?rpb2
        case hypb2 => (intro w hSw; (try dsimp only at hSw); go_simp; try (with_reducible rfl))
        try simp only [Act.put, List.setIfInBounds_toArray, List.set_cons_zero, List.set_cons_succ]
        refine wpAnyH_take (i := 2) (oi := { dst := some 81, op := Op.binOp BinOp.neq 3 (Operand.tmp 79) (Operand.tmp 80) 3, type := 4, pos := "law.go:82", after := #[{ on := 0, ground := Ground.data }, { on := 1, ground := Ground.data }], guard := none }) (v := ?vpb3) rfl (by kernel_rfl) (by kernel_rfl) (by kernel_rfl) (fun _ _ _ h => h) (Or.inl ⟨by rfl, ?hypb3⟩) (by assumption) ?rpb3
        case hypb3 => (intro w hSw; (try dsimp only at hSw); go_simp; try (with_reducible rfl))
        try simp only [Act.put, List.setIfInBounds_toArray, List.set_cons_zero, List.set_cons_succ]
        refine wpAnyH_take (i := 3) (oi := { dst := some 82, op := Op.move (Operand.tmp 81), type := 4, pos := "law.go:82", after := #[{ on := 2, ground := Ground.data }], guard := none }) (v := ?vpb4) rfl (by kernel_rfl) (by kernel_rfl) (by kernel_rfl) (fun _ _ _ h => h) (Or.inl ⟨by rfl, ?hypb4⟩) (by assumption) ?rpb4
        case hypb4 => (intro w hSw; (try dsimp only at hSw); go_simp; try (with_reducible rfl))
        try simp only [Act.put, List.setIfInBounds_toArray, List.set_cons_zero, List.set_cons_succ]
        refine wpAnyH_take (i := 4) (oi := { dst := some 83, op := Op.move (Operand.tmp 14), type := 31, pos := "law.go:82", after := #[{ on := 3, ground := Ground.guard }], guard := some (3, false) }) (v := ?vpb5) rfl (by kernel_rfl) (by kernel_rfl) (by kernel_rfl) (fun _ _ _ h => h) (Or.inl ⟨by rfl, ?hypb5⟩) (by assumption) ?rpb5
        case hypb5 => (intro w hSw; (try dsimp only at hSw); go_simp; try (with_reducible rfl))
        try simp only [Act.put, List.setIfInBounds_toArray, List.set_cons_zero, List.set_cons_succ]
        refine wpAnyH_take (i := 5) (oi := { dst := some 84, op := Op.move (Operand.tmp 16), type := 31, pos := "law.go:82", after := #[{ on := 3, ground := Ground.guard }], guard := some (3, false) }) (v := ?vpb6) rfl (by kernel_rfl) (by kernel_rfl) (by kernel_rfl) (fun _ _ _ h => h) (Or.inl ⟨by rfl, ?hypb6⟩) (by assumption) ?rpb6
        case hypb6 => (intro w hSw; (try dsimp only at hSw); go_simp; try (with_reducible rfl))
        try simp only [Act.put, List.setIfInBounds_toArray, List.set_cons_zero, List.set_cons_succ]
        refine wpAnyH_ready (rs := [6]) (by kernel_rfl) (by simp) ?_
        refine AllReadyH.cons (o := { dst := some 85, op := Op.call { callee := Callee.value (Operand.func 23), args := #[Operand.tmp 83, Operand.tmp 84], argTypes := #[31, 31] }, type := 4, pos := "law.go:82", after := #[{ on := 4, ground := Ground.data }, { on := 5, ground := Ground.data }, { on := 3, ground := Ground.chain }, { on := 3, ground := Ground.guard }], guard := some (3, false) }) rfl (fun K hK => ?_) AllReadyH.nil
        go_simp
        refine Calls.mono (rSame_any _ _ _ _ _ ms (Row.fr HS1b.out (Fr.refl NoB wb).drew (fun _ _ h => h)) (Row.fr HS2b.out (Fr.refl NoB wb).drew (fun _ _ h => h)) (Nat.le_trans HML.out (by decide))) ?_
        rintro e' wc ⟨rfl, hfc⟩
        have HFC := hid ((Fr.refl NoB wb).drew.trans hfc)
        clear hHeld hfc
        go_wp2_with fail
        refine hK.out _ _ (HSv.out _ HFC.out) (fun hHeld => ?_)
        clear hK K
        try simp only [Act.put, List.setIfInBounds_toArray, List.set_cons_zero, List.set_cons_succ]
        refine wpAnyH_take (i := 7) (oi := { dst := some 86, op := Op.unOp UnOp.not 4 (Operand.tmp 85), type := 4, pos := "law.go:82", after := #[{ on := 6, ground := Ground.data }, { on := 3, ground := Ground.guard }], guard := some (3, false) }) (v := ?vpb7) rfl (by kernel_rfl) (by kernel_rfl) (by kernel_rfl) (fun _ _ _ h => h) (Or.inl ⟨by rfl, ?hypb7⟩) (by assumption) ?rpb7
        case hypb7 => (intro w hSw; (try dsimp only at hSw); go_simp; try (with_reducible rfl))
        try simp only [Act.put, List.setIfInBounds_toArray, List.set_cons_zero, List.set_cons_succ]
        refine wpAnyH_take (i := 8) (oi := { dst := some 87, op := Op.pick (Operand.tmp 82) (Operand.const (Value.bool true)) (Operand.tmp 86), type := 4, pos := "law.go:82", after := #[{ on := 3, ground := Ground.data }, { on := 7, ground := Ground.data }], guard := none }) (v := ?vpb8) rfl (by kernel_rfl) (by kernel_rfl) (by kernel_rfl) (fun _ _ _ h => h) (Or.inl ⟨by rfl, ?hypb8⟩) (by assumption) ?rpb8
        case hypb8 => (intro w hSw; (try dsimp only at hSw); go_simp; try (with_reducible rfl))
        try simp only [Act.put, List.setIfInBounds_toArray, List.set_cons_zero, List.set_cons_succ]
        refine wpAnyH_take (i := 9) (oi := { dst := some 88, op := Op.move (Operand.tmp 87), type := 4, pos := "law.go:82", after := #[{ on := 8, ground := Ground.data }, { on := 6, ground := Ground.chain }], guard := none }) (v := ?vpb9) rfl (by kernel_rfl) (by kernel_rfl) (by kernel_rfl) (fun _ _ _ h => h) (Or.inl ⟨by rfl, ?hypb9⟩) (by assumption) ?rpb9
        case hypb9 => (intro w hSw; (try dsimp only at hSw); go_simp; try (with_reducible rfl))
        try simp only [Act.put, List.setIfInBounds_toArray, List.set_cons_zero, List.set_cons_succ]
        refine wpAnyH_take (i := 10) (oi := { dst := some 89, op := Op.move (Operand.tmp 7), type := 22, pos := "law.go:82", after := #[{ on := 9, ground := Ground.guard }], guard := some (9, false) }) (v := ?vpb10) rfl (by kernel_rfl) (by kernel_rfl) (by kernel_rfl) (fun _ _ _ h => h) (Or.inl ⟨by rfl, ?hypb10⟩) (by assumption) ?rpb10
        case hypb10 => (intro w hSw; (try dsimp only at hSw); go_simp; try (with_reducible rfl))
        try simp only [Act.put, List.setIfInBounds_toArray, List.set_cons_zero, List.set_cons_succ]
        refine wpAnyH_take (i := 11) (oi := { dst := some 90, op := Op.fieldAddr 48 (Operand.tmp 10) 3, type := 0, pos := "law.go:82", after := #[{ on := 9, ground := Ground.guard }], guard := some (9, false) }) (v := ?vpb11) rfl (by kernel_rfl) (by kernel_rfl) (by kernel_rfl) (fun _ _ _ h => h) (Or.inl ⟨by rfl, ?hypb11⟩) (by assumption) ?rpb11
        case hypb11 => (intro w hSw; (try dsimp only at hSw); go_simp; try (with_reducible rfl))
        try simp only [Act.put, List.setIfInBounds_toArray, List.set_cons_zero, List.set_cons_succ]
        refine wpAnyH_take (i := 12) (oi := { dst := some 91, op := Op.load 3 (Operand.tmp 90), type := 3, pos := "law.go:82", after := #[{ on := 11, ground := Ground.data }, { on := 9, ground := Ground.guard }], guard := some (9, false) }) (v := ?vpb12) rfl (by kernel_rfl) (by kernel_rfl) (by kernel_rfl) (fun _ _ _ h => h) (Or.inl ⟨by rfl, ?hypb12⟩) (by assumption) ?rpb12
        case hypb12 => (intro w hSw; (try dsimp only at hSw); go_simp; try (with_reducible rfl))
        try simp only [Act.put, List.setIfInBounds_toArray, List.set_cons_zero, List.set_cons_succ]
        refine wpAnyH_take (i := 14) (oi := { dst := some 93, op := Op.load 43 (Operand.tmp 8), type := 43, pos := "law.go:82", after := #[{ on := 9, ground := Ground.guard }], guard := some (9, false) }) (v := ?vpb13) rfl (by kernel_rfl) (by kernel_rfl) (by kernel_rfl) (fun _ _ _ h => h) (Or.inl ⟨by rfl, ?hypb13⟩) (by assumption) ?rpb13
        case hypb13 => (intro w hSw; (try dsimp only at hSw); go_simp; try (with_reducible rfl))
        try simp only [Act.put, List.setIfInBounds_toArray, List.set_cons_zero, List.set_cons_succ]
        refine wpAnyH_take (i := 15) (oi := { dst := some 94, op := Op.fieldAddr 48 (Operand.tmp 10) 3, type := 0, pos := "law.go:82", after := #[{ on := 9, ground := Ground.guard }], guard := some (9, false) }) (v := ?vpb14) rfl (by kernel_rfl) (by kernel_rfl) (by kernel_rfl) (fun _ _ _ h => h) (Or.inl ⟨by rfl, ?hypb14⟩) (by assumption) ?rpb14
        case hypb14 => (intro w hSw; (try dsimp only at hSw); go_simp; try (with_reducible rfl))
        try simp only [Act.put, List.setIfInBounds_toArray, List.set_cons_zero, List.set_cons_succ]
        refine wpAnyH_take (i := 16) (oi := { dst := some 95, op := Op.load 3 (Operand.tmp 94), type := 3, pos := "law.go:82", after := #[{ on := 15, ground := Ground.data }, { on := 9, ground := Ground.guard }], guard := some (9, false) }) (v := ?vpb15) rfl (by kernel_rfl) (by kernel_rfl) (by kernel_rfl) (fun _ _ _ h => h) (Or.inl ⟨by rfl, ?hypb15⟩) (by assumption) ?rpb15
        case hypb15 => (intro w hSw; (try dsimp only at hSw); go_simp; try (with_reducible rfl))
        try simp only [Act.put, List.setIfInBounds_toArray, List.set_cons_zero, List.set_cons_succ]
        refine wpAnyH_ready (rs := [13]) (by kernel_rfl) (by simp) ?_
        refine AllReadyH.cons (o := { dst := some 92, op := Op.call { callee := Callee.value (Operand.func 24), args := #[Operand.tmp 89, Operand.tmp 91], argTypes := #[22, 3] }, type := 4, pos := "law.go:82", after := #[{ on := 10, ground := Ground.data }, { on := 12, ground := Ground.data }, { on := 9, ground := Ground.chain }, { on := 9, ground := Ground.guard }], guard := some (9, false) }) rfl (fun K hK => ?_) AllReadyH.nil
        go_simp
        refine Calls.mono ((HNb.out.dx.tab.frd HFC.out).orph (Nat.le_trans HTl.out (by decide)) a.grp) ?_
        rintro e' wd ⟨rfl, hfc⟩
        have HFD := hid (HFC.out.trans hfc)
        clear hHeld hfc
        go_wp2_with fail
        refine hK.out _ _ (HSv.out _ HFD.out) (fun hHeld => ?_)
        clear hK K
        try simp only [Act.put, List.setIfInBounds_toArray, List.set_cons_zero, List.set_cons_succ]
        refine wpAnyH_ready (rs := [17]) (by kernel_rfl) (by simp) ?_
        refine AllReadyH.cons (o := { dst := some 96, op := Op.call { callee := Callee.value (Operand.func 25), args := #[Operand.tmp 93, Operand.tmp 95], argTypes := #[43, 3] }, type := 4, pos := "law.go:82", after := #[{ on := 14, ground := Ground.data }, { on := 16, ground := Ground.data }, { on := 13, ground := Ground.chain }, { on := 9, ground := Ground.guard }], guard := some (9, false) }) rfl (fun K hK => ?_) AllReadyH.nil
        go_simp
        refine Calls.mono (HOr.out _ HFD.out) ?_
        rintro e' we ⟨rfl, hfc⟩
        have HFE := hid (HFD.out.trans hfc)
        clear hHeld hfc
        go_wp2_with fail
        refine hK.out _ _ (HSv.out _ HFE.out) (fun hHeld => ?_)
        clear hK K
        try simp only [Act.put, List.setIfInBounds_toArray, List.set_cons_zero, List.set_cons_succ]
        refine wpAnyH_take (i := 18) (oi := { dst := some 97, op := Op.binOp BinOp.neq 4 (Operand.tmp 92) (Operand.tmp 96) 4, type := 4, pos := "law.go:82", after := #[{ on := 13, ground := Ground.data }, { on := 17, ground := Ground.data }, { on := 9, ground := Ground.guard }], guard := some (9, false) }) (v := ?vpb16) rfl (by kernel_rfl) (by kernel_rfl) (by kernel_rfl) (fun _ _ _ h => h) (Or.inl ⟨by rfl, ?hypb16⟩) (by assumption) ?rpb16
        case hypb16 => (intro w hSw; (try dsimp only at hSw); go_simp; try (with_reducible rfl))
        try simp only [Act.put, List.setIfInBounds_toArray, List.set_cons_zero, List.set_cons_succ]
        refine wpAnyH_take (i := 19) (oi := { dst := some 98, op := Op.pick (Operand.tmp 88) (Operand.const (Value.bool true)) (Operand.tmp 97), type := 4, pos := "law.go:82", after := #[{ on := 9, ground := Ground.data }, { on := 18, ground := Ground.data }], guard := none }) (v := ?vpb17) rfl (by kernel_rfl) (by kernel_rfl) (by kernel_rfl) (fun _ _ _ h => h) (Or.inl ⟨by rfl, ?hypb17⟩) (by assumption) ?rpb17
        case hypb17 => (intro w hSw; (try dsimp only at hSw); go_simp; try (with_reducible rfl))
        try simp only [Act.put, List.setIfInBounds_toArray, List.set_cons_zero, List.set_cons_succ]
        refine wpAnyH_take (i := 20) (oi := { dst := some 99, op := Op.move (Operand.tmp 98), type := 4, pos := "law.go:82", after := #[{ on := 19, ground := Ground.data }, { on := 17, ground := Ground.chain }], guard := none }) (v := ?vpb18) rfl (by kernel_rfl) (by kernel_rfl) (by kernel_rfl) (fun _ _ _ h => h) (Or.inl ⟨by rfl, ?hypb18⟩) (by assumption) ?rpb18
        case hypb18 => (intro w hSw; (try dsimp only at hSw); go_simp; try (with_reducible rfl))
        try simp only [Act.put, List.setIfInBounds_toArray, List.set_cons_zero, List.set_cons_succ]
        refine wpAnyH_take (i := 21) (oi := { dst := some 100, op := Op.move (Operand.tmp 7), type := 22, pos := "law.go:82", after := #[{ on := 20, ground := Ground.guard }], guard := some (20, false) }) (v := ?vpb19) rfl (by kernel_rfl) (by kernel_rfl) (by kernel_rfl) (fun _ _ _ h => h) (Or.inl ⟨by rfl, ?hypb19⟩) (by assumption) ?rpb19
        case hypb19 => (intro w hSw; (try dsimp only at hSw); go_simp; try (with_reducible rfl))
        try simp only [Act.put, List.setIfInBounds_toArray, List.set_cons_zero, List.set_cons_succ]
        refine wpAnyH_take (i := 22) (oi := { dst := some 101, op := Op.fieldAddr 48 (Operand.tmp 10) 4, type := 0, pos := "law.go:82", after := #[{ on := 20, ground := Ground.guard }], guard := some (20, false) }) (v := ?vpb20) rfl (by kernel_rfl) (by kernel_rfl) (by kernel_rfl) (fun _ _ _ h => h) (Or.inl ⟨by rfl, ?hypb20⟩) (by assumption) ?rpb20
        case hypb20 => (intro w hSw; (try dsimp only at hSw); go_simp; try (with_reducible rfl))
        try simp only [Act.put, List.setIfInBounds_toArray, List.set_cons_zero, List.set_cons_succ]
        refine wpAnyH_take (i := 23) (oi := { dst := some 102, op := Op.load 3 (Operand.tmp 101), type := 3, pos := "law.go:82", after := #[{ on := 22, ground := Ground.data }, { on := 20, ground := Ground.guard }], guard := some (20, false) }) (v := ?vpb21) rfl (by kernel_rfl) (by kernel_rfl) (by kernel_rfl) (fun _ _ _ h => h) (Or.inl ⟨by rfl, ?hypb21⟩) (by assumption) ?rpb21
        case hypb21 => (intro w hSw; (try dsimp only at hSw); go_simp; try (with_reducible rfl))
        try simp only [Act.put, List.setIfInBounds_toArray, List.set_cons_zero, List.set_cons_succ]
        refine wpAnyH_take (i := 25) (oi := { dst := some 104, op := Op.load 43 (Operand.tmp 8), type := 43, pos := "law.go:82", after := #[{ on := 20, ground := Ground.guard }], guard := some (20, false) }) (v := ?vpb22) rfl (by kernel_rfl) (by kernel_rfl) (by kernel_rfl) (fun _ _ _ h => h) (Or.inl ⟨by rfl, ?hypb22⟩) (by assumption) ?rpb22
        case hypb22 => (intro w hSw; (try dsimp only at hSw); go_simp; try (with_reducible rfl))
        try simp only [Act.put, List.setIfInBounds_toArray, List.set_cons_zero, List.set_cons_succ]
        refine wpAnyH_take (i := 26) (oi := { dst := some 105, op := Op.fieldAddr 48 (Operand.tmp 10) 4, type := 0, pos := "law.go:82", after := #[{ on := 20, ground := Ground.guard }], guard := some (20, false) }) (v := ?vpb23) rfl (by kernel_rfl) (by kernel_rfl) (by kernel_rfl) (fun _ _ _ h => h) (Or.inl ⟨by rfl, ?hypb23⟩) (by assumption) ?rpb23
        case hypb23 => (intro w hSw; (try dsimp only at hSw); go_simp; try (with_reducible rfl))
        try simp only [Act.put, List.setIfInBounds_toArray, List.set_cons_zero, List.set_cons_succ]
        refine wpAnyH_take (i := 27) (oi := { dst := some 106, op := Op.load 3 (Operand.tmp 105), type := 3, pos := "law.go:82", after := #[{ on := 26, ground := Ground.data }, { on := 20, ground := Ground.guard }], guard := some (20, false) }) (v := ?vpb24) rfl (by kernel_rfl) (by kernel_rfl) (by kernel_rfl) (fun _ _ _ h => h) (Or.inl ⟨by rfl, ?hypb24⟩) (by assumption) ?rpb24
        case hypb24 => (intro w hSw; (try dsimp only at hSw); go_simp; try (with_reducible rfl))
        try simp only [Act.put, List.setIfInBounds_toArray, List.set_cons_zero, List.set_cons_succ]
        refine wpAnyH_ready (rs := [24]) (by kernel_rfl) (by simp) ?_
        refine AllReadyH.cons (o := { dst := some 103, op := Op.call { callee := Callee.value (Operand.func 26), args := #[Operand.tmp 100, Operand.tmp 102], argTypes := #[22, 3] }, type := 3, pos := "law.go:82", after := #[{ on := 21, ground := Ground.data }, { on := 23, ground := Ground.data }, { on := 20, ground := Ground.chain }, { on := 20, ground := Ground.guard }], guard := some (20, false) }) rfl (fun K hK => ?_) AllReadyH.nil
        go_simp
        refine Calls.mono ((HNb.out.dx.tab.frd HFE.out).front a.tty HJ.out) ?_
        rintro e' _ ⟨rfl, rfl⟩
        clear hHeld
        go_wp2_with fail
        refine hK.out _ _ (HSv.out _ HFE.out) (fun hHeld => ?_)
        clear hK K
        try simp only [Act.put, List.setIfInBounds_toArray, List.set_cons_zero, List.set_cons_succ]
        refine wpAnyH_ready (rs := [28]) (by kernel_rfl) (by simp) ?_
        refine AllReadyH.cons (o := { dst := some 107, op := Op.call { callee := Callee.value (Operand.func 27), args := #[Operand.tmp 104, Operand.tmp 106], argTypes := #[43, 3] }, type := 3, pos := "law.go:82", after := #[{ on := 25, ground := Ground.data }, { on := 27, ground := Ground.data }, { on := 24, ground := Ground.chain }, { on := 20, ground := Ground.guard }], guard := some (20, false) }) rfl (fun K hK => ?_) AllReadyH.nil
        go_simp
        refine Calls.mono (HFR.out _ HFE.out) ?_
        rintro e' wf ⟨rfl, hfc⟩
        have HFF := hid (HFE.out.trans hfc)
        clear hHeld hfc
        go_wp2_with fail
        refine hK.out _ _ (HSv.out _ HFF.out) (fun hHeld => ?_)
        clear hK K
        try simp only [Act.put, List.setIfInBounds_toArray, List.set_cons_zero, List.set_cons_succ]
        refine wpAnyH_take (i := 29) (oi := { dst := some 108, op := Op.binOp BinOp.neq 3 (Operand.tmp 103) (Operand.tmp 107) 3, type := 4, pos := "law.go:82", after := #[{ on := 24, ground := Ground.data }, { on := 28, ground := Ground.data }, { on := 20, ground := Ground.guard }], guard := some (20, false) }) (v := ?vpb25) rfl (by kernel_rfl) (by kernel_rfl) (by kernel_rfl) (fun _ _ _ h => h) (Or.inl ⟨by rfl, ?hypb25⟩) (by assumption) ?rpb25
        case hypb25 => (intro w hSw; (try dsimp only at hSw); go_simp; try (with_reducible rfl))
        try simp only [Act.put, List.setIfInBounds_toArray, List.set_cons_zero, List.set_cons_succ]
        refine wpAnyH_take (i := 30) (oi := { dst := some 109, op := Op.pick (Operand.tmp 99) (Operand.const (Value.bool true)) (Operand.tmp 108), type := 4, pos := "law.go:82", after := #[{ on := 20, ground := Ground.data }, { on := 29, ground := Ground.data }], guard := none }) (v := ?vpb26) rfl (by kernel_rfl) (by kernel_rfl) (by kernel_rfl) (fun _ _ _ h => h) (Or.inl ⟨by rfl, ?hypb26⟩) (by assumption) ?rpb26
        case hypb26 => (intro w hSw; (try dsimp only at hSw); go_simp; try (with_reducible rfl))
        try simp only [Act.put, List.setIfInBounds_toArray, List.set_cons_zero, List.set_cons_succ]
        refine wpAnyH_take (i := 31) (oi := { dst := some 110, op := Op.move (Operand.tmp 109), type := 4, pos := "law.go:82", after := #[{ on := 30, ground := Ground.data }, { on := 28, ground := Ground.chain }], guard := none }) (v := ?vpb27) rfl (by kernel_rfl) (by kernel_rfl) (by kernel_rfl) (fun _ _ _ h => h) (Or.inl ⟨by rfl, ?hypb27⟩) (by assumption) ?rpb27
        case hypb27 => (intro w hSw; (try dsimp only at hSw); go_simp; try (with_reducible rfl))
        try simp only [Act.put, List.setIfInBounds_toArray, List.set_cons_zero, List.set_cons_succ]
        refine wpAnyH_take (i := 32) (oi := { dst := some 111, op := Op.move (Operand.tmp 18), type := 4, pos := "law.go:82", after := #[{ on := 31, ground := Ground.guard }], guard := some (31, false) }) (v := ?vpb28) rfl (by kernel_rfl) (by kernel_rfl) (by kernel_rfl) (fun _ _ _ h => h) (Or.inl ⟨by rfl, ?hypb28⟩) (by assumption) ?rpb28
        case hypb28 => (intro w hSw; (try dsimp only at hSw); go_simp; try (with_reducible rfl))
        try simp only [Act.put, List.setIfInBounds_toArray, List.set_cons_zero, List.set_cons_succ]
        refine wpAnyH_take (i := 33) (oi := { dst := some 112, op := Op.move (Operand.tmp 19), type := 3, pos := "law.go:82", after := #[{ on := 31, ground := Ground.guard }], guard := some (31, false) }) (v := ?vpb29) rfl (by kernel_rfl) (by kernel_rfl) (by kernel_rfl) (fun _ _ _ h => h) (Or.inl ⟨by rfl, ?hypb29⟩) (by assumption) ?rpb29
        case hypb29 => (intro w hSw; (try dsimp only at hSw); go_simp; try (with_reducible rfl))
        try simp only [Act.put, List.setIfInBounds_toArray, List.set_cons_zero, List.set_cons_succ]
        refine wpAnyH_take (i := 34) (oi := { dst := some 113, op := Op.binOp BinOp.geq 3 (Operand.tmp 112) (Operand.const (Value.int IntKind.i64 0)) 3, type := 4, pos := "law.go:82", after := #[{ on := 33, ground := Ground.data }, { on := 31, ground := Ground.guard }], guard := some (31, false) }) (v := ?vpb30) rfl (by kernel_rfl) (by kernel_rfl) (by kernel_rfl) (fun _ _ _ h => h) (Or.inl ⟨by rfl, ?hypb30⟩) (by assumption) ?rpb30
        case hypb30 => (intro w hSw; (try dsimp only at hSw); go_simp; try (with_reducible rfl))
        try simp only [Act.put, List.setIfInBounds_toArray, List.set_cons_zero, List.set_cons_succ]
        refine wpAnyH_take (i := 35) (oi := { dst := some 114, op := Op.binOp BinOp.neq 4 (Operand.tmp 111) (Operand.tmp 113) 4, type := 4, pos := "law.go:82", after := #[{ on := 32, ground := Ground.data }, { on := 34, ground := Ground.data }, { on := 31, ground := Ground.guard }], guard := some (31, false) }) (v := ?vpb31) rfl (by kernel_rfl) (by kernel_rfl) (by kernel_rfl) (fun _ _ _ h => h) (Or.inl ⟨by rfl, ?hypb31⟩) (by assumption) ?rpb31
        case hypb31 => (intro w hSw; (try dsimp only at hSw); go_simp; try (with_reducible rfl))
        try simp only [Act.put, List.setIfInBounds_toArray, List.set_cons_zero, List.set_cons_succ]
        refine wpAnyH_take (i := 36) (oi := { dst := some 115, op := Op.pick (Operand.tmp 110) (Operand.const (Value.bool true)) (Operand.tmp 114), type := 4, pos := "law.go:82", after := #[{ on := 31, ground := Ground.data }, { on := 35, ground := Ground.data }], guard := none }) (v := ?vpb32) rfl (by kernel_rfl) (by kernel_rfl) (by kernel_rfl) (fun _ _ _ h => h) (Or.inl ⟨by rfl, ?hypb32⟩) (by assumption) ?rpb32
        case hypb32 => (intro w hSw; (try dsimp only at hSw); go_simp; try (with_reducible rfl))
        try simp only [Act.put, List.setIfInBounds_toArray, List.set_cons_zero, List.set_cons_succ]
        refine wpAnyH_take (i := 37) (oi := { dst := some 116, op := Op.move (Operand.tmp 115), type := 4, pos := "law.go:82", after := #[{ on := 36, ground := Ground.data }, { on := 31, ground := Ground.chain }], guard := none }) (v := ?vpb33) rfl (by kernel_rfl) (by kernel_rfl) (by kernel_rfl) (fun _ _ _ h => h) (Or.inl ⟨by rfl, ?hypb33⟩) (by assumption) ?rpb33
        case hypb33 => (intro w hSw; (try dsimp only at hSw); go_simp; try (with_reducible rfl))
        try simp only [Act.put, List.setIfInBounds_toArray, List.set_cons_zero, List.set_cons_succ]
        refine wpAnyH_take (i := 38) (oi := { dst := some 117, op := Op.move (Operand.tmp 18), type := 4, pos := "law.go:82", after := #[{ on := 37, ground := Ground.guard }], guard := some (37, false) }) (v := ?vpb34) rfl (by kernel_rfl) (by kernel_rfl) (by kernel_rfl) (fun _ _ _ h => h) (Or.inl ⟨by rfl, ?hypb34⟩) (by assumption) ?rpb34
        case hypb34 => (intro w hSw; (try dsimp only at hSw); go_simp; try (with_reducible rfl))
        try simp only [Act.put, List.setIfInBounds_toArray, List.set_cons_zero, List.set_cons_succ]
        refine wpAnyH_take (i := 39) (oi := { dst := some 118, op := Op.move (Operand.tmp 117), type := 4, pos := "law.go:82", after := #[{ on := 38, ground := Ground.data }, { on := 37, ground := Ground.chain }, { on := 37, ground := Ground.guard }], guard := some (37, false) }) (v := ?vpb35) rfl (by kernel_rfl) (by kernel_rfl) (by kernel_rfl) (fun _ _ _ h => h) (Or.inl ⟨by rfl, ?hypb35⟩) (by assumption) ?rpb35
        case hypb35 => (intro w hSw; (try dsimp only at hSw); go_simp; try (with_reducible rfl))
        try simp only [Act.put, List.setIfInBounds_toArray, List.set_cons_zero, List.set_cons_succ]
        refine wpAnyH_take (i := 40) (oi := { dst := some 119, op := Op.load 51 (Operand.tmp 17), type := 51, pos := "law.go:82", after := #[{ on := 39, ground := Ground.guard }], guard := some (39, true) }) (v := ?vpb36) rfl (by kernel_rfl) (by kernel_rfl) (by kernel_rfl) (fun _ _ _ h => h) (Or.inl ⟨by rfl, ?hypb36⟩) (by assumption) ?rpb36
        case hypb36 => (intro w hSw; (try dsimp only at hSw); go_simp; try (with_reducible rfl))
        try simp only [Act.put, List.setIfInBounds_toArray, List.set_cons_zero, List.set_cons_succ]
        refine wpAnyH_take (i := 41) (oi := { dst := some 120, op := Op.fieldAddr 43 (Operand.tmp 8) 0, type := 0, pos := "law.go:82", after := #[{ on := 39, ground := Ground.guard }], guard := some (39, true) }) (v := ?vpb37) rfl (by kernel_rfl) (by kernel_rfl) (by kernel_rfl) (fun _ _ _ h => h) (Or.inl ⟨by rfl, ?hypb37⟩) (by assumption) ?rpb37
        case hypb37 => (intro w hSw; (try dsimp only at hSw); go_simp; try (with_reducible rfl))
        try simp only [Act.put, List.setIfInBounds_toArray, List.set_cons_zero, List.set_cons_succ]
        refine wpAnyH_take (i := 42) (oi := { dst := some 121, op := Op.load 40 (Operand.tmp 120), type := 40, pos := "law.go:82", after := #[{ on := 41, ground := Ground.data }, { on := 39, ground := Ground.guard }], guard := some (39, true) }) (v := ?vpb38) rfl (by kernel_rfl) (by kernel_rfl) (by kernel_rfl) (fun _ _ _ h => h) (Or.inl ⟨by rfl, ?hypb38⟩) (by assumption) ?rpb38
        case hypb38 => (intro w hSw; (try dsimp only at hSw); go_simp; try (with_reducible rfl))
        try simp only [Act.put, List.setIfInBounds_toArray, List.set_cons_zero, List.set_cons_succ]
        refine wpAnyH_take (i := 43) (oi := { dst := some 122, op := Op.move (Operand.tmp 19), type := 3, pos := "law.go:82", after := #[{ on := 39, ground := Ground.guard }], guard := some (39, true) }) (v := ?vpb39) rfl (by kernel_rfl) (by kernel_rfl) (by kernel_rfl) (fun _ _ _ h => h) (Or.inl ⟨by rfl, ?hypb39⟩) (by assumption) ?rpb39
        case hypb39 => (intro w hSw; (try dsimp only at hSw); go_simp; try (with_reducible rfl))
        try simp only [Act.put, List.setIfInBounds_toArray, List.set_cons_zero, List.set_cons_succ]
        refine wpAnyH_take (i := 44) (oi := { dst := some 123, op := Op.indexAddr 40 (Operand.tmp 121) (Operand.tmp 122), type := 0, pos := "law.go:82", after := #[{ on := 42, ground := Ground.data }, { on := 43, ground := Ground.data }, { on := 39, ground := Ground.guard }], guard := some (39, true) }) (v := ?vpb40) rfl (by kernel_rfl) (by kernel_rfl) (by kernel_rfl) (fun _ _ _ h => h) (Or.inl ⟨by rfl, ?hypb40⟩) (by assumption) ?rpb40
        case hypb40 => (intro w hSw; (try dsimp only at hSw); go_simp; try (with_reducible rfl))
        try simp only [Act.put, List.setIfInBounds_toArray, List.set_cons_zero, List.set_cons_succ]
        refine wpAnyH_take (i := 45) (oi := { dst := some 124, op := Op.load 51 (Operand.tmp 123), type := 51, pos := "law.go:82", after := #[{ on := 44, ground := Ground.data }, { on := 39, ground := Ground.guard }], guard := some (39, true) }) (v := ?vpb41) rfl (by kernel_rfl) (by kernel_rfl) (by kernel_rfl) (fun _ _ _ h => h) (Or.inl ⟨by rfl, ?hypb41⟩) (by assumption) ?rpb41
        case hypb41 => (intro w hSw; (try dsimp only at hSw); go_simp; try (with_reducible rfl))
        try simp only [Act.put, List.setIfInBounds_toArray, List.set_cons_zero, List.set_cons_succ]
        refine wpAnyH_take (i := 46) (oi := { dst := some 125, op := Op.binOp BinOp.neq 51 (Operand.tmp 119) (Operand.tmp 124) 51, type := 4, pos := "law.go:82", after := #[{ on := 40, ground := Ground.data }, { on := 45, ground := Ground.data }, { on := 39, ground := Ground.guard }], guard := some (39, true) }) (v := ?vpb42) rfl (by kernel_rfl) (by kernel_rfl) (by kernel_rfl) (fun _ _ _ h => h) (Or.inl ⟨by rfl, ?hypb42⟩) (by assumption) ?rpb42
        case hypb42 => (intro w hSw; (try dsimp only at hSw); go_simp; try (with_reducible rfl))
        try simp only [Act.put, List.setIfInBounds_toArray, List.set_cons_zero, List.set_cons_succ]
        refine wpAnyH_take (i := 47) (oi := { dst := some 126, op := Op.pick (Operand.tmp 118) (Operand.tmp 125) (Operand.const (Value.bool false)), type := 4, pos := "law.go:82", after := #[{ on := 39, ground := Ground.data }, { on := 46, ground := Ground.data }, { on := 37, ground := Ground.guard }], guard := some (37, false) }) (v := ?vpb43) rfl (by kernel_rfl) (by kernel_rfl) (by kernel_rfl) (fun _ _ _ h => h) (Or.inl ⟨by rfl, ?hypb43⟩) (by assumption) ?rpb43
        case hypb43 => (intro w hSw; (try dsimp only at hSw); go_simp; try (with_reducible rfl))
        try simp only [Act.put, List.setIfInBounds_toArray, List.set_cons_zero, List.set_cons_succ]
        refine wpAnyH_take (i := 48) (oi := { dst := some 127, op := Op.pick (Operand.tmp 116) (Operand.const (Value.bool true)) (Operand.tmp 126), type := 4, pos := "law.go:82", after := #[{ on := 37, ground := Ground.data }, { on := 47, ground := Ground.data }], guard := none }) (v := ?vpb44) rfl (by kernel_rfl) (by kernel_rfl) (by kernel_rfl) (fun _ _ _ h => h) (Or.inl ⟨by rfl, ?hypb44⟩) (by assumption) ?rpb44
        case hypb44 => (intro w hSw; (try dsimp only at hSw); go_simp; try (with_reducible rfl))
        try simp only [Act.put, List.setIfInBounds_toArray, List.set_cons_zero, List.set_cons_succ]
        refine wpAnyH_done (by kernel_rfl) ?_ _
        go_wp2
        go_roundw
        case rel => exact ⟨k + 1, S4, T, n + 1, _, _, F4, by omega, by go_num, HNb.out.frd HFF.out⟩
        case measure => simp [intOf]; omega
    · have HFq := hid HQ.out.dx.fr
      clear HQ
      go_wp2_with fail
      refine (pAwake_any wr).mono ?_
      rintro e' w9 ⟨rfl, hf9⟩
      go_wp2
      go_ret
      exact ⟨rfl, (HFq.out.trans hf9).below0⟩
end Go.Proofs.Ytlagakcpjmjdfaa
