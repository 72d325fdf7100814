import Derived.Test.YtlagakcpjmjdfaaB16
set_option linter.unusedSimpArgs false
set_option linter.unusedVariables false
set_option maxRecDepth 20000
namespace Go.Proofs.Ytlagakcpjmjdfaa
open Go.RowKit Go.Proofs.YtlagakcpjmjdfaaW.PrintWords
/-- What the act leaves: both tables, and the document's answer in a box. -/
def CutR (w wr : World) (tb xb n : Nat) (S : Nat → Prop) (T : Tb) (s6 : Value) (wx : World) : Prop :=
  ∃ (yb : Nat) (S4 : Nat → Prop) (Av4 Af4 : Option Addr) (cv4 cf4 : Nat) (F4 : List Int), s6 = .pointer (some ⟨yb, 0, none⟩) ∧ DX w wx tb S4 T (n + 1) (.slice Av4 T.l.length cv4) (.slice Af4 F4.length cf4) T F4 ∧ Fr S wr wx ∧ (∀ k, S4 k → S k ∨ wr.heap.size ≤ k) ∧ Blk wx yb 43 [.slice Av4 T.l.length cv4, .int .i64 T.nx, .slice Af4 F4.length cf4] ∧ yb ≠ xb
set_option maxHeartbeats 16000000 in
theorem sessions_walk (A : Option Addr) (c : Nat) (l : List AcT) (w : World) (hV : AV w A l) (hlc : l.length ≤ c) :
    Calls Try.prog 4 #[.slice A l.length c] w fun e w' => e = .returned (.bool true) ∧ Below w.heap.size w w' := by
  by_cases hbig : l.length > 60
  · go_enter Try.func4, Try.ntmps4
    go_wp2_with fail
    refine (pAwake_any w).mono ?_
    rintro e' w8 ⟨rfl, hf⟩
    go_wp2
    go_ret
    exact ⟨rfl, hf.below0⟩
  have hl : l.length ≤ 60 := by omega
  have hb40 : decide ((l.length : Int) > 60) = false := by simp; omega
  clear hbig
  have HV := hid hV
  clear hV
  go_enter Try.func4, Try.ntmps4
  go_wp2_with fail
  refine (pNew_any w).mono ?_
  rintro e' w1 ⟨tb, S1, rfl, ht, hf1, hs1⟩
  have HT1 := hid ht
  have HF1 := hid hf1
  have HS1 := hid hs1
  clear ht hf1 hs1
  go_wp2_with fail
  refine (rNew_any w1).mono ?_
  rintro e' w2 ⟨v2, fv2, F2, rfl, hr, hf2, hv, hfv⟩
  obtain ⟨A2, c2, hv2, _⟩ := hr.l.shape
  obtain ⟨A3, c3, hfv2, _⟩ := hr.f.shape
  have hls := LS.new HT1.out HF1.out HS1.out hr hf2 hv hfv
  have hnx : newT.nx = 2 := rfl
  have hnl : newT.l.length = 1 := rfl
  rw [hnl] at hv2
  subst hv2 hfv2
  obtain ⟨S, hls⟩ := hls
  obtain ⟨xb, hxb⟩ : ∃ xb, xb = w2.heap.size := ⟨_, rfl⟩
  rw [← hxb] at hls
  have HXB := hid hxb
  have HLS := hid hls
  clear hr hf2 hv hfv hls hnx hnl HT1 HF1 HS1 hxb
  unfold rtv
  go_wp2
  rw [← HXB.out]
  go_loopw [5] (fun v5 wr => ∃ (k : Nat) (S : Nat → Prop) (t : Tb) (n : Nat) (v fv : Value) (F : List Int), k ≤ l.length ∧ v5 = .int .i64 k ∧ Hid (LS w wr tb xb k S t n v fv F)) (fun v5 _ => l.length - (intOf v5).toNat)
  case atStart => exact ⟨0, S, newT, 0, _, _, F2, Nat.zero_le _, rfl, HLS.out⟩
  case round =>
    clear HLS
    obtain ⟨k, S, t, n, v, fv, F, hk, rfl, HQ⟩ := hrel
    by_cases hkl : k < l.length
    · skip
      have hz := HQ.out.dx.rt
      obtain ⟨Av, cv, hvv, _⟩ := hz.l.shape
      obtain ⟨Af, cf, hff, _⟩ := hz.f.shape
      subst hvv hff
      clear hz
      obtain ⟨ad, rfl, hadb, a0, a1, a2, a3, a4, a5⟩ := HV.out.cells HQ.out.dx.fr k hkl
      have hbx := HQ.out.bx
      have b0 := hbx.cell 0 rfl
      have b1 := hbx.cell 1 rfl
      have b2 := hbx.cell 2 rfl
      clear hbx
      have hdo := fun W (hW : Fr NoB wr W) => lDo_any w W l[k] tb n S t _ _ F (HQ.out.dx.frd hW) HQ.out.inv (by have := HQ.out.len; omega) (by have := HQ.out.nx; omega) (by have := HQ.out.nn; omega) (HV.out.2 _ (List.getElem_mem hkl)).1 (HV.out.2 _ (List.getElem_mem hkl)).2
      unfold rtv AcT.v at hdo
      have HDO := hid hdo
      clear hdo
      go_upto_region 7 with (fail)
      go_cut [6] (fun s6 wx => CutR w wr tb xb n S (stepT t l[k]) s6 wx)
      case first =>
        have HSq : Hid (∀ W, Fr S wr W → W.cell? ⟨xb, 0, none⟩ = some (.slice Av t.l.length cv) ∧ W.cell? ⟨xb, 1, none⟩ = some (.int .i64 t.nx) ∧ W.cell? ⟨xb, 2, none⟩ = some (.slice Af F.length cf) ∧ W.cell? (ad.add (k * 6)) = some (.int .i64 l[k].d) ∧ W.cell? ⟨(ad.add (k * 6)).block, (ad.add (k * 6)).off + 1, none⟩ = some (.int .i64 l[k].pid) ∧ W.cell? ⟨(ad.add (k * 6)).block, (ad.add (k * 6)).off + 2, none⟩ = some (.int .i64 l[k].who) ∧ W.cell? ⟨(ad.add (k * 6)).block, (ad.add (k * 6)).off + 3, none⟩ = some (.int .i64 l[k].grp) ∧ W.cell? ⟨(ad.add (k * 6)).block, (ad.add (k * 6)).off + 4, none⟩ = some (.int .i64 l[k].tty) ∧ W.cell? ⟨(ad.add (k * 6)).block, (ad.add (k * 6)).off + 5, none⟩ = some (.bool l[k].deaf)) := hid fun W hW => by
          have hb := HQ.out.bx.fr hW HQ.out.xs
          have hfb := hW.block ad.block (Nat.lt_of_lt_of_le hadb HQ.out.dx.fr.size) (fun e => by have := HQ.out.dx.low _ e; omega)
          have hc : ∀ a : Addr, a.block = ad.block → W.cell? a = wr.cell? a := fun a ha => World.cell?_of_block (by rw [ha]; exact hfb)
          have hab : (ad.add (k * 6)).block = ad.block := add_block ad _
          exact ⟨hb.cell 0 rfl, hb.cell 1 rfl, hb.cell 2 rfl, (hc _ hab).trans a0, (hc ⟨(ad.add (k * 6)).block, (ad.add (k * 6)).off + 1, none⟩ hab).trans a1, (hc ⟨(ad.add (k * 6)).block, (ad.add (k * 6)).off + 2, none⟩ hab).trans a2, (hc ⟨(ad.add (k * 6)).block, (ad.add (k * 6)).off + 3, none⟩ hab).trans a3, (hc ⟨(ad.add (k * 6)).block, (ad.add (k * 6)).off + 4, none⟩ hab).trans a4, (hc ⟨(ad.add (k * 6)).block, (ad.add (k * 6)).off + 5, none⟩ hab).trans a5⟩
        have HYB : Hid (Blk (wr.alloc (.cells #[.slice none 0 0, .int .i64 0, .slice none 0 0] 43)).drew wr.heap.size 43 [.slice none 0 0, .int .i64 0, .slice none 0 0]) := hid ((Blk.new wr 43 _).fr ((Fr.refl NoB _).drew) (fun h => h))
        go_wp2_with fail
        go_region_held3 (fun W : World => W.cell? ⟨xb, 0, none⟩ = some (.slice Av t.l.length cv) ∧ W.cell? ⟨xb, 1, none⟩ = some (.int .i64 t.nx) ∧ W.cell? ⟨xb, 2, none⟩ = some (.slice Af F.length cf) ∧ W.cell? (ad.add (k * 6)) = some (.int .i64 l[k].d) ∧ W.cell? ⟨(ad.add (k * 6)).block, (ad.add (k * 6)).off + 1, none⟩ = some (.int .i64 l[k].pid) ∧ W.cell? ⟨(ad.add (k * 6)).block, (ad.add (k * 6)).off + 2, none⟩ = some (.int .i64 l[k].who) ∧ W.cell? ⟨(ad.add (k * 6)).block, (ad.add (k * 6)).off + 3, none⟩ = some (.int .i64 l[k].grp) ∧ W.cell? ⟨(ad.add (k * 6)).block, (ad.add (k * 6)).off + 4, none⟩ = some (.int .i64 l[k].tty) ∧ W.cell? ⟨(ad.add (k * 6)).block, (ad.add (k * 6)).off + 5, none⟩ = some (.bool l[k].deaf)) (first | (have hx9 := HFW.out; first | exact HSq.out _ hx9 | exact HSq.out _ (hx9.alloc _) | exact HSq.out _ (((hx9.setCell (.inr (Nat.le_refl _)) _).setCell (.inr (Nat.le_refl _)) _).setCell (.inr (Nat.le_refl _)) _)) | exact HSq.out _ (Fr.refl S wr).drew | exact HSq.out _ ((Fr.refl S wr).alloc _).drew | fail) (first | (go_at_call 17; refine Calls.mono (HDO.out _ ?_) ?_; (first | exact (Fr.refl NoB wr).drew | exact ((Fr.refl NoB wr).alloc _).drew); rintro e' w4 ⟨S4, v4, fv4, F4, rfl, hdx, hfs, hss⟩; obtain ⟨Av4, cv4, hv4, _⟩ := hdx.rt.l.shape; obtain ⟨Af4, cf4, hf4, _⟩ := hdx.rt.f.shape; subst hv4 hf4; unfold rtv; have HFW : Hid (Fr S wr w4) := (by first | exact hid ((Fr.refl S wr).drew.trans hfs) | exact hid (((Fr.refl S wr).alloc _).drew.trans hfs)); have HDX := hid hdx; (try (have hz := HYB.out.fr hfs (fun e => Nat.lt_irrefl _ (HQ.out.dx.hi _ e)); have HYB4 := hid hz; have z0 := hz.cell 0 rfl; have z1 := hz.cell 1 rfl; have z2 := hz.cell 2 rfl; have y0 := hz.frozen 0; have y1 := hz.frozen 1; have y2 := hz.frozen 2; have yl := hz.lt; clear hz))) | fail)
        · skip
          have hss5 : ∀ k, S4 k → S k ∨ wr.heap.size ≤ k := hss
          generalize hw5 : World.alloc w4 _ = w5
          have hfn : Fr NoB w4 w5 := by rw [← hw5]; exact (Fr.refl NoB w4).alloc _
          have hy5 : Blk w5 w4.heap.size 43 [.slice Av4 (stepT t l[k]).l.length cv4, .int .i64 (stepT t l[k]).nx, .slice Af4 F4.length cf4] := by rw [← hw5]; exact Blk.new w4 43 _
          have HDX5 := hid (HDX.out.frd hfn)
          have HFW5 := hid (HFW.out.trans (hfn.mono (fun _ h => h.elim)))
          have HSS5 := hid hss5
          have HY5 := hid hy5
          have hyx : w4.heap.size ≠ xb := fun e => by have := (HQ.out.bx.fr HFW.out HQ.out.xs).lt; omega
          have HYX := hid hyx
          clear hss5 hw5 hfn hy5 hyx hdx hfs hss
          go_wp2_with fail
          go_meet
          exact ⟨w4.heap.size, S4, Av4, Af4, cv4, cf4, F4, rfl, HDX5.out, HFW5.out, HSS5.out, HY5.out, HYX.out⟩
        · skip
          have hss5 : ∀ k, S4 k → S k ∨ wr.heap.size ≤ k := fun k hk => (hss k hk).imp id (fun h => Nat.le_trans ((Fr.refl NoB wr).alloc (.cells #[.slice none 0 0, .int .i64 0, .slice none 0 0] 43)).drew.size h)
          generalize hw5 : World.setCell (World.setCell (World.setCell w4 _ _) _ _) _ _ = w5
          have hfa : Fr (At wr.heap.size) w4 w5 := by rw [← hw5]; exact (((Fr.refl (At wr.heap.size) w4).setAt 0 _).setAt 1 _).setAt 2 _
          have hy5 : Blk w5 wr.heap.size 43 [.slice Av4 (stepT t l[k]).l.length cv4, .int .i64 (stepT t l[k]).nx, .slice Af4 F4.length cf4] := by rw [← hw5]; exact ((HYB4.out.set 0 (.slice Av4 (stepT t l[k]).l.length cv4)).set 1 (.int .i64 (stepT t l[k]).nx)).set 2 (.slice Af4 F4.length cf4)
          have hns : ¬ S4 wr.heap.size := fun e => by
            rcases hss _ e with e | e
            · exact Nat.lt_irrefl _ (HQ.out.dx.hi _ e)
            · have h1 : wr.heap.size < (wr.alloc (.cells #[.slice none 0 0, .int .i64 0, .slice none 0 0] 43)).drew.heap.size := by
                show wr.heap.size < (wr.alloc (.cells #[.slice none 0 0, .int .i64 0, .slice none 0 0] 43)).heap.size
                rw [World.size_alloc]; omega
              omega
          have HDX5 := hid (HDX.out.at_ HYB4.out (by decide) (by decide) hns HQ.out.dx.fr.size hfa)
          have HFW5 := hid (HFW.out.then_ hfa (fun k e => .inr (by have e' : k = wr.heap.size := e; omega)))
          have HSS5 := hid hss5
          have HY5 := hid hy5
          have hyx : wr.heap.size ≠ xb := fun e => by have := HQ.out.bx.lt; omega
          have HYX := hid hyx
          clear hss5 hw5 hfa hy5 hyx hns hdx hfs hss z0 z1 z2 y0 y1 y2 yl
          go_wp2_with fail
          go_meet
          exact ⟨wr.heap.size, S4, Av4, Af4, cv4, cf4, F4, rfl, HDX5.out, HFW5.out, HSS5.out, HY5.out, HYX.out⟩
      case rest =>
        obtain ⟨yb, S4, Av4, Af4, cv4, cf4, F4, rfl, hdx5, hfw5, hss5, hy5, hyx⟩ := hcut
        have HDX5 := hid hdx5
        have HFW5 := hid hfw5
        have HSS5 := hid hss5
        have HY5 := hid hy5
        have HYX := hid hyx
        clear hdx5 hfw5 hss5 hy5 hyx
        obtain ⟨w5, hw5⟩ : ∃ w5, w5 = wc := ⟨_, rfl⟩
        rw [← hw5] at HDX5 HFW5 HY5 ⊢
        clear hw5
        have hy := HY5.out
        have n0 := hy.cell 0 rfl
        have n1 := hy.cell 1 rfl
        have n2 := hy.cell 2 rfl
        have hx := HQ.out.bx.fr HFW5.out HQ.out.xs
        have x0 := hx.cell 0 rfl
        have x1 := hx.cell 1 rfl
        have x2 := hx.cell 2 rfl
        have y0 := hx.frozen 0
        have y1 := hx.frozen 1
        have y2 := hx.frozen 2
        have yl := hx.lt
        have HN := hid (HQ.out.next (Fr.refl NoB wr) HDX5.out HFW5.out HSS5.out)
        clear hy hx a0 a1 a2 a3 a4 a5 b0 b1 b2
        have hsl : (stepT t l[k]).l.length ≤ 200 := by have := HN.out.len; omega
        have HSL := hid hsl
        clear hsl
        go_wp2_with fail
        refine (pAll_any _ tb (n + 1) S4 (stepT t l[k]) HN.out.dx.tab (by have := HSL.out; omega)).mono ?_
        rintro e' w6 ⟨av, rfl, hrow, hf6⟩
        have HN6 := hid (HN.out.frd hf6)
        have HSe := hid HN.out.inv.se
        obtain ⟨A6, c6, hv6, _⟩ := hrow.shape
        subst hv6
        have HRow := hid hrow
        clear hrow hf6 n0 n1 n2 x0 x1 x2 y0 y1 y2 yl HN
        have hSL := HSL.out
        generalize stepT t l[k] = T at *
        go_wp2
        go_loopw [9] (fun v9 wx => ∃ m : Nat, m ≤ T.l.length ∧ v9 = .int .i64 m ∧ Hid (Fr NoB w6 wx)) (fun v9 _ => T.l.length - (intOf v9).toNat)
        case atStart => exact ⟨0, Nat.zero_le _, rfl, Fr.refl _ _⟩
        case round =>
          obtain ⟨m, hm, rfl, HFx⟩ := hrel
          by_cases hml : m < T.l.length
          · obtain ⟨g, c9, h9, _, p0, p1, p2, p3, p4, p5⟩ := PrR.at_ (HRow.out.fr HFx.out (fun _ _ h => h)) m hml
            obtain rfl : A6 = some ⟨g, 0, none⟩ := by injection h9
            clear h9
            go_upto_region 13 with (fail)
            go_cut [65] (fun s65 wx => s65 = .bool false ∧ Hid (Fr NoB w6 wx))
            case first =>
              cases e1 : (T.l[m].ses == T.l[m].pid)
              · go_wp2_with fail
                go_quiet (fail)
                rename_i nq
                go_wp2_with fail
                go_meet
                exact ⟨rfl, HFx.out.drewN nq⟩
              · have e2 : (T.l[m].grp != T.l[m].pid) = false := by simpa using HSe.out.s4 _ (List.getElem_mem hml) (by simpa using e1)
                go_wp2_with fail
                go_quiet (fail)
                rename_i nq
                go_wp2_with fail
                go_meet
                exact ⟨rfl, HFx.out.drewN nq⟩
            case rest =>
              obtain ⟨rfl, HF7⟩ := hcut
              clear p0 p1 p2 p3 p4 p5
              go_wp2
              go_loopw [10] (fun v10 wx => ∃ q : Nat, q ≤ T.l.length ∧ v10 = .int .i64 q ∧ Hid (Fr NoB w6 wx)) (fun v10 _ => T.l.length - (intOf v10).toNat)
              case atStart => exact ⟨0, Nat.zero_le _, rfl, HF7⟩
              case round =>
                clear HF7 HFx
                obtain ⟨q, hq, rfl, HFy⟩ := hrel
                by_cases hql : q < T.l.length
                · obtain ⟨p0, p1, p2, p3, p4, p5⟩ := PrR.at2 (HRow.out.fr HFy.out (fun _ _ h => h)) m hml
                  obtain ⟨r0, r1, r2, r3, r4, r5⟩ := PrR.at2 (HRow.out.fr HFy.out (fun _ _ h => h)) q hql
                  have k1 : (T.l[m].grp == T.l[q].grp) = true → (T.l[m].ses == T.l[q].ses) = true := fun e => by simpa using HSe.out.s1 _ (List.getElem_mem hml) _ (List.getElem_mem hql) (by simpa using e)
                  have k2 : (T.l[m].ses == T.l[q].ses) = true → (T.l[m].tty != T.l[q].tty) = false := fun e => by simpa using HSe.out.s2 _ (List.getElem_mem hml) _ (List.getElem_mem hql) (by simpa using e)
                  have k3 : (T.l[m].tty != 0) = true → (T.l[m].ses == T.l[q].ses) = false → (T.l[m].tty == T.l[q].tty) = false := fun e e' => by
                    cases h : (T.l[m].tty == T.l[q].tty)
                    · rfl
                    · have := HSe.out.s3 _ (List.getElem_mem hml) _ (List.getElem_mem hql) (by simpa using e) (by simpa using h)
                      rw [this] at e'
                      simp at e'
                  have k4 : (T.l[m].ses != T.l[q].ses) = !(T.l[m].ses == T.l[q].ses) := rfl
                  have k5 : (T.l[m].tty == T.l[q].tty) = !(T.l[m].tty != T.l[q].tty) := by unfold bne; rw [Bool.not_not]
                  have hsv : ∀ W, Fr NoB wr W → W.cell? ⟨g, m * 6 + 2, none⟩ = some (.int .i64 T.l[m].grp) ∧ W.cell? ⟨g, m * 6 + 3, none⟩ = some (.int .i64 T.l[m].ses) ∧ W.cell? ⟨g, m * 6 + 4, none⟩ = some (.int .i64 T.l[m].tty) ∧ W.cell? ⟨g, q * 6 + 2, none⟩ = some (.int .i64 T.l[q].grp) ∧ W.cell? ⟨g, q * 6 + 3, none⟩ = some (.int .i64 T.l[q].ses) ∧ W.cell? ⟨g, q * 6 + 4, none⟩ = some (.int .i64 T.l[q].tty) := fun W hW => by
                    obtain ⟨_, _, p2, p3, p4, _⟩ := PrR.at2 (HRow.out.fr (HFy.out.trans hW) (fun _ _ h => h)) m hml
                    obtain ⟨_, _, r2, r3, r4, _⟩ := PrR.at2 (HRow.out.fr (HFy.out.trans hW) (fun _ _ h => h)) q hql
                    exact ⟨p2, p3, p4, r2, r3, r4⟩
                  have HSv := hid hsv
                  clear hsv
                  generalize T.l[m] = pa at *
                  generalize T.l[q] = pb at *
                  go_upto_region 18 with (fail)
                  go_cut [155] (fun s155 wx => s155 = .bool false ∧ Hid (Fr NoB w6 wx))
                  case first =>
                    simp only [List.append]
                    cases e1 : (pa.grp == pb.grp) <;> cases e2 : (pa.ses == pb.ses) <;> cases e3 : (pa.tty != 0)
                    · rw [e2] at k4
                      clear k1 k2 k3 k5
                      as_aux_lemma =>
                        go_wp2_with fail
                        go_quiet (fail)
                        rename_i nq
                        go_wp2_with fail
                        go_meet
                        exact ⟨rfl, HFy.out.drewN nq⟩
                    · rw [e2] at k4
                      have e4 := k3 e3 e2
                      clear k1 k2 k3 k5
                      as_aux_lemma =>
                        go_wp2_with fail
                        go_quiet (fail)
                        rename_i nq
                        go_wp2_with fail
                        go_meet
                        exact ⟨rfl, HFy.out.drewN nq⟩
                    · rw [e2] at k4
                      have e4 := k2 e2
                      clear k1 k2 k3 k5
                      as_aux_lemma =>
                        go_wp2_with fail
                        go_quiet (fail)
                        rename_i nq
                        go_wp2_with fail
                        go_meet
                        exact ⟨rfl, HFy.out.drewN nq⟩
                    · rw [e2] at k4
                      have e4 := k2 e2
                      rw [e4] at k5
                      clear k1 k2 k3
                      as_aux_lemma =>
                        go_wp2_with fail
                        go_quiet (fail)
                        rename_i nq
                        go_wp2_with fail
                        go_meet
                        exact ⟨rfl, HFy.out.drewN nq⟩
                    · exact absurd (k1 e1) (by rw [e2]; decide)
                    · exact absurd (k1 e1) (by rw [e2]; decide)
                    · rw [e2] at k4
                      have e4 := k2 e2
                      clear k1 k2 k3 k5
                      as_aux_lemma =>
                        go_wp2_with fail
                        go_quiet (fail)
                        rename_i nq
                        go_wp2_with fail
                        go_meet
                        exact ⟨rfl, HFy.out.drewN nq⟩
                    · rw [e2] at k4
                      have e4 := k2 e2
                      rw [e4] at k5
                      clear k1 k2 k3
                      as_aux_lemma =>
                        go_wp2_with fail
                        go_quiet (fail)
                        rename_i nq
                        go_wp2_with fail
                        go_meet
                        exact ⟨rfl, HFy.out.drewN nq⟩
                  case rest =>
                    obtain ⟨rfl, HFz⟩ := hcut
                    clear k1 k2 k3 k4 k5 p0 p1 p2 p3 p4 p5 r0 r1 r2 r3 r4 r5
                    go_wp2
                    go_roundw
                    case rel => exact ⟨q + 1, by omega, by go_num, HFz⟩
                    case measure => simp [intOf]; omega
                · go_wp2
                  go_roundw
                  case rel => exact ⟨m + 1, by omega, by go_num, HFy.out⟩
                  case measure => simp [intOf]; omega
          · go_wp2
            go_roundw
            case rel => exact ⟨k + 1, S4, T, n + 1, _, _, F4, by omega, by go_num, HN6.out.frd HFx.out⟩
            case measure => simp [intOf]; omega
    · have HFq := hid HQ.out.dx.fr
      clear HQ
      go_wp2_with fail
      refine (pAwake_any wr).mono ?_
      rintro e' w9 ⟨rfl, hf9⟩
      go_wp2
      go_ret
      exact ⟨rfl, (HFq.out.trans hf9).below0⟩
end Go.Proofs.Ytlagakcpjmjdfaa
