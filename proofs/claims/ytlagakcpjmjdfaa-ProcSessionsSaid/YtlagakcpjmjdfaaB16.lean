import Derived.Test.YtlagakcpjmjdfaaB15
set_option linter.unusedSimpArgs false
set_option linter.unusedVariables false
set_option maxRecDepth 20000
namespace Go.Proofs.Ytlagakcpjmjdfaa
open Go.RowKit Go.Proofs.YtlagakcpjmjdfaaW.PrintWords
/-- The program's table alone. -/
structure ES (w W : World) (tb : Nat) (S : Nat → Prop) (t : Tb) (n : Nat) : Prop where
  tab : Tab W tb S t n
  low : ∀ k, S k → w.heap.size ≤ k
  hi : ∀ k, S k → k < W.heap.size
  fr : Fr NoB w W
section
variable {w W W' : World} {tb n n' : Nat} {S : Nat → Prop} {t t' : Tb}
theorem ES.frd (h : ES w W tb S t n) (hf : Fr NoB W W') : ES w W' tb S t n :=
  ⟨h.tab.frd hf, h.low, fun k hk => Nat.lt_of_lt_of_le (h.hi k hk) hf.size, h.fr.trans hf⟩
theorem ES.prog (h : ES w W tb S t n) (ht : TabTo W tb S t' n' W') : ∃ S', ES w W' tb S' t' n' ∧ Fr S W W' ∧ ∀ k, S' k → S k ∨ W.heap.size ≤ k := by
  obtain ⟨S1, h1, h2, h3⟩ := ht
  obtain ⟨S2, g1, g2, g3⟩ := h1.tight
  refine ⟨S2, ⟨g1, fun k hk => ?_, g3, h.fr.then_ h2 (fun k hk => .inr (h.low k hk))⟩, h2, fun k hk => h3 k (g2 k hk)⟩
  rcases h3 k (g2 k hk) with h4 | h4
  · exact h.low k h4
  · exact Nat.le_trans h.fr.size h4
end
/-- Processes in a slice beside a table. -/
structure AS (W : World) (S : Nat → Prop) (v : Value) (l : List Pr) : Prop where
  row : Row Pr.cells 6 51 W 0 v l
  own : ∀ k, OwnB v k → ¬ S k
theorem AS.frd {W W' : World} {S : Nat → Prop} {v : Value} {l : List Pr} (h : AS W S v l) (hf : Fr NoB W W') : AS W' S v l := ⟨h.row.fr hf (fun _ _ h => h), h.own⟩
theorem AS.prog {W W' : World} {S S' : Nat → Prop} {v : Value} {l : List Pr} (h : AS W S v l) (hf : Fr S W W') (hs : ∀ k, S' k → S k ∨ W.heap.size ≤ k) : AS W' S' v l :=
  ⟨h.row.fr hf h.own, fun k hk e => by
    rcases hs k e with e | e
    · exact h.own k hk e
    · have := Row.ltw h.row k hk; omega⟩
theorem exit_head (t : Tb) (p : Pr) (l : List Pr) (ht : t.l = p :: l) : (exitT t p.pid).1.l.map (·.pid) = l.map (·.pid) := by
  have h1 : t.l.find? (isPid p.pid) = some p := by rw [ht, List.find?_cons_of_pos (by simp [isPid])]
  have h2 : t.l.findIdx (isPid p.pid) = 0 := by rw [ht, List.findIdx_cons]; simp [isPid]
  have h3 : ((t.l.eraseIdx (t.l.findIdx (isPid p.pid))).map (parF p.pid)).map (·.pid) = l.map (·.pid) := by
    rw [h2, ht, List.eraseIdx_zero, List.tail_cons, List.map_map]
    congr 1
    funext q
    simp only [Function.comp, parF]
    split <;> rfl
  rw [exitT_some t p.pid p h1]
  split
  · show (giveL _ _ _).map _ = _
    rw [pids_give]
    exact h3
  · exact h3
theorem exit_nx (t : Tb) (pid : Int) : (exitT t pid).1.nx = t.nx := by
  unfold exitT
  split
  · rfl
  split <;> rfl
theorem exit_none (t : Tb) (pid : Int) (h : t.l = []) : exitT t pid = (t, []) := by
  unfold exitT
  rw [h]
  rfl
theorem hang_none (t : Tb) (tty : Int) (h : t.l = []) : hangT t tty = (t, []) := by
  unfold hangT
  rw [if_pos (by rw [h]; rfl)]
theorem fork_none (t : Tb) (pid : Int) (h : t.l = []) : forkT t pid = (t, 0, 5) := by
  unfold forkT
  rw [h]
  rfl
set_option maxHeartbeats 8000000 in
theorem exit_walk (A : Option Addr) (c : Nat) (l : List AcT) (w : World) (hV : AV w A l) (hlc : l.length ≤ c) :
    Calls Try.prog 5 #[.slice A l.length c] w fun e w' => e = .returned (.bool true) ∧ Below w.heap.size w w' := by
  by_cases hbig : l.length > 40
  · go_enter Try.func5, Try.ntmps5
    go_wp2_with fail
    refine (pAwake_any w).mono ?_
    rintro e' w8 ⟨rfl, hf⟩
    go_wp2
    go_ret
    exact ⟨rfl, hf.below0⟩
  have hl : l.length ≤ 40 := by omega
  have hb40 : decide ((l.length : Int) > 40) = false := by simp; omega
  clear hbig
  have HV := hid hV
  clear hV
  go_enter Try.func5, Try.ntmps5
  go_wp2_with fail
  refine (pNew_any w).mono ?_
  rintro e' w1 ⟨tb, S1, rfl, ht, hf1, hs1⟩
  have HT1 := hid ht
  have HF1 := hid hf1
  have HS1 := hid hs1
  clear ht hf1 hs1
  go_wp2_with fail
  refine (rNew_any w1).mono ?_
  rintro e' w2 ⟨v2, fv2, F2, rfl, hr, hf2, hv, hfv⟩
  obtain ⟨A2, c2, hv2, _⟩ := hr.l.shape
  obtain ⟨A3, c3, hfv2, _⟩ := hr.f.shape
  have hls := LS.new HT1.out HF1.out HS1.out hr hf2 hv hfv
  have hnx : newT.nx = 2 := rfl
  have hnl : newT.l.length = 1 := rfl
  rw [hnl] at hv2
  subst hv2 hfv2
  obtain ⟨S, hls⟩ := hls
  obtain ⟨xb, hxb⟩ : ∃ xb, xb = w2.heap.size := ⟨_, rfl⟩
  rw [← hxb] at hls
  have HXB := hid hxb
  have HLS := hid hls
  clear hr hf2 hv hfv hls hnx hnl HT1 HF1 HS1 hxb
  unfold rtv
  go_wp2
  rw [← HXB.out]
  go_loopw [5] (fun v5 wr => ∃ (k : Nat) (S : Nat → Prop) (t : Tb) (n : Nat) (v fv : Value) (F : List Int), k ≤ l.length ∧ v5 = .int .i64 k ∧ Hid (LS w wr tb xb k S t n v fv F)) (fun v5 _ => l.length - (intOf v5).toNat)
  case atStart => exact ⟨0, S, newT, 0, _, _, F2, Nat.zero_le _, rfl, HLS.out⟩
  case round =>
    clear HLS
    obtain ⟨k, S, t, n, v, fv, F, hk, rfl, HQ⟩ := hrel
    by_cases hkl : k < l.length
    · skip
      have hz := HQ.out.dx.rt
      obtain ⟨Av, cv, hvv, _⟩ := hz.l.shape
      obtain ⟨Af, cf, hff, _⟩ := hz.f.shape
      subst hvv hff
      clear hz
      obtain ⟨ad, rfl, hadb, a0, a1, a2, a3, a4, a5⟩ := HV.out.cells HQ.out.dx.fr k hkl
      have hbx := HQ.out.bx
      have b0 := hbx.cell 0 rfl
      have b1 := hbx.cell 1 rfl
      have b2 := hbx.cell 2 rfl
      clear hbx
      have hdo := fun W (hW : Fr NoB wr W) => lDo_any w W l[k] tb n S t _ _ F (HQ.out.dx.frd hW) HQ.out.inv (by have := HQ.out.len; omega) (by have := HQ.out.nx; omega) (by have := HQ.out.nn; omega) (HV.out.2 _ (List.getElem_mem hkl)).1 (HV.out.2 _ (List.getElem_mem hkl)).2
      unfold rtv AcT.v at hdo
      have HDO := hid hdo
      clear hdo
      have HSq : Hid (∀ W, Fr S wr W → W.cell? ⟨xb, 0, none⟩ = some (.slice Av t.l.length cv) ∧ W.cell? ⟨xb, 1, none⟩ = some (.int .i64 t.nx) ∧ W.cell? ⟨xb, 2, none⟩ = some (.slice Af F.length cf) ∧ W.cell? (ad.add (k * 6)) = some (.int .i64 l[k].d) ∧ W.cell? ⟨(ad.add (k * 6)).block, (ad.add (k * 6)).off + 1, none⟩ = some (.int .i64 l[k].pid) ∧ W.cell? ⟨(ad.add (k * 6)).block, (ad.add (k * 6)).off + 2, none⟩ = some (.int .i64 l[k].who) ∧ W.cell? ⟨(ad.add (k * 6)).block, (ad.add (k * 6)).off + 3, none⟩ = some (.int .i64 l[k].grp) ∧ W.cell? ⟨(ad.add (k * 6)).block, (ad.add (k * 6)).off + 4, none⟩ = some (.int .i64 l[k].tty) ∧ W.cell? ⟨(ad.add (k * 6)).block, (ad.add (k * 6)).off + 5, none⟩ = some (.bool l[k].deaf)) := hid fun W hW => by
        have hb := HQ.out.bx.fr hW HQ.out.xs
        have hfb := hW.block ad.block (Nat.lt_of_lt_of_le hadb HQ.out.dx.fr.size) (fun e => by have := HQ.out.dx.low _ e; omega)
        have hc : ∀ a : Addr, a.block = ad.block → W.cell? a = wr.cell? a := fun a ha => World.cell?_of_block (by rw [ha]; exact hfb)
        have hab : (ad.add (k * 6)).block = ad.block := add_block ad _
        exact ⟨hb.cell 0 rfl, hb.cell 1 rfl, hb.cell 2 rfl, (hc _ hab).trans a0, (hc ⟨(ad.add (k * 6)).block, (ad.add (k * 6)).off + 1, none⟩ hab).trans a1, (hc ⟨(ad.add (k * 6)).block, (ad.add (k * 6)).off + 2, none⟩ hab).trans a2, (hc ⟨(ad.add (k * 6)).block, (ad.add (k * 6)).off + 3, none⟩ hab).trans a3, (hc ⟨(ad.add (k * 6)).block, (ad.add (k * 6)).off + 4, none⟩ hab).trans a4, (hc ⟨(ad.add (k * 6)).block, (ad.add (k * 6)).off + 5, none⟩ hab).trans a5⟩
      have HYB : Hid (Blk (wr.alloc (.cells #[.slice none 0 0, .int .i64 0, .slice none 0 0] 43)).drew wr.heap.size 43 [.slice none 0 0, .int .i64 0, .slice none 0 0]) := hid ((Blk.new wr 43 _).fr ((Fr.refl NoB _).drew) (fun h => h))
      go_wp2_with fail
      go_region_held3 (fun W : World => W.cell? ⟨xb, 0, none⟩ = some (.slice Av t.l.length cv) ∧ W.cell? ⟨xb, 1, none⟩ = some (.int .i64 t.nx) ∧ W.cell? ⟨xb, 2, none⟩ = some (.slice Af F.length cf) ∧ W.cell? (ad.add (k * 6)) = some (.int .i64 l[k].d) ∧ W.cell? ⟨(ad.add (k * 6)).block, (ad.add (k * 6)).off + 1, none⟩ = some (.int .i64 l[k].pid) ∧ W.cell? ⟨(ad.add (k * 6)).block, (ad.add (k * 6)).off + 2, none⟩ = some (.int .i64 l[k].who) ∧ W.cell? ⟨(ad.add (k * 6)).block, (ad.add (k * 6)).off + 3, none⟩ = some (.int .i64 l[k].grp) ∧ W.cell? ⟨(ad.add (k * 6)).block, (ad.add (k * 6)).off + 4, none⟩ = some (.int .i64 l[k].tty) ∧ W.cell? ⟨(ad.add (k * 6)).block, (ad.add (k * 6)).off + 5, none⟩ = some (.bool l[k].deaf)) (first | (have hx9 := HFW.out; first | exact HSq.out _ hx9 | exact HSq.out _ (hx9.alloc _) | exact HSq.out _ (((hx9.setCell (.inr (Nat.le_refl _)) _).setCell (.inr (Nat.le_refl _)) _).setCell (.inr (Nat.le_refl _)) _)) | exact HSq.out _ (Fr.refl S wr).drew | exact HSq.out _ ((Fr.refl S wr).alloc _).drew | fail) (first | (go_at_call 17; refine Calls.mono (HDO.out _ ?_) ?_; (first | exact (Fr.refl NoB wr).drew | exact ((Fr.refl NoB wr).alloc _).drew); rintro e' w4 ⟨S4, v4, fv4, F4, rfl, hdx, hfs, hss⟩; obtain ⟨Av4, cv4, hv4, _⟩ := hdx.rt.l.shape; obtain ⟨Af4, cf4, hf4, _⟩ := hdx.rt.f.shape; subst hv4 hf4; unfold rtv; have HFW : Hid (Fr S wr w4) := (by first | exact hid ((Fr.refl S wr).drew.trans hfs) | exact hid (((Fr.refl S wr).alloc _).drew.trans hfs)); have HDX := hid hdx; (try (have hz := HYB.out.fr hfs (fun e => Nat.lt_irrefl _ (HQ.out.dx.hi _ e)); have HYB4 := hid hz; have z0 := hz.cell 0 rfl; have z1 := hz.cell 1 rfl; have z2 := hz.cell 2 rfl; have y0 := hz.frozen 0; have y1 := hz.frozen 1; have y2 := hz.frozen 2; have yl := hz.lt; clear hz))) | fail)
      · skip
        have hss5 : ∀ k, S4 k → S k ∨ wr.heap.size ≤ k := hss
        generalize hw5 : World.alloc w4 _ = w5
        have hfn : Fr NoB w4 w5 := by rw [← hw5]; exact (Fr.refl NoB w4).alloc _
        have hy5 : Blk w5 w4.heap.size 43 [.slice Av4 (stepT t l[k]).l.length cv4, .int .i64 (stepT t l[k]).nx, .slice Af4 F4.length cf4] := by rw [← hw5]; exact Blk.new w4 43 _
        have HDX5 := hid (HDX.out.frd hfn)
        have HFW5 := hid (HFW.out.trans (hfn.mono (fun _ h => h.elim)))
        have HSS5 := hid hss5
        have HY5 := hid hy5
        have hyx : w4.heap.size ≠ xb := fun e => by have := (HQ.out.bx.fr HFW.out HQ.out.xs).lt; omega
        have HYX := hid hyx
        clear hss5 hw5 hfn hy5 hyx hdx hfs hss
        have hy := HY5.out
        have n0 := hy.cell 0 rfl
        have n1 := hy.cell 1 rfl
        have n2 := hy.cell 2 rfl
        have hx := HQ.out.bx.fr HFW5.out HQ.out.xs
        have x0 := hx.cell 0 rfl
        have x1 := hx.cell 1 rfl
        have x2 := hx.cell 2 rfl
        have y0 := hx.frozen 0
        have y1 := hx.frozen 1
        have y2 := hx.frozen 2
        have yl := hx.lt
        have HN := hid (HQ.out.next (Fr.refl NoB wr) HDX5.out HFW5.out HSS5.out)
        clear hy hx a0 a1 a2 a3 a4 a5 b0 b1 b2
        go_wp2
        go_roundw
        case rel => exact ⟨k + 1, S4, stepT t l[k], n + 1, _, _, F4, by omega, by go_num, HN.out⟩
        case measure => simp [intOf]; omega
      · skip
        have hss5 : ∀ k, S4 k → S k ∨ wr.heap.size ≤ k := fun k hk => (hss k hk).imp id (fun h => Nat.le_trans ((Fr.refl NoB wr).alloc (.cells #[.slice none 0 0, .int .i64 0, .slice none 0 0] 43)).drew.size h)
        generalize hw5 : World.setCell (World.setCell (World.setCell w4 _ _) _ _) _ _ = w5
        have hfa : Fr (At wr.heap.size) w4 w5 := by rw [← hw5]; exact (((Fr.refl (At wr.heap.size) w4).setAt 0 _).setAt 1 _).setAt 2 _
        have hy5 : Blk w5 wr.heap.size 43 [.slice Av4 (stepT t l[k]).l.length cv4, .int .i64 (stepT t l[k]).nx, .slice Af4 F4.length cf4] := by rw [← hw5]; exact ((HYB4.out.set 0 (.slice Av4 (stepT t l[k]).l.length cv4)).set 1 (.int .i64 (stepT t l[k]).nx)).set 2 (.slice Af4 F4.length cf4)
        have hns : ¬ S4 wr.heap.size := fun e => by
          rcases hss _ e with e | e
          · exact Nat.lt_irrefl _ (HQ.out.dx.hi _ e)
          · have h1 : wr.heap.size < (wr.alloc (.cells #[.slice none 0 0, .int .i64 0, .slice none 0 0] 43)).drew.heap.size := by
              show wr.heap.size < (wr.alloc (.cells #[.slice none 0 0, .int .i64 0, .slice none 0 0] 43)).heap.size
              rw [World.size_alloc]; omega
            omega
        have HDX5 := hid (HDX.out.at_ HYB4.out (by decide) (by decide) hns HQ.out.dx.fr.size hfa)
        have HFW5 := hid (HFW.out.then_ hfa (fun k e => .inr (by have e' : k = wr.heap.size := e; omega)))
        have HSS5 := hid hss5
        have HY5 := hid hy5
        have hyx : wr.heap.size ≠ xb := fun e => by have := HQ.out.bx.lt; omega
        have HYX := hid hyx
        clear hss5 hw5 hfa hy5 hyx hns hdx hfs hss z0 z1 z2 y0 y1 y2 yl
        have hy := HY5.out
        have n0 := hy.cell 0 rfl
        have n1 := hy.cell 1 rfl
        have n2 := hy.cell 2 rfl
        have hx := HQ.out.bx.fr HFW5.out HQ.out.xs
        have x0 := hx.cell 0 rfl
        have x1 := hx.cell 1 rfl
        have x2 := hx.cell 2 rfl
        have y0 := hx.frozen 0
        have y1 := hx.frozen 1
        have y2 := hx.frozen 2
        have yl := hx.lt
        have HN := hid (HQ.out.next (Fr.refl NoB wr) HDX5.out HFW5.out HSS5.out)
        clear hy hx a0 a1 a2 a3 a4 a5 b0 b1 b2
        go_wp2
        go_roundw
        case rel => exact ⟨k + 1, S4, stepT t l[k], n + 1, _, _, F4, by omega, by go_num, HN.out⟩
        case measure => simp [intOf]; omega
    · have HE := hid (show ES w wr tb S t n from ⟨HQ.out.dx.tab, HQ.out.dx.low, HQ.out.dx.hi, HQ.out.dx.fr⟩)
      have HI := hid HQ.out.inv
      have hlen : t.l.length ≤ 41 := by have := HQ.out.len; omega
      have hnx9 : t.nx ≤ 42 := by have := HQ.out.nx; omega
      have HLn := hid hlen
      have HNx := hid hnx9
      clear HQ hlen hnx9
      go_wp2_with fail
      refine (pAll_any _ tb n S t HE.out.tab (by have := HLn.out; omega)).mono ?_
      rintro e' w4 ⟨av, rfl, hrow, hf4⟩
      have HA4 := hid (show AS w4 S av t.l from ⟨Row.lower hrow (Nat.zero_le _), fun k hk e => by have h1 := hrow.ge k hk; have h2 := HE.out.hi k e; omega⟩)
      have HE4 := hid (HE.out.frd hf4)
      obtain ⟨A4, c4, hv4, _⟩ := hrow.shape
      subst hv4
      clear hrow hf4
      go_wp2
      go_loopw [9] (fun v9 wr => ∃ (k : Nat) (S1 : Nat → Prop) (t1 : Tb) (n1 : Nat), k ≤ t.l.length ∧ v9 = .int .i64 k ∧ Hid (ES w wr tb S1 t1 n1 ∧ AS wr S1 (.slice A4 t.l.length c4) t.l ∧ Inv t1 ∧ t1.l.map (·.pid) = (t.l.drop k).map (·.pid) ∧ t1.nx ≤ 42)) (fun v9 _ => t.l.length - (intOf v9).toNat)
      case atStart => exact ⟨0, S, t, n, Nat.zero_le _, rfl, HE4.out, HA4.out, HI.out, rfl, HNx.out⟩
      case round =>
        clear HE HE4 HA4
        obtain ⟨m, S1, t1, n1, hm, rfl, HK⟩ := hrel
        have hlen := HLn.out
        by_cases hml : m < t.l.length
        · have hd : (t.l.drop m).map (·.pid) = t.l[m].pid :: (t.l.drop (m + 1)).map (·.pid) := by rw [List.drop_eq_getElem_cons hml, List.map_cons]
          have HD := hid hd
          have hrow := HK.out.2.1.row
          obtain ⟨g, c9, h9, _, d0, _⟩ := PrR.at_ hrow m hml
          obtain rfl : A4 = some ⟨g, 0, none⟩ := by injection h9
          clear hd h9
          have h1len : t1.l.length ≤ 41 := by
            have h1 := congrArg List.length HK.out.2.2.2.1
            rw [List.length_map, List.length_map, List.length_drop] at h1
            have := HLn.out
            omega
          have HL1 := hid h1len
          have hex := fun W (hW : Fr NoB wr W) => pExit_any W tb n1 S1 t1 t.l[m].pid (HK.out.1.tab.frd hW) (by have := HL1.out; omega) (fun p hp => ⟨j64_of _ (by have := HK.out.2.2.1.grp p hp; have := HK.out.2.2.2.2; omega), j64_of _ (by have := HK.out.2.2.1.tty p hp; omega)⟩)
          have HEx := hid hex
          clear h1len hex
          rcases Nat.eq_zero_or_pos m with rfl | hm0
          · clear hrow
            go_wp2
            go_quiet (fail)
            rename_i nq
            generalize hw5 : World.drewN _ nq = w5
            have hfn : Fr NoB wr w5 := by rw [← hw5]; exact (Fr.refl NoB wr).drewN nq
            have HF5 := hid hfn
            have d0' := cellK d0 hfn
            clear hfn hw5 d0
            go_wp2_with fail
            refine (HEx.out _ HF5.out).mono ?_
            rintro e' w6 ⟨sv, rfl, hsv, ht⟩
            obtain ⟨S6, hE6, hf6, hs6⟩ := (HK.out.1.frd HF5.out).prog ht
            have HE6 := hid hE6
            have HA6 := hid ((HK.out.2.1.frd HF5.out).prog hf6 hs6)
            have HI6 := hid (HK.out.2.2.1.exit t.l[0].pid)
            have hpp : (exitT t1 t.l[0].pid).1.l.map (·.pid) = (t.l.drop (0 + 1)).map (·.pid) := by
              have h1 := HK.out.2.2.2.1.trans HD.out
              match hq : t1.l, h1 with
              | p :: l1, h1 =>
                injection h1 with e1 e2
                rw [← e1, exit_head t1 p l1 hq, e2]
            have HPP := hid hpp
            have HNX6 := hid (show (exitT t1 t.l[0].pid).1.nx ≤ 42 by rw [exit_nx]; exact HK.out.2.2.2.2)
            clear hsv ht hE6 hf6 hs6 hpp
            go_wp2
            go_roundw
            case rel => exact ⟨0 + 1, S6, (exitT t1 t.l[0].pid).1, n1, by omega, by go_num, HE6.out, HA6.out, HI6.out, HPP.out, HNX6.out⟩
            case measure => simp [intOf]; omega
          · obtain ⟨j, hj⟩ : ∃ j, m = j + 1 := ⟨m - 1, by omega⟩
            have hjl : j < t.l.length := by omega
            obtain ⟨e0, _⟩ := PrR.at2 hrow j hjl
            have hlt : ¬ t.l[m].pid ≤ t.l[j].pid := by
              have h1 := List.pairwise_iff_getElem.1 HI.out.rise j m (by simp; omega) (by simpa using hml) (by omega)
              simp at h1
              omega
            have hwr : IntKind.i64.wrap ((m : Int) - 1) = (j : Int) := by
              rw [show (m : Int) - 1 = (j : Int) by omega]
              exact IntWalk.i64_in _ (by have := HLn.out; omega)
            have hgt : (0 : Int) < (m : Int) := by omega
            have hle2 : decide (t.l[m].pid ≤ t.l[j].pid) = false := decide_eq_false hlt
            clear hrow hj
            go_wp2
            go_quiet (fail)
            rename_i nq
            generalize hw5 : World.drewN _ nq = w5
            have hfn : Fr NoB wr w5 := by rw [← hw5]; exact (Fr.refl NoB wr).drewN nq
            clear hwr hlt hle2 e0
            have HF5 := hid hfn
            have d0' := cellK d0 hfn
            clear hfn hw5 d0
            go_wp2_with fail
            refine (HEx.out _ HF5.out).mono ?_
            rintro e' w6 ⟨sv, rfl, hsv, ht⟩
            obtain ⟨S6, hE6, hf6, hs6⟩ := (HK.out.1.frd HF5.out).prog ht
            have HE6 := hid hE6
            have HA6 := hid ((HK.out.2.1.frd HF5.out).prog hf6 hs6)
            have HI6 := hid (HK.out.2.2.1.exit t.l[m].pid)
            have hpp : (exitT t1 t.l[m].pid).1.l.map (·.pid) = (t.l.drop (m + 1)).map (·.pid) := by
              have h1 := HK.out.2.2.2.1.trans HD.out
              match hq : t1.l, h1 with
              | p :: l1, h1 =>
                injection h1 with e1 e2
                rw [← e1, exit_head t1 p l1 hq, e2]
            have HPP := hid hpp
            have HNX6 := hid (show (exitT t1 t.l[m].pid).1.nx ≤ 42 by rw [exit_nx]; exact HK.out.2.2.2.2)
            clear hsv ht hE6 hf6 hs6 hpp
            go_wp2
            go_roundw
            case rel => exact ⟨m + 1, S6, (exitT t1 t.l[m].pid).1, n1, by omega, by go_num, HE6.out, HA6.out, HI6.out, HPP.out, HNX6.out⟩
            case measure => simp [intOf]; omega
        · have h0 : t1.l = [] := by
            have h1 := HK.out.2.2.2.1
            rw [List.drop_of_length_le (by omega)] at h1
            exact List.map_eq_nil_iff.1 h1
          have HE := hid HK.out.1
          have HT0 := hid h0
          have HN1 := hid HK.out.2.2.2.2
          have HI1 := hid HK.out.2.2.1.nx
          clear HK h0 HI HLn HNx hlen hk hkl
          go_wp2
          go_loopw [10] (fun v10 wr => ∃ (q : Nat) (S2 : Nat → Prop) (n2 : Nat), q ≤ 66 ∧ v10 = .int .i64 q ∧ Hid (ES w wr tb S2 t1 n2)) (fun v10 _ => 66 - (intOf v10).toNat)
          case atStart => exact ⟨0, S1, n1, Nat.zero_le _, rfl, HE.out⟩
          case round =>
            clear HE
            obtain ⟨q, S2, n2, hq, rfl, HE⟩ := hrel
            by_cases hql : q < 66
            · have hlt : (q : Int) < 66 := by omega
              have hh := pHang_any wr tb n2 S2 t1 q HE.out.tab (by rw [HT0.out]; exact Nat.zero_le _) (j64_of _ (by omega))
              rw [hang_none t1 q HT0.out] at hh
              have HH := hid hh
              clear hh
              go_wp2_with fail
              refine HH.out.mono ?_
              rintro e' w6 ⟨sv, rfl, hsv, ht⟩
              obtain ⟨S6, hE6, _, _⟩ := HE.out.prog ht
              have HE6 := hid hE6
              obtain ⟨A6, c6, hv6, _⟩ := Row.shape hsv
              rw [List.length_nil] at hv6
              subst hv6
              clear hsv ht hE6
              go_wp2
              go_roundw
              case rel => exact ⟨q + 1, S6, n2, by omega, by go_num, HE6.out⟩
              case measure => simp [intOf]; omega
            · have hlt : ¬ (q : Int) < 66 := by omega
              have hfk := pFork_any wr tb n2 S2 t1 1 HE.out.tab (by rw [HT0.out]; exact Nat.zero_le _) (by have := HI1.out; omega) (by have := HN1.out; omega)
              rw [fork_none t1 1 HT0.out] at hfk
              have HFk := hid hfk
              clear hfk
              go_wp2_with fail
              refine HFk.out.mono ?_
              rintro e' w6 ⟨rfl, ht⟩
              obtain ⟨S6, hE6, _, _⟩ := HE.out.prog ht
              have HE6 := hid hE6
              clear ht hE6
              go_wp2_with fail
              refine (pAll_any _ tb n2 S6 t1 HE6.out.tab (by rw [HT0.out]; exact Nat.zero_le _)).mono ?_
              rintro e' w7 ⟨av, rfl, hrow, hf7⟩
              rw [HT0.out] at hrow
              obtain ⟨A7, c7, hv7, _⟩ := hrow.shape
              rw [List.length_nil] at hv7
              subst hv7
              have HE7 := hid (HE6.out.frd hf7)
              clear hrow hf7
              have hx := pExit_any w7 tb n2 S6 t1 1 HE7.out.tab (by rw [HT0.out]; exact Nat.zero_le _) (fun p hp => by rw [HT0.out] at hp; cases hp)
              rw [exit_none t1 1 HT0.out] at hx
              have HX := hid hx
              clear hx
              go_wp2_with fail
              refine HX.out.mono ?_
              rintro e' w8 ⟨sv, rfl, hsv, ht⟩
              obtain ⟨S8, hE8, _, _⟩ := HE7.out.prog ht
              have HE8 := hid hE8
              obtain ⟨A8, c8, hv8, _⟩ := Row.shape hsv
              rw [List.length_nil] at hv8
              subst hv8
              clear hsv ht hE8
              go_wp2_with fail
              refine (pAwake_any w8).mono ?_
              rintro e' w9 ⟨rfl, hf9⟩
              go_wp2
              go_ret
              exact ⟨rfl, (HE8.out.fr.trans hf9).below0⟩
end Go.Proofs.Ytlagakcpjmjdfaa
