import Derived.Test.YtlagakcpjmjdfaaB12
import Derived.Test.YtlagakcpjmjdfaaB8
import Derived.Test.YtlagakcpjmjdfaaA13
import Derived.Test.YtlagakcpjmjdfaaO1
set_option linter.unusedSimpArgs false
set_option linter.unusedVariables false
set_option maxRecDepth 20000
namespace Go.Proofs.Ytlagakcpjmjdfaa
open Go.RowKit Go.Proofs.YtlagakcpjmjdfaaW.PrintWords
theorem er_succ (l : List Pr) (k : Nat) (hk : k < l.length) (i : Nat) : (l.take (k + 1)).eraseIdx i = (l.take k).eraseIdx i ++ (if k = i then [] else [l[k]]) := by
  have hlen : (l.take k).length = k := by rw [List.length_take]; omega
  rw [List.take_succ_eq_append_getElem hk]
  by_cases e : k = i
  · subst e
    rw [if_pos rfl, List.append_nil, List.eraseIdx_append_of_length_le (by omega), hlen, Nat.sub_self, List.eraseIdx_of_length_le (l := l.take k) (by omega)]
    simp
  · rw [if_neg e]
    by_cases h : i < k
    · rw [List.eraseIdx_append_of_lt_length (by omega)]
    · rw [List.eraseIdx_of_length_le (l := l.take k ++ [l[k]]) (by rw [List.length_append, List.length_singleton]; omega), List.eraseIdx_of_length_le (l := l.take k) (by omega)]
/-- The document's signals, one number after the other. -/
def sigR (l0 l1 : List Pr) (n : Nat) : List (Int × Int) := (upto n).flatMap (newR l0 l1)
theorem sigR_succ (l0 l1 : List Pr) (n : Nat) : sigR l0 l1 (n + 1) = sigR l0 l1 n ++ newR l0 l1 ((n : Int) + 1) := by
  unfold sigR
  rw [upto_succ, List.flatMap_append]
  simp
theorem sigR_len (l0 l1 : List Pr) (n : Nat) : (sigR l0 l1 n).length ≤ 2 * n := by
  induction n with
  | zero => exact Nat.le_refl _
  | succ n ih =>
    rw [sigR_succ, List.length_append]
    have := newR_len l0 l1 ((n : Int) + 1)
    omega
def goneL (t : Tb) (pid : Int) (i : Nat) : List Pr := (t.l.eraseIdx i).map (parF pid)
/-- Exit as the document has it. -/
def exitR (t : Tb) (pid : Int) (n : Nat) : Tb × List (Int × Int) := match t.l.find? (isPid pid) with
  | none => (t, [])
  | some p =>
    if (p.ses == pid && p.tty != 0) = true then
      (⟨giveL pid 0 (goneL t pid (t.l.findIdx (isPid pid))), t.nx, fun j => if j = p.tty then 0 else t.f j⟩,
        (if hasG (goneL t pid (t.l.findIdx (isPid pid))) (t.f p.tty) 0 then [(t.f p.tty, 4)] else []) ++ sigR t.l (giveL pid 0 (goneL t pid (t.l.findIdx (isPid pid)))) n)
    else
      (⟨goneL t pid (t.l.findIdx (isPid pid)), t.nx, t.f⟩, [] ++ sigR t.l (goneL t pid (t.l.findIdx (isPid pid))) n)
theorem exitR_exitT (t : Tb) (pid : Int) (n : Nat) (hn : t.nx = (n : Int) + 1) (h : ∀ p ∈ t.l, 1 ≤ p.grp ∧ p.grp < t.nx) : exitR t pid n = exitT t pid := by
  have hg : ∀ p ∈ goneL t pid (t.l.findIdx (isPid pid)), 1 ≤ p.grp ∧ p.grp < (n : Int) + 1 := by
    intro p hp
    obtain ⟨q, hq, rfl⟩ := List.mem_map.1 hp
    have h1 := h q (List.mem_of_mem_eraseIdx hq)
    unfold parF
    rw [← hn]
    split <;> exact h1
  have hg2 : ∀ p ∈ giveL pid 0 (goneL t pid (t.l.findIdx (isPid pid))), 1 ≤ p.grp ∧ p.grp < (n : Int) + 1 := by
    intro p hp
    unfold giveL at hp
    obtain ⟨q, hq, rfl⟩ := List.mem_map.1 hp
    have h1 := hg q hq
    split <;> exact h1
  unfold exitR exitT sigR
  rw [← sigs_same t.l _ n hg, ← sigs_same t.l _ n hg2]
  rfl
/-- What the document's loop over all numbers keeps. -/
structure XR (w2 W : World) (nb : Nat) (lv fv : Value) (t1 : Tb) (F1 : List Int) (ov : Value) (out : List (Int × Int)) : Prop where
  bx : Blk W nb 43 [lv, .int .i64 t1.nx, fv]
  rt : RT W lv fv t1 F1
  so : SgR W w2.heap.size ov out
  fr : Fr NoB w2 W
theorem XR.quiet {w2 W W1 : World} {nb : Nat} {lv fv : Value} {t1 : Tb} {F1 : List Int} {ov : Value} {out : List (Int × Int)} (h : XR w2 W nb lv fv t1 F1 ov out) (hf : Fr NoB W W1) : XR w2 W1 nb lv fv t1 F1 ov out :=
  ⟨h.bx.fr hf (fun h => h), h.rt.frd hf, Row.fr h.so hf (fun _ _ h => h), h.fr.trans hf⟩
theorem XR.app {w2 W W1 : World} {nb : Nat} {lv fv : Value} {t1 : Tb} {F1 : List Int} {ov ov1 : Value} {out out1 : List (Int × Int)} (h : XR w2 W nb lv fv t1 F1 ov out) (hf : Fr (OwnB ov) W W1) (hs : SgR W1 w2.heap.size ov1 out1) : XR w2 W1 nb lv fv t1 F1 ov1 out1 :=
  ⟨h.bx.fr hf (Row.not_blk h.so h.bx (by decide)), h.rt.fr hf (fun k hk hk2 => Row.apart h.rt.l h.so (by decide) k hk hk2) (fun k hk hk2 => Row.apart h.rt.f h.so (by decide) k hk hk2), hs, h.fr.then_ hf (fun k hk => .inr (Row.lt h.so k hk).1)⟩
set_option maxHeartbeats 8000000 in
theorem rExit_any (w : World) (v fv : Value) (t : Tb) (F : List Int) (pid : Int) (n : Nat) (h : RT w v fv t F) (hl : t.l.length ≤ 400) (hn : t.nx = (n : Int) + 1) (hn1 : n ≤ 2000) (htt : ∀ p ∈ t.l, 0 ≤ p.tty ∧ p.tty ≤ 64) :
    Calls Try.prog 43 #[rtv v t.nx fv, .int .i64 pid] w (RSig w v fv (exitR t pid n)) := by
  obtain ⟨A, c, hv, hc⟩ := h.l.shape
  obtain ⟨A2, c2, hfv, _⟩ := h.f.shape
  subst hv hfv
  have hf0 : Fr NoB w ((w.alloc (.cells #[.slice A t.l.length c, .int .i64 t.nx, .slice A2 F.length c2] 43)).alloc (.cells #[.slice none 0 0, .int .i64 0, .slice none 0 0] 43)) := ((Fr.refl _ _).alloc _).alloc _
  have hB := (Blk.new w 43 [.slice A t.l.length c, .int .i64 t.nx, .slice A2 F.length c2]).alloc (.cells #[.slice none 0 0, .int .i64 0, .slice none 0 0] 43)
  have hZ := Blk.new (w.alloc (.cells #[.slice A t.l.length c, .int .i64 t.nx, .slice A2 F.length c2] 43)) 43 [.slice none 0 0, .int .i64 0, .slice none 0 0]
  rw [World.size_alloc] at hZ
  have HB0 := hid hB
  have HZ0 := hid hZ
  have HF0 := hid hf0
  have HR0 := hid (h.frd hf0)
  have HRW := hid h
  have HL := hid hl
  clear h hf0 hB hZ
  have HN := hid hn
  have HN1 := hid hn1
  clear hn hn1
  have HAt := hid (rAt_any _ _ _ t.nx t F pid HR0.out (by have := HL.out; omega))
  unfold rtv at HAt
  rcases at_cases t.l pid with ⟨h1, h2⟩ | ⟨i, hi, h1, h2, h3⟩
  · have hr : exitR t pid n = (t, []) := by unfold exitR; rw [h2]
    rw [hr]
    rw [h1] at HAt
    clear hr h1 h2 htt
    unfold rtv
    go_enter Try.func43, Try.ntmps43
    go_wp2_with fail
    refine Calls.mono (HAt.out) ?_
    rintro e' w1 ⟨rfl, hfn⟩
    have HF1 := hid (HF0.out.trans hfn)
    have HR1 := hid (HR0.out.frd hfn)
    have HB1 := hid (HB0.out.fr hfn (fun h => h))
    have HZ1 := hid (HZ0.out.fr hfn (fun h => h))
    clear hfn
    have hb := HB1.out
    have hz := HZ1.out
    have b0 := hb.cell 0 rfl
    have b1 := hb.cell 1 rfl
    have b2 := hb.cell 2 rfl
    have z0 := hz.cell 0 rfl
    have z1 := hz.cell 1 rfl
    have z2 := hz.cell 2 rfl
    have y0 := hz.frozen 0
    have y1 := hz.frozen 1
    have y2 := hz.frozen 2
    have yl := hz.lt
    have bl := hb.lt
    clear hb hz
    go_wp2
    have hfz := HF1.out.then_ ((((Fr.refl (At (w.heap.size + 1)) w1).setAt 0 (.slice A t.l.length c)).setAt 1 (.int .i64 t.nx)).setAt 2 (.slice A2 F.length c2)) (fun k e => .inr (by have e' : k = w.heap.size + 1 := e; omega))
    have hne : ∀ k, OwnB (.slice A t.l.length c) k → ¬ At (w.heap.size + 1) k := fun k hk e => Row.not_blk HR1.out.l HZ1.out (by decide) (by have e' : k = w.heap.size + 1 := e; rw [← e']; exact hk)
    have hne2 : ∀ k, OwnB (.slice A2 F.length c2) k → ¬ At (w.heap.size + 1) k := fun k hk e => Row.not_blk HR1.out.f HZ1.out (by decide) (by have e' : k = w.heap.size + 1 := e; rw [← e']; exact hk)
    refine bodyPost_ret (v := .tuple #[rtv (.slice A t.l.length c) t.nx (.slice A2 F.length c2), .slice none 0 0]) (by simp [results, Try.results43, go_sem, z0, z1, z2, rtv]) rfl ⟨_, _, F, _, rfl, HR1.out.fr ((((Fr.refl (At (w.heap.size + 1)) w1).setAt 0 _).setAt 1 _).setAt 2 _) hne hne2, Row.nil _ _ _ _ _, hfz, fun k hk => .inl hk, fun k hk => .inl hk⟩
  · have hr := show exitR t pid n = (if (t.l[i].ses == pid && t.l[i].tty != 0) = true then
        (⟨giveL pid 0 (goneL t pid i), t.nx, fun j => if j = t.l[i].tty then 0 else t.f j⟩,
          (if hasG (goneL t pid i) (t.f t.l[i].tty) 0 then [(t.f t.l[i].tty, 4)] else []) ++ sigR t.l (giveL pid 0 (goneL t pid i)) n)
      else
        (⟨goneL t pid i, t.nx, t.f⟩, [] ++ sigR t.l (goneL t pid i) n)) by unfold exitR; rw [h2]; simp only [h3]
    obtain ⟨r, hr0⟩ : ∃ r, r = exitR t pid n := ⟨_, rfl⟩
    rw [← hr0]
    have HRes := hid (hr0.trans hr)
    clear hr0
    rw [h1] at HAt
    clear hr h1 h2 h3
    unfold rtv
    go_enter Try.func43, Try.ntmps43
    go_wp2_with fail
    refine Calls.mono (HAt.out) ?_
    rintro e' w1 ⟨rfl, hfn⟩
    have HF1 := hid (HF0.out.trans hfn)
    have HR1 := hid (HR0.out.frd hfn)
    have HB1 := hid (HB0.out.fr hfn (fun h => h))
    have HZ1 := hid (HZ0.out.fr hfn (fun h => h))
    clear hfn
    have hb := HB1.out
    have hz := HZ1.out
    have b0 := hb.cell 0 rfl
    have b1 := hb.cell 1 rfl
    have b2 := hb.cell 2 rfl
    have z0 := hz.cell 0 rfl
    have z1 := hz.cell 1 rfl
    have z2 := hz.cell 2 rfl
    have y0 := hz.frozen 0
    have y1 := hz.frozen 1
    have y2 := hz.frozen 2
    have yl := hz.lt
    have bl := hb.lt
    clear hb hz
    obtain ⟨g, c9, h9, _, d0, d1, d2, d3, d4, d5⟩ := PrR.at_ HR1.out.l i hi
    obtain rfl : A = some ⟨g, 0, none⟩ := by injection h9
    clear h9
    go_upto_region 6 with (fail)
    generalize hw2 : World.alloc w1 _ = w2
    have hfn : Fr NoB w1 w2 := by rw [← hw2]; exact (Fr.refl NoB w1).alloc _
    have HP2 : Hid (Blk w2 w1.heap.size 51 t.l[i].cells) := hid (by rw [← hw2]; exact Blk.new w1 51 t.l[i].cells)
    have HF2 := hid (HF1.out.trans hfn)
    have HR2 := hid (HR1.out.frd hfn)
    have HB2 := hid (HB1.out.fr hfn (fun h => h))
    have HZ2 := hid (HZ1.out.fr hfn (fun h => h))
    clear hfn hw2 d0 d1 d2 d3 d4 d5
    clear b0 b1 b2 z0 z1 z2 y0 y1 y2 yl bl
    have HG0 : Hid (((t.l.take 0).eraseIdx i).map (parF pid) = []) := hid rfl
    go_wp2
    go_loopw [9, 10] (fun v9 v10 wr => ∃ k : Nat, k ≤ t.l.length ∧ v10 = .int .i64 k ∧ Hid (Row Pr.cells 6 51 wr w2.heap.size v9 (((t.l.take k).eraseIdx i).map (parF pid)) ∧ Fr NoB w2 wr)) (fun _ v10 _ => t.l.length - (intOf v10).toNat)
    case atStart => exact ⟨0, Nat.zero_le _, rfl, Row.nil _ _ _ _ _, Fr.refl _ _⟩
    case round =>
      obtain ⟨k, hk, rfl, HK⟩ := hrel
      have hb := HB2.out.fr HK.out.2 (fun h => h)
      have b0 := hb.cell 0 rfl
      have b1 := hb.cell 1 rfl
      have b2 := hb.cell 2 rfl
      clear hb
      by_cases hkm : k < t.l.length
      · obtain ⟨d0, d1, d2, d3, d4, d5⟩ := PrR.at2 (HR2.out.frd HK.out.2).l k hkm
        have her := er_succ t.l k hkm i
        have HL9 : Hid ((((t.l.take k).eraseIdx i).map (parF pid)).length ≤ k) := hid (by
          rw [List.length_map]
          refine Nat.le_trans (List.length_eraseIdx_le ..) ?_
          exact List.length_take_le _ _)
        have HL48 := hid (le48 ((((t.l.take k).eraseIdx i).map (parF pid)).length + 1) (by have := HL9.out; have := HL.out; omega))
        have HER : Hid (((t.l.take (k + 1)).eraseIdx i).map (parF pid) = ((t.l.take k).eraseIdx i).map (parF pid) ++ (if k = i then [] else [parF pid t.l[k]])) := hid (by rw [her, List.map_append]; congr 1; split <;> rfl)
        clear her HL9
        generalize ((t.l.take k).eraseIdx i).map (parF pid) = L at *
        generalize t.l[k] = x at *
        cases e1 : (x.par == pid)
        · have HPF : Hid (parF pid x = ⟨x.pid, x.par, x.grp, x.ses, x.tty, x.deaf⟩) := hid (by unfold parF; rw [if_neg (by simpa using e1)])
          cases e3 : ((k : Int) != (i : Int))
          · have hki : k = i := by have h' : (k : Int) = i := by simpa using e3
                                   omega
            have HER2 := hid (HER.out.trans (by rw [if_pos hki, List.append_nil]))
            clear hki
            go_wp2
            go_roundw
            case rel => exact ⟨k + 1, by omega, by go_num, by rw [HER2.out]; exact HK.out.1.fr ((Fr.refl NoB wr).alloc _) (fun _ _ h => h), HK.out.2.alloc _⟩
            case measure => simp [intOf]; omega
          · have hki : ¬ k = i := by have h' : ¬ (k : Int) = i := by simpa using e3
                                     omega
            have HER2 := hid (HER.out.trans (by rw [if_neg hki, HPF.out]))
            clear hki
            go_wp2_with (at_builtin; go_must (refine row_app (f := Pr.cells) Pr.len Pr.one w2.heap.size rfl (.tmp 50) (.tmp 52) 40 51 Pr.zero 48 rfl Try.underlying40 infoPr rfl (by omega) (by omega) _ L ⟨x.pid, x.par, x.grp, x.ses, x.tty, x.deaf⟩ rfl (by simp only [World.size_alloc]; rfl) (HK.out.1.fr ((Fr.refl NoB wr).alloc _) (fun _ _ h => h)) (HK.out.2.alloc _).size HL48.out ?_); intro v5 w5 hR5 hf5 hat5)
            have HR5 := hid hR5
            have HF5 : Hid (Fr NoB w2 w5) := hid ((HK.out.2.alloc _).then_ hf5 (fun j hj => .inr (HK.out.1.ge j hj)))
            clear hR5 hf5 hat5
            go_roundw
            case rel => exact ⟨k + 1, by omega, by go_num, by rw [HER2.out]; exact HR5.out, HF5.out⟩
            case measure => simp [intOf]; omega
        · cases e2 : (pid == 1)
          · have HPF : Hid (parF pid x = ⟨x.pid, 1, x.grp, x.ses, x.tty, x.deaf⟩) := hid (by unfold parF; rw [if_pos (by simpa using e1), if_neg (by simpa using e2)])
            cases e3 : ((k : Int) != (i : Int))
            · have hki : k = i := by have h' : (k : Int) = i := by simpa using e3
                                     omega
              have HER2 := hid (HER.out.trans (by rw [if_pos hki, List.append_nil]))
              clear hki
              go_wp2
              go_roundw
              case rel => exact ⟨k + 1, by omega, by go_num, by rw [HER2.out]; exact HK.out.1.fr ((Fr.refl NoB wr).alloc _) (fun _ _ h => h), HK.out.2.alloc _⟩
              case measure => simp [intOf]; omega
            · have hki : ¬ k = i := by have h' : ¬ (k : Int) = i := by simpa using e3
                                       omega
              have HER2 := hid (HER.out.trans (by rw [if_neg hki, HPF.out]))
              clear hki
              go_wp2_with (at_builtin; go_must (refine row_app (f := Pr.cells) Pr.len Pr.one w2.heap.size rfl (.tmp 50) (.tmp 52) 40 51 Pr.zero 48 rfl Try.underlying40 infoPr rfl (by omega) (by omega) _ L ⟨x.pid, 1, x.grp, x.ses, x.tty, x.deaf⟩ rfl (by simp only [World.size_alloc]; rfl) (HK.out.1.fr ((Fr.refl NoB wr).alloc _) (fun _ _ h => h)) (HK.out.2.alloc _).size HL48.out ?_); intro v5 w5 hR5 hf5 hat5)
              have HR5 := hid hR5
              have HF5 : Hid (Fr NoB w2 w5) := hid ((HK.out.2.alloc _).then_ hf5 (fun j hj => .inr (HK.out.1.ge j hj)))
              clear hR5 hf5 hat5
              go_roundw
              case rel => exact ⟨k + 1, by omega, by go_num, by rw [HER2.out]; exact HR5.out, HF5.out⟩
              case measure => simp [intOf]; omega
          · have HPF : Hid (parF pid x = ⟨x.pid, 0, x.grp, x.ses, x.tty, x.deaf⟩) := hid (by unfold parF; rw [if_pos (by simpa using e1), if_pos (by simpa using e2)])
            cases e3 : ((k : Int) != (i : Int))
            · have hki : k = i := by have h' : (k : Int) = i := by simpa using e3
                                     omega
              have HER2 := hid (HER.out.trans (by rw [if_pos hki, List.append_nil]))
              clear hki
              go_wp2
              go_roundw
              case rel => exact ⟨k + 1, by omega, by go_num, by rw [HER2.out]; exact HK.out.1.fr ((Fr.refl NoB wr).alloc _) (fun _ _ h => h), HK.out.2.alloc _⟩
              case measure => simp [intOf]; omega
            · have hki : ¬ k = i := by have h' : ¬ (k : Int) = i := by simpa using e3
                                       omega
              have HER2 := hid (HER.out.trans (by rw [if_neg hki, HPF.out]))
              clear hki
              go_wp2_with (at_builtin; go_must (refine row_app (f := Pr.cells) Pr.len Pr.one w2.heap.size rfl (.tmp 50) (.tmp 52) 40 51 Pr.zero 48 rfl Try.underlying40 infoPr rfl (by omega) (by omega) _ L ⟨x.pid, 0, x.grp, x.ses, x.tty, x.deaf⟩ rfl (by simp only [World.size_alloc]; rfl) (HK.out.1.fr ((Fr.refl NoB wr).alloc _) (fun _ _ h => h)) (HK.out.2.alloc _).size HL48.out ?_); intro v5 w5 hR5 hf5 hat5)
              have HR5 := hid hR5
              have HF5 : Hid (Fr NoB w2 w5) := hid ((HK.out.2.alloc _).then_ hf5 (fun j hj => .inr (HK.out.1.ge j hj)))
              clear hR5 hf5 hat5
              go_roundw
              case rel => exact ⟨k + 1, by omega, by go_num, by rw [HER2.out]; exact HR5.out, HF5.out⟩
              case measure => simp [intOf]; omega
      · have hrow := HK.out.1
        have htk : t.l.take k = t.l := List.take_of_length_le (by omega)
        rw [htk] at hrow
        have hrow2 : Row Pr.cells 6 51 wr w2.heap.size u9 (goneL t pid i) := hrow
        have HRN := hid (HR2.out.up hrow2 HK.out.2 t.nx)
        have hle : (goneL t pid i).length ≤ 400 := by
          unfold goneL
          rw [List.length_map]
          exact Nat.le_trans (List.length_eraseIdx_le ..) HL.out
        have HLQ := hid hle
        have htt2 : 0 ≤ t.l[i].tty ∧ t.l[i].tty ≤ 64 := htt _ (List.getElem_mem hi)
        have HTT := hid htt2
        obtain ⟨A3, c3, hv3, _⟩ := hrow2.shape
        subst hv3
        have HV3 := hid hrow2.ge
        have HFr := hid HK.out.2
        obtain ⟨nb, hnb⟩ : ∃ nb, nb = wr.heap.size := ⟨_, rfl⟩
        have HNB := hid hnb
        have HP9 := hid (HP2.out.fr HFr.out (fun h => h))
        generalize hL1 : goneL t pid i = L1 at *
        clear hrow hrow2 htk hle htt2 HK HG0 hL1 htt hk hnb
        have hp9 := HP9.out
        have p3 := hp9.cell 3 rfl
        have p4 := hp9.cell 4 rfl
        have pl := hp9.lt
        clear hp9
        have hNB := hid (Blk.new wr 43 [.slice A3 L1.length c3, .int .i64 t.nx, .slice A2 F.length c2])
        cases eA : (t.l[i].ses == pid && t.l[i].tty != 0)
        · have HRr := hid (HRes.out.trans (by rw [if_neg (by rw [eA]; decide)]))
          have eAB : (t.l[i].ses == pid) = false ∨ (t.l[i].ses == pid) = true ∧ (t.l[i].tty != 0) = false := by
            revert eA
            cases (t.l[i].ses == pid) <;> cases (t.l[i].tty != 0) <;> simp
          clear eA
          rcases eAB with e1 | ⟨e1, e2⟩
          · skip
            go_upto_region 23 with (fail)
            generalize hw5 : World.alloc wr _ = w5
            have hfn : Fr NoB wr w5 := by rw [← hw5]; exact (Fr.refl NoB wr).alloc _
            have HX5 : Hid (XR w2 w5 nb (.slice A3 L1.length c3) (.slice A2 F.length c2) ⟨L1, t.nx, t.f⟩ F (.slice none 0 0) []) := hid ⟨by rw [← hw5, HNB.out]; exact hNB.out, HRN.out.frd hfn, Row.nil _ _ _ _ _, HFr.out.trans hfn⟩
            have HP5 := hid (HP9.out.fr hfn (fun h => h))
            clear hfn hw5 p3 p4 pl hNB
            rw [← HNB.out]
            clear HNB
            have HOl : Hid (([] : List (Int × Int)).length ≤ 1) := hid (by simp)
            go_wp2
            go_loopw [7, 14] (fun v7 v14 wr => ∃ k : Nat, k ≤ n ∧ v14 = .int .i64 ((k : Int) + 1) ∧ Hid (XR w2 wr nb (.slice A3 L1.length c3) (.slice A2 F.length c2) ⟨L1, t.nx, t.f⟩ F v7 ([] ++ sigR t.l L1 k))) (fun _ v14 _ => n + 1 - (intOf v14).toNat)
            case atStart => exact ⟨0, Nat.zero_le _, rfl, hid (by show XR _ _ _ _ _ _ _ _ ([] ++ []); rw [List.append_nil]; exact HX5.out)⟩
            case round =>
              obtain ⟨k, hk, rfl, HX⟩ := hrel
              have hb := HB2.out.fr HX.out.fr (fun h => h)
              have b0 := hb.cell 0 rfl
              have b1 := hb.cell 1 rfl
              have b2 := hb.cell 2 rfl
              have hn9 := HX.out.bx
              have n0 := hn9.cell 0 rfl
              have n1 := hn9.cell 1 rfl
              have n2 := hn9.cell 2 rfl
              clear hb hn9
              by_cases hkn : k < n
              · have hlt : (k : Int) + 1 < t.nx := by have := HN.out; omega
                have hwr : IntKind.i64.wrap ((k : Int) + 1 + 1) = (k : Int) + 1 + 1 := IntWalk.i64_in _ (by have := HN1.out; omega)
                have HO1 := hid (rOrph_any wr _ _ t.nx ⟨L1, t.nx, t.f⟩ F ((k : Int) + 1) HX.out.rt (Nat.le_trans (HLQ.out : (L1 : List Pr).length ≤ 400) (by decide)))
                have HO2 := hid fun W (hW : Fr NoB w W) => rOrph_any W _ _ t.nx t F ((k : Int) + 1) (HRW.out.frd hW) (Nat.le_trans HL.out (by decide))
                unfold rtv at HO1 HO2
                have hsu : [] ++ sigR t.l L1 (k + 1) = ([] ++ sigR t.l L1 k) ++ newR t.l L1 ((k : Int) + 1) := by rw [sigR_succ, List.append_assoc]
                have hnew : newR t.l L1 ((k : Int) + 1) = if (orphG L1 ((k : Int) + 1) && !orphG t.l ((k : Int) + 1)) = true then [((k : Int) + 1, 4), ((k : Int) + 1, 5)] else [] := rfl
                have h16 := le16 (([] ++ sigR t.l L1 k).length + 2) (by rw [List.length_append]; have := sigR_len t.l L1 k; have := HOl.out; have := HN1.out; omega)
                rw [hnew] at hsu
                have HL16 := hid h16
                have HSu := hid hsu
                clear hsu hnew h16
                obtain ⟨bo, hbo⟩ : ∃ bo, bo = orphG L1 ((k : Int) + 1) := ⟨_, rfl⟩
                obtain ⟨bw, hbw⟩ : ∃ bw, bw = orphG t.l ((k : Int) + 1) := ⟨_, rfl⟩
                have HO1' : Hid (Calls Try.prog 25 #[.agg #[(.slice A3 L1.length c3), .int .i64 t.nx, (.slice A2 F.length c2)], .int .i64 ((k : Int) + 1)] wr fun e w' => e = .returned (.bool bo) ∧ Fr NoB wr w') := by rw [hbo]; exact HO1
                have HO2' : Hid (∀ W, Fr NoB w W → Calls Try.prog 25 #[.agg #[.slice (some ⟨g, 0, none⟩) t.l.length c, .int .i64 t.nx, .slice A2 F.length c2], .int .i64 ((k : Int) + 1)] W fun e w' => e = .returned (.bool bw) ∧ Fr NoB W w') := by rw [hbw]; exact HO2
                have HSu' : Hid ([] ++ sigR t.l L1 (k + 1) = ([] ++ sigR t.l L1 k) ++ (if (bo && !bw) = true then [((k : Int) + 1, 4), ((k : Int) + 1, 5)] else [])) := by rw [hbo, hbw]; exact HSu
                clear HO1 HO2 HSu hbo hbw
                generalize [] ++ sigR t.l L1 k = OU at *
                cases bo
                · have HSu2 := hid (HSu'.out.trans (by rw [if_neg (by simp), List.append_nil]))
                  go_wp2_with fail
                  refine HO1'.out.mono ?_
                  rintro e' w9 ⟨rfl, hf9⟩
                  have HX9 := hid (HX.out.quiet hf9)
                  clear hf9
                  go_wp2
                  go_roundw
                  case rel => exact ⟨k + 1, by omega, by go_num, by rw [HSu2.out]; exact HX9.out⟩
                  case measure => simp [intOf]; omega
                · go_wp2_with fail
                  refine HO1'.out.mono ?_
                  rintro e' w9 ⟨rfl, hf9⟩
                  have HX9 := hid (HX.out.quiet hf9)
                  clear hf9 b0 b1 b2 n0 n1 n2
                  have hb := HB2.out.fr HX9.out.fr (fun h => h)
                  have b0 := hb.cell 0 rfl
                  have b1 := hb.cell 1 rfl
                  have b2 := hb.cell 2 rfl
                  clear hb
                  cases bw
                  · have HSu2 := hid (HSu'.out.trans (by rw [if_pos (by simp)]))
                    go_wp2_with fail
                    refine (HO2'.out _ (HF2.out.trans HX9.out.fr)).mono ?_
                    rintro e' w8 ⟨rfl, hf8⟩
                    have HX8 := hid (HX9.out.quiet hf8)
                    have HXa := hid (HX8.out.quiet ((Fr.refl NoB w8).alloc (.cells #[.int .i64 ((k : Int) + 1), .int .i64 4, .int .i64 ((k : Int) + 1), .int .i64 5] 37)))
                    have hsr : ∀ j u, ([((k : Int) + 1, (4 : Int)), ((k : Int) + 1, 5)].flatMap sgc)[j]? = some u → (w8.alloc (.cells #[.int .i64 ((k : Int) + 1), .int .i64 4, .int .i64 ((k : Int) + 1), .int .i64 5] 37)).cell? ((⟨w8.heap.size, 0, none⟩ : Addr).add j) = some u := Blk.cells (Blk.new w8 37 [.int .i64 ((k : Int) + 1), .int .i64 4, .int .i64 ((k : Int) + 1), .int .i64 5]) 0 _ (fun j v hj => by rw [Nat.zero_add]; exact hj)
                    have HSr := hid hsr
                    have HM2 : Hid ([((k : Int) + 1, (4 : Int)), ((k : Int) + 1, 5)].length = 2) := hid rfl
                    have HSZ9 := hid HXa.out.fr.size
                    clear hf8 hsr b0 b1 b2
                    go_wp2_with (at_builtin; go_must (refine row_apps (f := sgc) sgc_len sgc_one w2.heap.size rfl (.tmp 102) (.tmp 107) 31 37 (.agg #[.int .i64 0, .int .i64 0]) 16 rfl Try.underlying31 infoSg rfl (by omega) (by omega) _ OU [((k : Int) + 1, 4), ((k : Int) + 1, 5)] ⟨w8.heap.size, 0, none⟩ 2 2 rfl rfl HM2.out HSr.out HXa.out.so HSZ9.out HL16.out ?_); intro v10 w10 hR10 hf10 hat10; have HX10 := hid (HXa.out.app hf10 hR10); clear hR10 hf10 hat10)
                    go_roundw
                    case rel => exact ⟨k + 1, by omega, by go_num, by rw [HSu2.out]; exact HX10.out⟩
                    case measure => simp [intOf]; omega
                  · have HSu2 := hid (HSu'.out.trans (by rw [if_neg (by simp), List.append_nil]))
                    go_wp2_with fail
                    refine (HO2'.out _ (HF2.out.trans HX9.out.fr)).mono ?_
                    rintro e' w8 ⟨rfl, hf8⟩
                    have HX8 := hid (HX9.out.quiet hf8)
                    clear hf8
                    go_wp2
                    go_roundw
                    case rel => exact ⟨k + 1, by omega, by go_num, by rw [HSu2.out]; exact HX8.out⟩
                    case measure => simp [intOf]; omega
              · obtain rfl : k = n := by omega
                have hlt : ¬ (k : Int) + 1 < t.nx := by have := HN.out; omega
                have HZ5 := hid (HZ2.out.fr HX.out.fr (fun h => h))
                have HSOL := hid HX.out.so.ge
                have HSLT := hid (show ∀ j, OwnB u7 j → ¬ At (w.heap.size + 1) j from fun j hj e => Row.not_blk HX.out.so HZ5.out (by decide) (by have e' : j = w.heap.size + 1 := e; rw [← e']; exact hj))
                obtain ⟨A7, c7, hv7, _⟩ := Row.shape HX.out.so
                have HV7 := hid hv7
                clear hv7
                have hz := HZ5.out
                have z0 := hz.cell 0 rfl
                have z1 := hz.cell 1 rfl
                have z2 := hz.cell 2 rfl
                have y0 := hz.frozen 0
                have y1 := hz.frozen 1
                have y2 := hz.frozen 2
                have yl := hz.lt
                clear hz
                go_wp2
                have hw2s : w.heap.size ≤ w2.heap.size := HF2.out.size
                have hfz := (HF2.out.trans HX.out.fr).then_ ((((Fr.refl (At (w.heap.size + 1)) wr).setAt 0 (.slice A3 L1.length c3)).setAt 1 (.int .i64 t.nx)).setAt 2 (.slice A2 F.length c2)) (fun k e => .inr (by have e' : k = w.heap.size + 1 := e; omega))
                have hne : ∀ k, OwnB (.slice A3 L1.length c3) k → ¬ At (w.heap.size + 1) k := fun k hk e => Row.not_blk HX.out.rt.l HZ5.out (by decide) (by have e' : k = w.heap.size + 1 := e; rw [← e']; exact hk)
                have hne2 : ∀ k, OwnB (.slice A2 F.length c2) k → ¬ At (w.heap.size + 1) k := fun k hk e => Row.not_blk HX.out.rt.f HZ5.out (by decide) (by have e' : k = w.heap.size + 1 := e; rw [← e']; exact hk)
                rw [HRr.out]
                refine bodyPost_ret (v := .tuple #[rtv (.slice A3 L1.length c3) t.nx (.slice A2 F.length c2), u7]) (by simp [results, Try.results43, go_sem, z0, z1, z2, rtv]) rfl ⟨_, _, _, _, rfl, HX.out.rt.fr ((((Fr.refl (At (w.heap.size + 1)) wr).setAt 0 _).setAt 1 _).setAt 2 _) hne hne2, Row.lower (Row.fr HX.out.so ((((Fr.refl (At (w.heap.size + 1)) wr).setAt 0 _).setAt 1 _).setAt 2 _) HSLT.out) hw2s, hfz, fun k hk => .inr (Nat.le_trans hw2s (HV3.out k hk)), fun k hk => (.inl hk)⟩
          · skip
            go_upto_region 23 with (fail)
            generalize hw5 : World.alloc wr _ = w5
            have hfn : Fr NoB wr w5 := by rw [← hw5]; exact (Fr.refl NoB wr).alloc _
            have HX5 : Hid (XR w2 w5 nb (.slice A3 L1.length c3) (.slice A2 F.length c2) ⟨L1, t.nx, t.f⟩ F (.slice none 0 0) []) := hid ⟨by rw [← hw5, HNB.out]; exact hNB.out, HRN.out.frd hfn, Row.nil _ _ _ _ _, HFr.out.trans hfn⟩
            have HP5 := hid (HP9.out.fr hfn (fun h => h))
            clear hfn hw5 p3 p4 pl hNB
            rw [← HNB.out]
            clear HNB
            have HOl : Hid (([] : List (Int × Int)).length ≤ 1) := hid (by simp)
            go_wp2
            go_loopw [7, 14] (fun v7 v14 wr => ∃ k : Nat, k ≤ n ∧ v14 = .int .i64 ((k : Int) + 1) ∧ Hid (XR w2 wr nb (.slice A3 L1.length c3) (.slice A2 F.length c2) ⟨L1, t.nx, t.f⟩ F v7 ([] ++ sigR t.l L1 k))) (fun _ v14 _ => n + 1 - (intOf v14).toNat)
            case atStart => exact ⟨0, Nat.zero_le _, rfl, hid (by show XR _ _ _ _ _ _ _ _ ([] ++ []); rw [List.append_nil]; exact HX5.out)⟩
            case round =>
              obtain ⟨k, hk, rfl, HX⟩ := hrel
              have hb := HB2.out.fr HX.out.fr (fun h => h)
              have b0 := hb.cell 0 rfl
              have b1 := hb.cell 1 rfl
              have b2 := hb.cell 2 rfl
              have hn9 := HX.out.bx
              have n0 := hn9.cell 0 rfl
              have n1 := hn9.cell 1 rfl
              have n2 := hn9.cell 2 rfl
              clear hb hn9
              by_cases hkn : k < n
              · have hlt : (k : Int) + 1 < t.nx := by have := HN.out; omega
                have hwr : IntKind.i64.wrap ((k : Int) + 1 + 1) = (k : Int) + 1 + 1 := IntWalk.i64_in _ (by have := HN1.out; omega)
                have HO1 := hid (rOrph_any wr _ _ t.nx ⟨L1, t.nx, t.f⟩ F ((k : Int) + 1) HX.out.rt (Nat.le_trans (HLQ.out : (L1 : List Pr).length ≤ 400) (by decide)))
                have HO2 := hid fun W (hW : Fr NoB w W) => rOrph_any W _ _ t.nx t F ((k : Int) + 1) (HRW.out.frd hW) (Nat.le_trans HL.out (by decide))
                unfold rtv at HO1 HO2
                have hsu : [] ++ sigR t.l L1 (k + 1) = ([] ++ sigR t.l L1 k) ++ newR t.l L1 ((k : Int) + 1) := by rw [sigR_succ, List.append_assoc]
                have hnew : newR t.l L1 ((k : Int) + 1) = if (orphG L1 ((k : Int) + 1) && !orphG t.l ((k : Int) + 1)) = true then [((k : Int) + 1, 4), ((k : Int) + 1, 5)] else [] := rfl
                have h16 := le16 (([] ++ sigR t.l L1 k).length + 2) (by rw [List.length_append]; have := sigR_len t.l L1 k; have := HOl.out; have := HN1.out; omega)
                rw [hnew] at hsu
                have HL16 := hid h16
                have HSu := hid hsu
                clear hsu hnew h16
                obtain ⟨bo, hbo⟩ : ∃ bo, bo = orphG L1 ((k : Int) + 1) := ⟨_, rfl⟩
                obtain ⟨bw, hbw⟩ : ∃ bw, bw = orphG t.l ((k : Int) + 1) := ⟨_, rfl⟩
                have HO1' : Hid (Calls Try.prog 25 #[.agg #[(.slice A3 L1.length c3), .int .i64 t.nx, (.slice A2 F.length c2)], .int .i64 ((k : Int) + 1)] wr fun e w' => e = .returned (.bool bo) ∧ Fr NoB wr w') := by rw [hbo]; exact HO1
                have HO2' : Hid (∀ W, Fr NoB w W → Calls Try.prog 25 #[.agg #[.slice (some ⟨g, 0, none⟩) t.l.length c, .int .i64 t.nx, .slice A2 F.length c2], .int .i64 ((k : Int) + 1)] W fun e w' => e = .returned (.bool bw) ∧ Fr NoB W w') := by rw [hbw]; exact HO2
                have HSu' : Hid ([] ++ sigR t.l L1 (k + 1) = ([] ++ sigR t.l L1 k) ++ (if (bo && !bw) = true then [((k : Int) + 1, 4), ((k : Int) + 1, 5)] else [])) := by rw [hbo, hbw]; exact HSu
                clear HO1 HO2 HSu hbo hbw
                generalize [] ++ sigR t.l L1 k = OU at *
                cases bo
                · have HSu2 := hid (HSu'.out.trans (by rw [if_neg (by simp), List.append_nil]))
                  go_wp2_with fail
                  refine HO1'.out.mono ?_
                  rintro e' w9 ⟨rfl, hf9⟩
                  have HX9 := hid (HX.out.quiet hf9)
                  clear hf9
                  go_wp2
                  go_roundw
                  case rel => exact ⟨k + 1, by omega, by go_num, by rw [HSu2.out]; exact HX9.out⟩
                  case measure => simp [intOf]; omega
                · go_wp2_with fail
                  refine HO1'.out.mono ?_
                  rintro e' w9 ⟨rfl, hf9⟩
                  have HX9 := hid (HX.out.quiet hf9)
                  clear hf9 b0 b1 b2 n0 n1 n2
                  have hb := HB2.out.fr HX9.out.fr (fun h => h)
                  have b0 := hb.cell 0 rfl
                  have b1 := hb.cell 1 rfl
                  have b2 := hb.cell 2 rfl
                  clear hb
                  cases bw
                  · have HSu2 := hid (HSu'.out.trans (by rw [if_pos (by simp)]))
                    go_wp2_with fail
                    refine (HO2'.out _ (HF2.out.trans HX9.out.fr)).mono ?_
                    rintro e' w8 ⟨rfl, hf8⟩
                    have HX8 := hid (HX9.out.quiet hf8)
                    have HXa := hid (HX8.out.quiet ((Fr.refl NoB w8).alloc (.cells #[.int .i64 ((k : Int) + 1), .int .i64 4, .int .i64 ((k : Int) + 1), .int .i64 5] 37)))
                    have hsr : ∀ j u, ([((k : Int) + 1, (4 : Int)), ((k : Int) + 1, 5)].flatMap sgc)[j]? = some u → (w8.alloc (.cells #[.int .i64 ((k : Int) + 1), .int .i64 4, .int .i64 ((k : Int) + 1), .int .i64 5] 37)).cell? ((⟨w8.heap.size, 0, none⟩ : Addr).add j) = some u := Blk.cells (Blk.new w8 37 [.int .i64 ((k : Int) + 1), .int .i64 4, .int .i64 ((k : Int) + 1), .int .i64 5]) 0 _ (fun j v hj => by rw [Nat.zero_add]; exact hj)
                    have HSr := hid hsr
                    have HM2 : Hid ([((k : Int) + 1, (4 : Int)), ((k : Int) + 1, 5)].length = 2) := hid rfl
                    have HSZ9 := hid HXa.out.fr.size
                    clear hf8 hsr b0 b1 b2
                    go_wp2_with (at_builtin; go_must (refine row_apps (f := sgc) sgc_len sgc_one w2.heap.size rfl (.tmp 102) (.tmp 107) 31 37 (.agg #[.int .i64 0, .int .i64 0]) 16 rfl Try.underlying31 infoSg rfl (by omega) (by omega) _ OU [((k : Int) + 1, 4), ((k : Int) + 1, 5)] ⟨w8.heap.size, 0, none⟩ 2 2 rfl rfl HM2.out HSr.out HXa.out.so HSZ9.out HL16.out ?_); intro v10 w10 hR10 hf10 hat10; have HX10 := hid (HXa.out.app hf10 hR10); clear hR10 hf10 hat10)
                    go_roundw
                    case rel => exact ⟨k + 1, by omega, by go_num, by rw [HSu2.out]; exact HX10.out⟩
                    case measure => simp [intOf]; omega
                  · have HSu2 := hid (HSu'.out.trans (by rw [if_neg (by simp), List.append_nil]))
                    go_wp2_with fail
                    refine (HO2'.out _ (HF2.out.trans HX9.out.fr)).mono ?_
                    rintro e' w8 ⟨rfl, hf8⟩
                    have HX8 := hid (HX9.out.quiet hf8)
                    clear hf8
                    go_wp2
                    go_roundw
                    case rel => exact ⟨k + 1, by omega, by go_num, by rw [HSu2.out]; exact HX8.out⟩
                    case measure => simp [intOf]; omega
              · obtain rfl : k = n := by omega
                have hlt : ¬ (k : Int) + 1 < t.nx := by have := HN.out; omega
                have HZ5 := hid (HZ2.out.fr HX.out.fr (fun h => h))
                have HSOL := hid HX.out.so.ge
                have HSLT := hid (show ∀ j, OwnB u7 j → ¬ At (w.heap.size + 1) j from fun j hj e => Row.not_blk HX.out.so HZ5.out (by decide) (by have e' : j = w.heap.size + 1 := e; rw [← e']; exact hj))
                obtain ⟨A7, c7, hv7, _⟩ := Row.shape HX.out.so
                have HV7 := hid hv7
                clear hv7
                have hz := HZ5.out
                have z0 := hz.cell 0 rfl
                have z1 := hz.cell 1 rfl
                have z2 := hz.cell 2 rfl
                have y0 := hz.frozen 0
                have y1 := hz.frozen 1
                have y2 := hz.frozen 2
                have yl := hz.lt
                clear hz
                go_wp2
                have hw2s : w.heap.size ≤ w2.heap.size := HF2.out.size
                have hfz := (HF2.out.trans HX.out.fr).then_ ((((Fr.refl (At (w.heap.size + 1)) wr).setAt 0 (.slice A3 L1.length c3)).setAt 1 (.int .i64 t.nx)).setAt 2 (.slice A2 F.length c2)) (fun k e => .inr (by have e' : k = w.heap.size + 1 := e; omega))
                have hne : ∀ k, OwnB (.slice A3 L1.length c3) k → ¬ At (w.heap.size + 1) k := fun k hk e => Row.not_blk HX.out.rt.l HZ5.out (by decide) (by have e' : k = w.heap.size + 1 := e; rw [← e']; exact hk)
                have hne2 : ∀ k, OwnB (.slice A2 F.length c2) k → ¬ At (w.heap.size + 1) k := fun k hk e => Row.not_blk HX.out.rt.f HZ5.out (by decide) (by have e' : k = w.heap.size + 1 := e; rw [← e']; exact hk)
                rw [HRr.out]
                refine bodyPost_ret (v := .tuple #[rtv (.slice A3 L1.length c3) t.nx (.slice A2 F.length c2), u7]) (by simp [results, Try.results43, go_sem, z0, z1, z2, rtv]) rfl ⟨_, _, _, _, rfl, HX.out.rt.fr ((((Fr.refl (At (w.heap.size + 1)) wr).setAt 0 _).setAt 1 _).setAt 2 _) hne hne2, Row.lower (Row.fr HX.out.so ((((Fr.refl (At (w.heap.size + 1)) wr).setAt 0 _).setAt 1 _).setAt 2 _) HSLT.out) hw2s, hfz, fun k hk => .inr (Nat.le_trans hw2s (HV3.out k hk)), fun k hk => (.inl hk)⟩
        · have HRr := hid (HRes.out.trans (by rw [if_pos eA]))
          have e1 : (t.l[i].ses == pid) = true := by
            revert eA
            cases (t.l[i].ses == pid) <;> simp
          have e2 : (t.l[i].tty != 0) = true := by
            revert eA
            cases (t.l[i].ses == pid) <;> cases (t.l[i].tty != 0) <;> simp
          clear eA
          have htn : ¬ t.l[i].tty = 0 := by simpa using e2
          obtain ⟨j, hjt⟩ := Int.eq_ofNat_of_zero_le HTT.out.1
          have hj65 : j < 65 := by have := HTT.out; omega
          have HTJ := hid hjt
          have hfo : frontOf t t.l[i].tty = t.f t.l[i].tty := if_neg (by have := HTT.out; omega)
          have HFo := hid fun W (hW : Fr NoB w W) => rFront_any W _ _ t.nx t F t.l[i].tty (HRW.out.frd hW)
          rw [hfo] at HFo
          have HHas := hid fun (W : World) (hW : Fr NoB wr W) => rHas_any W _ _ t.nx ⟨L1, t.nx, t.f⟩ F (t.f t.l[i].tty) 0 (HRN.out.frd hW) (Nat.le_trans (HLQ.out : L1.length ≤ 400) (by decide))
          unfold rtv at HFo HHas
          have HHas' : Hid (∀ W, Fr NoB wr W → Calls Try.prog 48 #[.agg #[.slice A3 L1.length c3, .int .i64 t.nx, .slice A2 F.length c2], .int .i64 (t.f t.l[i].tty), .int .i64 0] W fun e w' => e = .returned (.bool (hasG L1 (t.f t.l[i].tty) 0)) ∧ Fr NoB W w') := HHas
          clear hjt hfo htn HHas
          generalize t.f t.l[i].tty = fr at *
          cases hg : hasG L1 fr 0
          · rw [hg] at HHas' HRr
            have HRr := hid (HRr.out.trans (by rw [if_neg (by decide)]))
            clear hg
            go_upto_region 19 with (fail)
            generalize hw5 : World.alloc wr _ = w5
            have hfn : Fr NoB wr w5 := by rw [← hw5]; exact (Fr.refl NoB wr).alloc _
            have HN5 : Hid (Blk w5 nb 43 [.slice A3 L1.length c3, .int .i64 t.nx, .slice A2 F.length c2]) := hid (by rw [← hw5, HNB.out]; exact hNB.out)
            have HFR5 := hid hfn
            clear hw5 p3 p4 pl hNB hfn hkm
            have hw25 := HFr.out.trans HFR5.out
            have hb := HB2.out.fr hw25 (fun h => h)
            have b0 := hb.cell 0 rfl
            have b1 := hb.cell 1 rfl
            have b2 := hb.cell 2 rfl
            have hp := HP2.out.fr hw25 (fun h => h)
            have p4 := hp.cell 4 rfl
            rw [← HNB.out]
            clear hb hp hw25
            go_wp2_with fail
            refine (HFo.out _ (HF2.out.trans (HFr.out.trans HFR5.out))).mono ?_
            rintro e' w6 ⟨rfl, hf6⟩
            have HFR6 := hid (HFR5.out.trans hf6)
            have HN6 := hid (HN5.out.fr hf6 (fun h => h))
            clear hf6 b0 b1 b2 p4
            have hn := HN6.out
            have n0 := hn.cell 0 rfl
            have n1 := hn.cell 1 rfl
            have n2 := hn.cell 2 rfl
            clear hn
            go_wp2_with fail
            refine (HHas'.out _ HFR6.out).mono ?_
            rintro e' w7 ⟨rfl, hf7⟩
            have HFR7 := hid (HFR6.out.trans hf7)
            have HN7 := hid (HN6.out.fr hf7 (fun h => h))
            clear hf7 n0 n1 n2
            have HX7 : Hid (XR w2 w7 nb (.slice A3 L1.length c3) (.slice A2 F.length c2) ⟨L1, t.nx, t.f⟩ F (.slice none 0 0) []) := hid ⟨HN7.out, HRN.out.frd HFR7.out, Row.nil _ _ _ _ _, HFr.out.trans HFR7.out⟩
            go_upto_region 22 with (fail)
            obtain ⟨w8, hw8⟩ : ∃ w8, w8 = w7 := ⟨_, rfl⟩
            rw [← hw8] at HX7 ⊢
            have HX8 := HX7
            clear hw8
            have hpn : w1.heap.size ≠ nb := by have := HP9.out.lt; have := HNB.out; omega
            have HSq : Hid (∀ W, Fr (At nb) w8 W → W.cell? ⟨w1.heap.size, 4, none⟩ = some (.int .i64 t.l[i].tty)) := hid fun W hW => ((HP2.out.fr HX8.out.fr (fun h => h)).fr hW (fun e => hpn e)).cell 4 rfl
            have HFrt : Hid (∀ (W : World) (v1 fv1 : Value) (t' : Tb) (F' : List Int), RT W v1 fv1 t' F' → Calls Try.prog 58 #[rtv v1 t.nx fv1, .int .i64 t.l[i].tty, .int .i64 0] W (FrTo W v1 t.nx (F'.set j 0))) := hid fun W v1 fv1 t' F' hr => by
              rw [HTJ.out]
              exact rFr_any W v1 fv1 t.nx t' F' j 0 hr hj65
            have hn := HX8.out.bx
            have n0 := hn.cell 0 rfl
            have n1 := hn.cell 1 rfl
            have n2 := hn.cell 2 rfl
            clear hn hpn
            refine wp_region_held_drew (S := (fun W : World => W.cell? ⟨w1.heap.size, 4, none⟩ = some (.int .i64 t.l[i].tty))) (by kernel_rfl) (HSq.out _ ((Fr.refl _ _).drew)) (fun hHeld => ?_)
            refine wpAnyH_take (i := 1) (oi := { dst := some 82, op := Op.move (Operand.tmp 1), type := 3, pos := "ref.go:204", after := #[], guard := none }) (v := ?vxe1) rfl (by kernel_rfl) (by kernel_rfl) (by kernel_rfl) (fun _ _ _ h => h) (Or.inl ⟨by rfl, ?hyxe1⟩) (by assumption) ?rxe1
            case hyxe1 => (intro w hSw; (try dsimp only at hSw); go_simp; try (with_reducible rfl))
            try simp only [Act.put, List.setIfInBounds_toArray, List.set_cons_zero, List.set_cons_succ]
            refine wpAnyH_take (i := 3) (oi := { dst := some 84, op := Op.fieldAddr 51 (Operand.tmp 8) 4, type := 0, pos := "ref.go:204", after := #[], guard := none }) (v := ?vxe2) rfl (by kernel_rfl) (by kernel_rfl) (by kernel_rfl) (fun _ _ _ h => h) (Or.inl ⟨by rfl, ?hyxe2⟩) (by assumption) ?rxe2
            case hyxe2 => (intro w hSw; (try dsimp only at hSw); go_simp; try (with_reducible rfl))
            try simp only [Act.put, List.setIfInBounds_toArray, List.set_cons_zero, List.set_cons_succ]
            refine wpAnyH_take (i := 4) (oi := { dst := some 85, op := Op.load 3 (Operand.tmp 84), type := 3, pos := "ref.go:204", after := #[{ on := 3, ground := Ground.data }], guard := none }) (v := ?vxe3) rfl (by kernel_rfl) (by kernel_rfl) (by kernel_rfl) (fun _ _ _ h => h) (Or.inl ⟨by rfl, ?hyxe3⟩) (by assumption) ?rxe3
            case hyxe3 => (intro w hSw; (try dsimp only at hSw); go_simp; try (with_reducible rfl))
            try simp only [Act.put, List.setIfInBounds_toArray, List.set_cons_zero, List.set_cons_succ]
            refine wpAnyH_ready (rs := [0]) (by kernel_rfl) (by simp) ?_
            refine AllReadyH.cons (o := { dst := some 81, op := Op.load 43 (Operand.tmp 12), type := 43, pos := "ref.go:204", after := #[], guard := none }) rfl (fun K hK => ?_) AllReadyH.nil
            go_simp
            refine hK.out _ _ (HSq.out _ ((Fr.refl _ _).drew)) (fun hHeld => ?_)
            clear hK K
            try simp only [Act.put, List.setIfInBounds_toArray, List.set_cons_zero, List.set_cons_succ]
            refine wpAnyH_ready (rs := [2]) (by kernel_rfl) (by simp) ?_
            refine AllReadyH.cons (o := { dst := some 83, op := Op.call { callee := Callee.value (Operand.func 59), args := #[Operand.tmp 81, Operand.tmp 82, Operand.const (Value.int IntKind.i64 0)], argTypes := #[43, 3, 3] }, type := 43, pos := "ref.go:204", after := #[{ on := 0, ground := Ground.data }, { on := 1, ground := Ground.data }], guard := none }) rfl (fun K hK => ?_) AllReadyH.nil
            go_simp
            refine (rGiveA_any _ _ _ t.nx ⟨L1, t.nx, t.f⟩ F pid 0 (HX8.out.rt.frd (Fr.refl NoB w8).drew) HLQ.out).mono ?_
            rintro e' w9 ⟨v9, rfl, hr9, hf9⟩
            obtain ⟨A9, c9', hv9, _⟩ := hr9.shape
            rw [giveL_len] at hv9
            dsimp only at hv9
            subst hv9
            have HF9 := hid ((Fr.refl NoB w8).drew.trans hf9)
            have HR9 := hid (HX8.out.rt.up hr9 HF9.out t.nx)
            have HV9 := hid (fun k hk => Nat.le_trans HX8.out.fr.size (hr9.ge k hk))
            clear hHeld hr9 hf9
            unfold rtv
            go_wp2_with fail
            refine hK.out _ _ (HSq.out _ (HF9.out.mono (fun _ h => h.elim))) (fun hHeld => ?_)
            clear hK K
            try simp only [Act.put, List.setIfInBounds_toArray, List.set_cons_zero, List.set_cons_succ]
            refine wpAnyH_ready (rs := [5]) (by kernel_rfl) (by simp) ?_
            refine AllReadyH.cons (o := { dst := some 86, op := Op.call { callee := Callee.value (Operand.func 58), args := #[Operand.tmp 83, Operand.tmp 85, Operand.const (Value.int IntKind.i64 0)], argTypes := #[43, 3, 3] }, type := 43, pos := "ref.go:204", after := #[{ on := 2, ground := Ground.data }, { on := 4, ground := Ground.data }, { on := 2, ground := Ground.chain }], guard := none }) rfl (fun K hK => ?_) AllReadyH.nil
            go_simp
            refine (HFrt.out _ _ _ _ _ HR9.out).mono ?_
            rintro e' w10 ⟨fv10, rfl, hr10, hf10⟩
            obtain ⟨A10, c10, hv10, _⟩ := hr10.shape
            rw [List.length_set] at hv10
            subst hv10
            have hR10 := HR9.out.setF hr10 hf10 hj65
            rw [← HTJ.out] at hR10
            have HR10 := hid hR10
            have HF10 := hid (HF9.out.trans hf10)
            have HV10 := hid (fun k hk => Nat.le_trans (Nat.le_trans HX8.out.fr.size HF9.out.size) (hr10.ge k hk))
            have HN10 := hid (HX8.out.bx.fr HF10.out (fun h => h))
            have hm := HN10.out
            have m0 := hm.cell 0 rfl
            have m1 := hm.cell 1 rfl
            have m2 := hm.cell 2 rfl
            have y0 := hm.frozen 0
            have y1 := hm.frozen 1
            have y2 := hm.frozen 2
            have yl := hm.lt
            clear hHeld hr10 hf10 hR10 hm
            unfold rtv
            go_wp2_with fail
            refine hK.out _ _ (HSq.out _ (HF10.out.mono (fun _ h => h.elim))) (fun hHeld => ?_)
            clear hK K
            try simp only [Act.put, List.setIfInBounds_toArray, List.set_cons_zero, List.set_cons_succ]
            refine wpAnyH_ready (rs := [6]) (by kernel_rfl) (by simp) ?_
            refine AllReadyH.cons (o := { dst := none, op := Op.store 43 (Operand.tmp 12) (Operand.tmp 86), type := 0, pos := "ref.go:204", after := #[{ on := 5, ground := Ground.data }, { on := 5, ground := Ground.chain }, { on := 0, ground := Ground.phase }, { on := 1, ground := Ground.phase }, { on := 2, ground := Ground.phase }, { on := 3, ground := Ground.phase }, { on := 4, ground := Ground.phase }, { on := 5, ground := Ground.phase }], guard := none }) rfl (fun K hK => ?_) AllReadyH.nil
            go_simp
            refine hK.out _ _ (HSq.out _ ((((HF10.out.mono (fun _ h => h.elim)).setAt 0 _).setAt 1 _).setAt 2 _)) (fun hHeld => ?_)
            clear hK K
            try simp only [Act.put, List.setIfInBounds_toArray, List.set_cons_zero, List.set_cons_succ]
            refine wpAnyH_done (by kernel_rfl) ?_ _
            clear n0 n1 n2 m0 m1 m2 y0 y1 y2 yl hHeld
            generalize hw5 : World.setCell (World.setCell (World.setCell w10 _ _) _ _) _ _ = w5
            have hfa : Fr (At nb) w10 w5 := by rw [← hw5]; exact (((Fr.refl (At nb) w10).setAt 0 _).setAt 1 _).setAt 2 _
            have hnb5 : Blk w5 nb 43 [.slice A9 L1.length c9', .int .i64 t.nx, .slice A10 F.length c10] := by rw [← hw5]; exact ((HN10.out.set 0 (.slice A9 L1.length c9')).set 1 (.int .i64 t.nx)).set 2 (.slice A10 F.length c10)
            have hnb2 : w2.heap.size ≤ nb := by have := HNB.out; have := HFr.out.size; omega
            have HX5 : Hid (XR w2 w5 nb (.slice A9 L1.length c9') (.slice A10 F.length c10) ⟨giveL pid 0 L1, t.nx, fun jj => if jj = t.l[i].tty then 0 else t.f jj⟩ (F.set j 0) (.slice none 0 0) []) := hid ⟨hnb5, HR10.out.fr hfa (fun k hk e => Row.not_blk HR10.out.l HN10.out (by decide) (by have e' : k = nb := e; rw [← e']; exact hk)) (fun k hk e => Row.not_blk HR10.out.f HN10.out (by decide) (by have e' : k = nb := e; rw [← e']; exact hk)), Row.fr (Row.fr HX8.out.so HF10.out (fun _ _ h => h)) hfa (fun k hk e => Row.not_blk (Row.fr HX8.out.so HF10.out (fun _ _ h => h)) HN10.out (by decide) (by have e' : k = nb := e; rw [← e']; exact hk)), (HX8.out.fr.trans HF10.out).then_ hfa (fun k e => .inr (by have e' : k = nb := e; omega))⟩
            have HV3 := HV9
            have HLQ : Hid ((giveL pid 0 L1).length ≤ 400) := hid (by rw [giveL_len]; exact HLQ.out)
            clear hfa hnb5 hnb2 hw5
            clear HNB
            have HOl : Hid (([] : List (Int × Int)).length ≤ 1) := hid (by simp)
            go_wp2
            go_loopw [7, 14] (fun v7 v14 wr => ∃ k : Nat, k ≤ n ∧ v14 = .int .i64 ((k : Int) + 1) ∧ Hid (XR w2 wr nb (.slice A9 L1.length c9') (.slice A10 F.length c10) ⟨giveL pid 0 L1, t.nx, fun jj => if jj = t.l[i].tty then 0 else t.f jj⟩ (F.set j 0) v7 ([] ++ sigR t.l (giveL pid 0 L1) k))) (fun _ v14 _ => n + 1 - (intOf v14).toNat)
            case atStart => exact ⟨0, Nat.zero_le _, rfl, hid (by show XR _ _ _ _ _ _ _ _ ([] ++ []); rw [List.append_nil]; exact HX5.out)⟩
            case round =>
              obtain ⟨k, hk, rfl, HX⟩ := hrel
              have hb := HB2.out.fr HX.out.fr (fun h => h)
              have b0 := hb.cell 0 rfl
              have b1 := hb.cell 1 rfl
              have b2 := hb.cell 2 rfl
              have hn9 := HX.out.bx
              have n0 := hn9.cell 0 rfl
              have n1 := hn9.cell 1 rfl
              have n2 := hn9.cell 2 rfl
              clear hb hn9
              by_cases hkn : k < n
              · have hlt : (k : Int) + 1 < t.nx := by have := HN.out; omega
                have hwr : IntKind.i64.wrap ((k : Int) + 1 + 1) = (k : Int) + 1 + 1 := IntWalk.i64_in _ (by have := HN1.out; omega)
                have HO1 := hid (rOrph_any wr _ _ t.nx ⟨giveL pid 0 L1, t.nx, fun jj => if jj = t.l[i].tty then 0 else t.f jj⟩ (F.set j 0) ((k : Int) + 1) HX.out.rt (Nat.le_trans (HLQ.out : ((giveL pid 0 L1) : List Pr).length ≤ 400) (by decide)))
                have HO2 := hid fun W (hW : Fr NoB w W) => rOrph_any W _ _ t.nx t F ((k : Int) + 1) (HRW.out.frd hW) (Nat.le_trans HL.out (by decide))
                unfold rtv at HO1 HO2
                have hsu : [] ++ sigR t.l (giveL pid 0 L1) (k + 1) = ([] ++ sigR t.l (giveL pid 0 L1) k) ++ newR t.l (giveL pid 0 L1) ((k : Int) + 1) := by rw [sigR_succ, List.append_assoc]
                have hnew : newR t.l (giveL pid 0 L1) ((k : Int) + 1) = if (orphG (giveL pid 0 L1) ((k : Int) + 1) && !orphG t.l ((k : Int) + 1)) = true then [((k : Int) + 1, 4), ((k : Int) + 1, 5)] else [] := rfl
                have h16 := le16 (([] ++ sigR t.l (giveL pid 0 L1) k).length + 2) (by rw [List.length_append]; have := sigR_len t.l (giveL pid 0 L1) k; have := HOl.out; have := HN1.out; omega)
                rw [hnew] at hsu
                have HL16 := hid h16
                have HSu := hid hsu
                clear hsu hnew h16
                obtain ⟨bo, hbo⟩ : ∃ bo, bo = orphG (giveL pid 0 L1) ((k : Int) + 1) := ⟨_, rfl⟩
                obtain ⟨bw, hbw⟩ : ∃ bw, bw = orphG t.l ((k : Int) + 1) := ⟨_, rfl⟩
                have HO1' : Hid (Calls Try.prog 25 #[.agg #[(.slice A9 L1.length c9'), .int .i64 t.nx, (.slice A10 F.length c10)], .int .i64 ((k : Int) + 1)] wr fun e w' => e = .returned (.bool bo) ∧ Fr NoB wr w') := by rw [hbo]; exact HO1
                have HO2' : Hid (∀ W, Fr NoB w W → Calls Try.prog 25 #[.agg #[.slice (some ⟨g, 0, none⟩) t.l.length c, .int .i64 t.nx, .slice A2 F.length c2], .int .i64 ((k : Int) + 1)] W fun e w' => e = .returned (.bool bw) ∧ Fr NoB W w') := by rw [hbw]; exact HO2
                have HSu' : Hid ([] ++ sigR t.l (giveL pid 0 L1) (k + 1) = ([] ++ sigR t.l (giveL pid 0 L1) k) ++ (if (bo && !bw) = true then [((k : Int) + 1, 4), ((k : Int) + 1, 5)] else [])) := by rw [hbo, hbw]; exact HSu
                clear HO1 HO2 HSu hbo hbw
                generalize [] ++ sigR t.l (giveL pid 0 L1) k = OU at *
                cases bo
                · have HSu2 := hid (HSu'.out.trans (by rw [if_neg (by simp), List.append_nil]))
                  go_wp2_with fail
                  refine HO1'.out.mono ?_
                  rintro e' w9 ⟨rfl, hf9⟩
                  have HX9 := hid (HX.out.quiet hf9)
                  clear hf9
                  go_wp2
                  go_roundw
                  case rel => exact ⟨k + 1, by omega, by go_num, by rw [HSu2.out]; exact HX9.out⟩
                  case measure => simp [intOf]; omega
                · go_wp2_with fail
                  refine HO1'.out.mono ?_
                  rintro e' w9 ⟨rfl, hf9⟩
                  have HX9 := hid (HX.out.quiet hf9)
                  clear hf9 b0 b1 b2 n0 n1 n2
                  have hb := HB2.out.fr HX9.out.fr (fun h => h)
                  have b0 := hb.cell 0 rfl
                  have b1 := hb.cell 1 rfl
                  have b2 := hb.cell 2 rfl
                  clear hb
                  cases bw
                  · have HSu2 := hid (HSu'.out.trans (by rw [if_pos (by simp)]))
                    go_wp2_with fail
                    refine (HO2'.out _ (HF2.out.trans HX9.out.fr)).mono ?_
                    rintro e' w8 ⟨rfl, hf8⟩
                    have HX8 := hid (HX9.out.quiet hf8)
                    have HXa := hid (HX8.out.quiet ((Fr.refl NoB w8).alloc (.cells #[.int .i64 ((k : Int) + 1), .int .i64 4, .int .i64 ((k : Int) + 1), .int .i64 5] 37)))
                    have hsr : ∀ j u, ([((k : Int) + 1, (4 : Int)), ((k : Int) + 1, 5)].flatMap sgc)[j]? = some u → (w8.alloc (.cells #[.int .i64 ((k : Int) + 1), .int .i64 4, .int .i64 ((k : Int) + 1), .int .i64 5] 37)).cell? ((⟨w8.heap.size, 0, none⟩ : Addr).add j) = some u := Blk.cells (Blk.new w8 37 [.int .i64 ((k : Int) + 1), .int .i64 4, .int .i64 ((k : Int) + 1), .int .i64 5]) 0 _ (fun j v hj => by rw [Nat.zero_add]; exact hj)
                    have HSr := hid hsr
                    have HM2 : Hid ([((k : Int) + 1, (4 : Int)), ((k : Int) + 1, 5)].length = 2) := hid rfl
                    have HSZ9 := hid HXa.out.fr.size
                    clear hf8 hsr b0 b1 b2
                    go_wp2_with (at_builtin; go_must (refine row_apps (f := sgc) sgc_len sgc_one w2.heap.size rfl (.tmp 102) (.tmp 107) 31 37 (.agg #[.int .i64 0, .int .i64 0]) 16 rfl Try.underlying31 infoSg rfl (by omega) (by omega) _ OU [((k : Int) + 1, 4), ((k : Int) + 1, 5)] ⟨w8.heap.size, 0, none⟩ 2 2 rfl rfl HM2.out HSr.out HXa.out.so HSZ9.out HL16.out ?_); intro v10 w10 hR10 hf10 hat10; have HX10 := hid (HXa.out.app hf10 hR10); clear hR10 hf10 hat10)
                    go_roundw
                    case rel => exact ⟨k + 1, by omega, by go_num, by rw [HSu2.out]; exact HX10.out⟩
                    case measure => simp [intOf]; omega
                  · have HSu2 := hid (HSu'.out.trans (by rw [if_neg (by simp), List.append_nil]))
                    go_wp2_with fail
                    refine (HO2'.out _ (HF2.out.trans HX9.out.fr)).mono ?_
                    rintro e' w8 ⟨rfl, hf8⟩
                    have HX8 := hid (HX9.out.quiet hf8)
                    clear hf8
                    go_wp2
                    go_roundw
                    case rel => exact ⟨k + 1, by omega, by go_num, by rw [HSu2.out]; exact HX8.out⟩
                    case measure => simp [intOf]; omega
              · obtain rfl : k = n := by omega
                have hlt : ¬ (k : Int) + 1 < t.nx := by have := HN.out; omega
                have HZ5 := hid (HZ2.out.fr HX.out.fr (fun h => h))
                have HSOL := hid HX.out.so.ge
                have HSLT := hid (show ∀ j, OwnB u7 j → ¬ At (w.heap.size + 1) j from fun j hj e => Row.not_blk HX.out.so HZ5.out (by decide) (by have e' : j = w.heap.size + 1 := e; rw [← e']; exact hj))
                obtain ⟨A7, c7, hv7, _⟩ := Row.shape HX.out.so
                have HV7 := hid hv7
                clear hv7
                have hz := HZ5.out
                have z0 := hz.cell 0 rfl
                have z1 := hz.cell 1 rfl
                have z2 := hz.cell 2 rfl
                have y0 := hz.frozen 0
                have y1 := hz.frozen 1
                have y2 := hz.frozen 2
                have yl := hz.lt
                clear hz
                go_wp2
                have hw2s : w.heap.size ≤ w2.heap.size := HF2.out.size
                have hfz := (HF2.out.trans HX.out.fr).then_ ((((Fr.refl (At (w.heap.size + 1)) wr).setAt 0 (.slice A9 L1.length c9')).setAt 1 (.int .i64 t.nx)).setAt 2 (.slice A10 F.length c10)) (fun k e => .inr (by have e' : k = w.heap.size + 1 := e; omega))
                have hne : ∀ k, OwnB (.slice A9 L1.length c9') k → ¬ At (w.heap.size + 1) k := fun k hk e => Row.not_blk HX.out.rt.l HZ5.out (by decide) (by have e' : k = w.heap.size + 1 := e; rw [← e']; exact hk)
                have hne2 : ∀ k, OwnB (.slice A10 F.length c10) k → ¬ At (w.heap.size + 1) k := fun k hk e => Row.not_blk HX.out.rt.f HZ5.out (by decide) (by have e' : k = w.heap.size + 1 := e; rw [← e']; exact hk)
                rw [HRr.out]
                refine bodyPost_ret (v := .tuple #[rtv (.slice A9 L1.length c9') t.nx (.slice A10 F.length c10), u7]) (by simp [results, Try.results43, go_sem, z0, z1, z2, rtv]) rfl ⟨_, _, _, _, rfl, HX.out.rt.fr ((((Fr.refl (At (w.heap.size + 1)) wr).setAt 0 _).setAt 1 _).setAt 2 _) hne hne2, Row.lower (Row.fr HX.out.so ((((Fr.refl (At (w.heap.size + 1)) wr).setAt 0 _).setAt 1 _).setAt 2 _) HSLT.out) hw2s, hfz, fun k hk => .inr (Nat.le_trans hw2s (HV3.out k hk)), fun k hk => (.inr (Nat.le_trans hw2s (HV10.out k hk)))⟩
          · rw [hg] at HHas' HRr
            have HRr := hid (HRr.out.trans (by rw [if_pos rfl]))
            clear hg
            go_upto_region 19 with (fail)
            generalize hw5 : World.alloc wr _ = w5
            have hfn : Fr NoB wr w5 := by rw [← hw5]; exact (Fr.refl NoB wr).alloc _
            have HN5 : Hid (Blk w5 nb 43 [.slice A3 L1.length c3, .int .i64 t.nx, .slice A2 F.length c2]) := hid (by rw [← hw5, HNB.out]; exact hNB.out)
            have HFR5 := hid hfn
            clear hw5 p3 p4 pl hNB hfn hkm
            have hw25 := HFr.out.trans HFR5.out
            have hb := HB2.out.fr hw25 (fun h => h)
            have b0 := hb.cell 0 rfl
            have b1 := hb.cell 1 rfl
            have b2 := hb.cell 2 rfl
            have hp := HP2.out.fr hw25 (fun h => h)
            have p4 := hp.cell 4 rfl
            rw [← HNB.out]
            clear hb hp hw25
            go_wp2_with fail
            refine (HFo.out _ (HF2.out.trans (HFr.out.trans HFR5.out))).mono ?_
            rintro e' w6 ⟨rfl, hf6⟩
            have HFR6 := hid (HFR5.out.trans hf6)
            have HN6 := hid (HN5.out.fr hf6 (fun h => h))
            clear hf6 b0 b1 b2 p4
            have hn := HN6.out
            have n0 := hn.cell 0 rfl
            have n1 := hn.cell 1 rfl
            have n2 := hn.cell 2 rfl
            clear hn
            go_wp2_with fail
            refine (HHas'.out _ HFR6.out).mono ?_
            rintro e' w7 ⟨rfl, hf7⟩
            have HFR7 := hid (HFR6.out.trans hf7)
            have HN7 := hid (HN6.out.fr hf7 (fun h => h))
            clear hf7 n0 n1 n2
            have HX7 : Hid (XR w2 w7 nb (.slice A3 L1.length c3) (.slice A2 F.length c2) ⟨L1, t.nx, t.f⟩ F (.slice none 0 0) []) := hid ⟨HN7.out, HRN.out.frd HFR7.out, Row.nil _ _ _ _ _, HFr.out.trans HFR7.out⟩
            have HXL16 : Hid ((([] : List (Int × Int)).length + 1) * 16 ≤ 140737488355328) := hid (by decide)
            go_upto_region 22 with (at_builtin; go_must (refine row_app (f := sgc) sgc_len sgc_one w2.heap.size rfl (.tmp 76) (.tmp 79) 31 37 (.agg #[.int .i64 0, .int .i64 0]) 16 rfl Try.underlying31 infoSg rfl (by omega) (by omega) (.slice none 0 0) [] (fr, 4) rfl rfl HX7.out.so HX7.out.fr.size HXL16.out ?_); intro v8 w8 hR8 hf8 hat8; have HX8 := hid (HX7.out.app hf8 hR8); clear hR8 hf8 hat8)
            have hpn : w1.heap.size ≠ nb := by have := HP9.out.lt; have := HNB.out; omega
            have HSq : Hid (∀ W, Fr (At nb) w8 W → W.cell? ⟨w1.heap.size, 4, none⟩ = some (.int .i64 t.l[i].tty)) := hid fun W hW => ((HP2.out.fr HX8.out.fr (fun h => h)).fr hW (fun e => hpn e)).cell 4 rfl
            have HFrt : Hid (∀ (W : World) (v1 fv1 : Value) (t' : Tb) (F' : List Int), RT W v1 fv1 t' F' → Calls Try.prog 58 #[rtv v1 t.nx fv1, .int .i64 t.l[i].tty, .int .i64 0] W (FrTo W v1 t.nx (F'.set j 0))) := hid fun W v1 fv1 t' F' hr => by
              rw [HTJ.out]
              exact rFr_any W v1 fv1 t.nx t' F' j 0 hr hj65
            have hn := HX8.out.bx
            have n0 := hn.cell 0 rfl
            have n1 := hn.cell 1 rfl
            have n2 := hn.cell 2 rfl
            clear hn hpn
            refine wp_region_held_drew (S := (fun W : World => W.cell? ⟨w1.heap.size, 4, none⟩ = some (.int .i64 t.l[i].tty))) (by kernel_rfl) (HSq.out _ ((Fr.refl _ _).drew)) (fun hHeld => ?_)
            refine wpAnyH_take (i := 1) (oi := { dst := some 82, op := Op.move (Operand.tmp 1), type := 3, pos := "ref.go:204", after := #[], guard := none }) (v := ?vxf1) rfl (by kernel_rfl) (by kernel_rfl) (by kernel_rfl) (fun _ _ _ h => h) (Or.inl ⟨by rfl, ?hyxf1⟩) (by assumption) ?rxf1
            case hyxf1 => (intro w hSw; (try dsimp only at hSw); go_simp; try (with_reducible rfl))
            try simp only [Act.put, List.setIfInBounds_toArray, List.set_cons_zero, List.set_cons_succ]
            refine wpAnyH_take (i := 3) (oi := { dst := some 84, op := Op.fieldAddr 51 (Operand.tmp 8) 4, type := 0, pos := "ref.go:204", after := #[], guard := none }) (v := ?vxf2) rfl (by kernel_rfl) (by kernel_rfl) (by kernel_rfl) (fun _ _ _ h => h) (Or.inl ⟨by rfl, ?hyxf2⟩) (by assumption) ?rxf2
            case hyxf2 => (intro w hSw; (try dsimp only at hSw); go_simp; try (with_reducible rfl))
            try simp only [Act.put, List.setIfInBounds_toArray, List.set_cons_zero, List.set_cons_succ]
            refine wpAnyH_take (i := 4) (oi := { dst := some 85, op := Op.load 3 (Operand.tmp 84), type := 3, pos := "ref.go:204", after := #[{ on := 3, ground := Ground.data }], guard := none }) (v := ?vxf3) rfl (by kernel_rfl) (by kernel_rfl) (by kernel_rfl) (fun _ _ _ h => h) (Or.inl ⟨by rfl, ?hyxf3⟩) (by assumption) ?rxf3
            case hyxf3 => (intro w hSw; (try dsimp only at hSw); go_simp; try (with_reducible rfl))
            try simp only [Act.put, List.setIfInBounds_toArray, List.set_cons_zero, List.set_cons_succ]
            refine wpAnyH_ready (rs := [0]) (by kernel_rfl) (by simp) ?_
            refine AllReadyH.cons (o := { dst := some 81, op := Op.load 43 (Operand.tmp 12), type := 43, pos := "ref.go:204", after := #[], guard := none }) rfl (fun K hK => ?_) AllReadyH.nil
            go_simp
            refine hK.out _ _ (HSq.out _ ((Fr.refl _ _).drew)) (fun hHeld => ?_)
            clear hK K
            try simp only [Act.put, List.setIfInBounds_toArray, List.set_cons_zero, List.set_cons_succ]
            refine wpAnyH_ready (rs := [2]) (by kernel_rfl) (by simp) ?_
            refine AllReadyH.cons (o := { dst := some 83, op := Op.call { callee := Callee.value (Operand.func 59), args := #[Operand.tmp 81, Operand.tmp 82, Operand.const (Value.int IntKind.i64 0)], argTypes := #[43, 3, 3] }, type := 43, pos := "ref.go:204", after := #[{ on := 0, ground := Ground.data }, { on := 1, ground := Ground.data }], guard := none }) rfl (fun K hK => ?_) AllReadyH.nil
            go_simp
            refine (rGiveA_any _ _ _ t.nx ⟨L1, t.nx, t.f⟩ F pid 0 (HX8.out.rt.frd (Fr.refl NoB w8).drew) HLQ.out).mono ?_
            rintro e' w9 ⟨v9, rfl, hr9, hf9⟩
            obtain ⟨A9, c9', hv9, _⟩ := hr9.shape
            rw [giveL_len] at hv9
            dsimp only at hv9
            subst hv9
            have HF9 := hid ((Fr.refl NoB w8).drew.trans hf9)
            have HR9 := hid (HX8.out.rt.up hr9 HF9.out t.nx)
            have HV9 := hid (fun k hk => Nat.le_trans HX8.out.fr.size (hr9.ge k hk))
            clear hHeld hr9 hf9
            unfold rtv
            go_wp2_with fail
            refine hK.out _ _ (HSq.out _ (HF9.out.mono (fun _ h => h.elim))) (fun hHeld => ?_)
            clear hK K
            try simp only [Act.put, List.setIfInBounds_toArray, List.set_cons_zero, List.set_cons_succ]
            refine wpAnyH_ready (rs := [5]) (by kernel_rfl) (by simp) ?_
            refine AllReadyH.cons (o := { dst := some 86, op := Op.call { callee := Callee.value (Operand.func 58), args := #[Operand.tmp 83, Operand.tmp 85, Operand.const (Value.int IntKind.i64 0)], argTypes := #[43, 3, 3] }, type := 43, pos := "ref.go:204", after := #[{ on := 2, ground := Ground.data }, { on := 4, ground := Ground.data }, { on := 2, ground := Ground.chain }], guard := none }) rfl (fun K hK => ?_) AllReadyH.nil
            go_simp
            refine (HFrt.out _ _ _ _ _ HR9.out).mono ?_
            rintro e' w10 ⟨fv10, rfl, hr10, hf10⟩
            obtain ⟨A10, c10, hv10, _⟩ := hr10.shape
            rw [List.length_set] at hv10
            subst hv10
            have hR10 := HR9.out.setF hr10 hf10 hj65
            rw [← HTJ.out] at hR10
            have HR10 := hid hR10
            have HF10 := hid (HF9.out.trans hf10)
            have HV10 := hid (fun k hk => Nat.le_trans (Nat.le_trans HX8.out.fr.size HF9.out.size) (hr10.ge k hk))
            have HN10 := hid (HX8.out.bx.fr HF10.out (fun h => h))
            have hm := HN10.out
            have m0 := hm.cell 0 rfl
            have m1 := hm.cell 1 rfl
            have m2 := hm.cell 2 rfl
            have y0 := hm.frozen 0
            have y1 := hm.frozen 1
            have y2 := hm.frozen 2
            have yl := hm.lt
            clear hHeld hr10 hf10 hR10 hm
            unfold rtv
            go_wp2_with fail
            refine hK.out _ _ (HSq.out _ (HF10.out.mono (fun _ h => h.elim))) (fun hHeld => ?_)
            clear hK K
            try simp only [Act.put, List.setIfInBounds_toArray, List.set_cons_zero, List.set_cons_succ]
            refine wpAnyH_ready (rs := [6]) (by kernel_rfl) (by simp) ?_
            refine AllReadyH.cons (o := { dst := none, op := Op.store 43 (Operand.tmp 12) (Operand.tmp 86), type := 0, pos := "ref.go:204", after := #[{ on := 5, ground := Ground.data }, { on := 5, ground := Ground.chain }, { on := 0, ground := Ground.phase }, { on := 1, ground := Ground.phase }, { on := 2, ground := Ground.phase }, { on := 3, ground := Ground.phase }, { on := 4, ground := Ground.phase }, { on := 5, ground := Ground.phase }], guard := none }) rfl (fun K hK => ?_) AllReadyH.nil
            go_simp
            refine hK.out _ _ (HSq.out _ ((((HF10.out.mono (fun _ h => h.elim)).setAt 0 _).setAt 1 _).setAt 2 _)) (fun hHeld => ?_)
            clear hK K
            try simp only [Act.put, List.setIfInBounds_toArray, List.set_cons_zero, List.set_cons_succ]
            refine wpAnyH_done (by kernel_rfl) ?_ _
            clear n0 n1 n2 m0 m1 m2 y0 y1 y2 yl hHeld
            generalize hw5 : World.setCell (World.setCell (World.setCell w10 _ _) _ _) _ _ = w5
            have hfa : Fr (At nb) w10 w5 := by rw [← hw5]; exact (((Fr.refl (At nb) w10).setAt 0 _).setAt 1 _).setAt 2 _
            have hnb5 : Blk w5 nb 43 [.slice A9 L1.length c9', .int .i64 t.nx, .slice A10 F.length c10] := by rw [← hw5]; exact ((HN10.out.set 0 (.slice A9 L1.length c9')).set 1 (.int .i64 t.nx)).set 2 (.slice A10 F.length c10)
            have hnb2 : w2.heap.size ≤ nb := by have := HNB.out; have := HFr.out.size; omega
            have HX5 : Hid (XR w2 w5 nb (.slice A9 L1.length c9') (.slice A10 F.length c10) ⟨giveL pid 0 L1, t.nx, fun jj => if jj = t.l[i].tty then 0 else t.f jj⟩ (F.set j 0) v8 [(fr, 4)]) := hid ⟨hnb5, HR10.out.fr hfa (fun k hk e => Row.not_blk HR10.out.l HN10.out (by decide) (by have e' : k = nb := e; rw [← e']; exact hk)) (fun k hk e => Row.not_blk HR10.out.f HN10.out (by decide) (by have e' : k = nb := e; rw [← e']; exact hk)), Row.fr (Row.fr HX8.out.so HF10.out (fun _ _ h => h)) hfa (fun k hk e => Row.not_blk (Row.fr HX8.out.so HF10.out (fun _ _ h => h)) HN10.out (by decide) (by have e' : k = nb := e; rw [← e']; exact hk)), (HX8.out.fr.trans HF10.out).then_ hfa (fun k e => .inr (by have e' : k = nb := e; omega))⟩
            have HV3 := HV9
            have HLQ : Hid ((giveL pid 0 L1).length ≤ 400) := hid (by rw [giveL_len]; exact HLQ.out)
            clear hfa hnb5 hnb2 hw5
            clear HNB
            have HOl : Hid (([(fr, 4)] : List (Int × Int)).length ≤ 1) := hid (by simp)
            go_wp2
            go_loopw [7, 14] (fun v7 v14 wr => ∃ k : Nat, k ≤ n ∧ v14 = .int .i64 ((k : Int) + 1) ∧ Hid (XR w2 wr nb (.slice A9 L1.length c9') (.slice A10 F.length c10) ⟨giveL pid 0 L1, t.nx, fun jj => if jj = t.l[i].tty then 0 else t.f jj⟩ (F.set j 0) v7 ([(fr, 4)] ++ sigR t.l (giveL pid 0 L1) k))) (fun _ v14 _ => n + 1 - (intOf v14).toNat)
            case atStart => exact ⟨0, Nat.zero_le _, rfl, hid (by show XR _ _ _ _ _ _ _ _ ([(fr, 4)] ++ []); rw [List.append_nil]; exact HX5.out)⟩
            case round =>
              obtain ⟨k, hk, rfl, HX⟩ := hrel
              have hb := HB2.out.fr HX.out.fr (fun h => h)
              have b0 := hb.cell 0 rfl
              have b1 := hb.cell 1 rfl
              have b2 := hb.cell 2 rfl
              have hn9 := HX.out.bx
              have n0 := hn9.cell 0 rfl
              have n1 := hn9.cell 1 rfl
              have n2 := hn9.cell 2 rfl
              clear hb hn9
              by_cases hkn : k < n
              · have hlt : (k : Int) + 1 < t.nx := by have := HN.out; omega
                have hwr : IntKind.i64.wrap ((k : Int) + 1 + 1) = (k : Int) + 1 + 1 := IntWalk.i64_in _ (by have := HN1.out; omega)
                have HO1 := hid (rOrph_any wr _ _ t.nx ⟨giveL pid 0 L1, t.nx, fun jj => if jj = t.l[i].tty then 0 else t.f jj⟩ (F.set j 0) ((k : Int) + 1) HX.out.rt (Nat.le_trans (HLQ.out : ((giveL pid 0 L1) : List Pr).length ≤ 400) (by decide)))
                have HO2 := hid fun W (hW : Fr NoB w W) => rOrph_any W _ _ t.nx t F ((k : Int) + 1) (HRW.out.frd hW) (Nat.le_trans HL.out (by decide))
                unfold rtv at HO1 HO2
                have hsu : [(fr, 4)] ++ sigR t.l (giveL pid 0 L1) (k + 1) = ([(fr, 4)] ++ sigR t.l (giveL pid 0 L1) k) ++ newR t.l (giveL pid 0 L1) ((k : Int) + 1) := by rw [sigR_succ, List.append_assoc]
                have hnew : newR t.l (giveL pid 0 L1) ((k : Int) + 1) = if (orphG (giveL pid 0 L1) ((k : Int) + 1) && !orphG t.l ((k : Int) + 1)) = true then [((k : Int) + 1, 4), ((k : Int) + 1, 5)] else [] := rfl
                have h16 := le16 (([(fr, 4)] ++ sigR t.l (giveL pid 0 L1) k).length + 2) (by rw [List.length_append]; have := sigR_len t.l (giveL pid 0 L1) k; have := HOl.out; have := HN1.out; omega)
                rw [hnew] at hsu
                have HL16 := hid h16
                have HSu := hid hsu
                clear hsu hnew h16
                obtain ⟨bo, hbo⟩ : ∃ bo, bo = orphG (giveL pid 0 L1) ((k : Int) + 1) := ⟨_, rfl⟩
                obtain ⟨bw, hbw⟩ : ∃ bw, bw = orphG t.l ((k : Int) + 1) := ⟨_, rfl⟩
                have HO1' : Hid (Calls Try.prog 25 #[.agg #[(.slice A9 L1.length c9'), .int .i64 t.nx, (.slice A10 F.length c10)], .int .i64 ((k : Int) + 1)] wr fun e w' => e = .returned (.bool bo) ∧ Fr NoB wr w') := by rw [hbo]; exact HO1
                have HO2' : Hid (∀ W, Fr NoB w W → Calls Try.prog 25 #[.agg #[.slice (some ⟨g, 0, none⟩) t.l.length c, .int .i64 t.nx, .slice A2 F.length c2], .int .i64 ((k : Int) + 1)] W fun e w' => e = .returned (.bool bw) ∧ Fr NoB W w') := by rw [hbw]; exact HO2
                have HSu' : Hid ([(fr, 4)] ++ sigR t.l (giveL pid 0 L1) (k + 1) = ([(fr, 4)] ++ sigR t.l (giveL pid 0 L1) k) ++ (if (bo && !bw) = true then [((k : Int) + 1, 4), ((k : Int) + 1, 5)] else [])) := by rw [hbo, hbw]; exact HSu
                clear HO1 HO2 HSu hbo hbw
                generalize [(fr, 4)] ++ sigR t.l (giveL pid 0 L1) k = OU at *
                cases bo
                · have HSu2 := hid (HSu'.out.trans (by rw [if_neg (by simp), List.append_nil]))
                  go_wp2_with fail
                  refine HO1'.out.mono ?_
                  rintro e' w9 ⟨rfl, hf9⟩
                  have HX9 := hid (HX.out.quiet hf9)
                  clear hf9
                  go_wp2
                  go_roundw
                  case rel => exact ⟨k + 1, by omega, by go_num, by rw [HSu2.out]; exact HX9.out⟩
                  case measure => simp [intOf]; omega
                · go_wp2_with fail
                  refine HO1'.out.mono ?_
                  rintro e' w9 ⟨rfl, hf9⟩
                  have HX9 := hid (HX.out.quiet hf9)
                  clear hf9 b0 b1 b2 n0 n1 n2
                  have hb := HB2.out.fr HX9.out.fr (fun h => h)
                  have b0 := hb.cell 0 rfl
                  have b1 := hb.cell 1 rfl
                  have b2 := hb.cell 2 rfl
                  clear hb
                  cases bw
                  · have HSu2 := hid (HSu'.out.trans (by rw [if_pos (by simp)]))
                    go_wp2_with fail
                    refine (HO2'.out _ (HF2.out.trans HX9.out.fr)).mono ?_
                    rintro e' w8 ⟨rfl, hf8⟩
                    have HX8 := hid (HX9.out.quiet hf8)
                    have HXa := hid (HX8.out.quiet ((Fr.refl NoB w8).alloc (.cells #[.int .i64 ((k : Int) + 1), .int .i64 4, .int .i64 ((k : Int) + 1), .int .i64 5] 37)))
                    have hsr : ∀ j u, ([((k : Int) + 1, (4 : Int)), ((k : Int) + 1, 5)].flatMap sgc)[j]? = some u → (w8.alloc (.cells #[.int .i64 ((k : Int) + 1), .int .i64 4, .int .i64 ((k : Int) + 1), .int .i64 5] 37)).cell? ((⟨w8.heap.size, 0, none⟩ : Addr).add j) = some u := Blk.cells (Blk.new w8 37 [.int .i64 ((k : Int) + 1), .int .i64 4, .int .i64 ((k : Int) + 1), .int .i64 5]) 0 _ (fun j v hj => by rw [Nat.zero_add]; exact hj)
                    have HSr := hid hsr
                    have HM2 : Hid ([((k : Int) + 1, (4 : Int)), ((k : Int) + 1, 5)].length = 2) := hid rfl
                    have HSZ9 := hid HXa.out.fr.size
                    clear hf8 hsr b0 b1 b2
                    go_wp2_with (at_builtin; go_must (refine row_apps (f := sgc) sgc_len sgc_one w2.heap.size rfl (.tmp 102) (.tmp 107) 31 37 (.agg #[.int .i64 0, .int .i64 0]) 16 rfl Try.underlying31 infoSg rfl (by omega) (by omega) _ OU [((k : Int) + 1, 4), ((k : Int) + 1, 5)] ⟨w8.heap.size, 0, none⟩ 2 2 rfl rfl HM2.out HSr.out HXa.out.so HSZ9.out HL16.out ?_); intro v10 w10 hR10 hf10 hat10; have HX10 := hid (HXa.out.app hf10 hR10); clear hR10 hf10 hat10)
                    go_roundw
                    case rel => exact ⟨k + 1, by omega, by go_num, by rw [HSu2.out]; exact HX10.out⟩
                    case measure => simp [intOf]; omega
                  · have HSu2 := hid (HSu'.out.trans (by rw [if_neg (by simp), List.append_nil]))
                    go_wp2_with fail
                    refine (HO2'.out _ (HF2.out.trans HX9.out.fr)).mono ?_
                    rintro e' w8 ⟨rfl, hf8⟩
                    have HX8 := hid (HX9.out.quiet hf8)
                    clear hf8
                    go_wp2
                    go_roundw
                    case rel => exact ⟨k + 1, by omega, by go_num, by rw [HSu2.out]; exact HX8.out⟩
                    case measure => simp [intOf]; omega
              · obtain rfl : k = n := by omega
                have hlt : ¬ (k : Int) + 1 < t.nx := by have := HN.out; omega
                have HZ5 := hid (HZ2.out.fr HX.out.fr (fun h => h))
                have HSOL := hid HX.out.so.ge
                have HSLT := hid (show ∀ j, OwnB u7 j → ¬ At (w.heap.size + 1) j from fun j hj e => Row.not_blk HX.out.so HZ5.out (by decide) (by have e' : j = w.heap.size + 1 := e; rw [← e']; exact hj))
                obtain ⟨A7, c7, hv7, _⟩ := Row.shape HX.out.so
                have HV7 := hid hv7
                clear hv7
                have hz := HZ5.out
                have z0 := hz.cell 0 rfl
                have z1 := hz.cell 1 rfl
                have z2 := hz.cell 2 rfl
                have y0 := hz.frozen 0
                have y1 := hz.frozen 1
                have y2 := hz.frozen 2
                have yl := hz.lt
                clear hz
                go_wp2
                have hw2s : w.heap.size ≤ w2.heap.size := HF2.out.size
                have hfz := (HF2.out.trans HX.out.fr).then_ ((((Fr.refl (At (w.heap.size + 1)) wr).setAt 0 (.slice A9 L1.length c9')).setAt 1 (.int .i64 t.nx)).setAt 2 (.slice A10 F.length c10)) (fun k e => .inr (by have e' : k = w.heap.size + 1 := e; omega))
                have hne : ∀ k, OwnB (.slice A9 L1.length c9') k → ¬ At (w.heap.size + 1) k := fun k hk e => Row.not_blk HX.out.rt.l HZ5.out (by decide) (by have e' : k = w.heap.size + 1 := e; rw [← e']; exact hk)
                have hne2 : ∀ k, OwnB (.slice A10 F.length c10) k → ¬ At (w.heap.size + 1) k := fun k hk e => Row.not_blk HX.out.rt.f HZ5.out (by decide) (by have e' : k = w.heap.size + 1 := e; rw [← e']; exact hk)
                rw [HRr.out]
                refine bodyPost_ret (v := .tuple #[rtv (.slice A9 L1.length c9') t.nx (.slice A10 F.length c10), u7]) (by simp [results, Try.results43, go_sem, z0, z1, z2, rtv]) rfl ⟨_, _, _, _, rfl, HX.out.rt.fr ((((Fr.refl (At (w.heap.size + 1)) wr).setAt 0 _).setAt 1 _).setAt 2 _) hne hne2, Row.lower (Row.fr HX.out.so ((((Fr.refl (At (w.heap.size + 1)) wr).setAt 0 _).setAt 1 _).setAt 2 _) HSLT.out) hw2s, hfz, fun k hk => .inr (Nat.le_trans hw2s (HV3.out k hk)), fun k hk => (.inr (Nat.le_trans hw2s (HV10.out k hk)))⟩
end Go.Proofs.Ytlagakcpjmjdfaa
