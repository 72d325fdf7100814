import Derived.Test.YtlagakcpjmjdfaaA12
set_option linter.unusedSimpArgs false
set_option linter.unusedVariables false
set_option maxRecDepth 20000
namespace Go.Proofs.Ytlagakcpjmjdfaa
open Go.RowKit Go.Proofs.YtlagakcpjmjdfaaW.PrintWords
theorem PT.erase {w w1 : World} {tb mb mn g c i : Nat} {v' : Value} {bs : List Nat} {l : List Pr} {nx : Int} {f : Int → Int} (h : PT w tb (.slice (some ⟨g, 0, none⟩) bs.length c) bs l nx mb mn f) (hf : Fr (fun k => k = tb ∨ k = g) w w1) (hb : Blk w1 tb 66 [v', .int .i64 nx, .map (some mb)]) (hr : PV w1 v' (bs.eraseIdx i)) :
    PT w1 tb v' (bs.eraseIdx i) (l.eraseIdx i) nx mb mn f := by
  have hgo : OwnB (.slice (some ⟨g, 0, none⟩) bs.length c) g := rfl
  refine ⟨hb, hr, by rw [List.length_eraseIdx, List.length_eraseIdx, h.len], fun k h1 h2 => ?_, h.nd.sublist (List.eraseIdx_sublist ..), h.map.fr hf (fun e => e.elim (fun e => h.map.not_blk h.blk e) (fun e => ?_))⟩
  · have one : ∀ j (a : j < bs.length) (b : j < l.length), Blk w1 bs[j] 51 l[j].cells := fun j a b => by
      obtain ⟨a1, a2, a3⟩ := h.apart j a
      exact (h.prc j a b).fr hf (fun e => e.elim (fun e => a1 e.symm) (fun e => a2 (by rw [e]; exact hgo)))
    simp only [List.getElem_eraseIdx]
    have hl := h.len
    rw [List.length_eraseIdx] at h1 h2
    split
    · exact one k (by split at h1 <;> omega) (by split at h2 <;> omega)
    · exact one (k + 1) (by split at h1 <;> omega) (by split at h2 <;> omega)
  · rcases h.row with ⟨h0, _⟩ | ⟨g2, c2, rest, h0, h1, _⟩
    · cases h0
    · cases h0
      exact h.map.not_blk h1.blk e
theorem PT.ge {w w1 : World} {tb mb mn : Nat} {v : Value} {bs : List Nat} {l : List Pr} {nx : Int} {f : Int → Int} (h : PT w tb v bs l nx mb mn f) (hf : Fr (Ge w.heap.size) w w1) : PT w1 tb v bs l nx mb mn f :=
  h.fr hf (fun e => by have := h.blk.lt; have e' : w.heap.size ≤ tb := e; omega) (fun k hk e => by have := h.row.lt k hk; have e' : w.heap.size ≤ k := e; omega) (fun b hb e => by
    obtain ⟨k, hk, rfl⟩ := List.getElem_of_mem hb
    have := (h.prc k hk (by have := h.len; omega)).lt
    have e' : w.heap.size ≤ bs[k] := e
    omega) (fun e => by have := h.map.lt; have e' : w.heap.size ≤ mb := e; omega)
theorem Row.not_map {α : Type} {f : α → List Value} {sz : Nat} {e : TypeId} {w : World} {base b : Nat} {v : Value} {xs : List α} {es : Array MapEntry} {clock : Nat} (h : Row f sz e w base v xs) (hm : w.heap[b]? = some (.map es clock)) : ¬ OwnB v b := by
  intro hk
  rcases h.2 with ⟨h0, _⟩ | ⟨g, c, cur, h0, _, h1, _⟩
  · rw [h0] at hk; cases hk
  · rw [h0] at hk
    obtain rfl : g = b := Option.some.inj hk
    rw [hm] at h1
    cases h1
theorem SgR.notI {w : World} {base b n : Nat} {v : Value} {xs : List (Int × Int)} {f : Int → Int} (h : SgR w base v xs) (hm : MapI w b n f) : ¬ OwnB v b := by
  obtain ⟨D, ⟨es, clock, hb, _⟩, _⟩ := hm
  exact Row.not_map h hb
theorem SgR.notB {w : World} {base b n : Nat} {v : Value} {xs : List (Int × Int)} {f : Int → Bool} (h : SgR w base v xs) (hm : MapB w b n f) : ¬ OwnB v b := by
  obtain ⟨D, ⟨es, clock, hb, _⟩, _⟩ := hm
  exact Row.not_map h hb
/-- Signals are appended: nothing else is changed. -/
theorem PT.sig {w w1 : World} {tb mb mn base : Nat} {v sv : Value} {bs : List Nat} {l : List Pr} {nx : Int} {f : Int → Int} {xs : List (Int × Int)} (h : PT w tb v bs l nx mb mn f) (hr : SgR w base sv xs) (hf : Fr (OwnB sv) w w1) : PT w1 tb v bs l nx mb mn f :=
  h.fr hf (Row.not_blk hr h.blk (by decide)) (fun k hk hk2 => Row.apart h.row.row hr (by decide) k hk hk2) (fun b hb hk => by
    obtain ⟨k, hk9, rfl⟩ := List.getElem_of_mem hb
    exact Row.not_blk hr (h.prc k hk9 (by have := h.len; omega)) (by decide) hk) (SgR.notI hr h.map)
/-- What the last loop of Exit keeps. -/
structure XS (w W : World) (tb : Nat) (S : Nat → Prop) (v gv : Value) (bs : List Nat) (l : List Pr) (nx : Int) (mb mn : Nat) (f : Int → Int) (mx mc : Nat) (was : Int → Bool) (gs : List Int) (gb : Nat) (sv : Value) (out : List (Int × Int)) : Prop where
  pt : PT W tb v bs l nx mb mn f
  mp : MapB W mx mc was
  gr : Row ic 1 3 W gb gv gs
  so : SgR W w.heap.size sv out
  fr : Fr S w W
theorem XS.quiet {w W W1 : World} {tb : Nat} {S : Nat → Prop} {v gv : Value} {bs : List Nat} {l : List Pr} {nx : Int} {mb mn : Nat} {f : Int → Int} {mx mc : Nat} {was : Int → Bool} {gs : List Int} {gb : Nat} {sv : Value} {out : List (Int × Int)} (h : XS w W tb S v gv bs l nx mb mn f mx mc was gs gb sv out) (hf : Fr NoB W W1) : XS w W1 tb S v gv bs l nx mb mn f mx mc was gs gb sv out :=
  ⟨h.pt.frd hf, h.mp.fr hf (fun h => h), h.gr.fr hf (fun _ _ h => h), Row.fr h.so hf (fun _ _ h => h), h.fr.trans (hf.mono (fun _ h => h.elim))⟩
theorem XS.app {w W W1 : World} {tb : Nat} {S : Nat → Prop} {v gv : Value} {bs : List Nat} {l : List Pr} {nx : Int} {mb mn : Nat} {f : Int → Int} {mx mc : Nat} {was : Int → Bool} {gs : List Int} {gb : Nat} {sv sv1 : Value} {out out1 : List (Int × Int)} (h : XS w W tb S v gv bs l nx mb mn f mx mc was gs gb sv out) (hf : Fr (OwnB sv) W W1) (hs : SgR W1 w.heap.size sv1 out1) : XS w W1 tb S v gv bs l nx mb mn f mx mc was gs gb sv1 out1 :=
  ⟨h.pt.sig h.so hf, h.mp.fr hf (SgR.notB h.so h.mp), h.gr.fr hf (fun k hk hk2 => Row.apart h.gr h.so (by decide) k hk hk2), hs, h.fr.then_ hf (fun k hk => .inr (Row.lt h.so k hk).1)⟩
def parF (pid : Int) (q : Pr) : Pr := if q.par = pid then { q with par := if pid = 1 then 0 else 1 } else q
def wasF (l : List Pr) (g : Int) : Bool := decide (g ∈ grps l) && orphG l g
def newO (was : Int → Bool) (l : List Pr) (g : Int) : List (Int × Int) := if (!was g && orphG l g) = true then [(g, 4), (g, 5)] else []
def exitT (t : Tb) (pid : Int) : Tb × List (Int × Int) := match t.l.find? (isPid pid) with
  | none => (t, [])
  | some p =>
    if (p.ses == pid && p.tty != 0) = true then
      (⟨giveL pid 0 ((t.l.eraseIdx (t.l.findIdx (isPid pid))).map (parF pid)), t.nx, fun j => if j = p.tty then 0 else t.f j⟩,
        (if hasG ((t.l.eraseIdx (t.l.findIdx (isPid pid))).map (parF pid)) (t.f p.tty) 0 then [(t.f p.tty, 4)] else []) ++ (grps (giveL pid 0 ((t.l.eraseIdx (t.l.findIdx (isPid pid))).map (parF pid)))).flatMap (newO (wasF t.l) (giveL pid 0 ((t.l.eraseIdx (t.l.findIdx (isPid pid))).map (parF pid)))))
    else
      (⟨(t.l.eraseIdx (t.l.findIdx (isPid pid))).map (parF pid), t.nx, t.f⟩, [] ++ (grps ((t.l.eraseIdx (t.l.findIdx (isPid pid))).map (parF pid))).flatMap (newO (wasF t.l) ((t.l.eraseIdx (t.l.findIdx (isPid pid))).map (parF pid))))
theorem compact_sub (zs : List Int) : ∀ x ∈ Lib.compact zs, x ∈ zs := by
  intro x hx
  unfold Lib.compact Lib.compactUpTo at hx
  obtain ⟨j, hj, rfl⟩ := List.mem_map.1 hx
  have hj2 := (List.mem_filter.1 hj).1
  rw [List.mem_range] at hj2
  rw [getElem!_pos _ _ (by simpa using hj2)]
  simp
theorem grps_mem (l : List Pr) (g : Int) (h : g ∈ grps l) : ∃ p ∈ l, p.grp = g := by
  have h1 := compact_sub _ _ h
  unfold srt at h1
  rw [List.mem_mergeSort, List.mem_map] at h1
  exact h1
theorem Row.icell {w : World} {base g c : Nat} {zs : List Int} (h : Row ic 1 3 w base (.slice (some ⟨g, 0, none⟩) zs.length c) zs) (k : Nat) (hk : k < zs.length) : w.cell? ⟨g, k, none⟩ = some (.int .i64 zs[k]) := by
  have := h.cell ic_len k hk 0 (by decide) rfl
  rwa [Nat.mul_one, Nat.add_zero] at this
theorem wasF_take (l : List Pr) (k : Nat) (hk : k < (grps l).length) : (fun j => if j = (grps l)[k] then orphG l (grps l)[k] else decide (j ∈ (grps l).take k) && orphG l j) = fun j => decide (j ∈ (grps l).take (k + 1)) && orphG l j := by
  funext j
  rw [List.take_succ_eq_append_getElem hk]
  by_cases e : j = (grps l)[k]
  · rw [if_pos e, ← e, decide_eq_true (List.mem_append_right _ (List.mem_singleton_self _)), Bool.true_and]
  · have h1 : (j ∈ (grps l).take k ++ [(grps l)[k]]) ↔ j ∈ (grps l).take k := by
      rw [List.mem_append, List.mem_singleton]
      exact ⟨fun h => h.resolve_right e, .inl⟩
    rw [if_neg e, decide_eq_decide.2 h1]
theorem exitT_some (t : Tb) (pid : Int) (p : Pr) (h : t.l.find? (isPid pid) = some p) : exitT t pid = if (p.ses == pid && p.tty != 0) = true then
      (⟨giveL pid 0 ((t.l.eraseIdx (t.l.findIdx (isPid pid))).map (parF pid)), t.nx, fun j => if j = p.tty then 0 else t.f j⟩,
        (if hasG ((t.l.eraseIdx (t.l.findIdx (isPid pid))).map (parF pid)) (t.f p.tty) 0 then [(t.f p.tty, 4)] else []) ++ (grps (giveL pid 0 ((t.l.eraseIdx (t.l.findIdx (isPid pid))).map (parF pid)))).flatMap (newO (wasF t.l) (giveL pid 0 ((t.l.eraseIdx (t.l.findIdx (isPid pid))).map (parF pid)))))
    else
      (⟨(t.l.eraseIdx (t.l.findIdx (isPid pid))).map (parF pid), t.nx, t.f⟩, [] ++ (grps ((t.l.eraseIdx (t.l.findIdx (isPid pid))).map (parF pid))).flatMap (newO (wasF t.l) ((t.l.eraseIdx (t.l.findIdx (isPid pid))).map (parF pid)))) := by
  unfold exitT
  rw [h]
theorem newO_len (was : Int → Bool) (l : List Pr) (g : Int) : (newO was l g).length ≤ 2 := by unfold newO; split <;> simp
theorem outO_len (was : Int → Bool) (l : List Pr) (out : List (Int × Int)) (gs : List Int) (k : Nat) (h : out.length ≤ 1) : (out ++ (gs.take k).flatMap (newO was l)).length ≤ 1 + 2 * k := by
  have h1 : ∀ L : List Int, (L.flatMap (newO was l)).length ≤ 2 * L.length := by
    intro L
    induction L with
    | nil => simp
    | cons a L ih =>
      have := newO_len was l a
      rw [List.flatMap_cons, List.length_append, List.length_cons]
      omega
  have h2 := h1 (gs.take k)
  have h3 : (gs.take k).length ≤ k := List.length_take_le _ _
  rw [List.length_append]
  omega
theorem outO_succ (was : Int → Bool) (l : List Pr) (out : List (Int × Int)) (gs : List Int) (k : Nat) (hk : k < gs.length) : out ++ (gs.take (k + 1)).flatMap (newO was l) = out ++ (gs.take k).flatMap (newO was l) ++ newO was l gs[k] := by
  rw [List.take_succ_eq_append_getElem hk, List.flatMap_append, List.append_assoc]
  simp
theorem le16 (n : Nat) (h : n ≤ 6000) : n * 16 ≤ 140737488355328 := by omega
set_option maxHeartbeats 16000000 in
theorem pExit_any (w : World) (tb n : Nat) (S : Nat → Prop) (t : Tb) (pid : Int) (h : Tab w tb S t n) (hl : t.l.length ≤ 400) (hu : ∀ p ∈ t.l, J64 p.grp ∧ J64 p.tty) :
    Calls Try.prog 14 #[.pointer (some ⟨tb, 0, none⟩), .int .i64 pid] w (SigTo w tb S n (exitT t pid)) := by
  have H0 := hid h
  have hmm := @run_makeMap Try.prog
  obtain ⟨v, bs, mb, mn, hT, hS, hmn⟩ := h
  have HT := hid hT
  have HS := hid hS
  rcases hT.find (by omega) pid with ⟨hq, hF⟩ | ⟨i, hi1, hi2, hq, hix, hF⟩
  · have hr : exitT t pid = (t, []) := by unfold exitT; rw [hq]
    rw [hr]
    have HF := hid hF
    clear hr hq hF hT hS hu hmm
    go_enter Try.func14, Try.ntmps14
    go_wp2_with fail
    refine (HF.out _ (Fr.refl _ _)).mono ?_
    rintro e' w1 ⟨rfl, hf1⟩
    have HF1 := hid hf1
    clear hf1
    go_wp2
    go_ret
    exact ⟨_, rfl, Row.nil _ _ _ _ _, H0.out.still (HF1.out.alloc _)⟩
  · obtain ⟨A0, c, hv, hc⟩ := hT.row.shape
    rcases hT.row with ⟨h0, h00⟩ | ⟨g, cc, rest, h0, hV, hcap, hcm⟩
    · rw [h00] at hi1; simp at hi1
    obtain rfl : A0 = some ⟨g, 0, none⟩ := by rw [h0] at hv; injection hv with e _ _; exact e.symm
    subst hv
    obtain rfl : c = cc := by injection h0
    clear h0
    obtain ⟨p, hp⟩ : ∃ p, p = t.l[i] := ⟨_, rfl⟩
    rw [← hp] at hq
    have HP := hid hp
    have HQ := hid hq
    have HIX := hid hix
    have HF := hid hF
    have HU := hid hu
    have HV0 := hid hV
    have hgl := grps_len t.l
    have hbl : bs.length ≤ 400 := by have := hT.len; omega
    have HHt := hid (exitT_some t pid p hq)
    clear hq hix hF hT hS hu hV hp
    obtain ⟨l2, hl2⟩ : ∃ l2, l2 = t.l.eraseIdx i := ⟨_, rfl⟩
    obtain ⟨r, hr⟩ : ∃ r, r = exitT t pid := ⟨_, rfl⟩
    rw [← hr]
    have HRes := hid hr
    clear hr
    have HL2 := hid hl2
    clear hl2
    go_enter Try.func14, Try.ntmps14
    go_wp2_with fail
    refine (HF.out _ (Fr.refl _ _)).mono ?_
    rintro e' w1 ⟨rfl, hf1⟩
    have HF1 := hid hf1
    have HT1 := hid (HT.out.frd hf1)
    have hx1 := Blk.new w1 62 [.pointer (some ⟨bs[i], 0, none⟩)]
    have HX1 := hid (hx1.alloc (.map #[] 0))
    have HM1 := hid (MapB.made (w1.alloc (.cells #[.pointer (some ⟨bs[i], 0, none⟩)] 62)))
    have HFa : Hid (Fr NoB w1 ((w1.alloc (.cells #[.pointer (some ⟨bs[i], 0, none⟩)] 62)).alloc (.map #[] 0))) := hid (((Fr.refl NoB w1).alloc _).alloc _)
    clear hf1 hx1
    go_wp2_with fail
    generalize ((w1.alloc (.cells #[.pointer (some ⟨bs[i], 0, none⟩)] 62)).alloc (.map #[] 0)) = w2 at HX1 HM1 HFa ⊢
    have HM2 : Hid (MapB w2 (w1.heap.size + 1) 0 (fun _ => false)) := hid (by have := HM1.out; rwa [World.size_alloc] at this)
    have HGr := hid (pGrp_any w2 tb n (PTB tb (.slice (some ⟨g, 0, none⟩) bs.length c) bs mb) t ⟨_, _, _, _, HT1.out.frd HFa.out, fun _ h => h, hmn⟩ (by omega))
    have HML := hid HM2.out.lt
    clear HM1
    refine HGr.out.mono ?_
    rintro e' w3 ⟨gv, rfl, hgr, hf3⟩
    obtain ⟨A3, c3, rfl, hc3⟩ := hgr.shape
    have HGR := hid hgr
    have HX3 := hid (HX1.out.fr hf3 (fun h => h))
    have HM3 := hid (HM2.out.fr hf3 (fun h => h))
    have HF3 := hid (HFa.out.trans hf3)
    have HSZ2 := hid HFa.out.size
    clear hgr hf3 HX1 HM2 HFa
    go_wp2_with fail
    go_loopw [8, 24] (fun _ v24 wr => ∃ k : Nat, k ≤ (grps t.l).length ∧ v24 = .int .i64 k ∧ Hid (MapB wr (w1.heap.size + 1) k (fun j => decide (j ∈ (grps t.l).take k) && orphG t.l j) ∧ Fr (At (w1.heap.size + 1)) w3 wr)) (fun _ v24 _ => (grps t.l).length - (intOf v24).toNat)
    case atStart => exact ⟨0, Nat.zero_le _, rfl, by simpa using HM3.out, Fr.refl _ _⟩
    case round =>
      obtain ⟨k, hk, rfl, HR⟩ := hrel
      obtain ⟨hM, hf⟩ := HR.out
      by_cases hkm : k < (grps t.l).length
      · have hkn : k < 1000 := by omega
        have hge : Fr (Ge w1.heap.size) w1 wr := (HF3.out.mono (fun _ h => h.elim)).trans (hf.mono (fun j e => by have e' : j = w1.heap.size + 1 := e; rw [e']; exact Nat.le_succ _))
        have hrow := HGR.out.fr hf (fun j hj e => by have e' : j = w1.heap.size + 1 := e; have := (HGR.out.lt j hj).1; have := HML.out; omega)
        obtain ⟨g3, c33, h3, _⟩ := hrow.ptr (by omega)
        obtain rfl : A3 = some ⟨g3, 0, none⟩ := by injection h3
        obtain rfl : c3 = c33 := by injection h3
        have d0 := hrow.icell k hkm
        have hstep := wasF_take t.l k hkm
        have hgm := grps_mem t.l _ (List.getElem_mem hkm)
        have hj : J64 (grps t.l)[k] := by
          obtain ⟨q, hq, e⟩ := hgm
          rw [← e]
          exact (HU.out q hq).1
        have HO := hid (pOrph_any wr tb mb mn _ bs t.l t.nx t.f (grps t.l)[k] (HT1.out.ge hge) (by omega))
        have HStep := hid hstep
        have HJ := hid hj
        have HMw := hid hM
        have HFw := hid hf
        clear hge hrow h3 hstep hgm hj hM hf
        generalize (grps t.l)[k] = gk at *
        go_wp2_with fail
        refine HO.out.mono ?_
        rintro e' w4 ⟨rfl, hf4⟩
        have HM4 := hid (HMw.out.fr hf4 (fun h => h))
        have HF4 := hid (HFw.out.trans (hf4.mono (fun _ h => h.elim)))
        clear hf4
        go_wp2_with (refine MapB.put HM4.out (by unfold maxLen; omega) rfl (.tmp 28) (.tmp 29) (.tmp 32) rfl gk (orphG t.l gk) HJ.out rfl rfl rfl ?_; intro w5 hm5 hf5; rw [HStep.out] at hm5; have HM5 := hid hm5; have HF5 := hid (HF4.out.trans hf5); clear hm5 hf5)
        go_roundw
        case rel => exact ⟨k + 1, by omega, by go_num, HM5.out, HF5.out⟩
        case measure => simp [intOf]; omega
      · have HMw := hid hM
        have HFw := hid hf
        obtain rfl : k = (grps t.l).length := by omega
        have hMw : MapB wr (w1.heap.size + 1) (grps t.l).length (wasF t.l) := by
          have e1 : (fun j => decide (j ∈ (grps t.l).take (grps t.l).length) && orphG t.l j) = wasF t.l := by rw [List.take_length]; rfl
          rw [← e1]
          exact hM
        have HM5 := hid hMw
        have hge : Fr (Ge w1.heap.size) w1 wr := (HF3.out.mono (fun _ h => h.elim)).trans (hf.mono (fun j e => by have e' : j = w1.heap.size + 1 := e; rw [e']; exact Nat.le_succ _))
        have hT5 := HT1.out.ge hge
        have hV1 := Vec.fr HV0.out HF1.out (fun h => h)
        have hglt := hV1.blk.lt
        have hV5 := Vec.fr hV1 hge (fun e => by have e' : w1.heap.size ≤ g := e; omega)
        have hX5 : Blk wr w1.heap.size 62 [.pointer (some ⟨bs[i], 0, none⟩)] := HX3.out.fr hf (fun e => by have e' : w1.heap.size = w1.heap.size + 1 := e; omega)
        have hgo : OwnB (.slice (some ⟨g, 0, none⟩) bs.length c) g := rfl
        have hdel := pdel_any wr g c w1.heap.size i rest bs hV5 hcap hcm (by omega) hT5.nd hi1 hX5 (by omega) (fun W hW j hj2 => by
          obtain ⟨a1, a2, a3⟩ := hT5.apart j hj2
          exact ⟨_, _, (hT5.prc j hj2 (by have := hT5.len; omega)).fr hW (fun e => a2 (by have e' : bs[j] = g := e; rw [e']; exact hgo))⟩)
        have hln : bs.length - 1 = (bs.eraseIdx i).length := by rw [List.length_eraseIdx_of_lt hi1]
        rw [hln] at hdel
        have HDel := hid hdel
        have HLN := hid hln
        have HT5 := hid hT5
        have HX5 := hid hX5
        have HGE5 := hid hge
        have HGL := hid hglt
        have t0 := hT5.blk.cell 0 rfl
        clear hMw hM hf hge hT5 hV1 hV5 hX5 hgo hdel hln HMw HFw
        go_wp2_with fail
        refine HDel.out.mono ?_
        rintro e' w5 ⟨rfl, ⟨rest2, hV6⟩, hf6⟩
        have hgt : tb ≠ g := fun e => by
          have h1 := HT5.out.blk
          have h2 := HT5.out.row.not_blk h1 (by decide)
          exact h2 (by rw [e]; rfl)
        have hb6 := HT5.out.blk.fr hf6 (fun e => hgt e)
        have t1 := hb6.cell 0 rfl
        have t2 := hb6.frozen 0
        have t3 := hb6.lt
        have hff : Fr (At tb) w5 (w5.setCell ⟨tb, 0, none⟩ (.slice (some ⟨g, 0, none⟩) (bs.eraseIdx i).length c)) := (Fr.refl (At tb) w5).setAt 0 _
        have hpv : PV (w5.setCell ⟨tb, 0, none⟩ (.slice (some ⟨g, 0, none⟩) (bs.eraseIdx i).length c)) (.slice (some ⟨g, 0, none⟩) (bs.eraseIdx i).length c) (bs.eraseIdx i) := .inr ⟨g, c, rest2, rfl, Vec.fr hV6 hff (fun e => hgt e.symm), by have := HLN.out; omega, hcm⟩
        have hfall : Fr (fun k => k = tb ∨ k = g) wr (w5.setCell ⟨tb, 0, none⟩ (.slice (some ⟨g, 0, none⟩) (bs.eraseIdx i).length c)) := (hf6.mono (S2 := fun k => k = tb ∨ k = g) (fun k e => .inr e)).trans (hff.mono (fun k e => .inl e))
        have hT6 := HT5.out.erase (i := i) hfall (hb6.set 0 (.slice (some ⟨g, 0, none⟩) (bs.eraseIdx i).length c)) hpv
        rw [← HL2.out] at hT6
        have hxg : w1.heap.size ≠ g := by have := HGL.out; omega
        have hxt : w1.heap.size ≠ tb := by have := HT1.out.blk.lt; omega
        have HX6 := hid (HX5.out.fr hfall (fun e => e.elim (fun e => hxt e) (fun e => hxg e)))
        have HM6 := hid (HM5.out.fr hfall (fun e => e.elim (fun e => by have := HT1.out.blk.lt; have e' : w1.heap.size + 1 = tb := e; omega) (fun e => by have := HGL.out; have e' : w1.heap.size + 1 = g := e; omega)))
        have hap := HT5.out.apart i hi1
        have HPB := hid ((HT5.out.prc i hi1 hi2).fr hfall (fun e => e.elim (fun e => hap.1 e.symm) (fun e => hap.2.1 (by have e' : bs[i] = g := e; rw [e']; rfl))))
        rw [← HP.out] at HPB
        have hnot : ∀ b ∈ bs.eraseIdx i, b ≠ bs[i] := fun b hb e => by
          obtain ⟨j, hj2, rfl⟩ := List.getElem_of_mem hb
          rw [List.getElem_eraseIdx] at e
          rw [List.length_eraseIdx_of_lt hi1] at hj2
          split at e
          · have := nodup_inj HT5.out.nd j i (by omega) hi1 e; omega
          · have := nodup_inj HT5.out.nd (j + 1) i (by omega) hi1 e; omega
        have HNot := hid hnot
        have hsub : ∀ b ∈ bs.eraseIdx i, b ∈ bs := fun b hb => List.mem_of_mem_eraseIdx hb
        have HSub := hid hsub
        have HT6 := hid hT6
        have HFall := hid hfall
        clear hnot hsub hap hT6 hfall hpv hff hb6 hV6 hf6
        go_wp2_with fail
        generalize (w5.setCell ⟨tb, 0, none⟩ (.slice (some ⟨g, 0, none⟩) (bs.eraseIdx i).length c)) = w6 at HX6 HM6 HPB HT6 HFall ⊢
        generalize hb2 : bs.eraseIdx i = bs2 at HT6 HNot HSub HLN ⊢
        have HB2 := hid hb2
        clear hb2 t0 t1 t2 t3 HDel
        have hl2n : bs2.length ≤ 400 := by have := HLN.out; omega
        have HFS6 : Hid (Fr S w w6) := hid (((HF1.out.mono (fun _ h => h.elim)).then_ HGE5.out (fun k hk => .inr (Nat.le_trans HF1.out.size hk))).trans (HFall.out.mono (fun k e => e.elim (fun e => HS.out k (.inl e)) (fun e => HS.out k (.inr (.inl (by rw [e]; rfl)))))))
        have HLTB : Hid (∀ b ∈ bs2, b < w1.heap.size) := hid fun b hb => by
          obtain ⟨j, hj, rfl⟩ := List.getElem_of_mem (HSub.out b hb)
          exact (HT1.out.prc j hj (by have := HT1.out.len; omega)).lt
        go_loopw [10, 48] (fun _ v48 wr2 => ∃ k : Nat, k ≤ bs2.length ∧ v48 = .int .i64 k ∧ Hid (PT wr2 tb (.slice (some ⟨g, 0, none⟩) bs2.length c) bs2 ((l2.take k).map (parF pid) ++ l2.drop k) t.nx mb mn t.f ∧ Fr (fun k => k ∈ bs2) w6 wr2)) (fun _ v48 _ => bs2.length - (intOf v48).toNat)
        case atStart => exact ⟨0, Nat.zero_le _, rfl, by simpa using HT6.out, Fr.refl _ _⟩
        case round =>
          obtain ⟨k, hk, rfl, HR⟩ := hrel
          obtain ⟨hT, hf⟩ := HR.out
          have hln2 := HT6.out.len
          by_cases hkm : k < bs2.length
          · have hkl : k < l2.length := by omega
            rcases hT.row with ⟨h0, h00⟩ | ⟨g9, cc9, rest9, h0, hV9, _, _⟩
            · rw [h00] at hkm; simp at hkm
            obtain rfl : g = g9 := by injection h0 with e _ _; injection e with e; injection e
            obtain rfl : c = cc9 := by injection h0
            have d0 := PV.cell hV9 k hkm
            have hlen : ((l2.take k).map (parF pid)).length = k := by rw [List.length_map, List.length_take]; omega
            have hk2 : k < ((l2.take k).map (parF pid) ++ l2.drop k).length := by rw [List.length_append, hlen, List.length_drop]; omega
            have hget : ((l2.take k).map (parF pid) ++ l2.drop k)[k] = l2[k] := by
              have hl9 := hlen
              generalize (l2.take k).map (parF pid) = M at hl9 hk2 ⊢
              rw [List.getElem_append_right (by omega)]
              simp [hl9]
            have hB := hT.prc k hkm hk2
            rw [hget] at hB
            have hset : ∀ q : Pr, ((l2.take k).map (parF pid) ++ l2.drop k).set k q = (l2.take k).map (parF pid) ++ q :: l2.drop (k + 1) := fun q => by
              rw [List.set_append_right _ _ (by omega), hlen, Nat.sub_self, List.drop_eq_getElem_cons hkl]
              rfl
            have hsucc : ∀ q : Pr, q = parF pid l2[k] → (l2.take (k + 1)).map (parF pid) ++ l2.drop (k + 1) = (l2.take k).map (parF pid) ++ q :: l2.drop (k + 1) := fun q hq => by
              rw [List.take_succ_eq_append_getElem hkl, List.map_append, hq]
              simp
            have hnoset : (l2.take k).map (parF pid) ++ l2.drop k = (l2.take k).map (parF pid) ++ l2[k] :: l2.drop (k + 1) := by rw [List.drop_eq_getElem_cons hkl]
            have HSet := hid hset
            have HSucc := hid hsucc
            have HNo := hid hnoset
            have HTw := hid hT
            have HFw := hid hf
            have HPut := hid fun (q : Pr) w2 => hT.put (w1 := w2) k hkm q
            have HMem := hid (List.getElem_mem hkm : bs2[k] ∈ bs2)
            have HBq := hid hB
            have q1 := hB.cell 1 rfl
            have q2 := hB.frozen 1
            have q3 := hB.lt
            clear h0 hV9 hT hf hlen hk2 hget hB hset hsucc hnoset hln2
            generalize l2[k] = q at *
            generalize bs2[k] = a2 at *
            by_cases hs : q.par = pid
            · have hs2 : (q.par == pid) = true := by simpa using hs
              by_cases hp1 : pid = 1
              · have hp2 : (pid == 1) = true := by simpa using hp1
                have HSuc := hid (HSucc.out { q with par := 0 } (by unfold parF; rw [if_pos hs, if_pos hp1]))
                have hfr : Fr (At a2) wr ((wr.setCell ⟨a2, 1, none⟩ (.int .i64 1)).setCell ⟨a2, 1, none⟩ (.int .i64 0)) := ((Fr.refl (At a2) wr).setAt 1 _).setAt 1 _
                have hp3 := HPut.out { q with par := 0 } _ hfr ((HBq.out.set 1 (.int .i64 1)).set 1 (.int .i64 0))
                rw [HSet.out, ← HSuc.out] at hp3
                have HP3 := hid hp3
                have HF9 := hid (HFw.out.trans (hfr.mono (fun j e => by have e' : j = a2 := e; rw [e']; exact HMem.out)))
                clear hp3 hfr hs hp1
                go_wp2
                go_roundw
                case rel => exact ⟨k + 1, by omega, by go_num, HP3.out, HF9.out⟩
                case measure => simp [intOf]; omega
              · have hp2 : (pid == 1) = false := by simpa using hp1
                have HSuc := hid (HSucc.out { q with par := 1 } (by unfold parF; rw [if_pos hs, if_neg hp1]))
                have hfr : Fr (At a2) wr (wr.setCell ⟨a2, 1, none⟩ (.int .i64 1)) := (Fr.refl (At a2) wr).setAt 1 _
                have hp3 := HPut.out { q with par := 1 } _ hfr (HBq.out.set 1 (.int .i64 1))
                rw [HSet.out, ← HSuc.out] at hp3
                have HP3 := hid hp3
                have HF9 := hid (HFw.out.trans (hfr.mono (fun j e => by have e' : j = a2 := e; rw [e']; exact HMem.out)))
                clear hp3 hfr hs hp1
                go_wp2
                go_roundw
                case rel => exact ⟨k + 1, by omega, by go_num, HP3.out, HF9.out⟩
                case measure => simp [intOf]; omega
            · have hs2 : (q.par == pid) = false := by simpa using hs
              have HSuc := hid (HSucc.out q (by unfold parF; rw [if_neg hs]))
              have hp3 := HTw.out
              rw [HNo.out, ← HSuc.out] at hp3
              have HP3 := hid hp3
              clear hp3 hs
              go_wp2
              go_roundw
              case rel => exact ⟨k + 1, by omega, by go_num, HP3.out, HFw.out⟩
              case measure => simp [intOf]; omega
          · have hkl : l2.length ≤ k := by omega
            rw [List.take_of_length_le hkl, List.drop_of_length_le hkl, List.append_nil] at hT
            have HT7 := hid hT
            have HF7 := hid hf
            clear hT hf hln2
            have HX7 := hid (HX6.out.fr HF7.out (fun hb => Nat.lt_irrefl _ (HLTB.out _ hb)))
            have HM7 := hid (HM6.out.fr HF7.out (fun hb => by have := HLTB.out _ hb; omega))
            have HPB7 := hid (HPB.out.fr HF7.out (fun hb => HNot.out _ hb rfl))
            have HFS7 := hid (HFS6.out.trans (HF7.out.mono (fun k hk => HS.out k (.inr (.inr (.inl (HSub.out k hk)))))))
            have hup := HU.out _ (List.getElem_mem hi2)
            rw [← HP.out] at hup
            have HUp := hid hup
            have x0 := HX7.out.cell 0 rfl
            have p3 := HPB7.out.cell 3 rfl
            have p4 := HPB7.out.cell 4 rfl
            clear hup HFall HX6 HM6 HPB HFS6 HT6
            generalize bs[i] = a at *
            have HLl : Hid (l2.length ≤ 400) := hid (by have := HT7.out.len; rw [List.length_map] at this; omega)
            have HU2 : Hid (∀ p ∈ l2, J64 p.grp ∧ J64 p.tty) := hid fun q hq => HU.out q (List.mem_of_mem_eraseIdx (HL2.out ▸ hq))
            cases e1 : (p.ses == pid && p.tty != 0)
            · have HFin : Hid (r = (⟨l2.map (parF pid), t.nx, t.f⟩, [] ++ (grps (l2.map (parF pid))).flatMap (newO (wasF t.l) (l2.map (parF pid))))) := hid (by rw [HRes.out, HHt.out, HIX.out, ← HL2.out, if_neg (by rw [e1]; decide)])
              have HLF : Hid ((l2.map (parF pid)).length ≤ 400) := hid (by rw [List.length_map]; exact HLl.out)
              have HUg : Hid (∀ p ∈ l2.map (parF pid), J64 p.grp) := hid fun q hq => by
                obtain ⟨q0, hq0, rfl⟩ := List.mem_map.1 hq
                have := (HU2.out q0 hq0).1
                unfold parF
                split
                · exact this
                · exact this
              have HTq := hid HT7.out
              have HMq := hid HM7.out
              have HSq : Hid (SgR wr w.heap.size (.slice none 0 0) []) := hid (Row.nil _ _ _ _ _)
              have HFq := hid HFS7.out
              have HOq : Hid (([] : List (Int × Int)).length ≤ 1) := hid (by decide)
              have HMnq := hid hmn
              clear HT7 HM7
              generalize l2.map (parF pid) = LF at *
              generalize ([] : List (Int × Int)) = outq at HFin HSq HOq
              generalize t.f = Fq at HFin HTq
              generalize hmq : mn = mnq at HTq HMnq
              clear hmq
              cases e2 : (p.ses == pid)
              · clear e1
                generalize wr = wq at *
                go_wp2_with fail
                refine (pGrp_any _ tb mnq (PTB tb (.slice (some ⟨g, 0, none⟩) bs2.length c) bs2 mb) ⟨LF, t.nx, Fq⟩ ⟨_, _, _, _, HTq.out, fun _ h => h, Nat.le_refl _⟩ (Nat.le_trans HLF.out (by decide))).mono ?_
                rintro e' w8 ⟨gv, rfl, hgr8, hf8⟩
                obtain ⟨A8, c8, rfl, hc8⟩ := hgr8.shape
                obtain ⟨gb8, hgb8⟩ : ∃ gb8, gb8 = wq.heap.size := ⟨_, rfl⟩
                rw [← hgb8] at hgr8
                have HXS : Hid (XS w w8 tb S (.slice (some ⟨g, 0, none⟩) bs2.length c) (.slice A8 (grps LF).length c8) bs2 LF t.nx mb mnq Fq (w1.heap.size + 1) (grps t.l).length (wasF t.l) (grps LF) gb8 _ outq) := hid ⟨HTq.out.frd hf8, HMq.out.fr hf8 (fun h => h), hgr8, Row.fr HSq.out hf8 (fun _ _ h => h), HFq.out.trans (hf8.mono (fun _ h => h.elim))⟩
                have hg4 := Nat.le_trans (grps_len LF) HLF.out
                clear hgr8 hf8 hgb8
                go_wp2_with fail
                go_loopw [11, 14, 107] (fun v11 _ v107 wr => ∃ k : Nat, k ≤ (grps LF).length ∧ v107 = .int .i64 k ∧ Hid (XS w wr tb S (.slice (some ⟨g, 0, none⟩) bs2.length c) (.slice A8 (grps LF).length c8) bs2 LF t.nx mb mnq Fq (w1.heap.size + 1) (grps t.l).length (wasF t.l) (grps LF) gb8 v11 (outq ++ ((grps LF).take k).flatMap (newO (wasF t.l) LF)))) (fun _ _ v107 _ => (grps LF).length - (intOf v107).toNat)
                case atStart => exact ⟨0, Nat.zero_le _, rfl, hid (by simpa using HXS.out)⟩
                case round =>
                  obtain ⟨k, hk, rfl, HX⟩ := hrel
                  by_cases hkm : k < (grps LF).length
                  · obtain ⟨g3, c33, h3, _⟩ := HX.out.gr.ptr (by omega)
                    obtain rfl : A8 = some ⟨g3, 0, none⟩ := by injection h3
                    obtain rfl : c8 = c33 := by injection h3
                    have d0 := HX.out.gr.icell k hkm
                    have hj : J64 (grps LF)[k] := by
                      obtain ⟨q, hq, e⟩ := grps_mem LF _ (List.getElem_mem hkm)
                      rw [← e]
                      exact HUg.out q hq
                    have hlk := HX.out.mp.look _ hj
                    have HO := hid (pOrph_any _ tb mb mnq _ bs2 LF t.nx Fq (grps LF)[k] HX.out.pt (Nat.le_trans HLF.out (by decide)))
                    have HSu := hid (outO_succ (wasF t.l) LF outq (grps LF) k hkm)
                    have hol := outO_len (wasF t.l) LF outq (grps LF) k HOq.out
                    have hnew : newO (wasF t.l) LF (grps LF)[k] = if (!wasF t.l (grps LF)[k] && orphG LF (grps LF)[k]) = true then [((grps LF)[k], 4), ((grps LF)[k], 5)] else [] := rfl
                    clear h3 hj
                    generalize outq ++ ((grps LF).take k).flatMap (newO (wasF t.l) LF) = OU at *
                    generalize (grps LF)[k] = gk at *
                    obtain ⟨bw, hbw⟩ : ∃ bw, bw = wasF t.l gk := ⟨_, rfl⟩
                    obtain ⟨bo, hbo⟩ : ∃ bo, bo = orphG LF gk := ⟨_, rfl⟩
                    rw [← hbw] at hlk hnew
                    rw [← hbo] at HO hnew
                    clear hbw hbo
                    have h16 := le16 (OU.length + 2) (by omega)
                    have HL16 := hid h16
                    clear h16 hol
                    cases bw
                    rotate_left
                    · have HSu2 : Hid (outq ++ ((grps LF).take (k + 1)).flatMap (newO (wasF t.l) LF) = OU) := hid (by rw [HSu.out, hnew]; simp)
                      clear hnew
                      go_wp2
                      go_roundw
                      case rel => exact ⟨k + 1, by omega, by go_num, by rw [HSu2.out]; exact HX.out⟩
                      case measure => simp [intOf]; omega
                    cases bo
                    · have HSu2 : Hid (outq ++ ((grps LF).take (k + 1)).flatMap (newO (wasF t.l) LF) = OU) := hid (by rw [HSu.out, hnew]; simp)
                      clear hnew
                      go_wp2_with fail
                      refine HO.out.mono ?_
                      rintro e' w9 ⟨rfl, hf9⟩
                      have HX9 := hid (HX.out.quiet hf9)
                      clear hf9 hlk
                      go_wp2
                      go_roundw
                      case rel => exact ⟨k + 1, by omega, by go_num, by rw [HSu2.out]; exact HX9.out⟩
                      case measure => simp [intOf]; omega
                    · have HSu2 : Hid (outq ++ ((grps LF).take (k + 1)).flatMap (newO (wasF t.l) LF) = OU ++ [(gk, 4), (gk, 5)]) := hid (by rw [HSu.out, hnew]; simp)
                      clear hnew
                      go_wp2_with fail
                      refine HO.out.mono ?_
                      rintro e' w9 ⟨rfl, hf9⟩
                      have HX9 := hid (HX.out.quiet hf9)
                      have HXa := hid (HX9.out.quiet ((Fr.refl NoB w9).alloc (.cells #[.int .i64 gk, .int .i64 4, .int .i64 gk, .int .i64 5] 37)))
                      have hsr : ∀ j u, ([(gk, (4 : Int)), (gk, 5)].flatMap sgc)[j]? = some u → (w9.alloc (.cells #[.int .i64 gk, .int .i64 4, .int .i64 gk, .int .i64 5] 37)).cell? ((⟨w9.heap.size, 0, none⟩ : Addr).add j) = some u := Blk.cells (Blk.new w9 37 [.int .i64 gk, .int .i64 4, .int .i64 gk, .int .i64 5]) 0 _ (fun j v hj => by rw [Nat.zero_add]; exact hj)
                      have HSr := hid hsr
                      have HM2 : Hid ([(gk, (4 : Int)), (gk, 5)].length = 2) := hid rfl
                      have hsz9 : w.heap.size ≤ (w9.alloc (.cells #[.int .i64 gk, .int .i64 4, .int .i64 gk, .int .i64 5] 37)).heap.size := HXa.out.fr.size
                      have HSZ9 := hid hsz9
                      clear hf9 hlk hsr hsz9
                      go_wp2_with (at_builtin; go_must (refine row_apps (f := sgc) sgc_len sgc_one w.heap.size rfl (.tmp 120) (.tmp 125) 31 37 (.agg #[.int .i64 0, .int .i64 0]) 16 rfl Try.underlying31 infoSg rfl (by omega) (by omega) _ OU [(gk, 4), (gk, 5)] ⟨w9.heap.size, 0, none⟩ 2 2 rfl rfl HM2.out HSr.out HXa.out.so HSZ9.out HL16.out ?_); intro v10 w10 hR10 hf10 hat10; have HX10 := hid (HXa.out.app hf10 hR10); clear hR10 hf10 hat10)
                      go_roundw
                      case rel => exact ⟨k + 1, by omega, by go_num, by rw [HSu2.out]; exact HX10.out⟩
                      case measure => simp [intOf]; omega
                  · obtain rfl : k = (grps LF).length := by omega
                    have hfin := HFin.out
                    have hX := HX.out
                    rw [List.take_length] at hX
                    have HXf := hid hX
                    clear hX
                    have HFn := hid hfin
                    clear hfin
                    go_wp2
                    go_ret
                    rw [HFn.out]
                    exact ⟨u11, rfl, HXf.out.so, TabTo.of (t := ⟨LF, t.nx, Fq⟩) HXf.out.pt HMnq.out HXf.out.fr (fun k hk => .inl (hk.elim (fun h => HS.out k (.inl h)) (fun h => h.elim (fun h => HS.out k (.inr (.inl h))) (fun h => h.elim (fun h => HS.out k (.inr (.inr (.inl (HSub.out k h))))) (fun h => HS.out k (.inr (.inr (.inr h))))))))⟩
              · have e3 : (p.tty != 0) = false := by rw [e2] at e1; exact e1
                clear e1
                generalize wr = wq at *
                go_wp2_with fail
                refine (pGrp_any _ tb mnq (PTB tb (.slice (some ⟨g, 0, none⟩) bs2.length c) bs2 mb) ⟨LF, t.nx, Fq⟩ ⟨_, _, _, _, HTq.out, fun _ h => h, Nat.le_refl _⟩ (Nat.le_trans HLF.out (by decide))).mono ?_
                rintro e' w8 ⟨gv, rfl, hgr8, hf8⟩
                obtain ⟨A8, c8, rfl, hc8⟩ := hgr8.shape
                obtain ⟨gb8, hgb8⟩ : ∃ gb8, gb8 = wq.heap.size := ⟨_, rfl⟩
                rw [← hgb8] at hgr8
                have HXS : Hid (XS w w8 tb S (.slice (some ⟨g, 0, none⟩) bs2.length c) (.slice A8 (grps LF).length c8) bs2 LF t.nx mb mnq Fq (w1.heap.size + 1) (grps t.l).length (wasF t.l) (grps LF) gb8 _ outq) := hid ⟨HTq.out.frd hf8, HMq.out.fr hf8 (fun h => h), hgr8, Row.fr HSq.out hf8 (fun _ _ h => h), HFq.out.trans (hf8.mono (fun _ h => h.elim))⟩
                have hg4 := Nat.le_trans (grps_len LF) HLF.out
                clear hgr8 hf8 hgb8
                go_wp2_with fail
                go_loopw [11, 14, 107] (fun v11 _ v107 wr => ∃ k : Nat, k ≤ (grps LF).length ∧ v107 = .int .i64 k ∧ Hid (XS w wr tb S (.slice (some ⟨g, 0, none⟩) bs2.length c) (.slice A8 (grps LF).length c8) bs2 LF t.nx mb mnq Fq (w1.heap.size + 1) (grps t.l).length (wasF t.l) (grps LF) gb8 v11 (outq ++ ((grps LF).take k).flatMap (newO (wasF t.l) LF)))) (fun _ _ v107 _ => (grps LF).length - (intOf v107).toNat)
                case atStart => exact ⟨0, Nat.zero_le _, rfl, hid (by simpa using HXS.out)⟩
                case round =>
                  obtain ⟨k, hk, rfl, HX⟩ := hrel
                  by_cases hkm : k < (grps LF).length
                  · obtain ⟨g3, c33, h3, _⟩ := HX.out.gr.ptr (by omega)
                    obtain rfl : A8 = some ⟨g3, 0, none⟩ := by injection h3
                    obtain rfl : c8 = c33 := by injection h3
                    have d0 := HX.out.gr.icell k hkm
                    have hj : J64 (grps LF)[k] := by
                      obtain ⟨q, hq, e⟩ := grps_mem LF _ (List.getElem_mem hkm)
                      rw [← e]
                      exact HUg.out q hq
                    have hlk := HX.out.mp.look _ hj
                    have HO := hid (pOrph_any _ tb mb mnq _ bs2 LF t.nx Fq (grps LF)[k] HX.out.pt (Nat.le_trans HLF.out (by decide)))
                    have HSu := hid (outO_succ (wasF t.l) LF outq (grps LF) k hkm)
                    have hol := outO_len (wasF t.l) LF outq (grps LF) k HOq.out
                    have hnew : newO (wasF t.l) LF (grps LF)[k] = if (!wasF t.l (grps LF)[k] && orphG LF (grps LF)[k]) = true then [((grps LF)[k], 4), ((grps LF)[k], 5)] else [] := rfl
                    clear h3 hj
                    generalize outq ++ ((grps LF).take k).flatMap (newO (wasF t.l) LF) = OU at *
                    generalize (grps LF)[k] = gk at *
                    obtain ⟨bw, hbw⟩ : ∃ bw, bw = wasF t.l gk := ⟨_, rfl⟩
                    obtain ⟨bo, hbo⟩ : ∃ bo, bo = orphG LF gk := ⟨_, rfl⟩
                    rw [← hbw] at hlk hnew
                    rw [← hbo] at HO hnew
                    clear hbw hbo
                    have h16 := le16 (OU.length + 2) (by omega)
                    have HL16 := hid h16
                    clear h16 hol
                    cases bw
                    rotate_left
                    · have HSu2 : Hid (outq ++ ((grps LF).take (k + 1)).flatMap (newO (wasF t.l) LF) = OU) := hid (by rw [HSu.out, hnew]; simp)
                      clear hnew
                      go_wp2
                      go_roundw
                      case rel => exact ⟨k + 1, by omega, by go_num, by rw [HSu2.out]; exact HX.out⟩
                      case measure => simp [intOf]; omega
                    cases bo
                    · have HSu2 : Hid (outq ++ ((grps LF).take (k + 1)).flatMap (newO (wasF t.l) LF) = OU) := hid (by rw [HSu.out, hnew]; simp)
                      clear hnew
                      go_wp2_with fail
                      refine HO.out.mono ?_
                      rintro e' w9 ⟨rfl, hf9⟩
                      have HX9 := hid (HX.out.quiet hf9)
                      clear hf9 hlk
                      go_wp2
                      go_roundw
                      case rel => exact ⟨k + 1, by omega, by go_num, by rw [HSu2.out]; exact HX9.out⟩
                      case measure => simp [intOf]; omega
                    · have HSu2 : Hid (outq ++ ((grps LF).take (k + 1)).flatMap (newO (wasF t.l) LF) = OU ++ [(gk, 4), (gk, 5)]) := hid (by rw [HSu.out, hnew]; simp)
                      clear hnew
                      go_wp2_with fail
                      refine HO.out.mono ?_
                      rintro e' w9 ⟨rfl, hf9⟩
                      have HX9 := hid (HX.out.quiet hf9)
                      have HXa := hid (HX9.out.quiet ((Fr.refl NoB w9).alloc (.cells #[.int .i64 gk, .int .i64 4, .int .i64 gk, .int .i64 5] 37)))
                      have hsr : ∀ j u, ([(gk, (4 : Int)), (gk, 5)].flatMap sgc)[j]? = some u → (w9.alloc (.cells #[.int .i64 gk, .int .i64 4, .int .i64 gk, .int .i64 5] 37)).cell? ((⟨w9.heap.size, 0, none⟩ : Addr).add j) = some u := Blk.cells (Blk.new w9 37 [.int .i64 gk, .int .i64 4, .int .i64 gk, .int .i64 5]) 0 _ (fun j v hj => by rw [Nat.zero_add]; exact hj)
                      have HSr := hid hsr
                      have HM2 : Hid ([(gk, (4 : Int)), (gk, 5)].length = 2) := hid rfl
                      have hsz9 : w.heap.size ≤ (w9.alloc (.cells #[.int .i64 gk, .int .i64 4, .int .i64 gk, .int .i64 5] 37)).heap.size := HXa.out.fr.size
                      have HSZ9 := hid hsz9
                      clear hf9 hlk hsr hsz9
                      go_wp2_with (at_builtin; go_must (refine row_apps (f := sgc) sgc_len sgc_one w.heap.size rfl (.tmp 120) (.tmp 125) 31 37 (.agg #[.int .i64 0, .int .i64 0]) 16 rfl Try.underlying31 infoSg rfl (by omega) (by omega) _ OU [(gk, 4), (gk, 5)] ⟨w9.heap.size, 0, none⟩ 2 2 rfl rfl HM2.out HSr.out HXa.out.so HSZ9.out HL16.out ?_); intro v10 w10 hR10 hf10 hat10; have HX10 := hid (HXa.out.app hf10 hR10); clear hR10 hf10 hat10)
                      go_roundw
                      case rel => exact ⟨k + 1, by omega, by go_num, by rw [HSu2.out]; exact HX10.out⟩
                      case measure => simp [intOf]; omega
                  · obtain rfl : k = (grps LF).length := by omega
                    have hfin := HFin.out
                    have hX := HX.out
                    rw [List.take_length] at hX
                    have HXf := hid hX
                    clear hX
                    have HFn := hid hfin
                    clear hfin
                    go_wp2
                    go_ret
                    rw [HFn.out]
                    exact ⟨u11, rfl, HXf.out.so, TabTo.of (t := ⟨LF, t.nx, Fq⟩) HXf.out.pt HMnq.out HXf.out.fr (fun k hk => .inl (hk.elim (fun h => HS.out k (.inl h)) (fun h => h.elim (fun h => HS.out k (.inr (.inl h))) (fun h => h.elim (fun h => HS.out k (.inr (.inr (.inl (HSub.out k h))))) (fun h => HS.out k (.inr (.inr (.inr h))))))))⟩
            · have e2 : (p.ses == pid) = true := by cases h2 : (p.ses == pid); rw [h2] at e1; cases e1; rfl
              have e3 : (p.tty != 0) = true := by rw [e2] at e1; exact e1
              obtain ⟨fr, hfr⟩ : ∃ fr, fr = t.f p.tty := ⟨_, rfl⟩
              have HFin : Hid (r = (⟨giveL pid 0 (l2.map (parF pid)), t.nx, fun j => if j = p.tty then 0 else t.f j⟩, (if hasG (l2.map (parF pid)) fr 0 then [(fr, 4)] else []) ++ (grps (giveL pid 0 (l2.map (parF pid)))).flatMap (newO (wasF t.l) (giveL pid 0 (l2.map (parF pid)))))) := hid (by rw [HRes.out, HHt.out, HIX.out, ← HL2.out, if_pos e1, hfr])
              have HLm : Hid ((l2.map (parF pid)).length ≤ 400) := hid (by rw [List.length_map]; exact HLl.out)
              have HUm : Hid (∀ p ∈ l2.map (parF pid), J64 p.grp) := hid fun q hq => by
                obtain ⟨q0, hq0, rfl⟩ := List.mem_map.1 hq
                have := (HU2.out q0 hq0).1
                unfold parF
                split
                · exact this
                · exact this
              generalize l2.map (parF pid) = LM at *
              have t2 := HT7.out.blk.cell 2 rfl
              have hlk := fun m => (HT7.out.map.fr ((Fr.refl NoB wr).drewN m) (fun h => h)).look p.tty HUp.out.2
              have hlk0 := HT7.out.map.look p.tty HUp.out.2
              rw [← hfr] at hlk0
              simp only [← hfr] at hlk
              have HHas := fun m => hid (pHas_any _ tb mb mn _ bs2 LM t.nx t.f fr 0 (HT7.out.frd ((Fr.refl NoB wr).drewN m)) (Nat.le_trans HLm.out (by decide)))
              have HMBLT : Hid (mb < w1.heap.size) := hid HT1.out.map.lt
              clear hfr e1
              cases hh : hasG LM fr 0
              all_goals
                rw [hh] at HFin
                simp only [hh] at HHas
                clear hh
                go_wp2
                go_quiet (fail)
                clear hlk hlk0
                go_wp2_with fail
                refine (HHas _).out.mono ?_
                rintro e' w7 ⟨rfl, hf7⟩
                have HFa := hid (((Fr.refl NoB wr).drewN _).trans hf7)
                have HT8 := hid (HT7.out.frd HFa.out)
                have HX8 := hid (HX7.out.fr HFa.out (fun h => h))
                have HM8 := hid (HM7.out.fr HFa.out (fun h => h))
                have HP8 := hid (HPB7.out.fr HFa.out (fun h => h))
                have HS8 := hid (HFS7.out.trans (HFa.out.mono (fun _ h => h.elim)))
                clear hf7 HHas x0 p3 p4 t2
                have x0 := HX8.out.cell 0 rfl
                have p4 := HP8.out.cell 4 rfl
              · go_wp2_with fail
                refine (pLose_any _ tb mb mn _ bs2 LM t.nx t.f pid p.tty HT8.out (Nat.le_trans HLm.out (by decide)) HUp.out.2).mono ?_
                rintro e' wq ⟨rfl, hT9, hf9⟩
                have HLF : Hid ((giveL pid 0 LM).length ≤ 400) := hid (by rw [giveL_len]; exact HLm.out)
                have HUg : Hid (∀ p ∈ giveL pid 0 LM, J64 p.grp) := hid fun q hq => by
                  obtain ⟨q0, hq0, rfl⟩ := List.mem_map.1 hq
                  have := HUm.out q0 hq0
                  split
                  · exact this
                  · exact this
                have HTq := hid hT9
                have HMq := hid (HM8.out.fr hf9 (fun e => e.elim (fun hb => by have := HLTB.out _ hb; omega) (fun e => by have := HMBLT.out; omega)))
                have HFq := hid (HS8.out.trans (hf9.mono (fun k hk => HS.out k (hk.elim (fun h => .inr (.inr (.inl (HSub.out k h)))) (fun h => .inr (.inr (.inr h)))))))
                have HSq : Hid (SgR wq w.heap.size (.slice none 0 0) []) := hid (Row.nil _ _ _ _ _)
                have HOq : Hid (([] : List (Int × Int)).length ≤ 1) := hid (by decide)
                have HMnq := hid hmn
                rw [if_neg (by decide)] at HFin
                clear HT7 HM7 HT8 HX8 HM8 HP8 HS8 hT9 hf9 x0 p4
                generalize giveL pid 0 LM = LF at *
                generalize ([] : List (Int × Int)) = outq at HFin HSq HOq
                generalize (fun j => if j = p.tty then 0 else t.f j) = Fq at HFin HTq
                generalize hmq : mn = mnq at HTq HMnq
                clear hmq
                go_wp2_with fail
                refine (pGrp_any _ tb mnq (PTB tb (.slice (some ⟨g, 0, none⟩) bs2.length c) bs2 mb) ⟨LF, t.nx, Fq⟩ ⟨_, _, _, _, HTq.out, fun _ h => h, Nat.le_refl _⟩ (Nat.le_trans HLF.out (by decide))).mono ?_
                rintro e' w8 ⟨gv, rfl, hgr8, hf8⟩
                obtain ⟨A8, c8, rfl, hc8⟩ := hgr8.shape
                obtain ⟨gb8, hgb8⟩ : ∃ gb8, gb8 = wq.heap.size := ⟨_, rfl⟩
                rw [← hgb8] at hgr8
                have HXS : Hid (XS w w8 tb S (.slice (some ⟨g, 0, none⟩) bs2.length c) (.slice A8 (grps LF).length c8) bs2 LF t.nx mb mnq Fq (w1.heap.size + 1) (grps t.l).length (wasF t.l) (grps LF) gb8 _ outq) := hid ⟨HTq.out.frd hf8, HMq.out.fr hf8 (fun h => h), hgr8, Row.fr HSq.out hf8 (fun _ _ h => h), HFq.out.trans (hf8.mono (fun _ h => h.elim))⟩
                have hg4 := Nat.le_trans (grps_len LF) HLF.out
                clear hgr8 hf8 hgb8
                go_wp2_with fail
                go_loopw [11, 14, 107] (fun v11 _ v107 wr => ∃ k : Nat, k ≤ (grps LF).length ∧ v107 = .int .i64 k ∧ Hid (XS w wr tb S (.slice (some ⟨g, 0, none⟩) bs2.length c) (.slice A8 (grps LF).length c8) bs2 LF t.nx mb mnq Fq (w1.heap.size + 1) (grps t.l).length (wasF t.l) (grps LF) gb8 v11 (outq ++ ((grps LF).take k).flatMap (newO (wasF t.l) LF)))) (fun _ _ v107 _ => (grps LF).length - (intOf v107).toNat)
                case atStart => exact ⟨0, Nat.zero_le _, rfl, hid (by simpa using HXS.out)⟩
                case round =>
                  obtain ⟨k, hk, rfl, HX⟩ := hrel
                  by_cases hkm : k < (grps LF).length
                  · obtain ⟨g3, c33, h3, _⟩ := HX.out.gr.ptr (by omega)
                    obtain rfl : A8 = some ⟨g3, 0, none⟩ := by injection h3
                    obtain rfl : c8 = c33 := by injection h3
                    have d0 := HX.out.gr.icell k hkm
                    have hj : J64 (grps LF)[k] := by
                      obtain ⟨q, hq, e⟩ := grps_mem LF _ (List.getElem_mem hkm)
                      rw [← e]
                      exact HUg.out q hq
                    have hlk := HX.out.mp.look _ hj
                    have HO := hid (pOrph_any _ tb mb mnq _ bs2 LF t.nx Fq (grps LF)[k] HX.out.pt (Nat.le_trans HLF.out (by decide)))
                    have HSu := hid (outO_succ (wasF t.l) LF outq (grps LF) k hkm)
                    have hol := outO_len (wasF t.l) LF outq (grps LF) k HOq.out
                    have hnew : newO (wasF t.l) LF (grps LF)[k] = if (!wasF t.l (grps LF)[k] && orphG LF (grps LF)[k]) = true then [((grps LF)[k], 4), ((grps LF)[k], 5)] else [] := rfl
                    clear h3 hj
                    generalize outq ++ ((grps LF).take k).flatMap (newO (wasF t.l) LF) = OU at *
                    generalize (grps LF)[k] = gk at *
                    obtain ⟨bw, hbw⟩ : ∃ bw, bw = wasF t.l gk := ⟨_, rfl⟩
                    obtain ⟨bo, hbo⟩ : ∃ bo, bo = orphG LF gk := ⟨_, rfl⟩
                    rw [← hbw] at hlk hnew
                    rw [← hbo] at HO hnew
                    clear hbw hbo
                    have h16 := le16 (OU.length + 2) (by omega)
                    have HL16 := hid h16
                    clear h16 hol
                    cases bw
                    rotate_left
                    · have HSu2 : Hid (outq ++ ((grps LF).take (k + 1)).flatMap (newO (wasF t.l) LF) = OU) := hid (by rw [HSu.out, hnew]; simp)
                      clear hnew
                      go_wp2
                      go_roundw
                      case rel => exact ⟨k + 1, by omega, by go_num, by rw [HSu2.out]; exact HX.out⟩
                      case measure => simp [intOf]; omega
                    cases bo
                    · have HSu2 : Hid (outq ++ ((grps LF).take (k + 1)).flatMap (newO (wasF t.l) LF) = OU) := hid (by rw [HSu.out, hnew]; simp)
                      clear hnew
                      go_wp2_with fail
                      refine HO.out.mono ?_
                      rintro e' w9 ⟨rfl, hf9⟩
                      have HX9 := hid (HX.out.quiet hf9)
                      clear hf9 hlk
                      go_wp2
                      go_roundw
                      case rel => exact ⟨k + 1, by omega, by go_num, by rw [HSu2.out]; exact HX9.out⟩
                      case measure => simp [intOf]; omega
                    · have HSu2 : Hid (outq ++ ((grps LF).take (k + 1)).flatMap (newO (wasF t.l) LF) = OU ++ [(gk, 4), (gk, 5)]) := hid (by rw [HSu.out, hnew]; simp)
                      clear hnew
                      go_wp2_with fail
                      refine HO.out.mono ?_
                      rintro e' w9 ⟨rfl, hf9⟩
                      have HX9 := hid (HX.out.quiet hf9)
                      have HXa := hid (HX9.out.quiet ((Fr.refl NoB w9).alloc (.cells #[.int .i64 gk, .int .i64 4, .int .i64 gk, .int .i64 5] 37)))
                      have hsr : ∀ j u, ([(gk, (4 : Int)), (gk, 5)].flatMap sgc)[j]? = some u → (w9.alloc (.cells #[.int .i64 gk, .int .i64 4, .int .i64 gk, .int .i64 5] 37)).cell? ((⟨w9.heap.size, 0, none⟩ : Addr).add j) = some u := Blk.cells (Blk.new w9 37 [.int .i64 gk, .int .i64 4, .int .i64 gk, .int .i64 5]) 0 _ (fun j v hj => by rw [Nat.zero_add]; exact hj)
                      have HSr := hid hsr
                      have HM2 : Hid ([(gk, (4 : Int)), (gk, 5)].length = 2) := hid rfl
                      have hsz9 : w.heap.size ≤ (w9.alloc (.cells #[.int .i64 gk, .int .i64 4, .int .i64 gk, .int .i64 5] 37)).heap.size := HXa.out.fr.size
                      have HSZ9 := hid hsz9
                      clear hf9 hlk hsr hsz9
                      go_wp2_with (at_builtin; go_must (refine row_apps (f := sgc) sgc_len sgc_one w.heap.size rfl (.tmp 120) (.tmp 125) 31 37 (.agg #[.int .i64 0, .int .i64 0]) 16 rfl Try.underlying31 infoSg rfl (by omega) (by omega) _ OU [(gk, 4), (gk, 5)] ⟨w9.heap.size, 0, none⟩ 2 2 rfl rfl HM2.out HSr.out HXa.out.so HSZ9.out HL16.out ?_); intro v10 w10 hR10 hf10 hat10; have HX10 := hid (HXa.out.app hf10 hR10); clear hR10 hf10 hat10)
                      go_roundw
                      case rel => exact ⟨k + 1, by omega, by go_num, by rw [HSu2.out]; exact HX10.out⟩
                      case measure => simp [intOf]; omega
                  · obtain rfl : k = (grps LF).length := by omega
                    have hfin := HFin.out
                    have hX := HX.out
                    rw [List.take_length] at hX
                    have HXf := hid hX
                    clear hX
                    have HFn := hid hfin
                    clear hfin
                    go_wp2
                    go_ret
                    rw [HFn.out]
                    exact ⟨u11, rfl, HXf.out.so, TabTo.of (t := ⟨LF, t.nx, Fq⟩) HXf.out.pt HMnq.out HXf.out.fr (fun k hk => .inl (hk.elim (fun h => HS.out k (.inl h)) (fun h => h.elim (fun h => HS.out k (.inr (.inl h))) (fun h => h.elim (fun h => HS.out k (.inr (.inr (.inl (HSub.out k h))))) (fun h => HS.out k (.inr (.inr (.inr h))))))))⟩
              · have HRn : Hid (SgR w7 w.heap.size (.slice none 0 0) []) := hid (Row.nil _ _ _ _ _)
                have HSZ7 := hid HS8.out.size
                have HL16 := hid (le16 (([] : List (Int × Int)).length + 1) (by decide))
                go_wp2_with (at_builtin; go_must (refine row_app (f := sgc) sgc_len sgc_one w.heap.size rfl (.tmp 92) (.tmp 95) 31 37 (.agg #[.int .i64 0, .int .i64 0]) 16 rfl Try.underlying31 infoSg rfl (by omega) (by omega) (.slice none 0 0) [] (fr, 4) rfl rfl HRn.out HSZ7.out HL16.out ?_); intro v8 w8 hR8 hf8 hat8; have hn8 : Fr NoB w7 w8 := hf8.mono (fun k hk => nomatch hk); have HR8 := hid hR8; have HT8b := hid (HT8.out.frd hn8); have HM8b := hid (HM8.out.fr hn8 (fun h => h)); have HS8b := hid (HS8.out.trans (hn8.mono (fun _ h => h.elim))); have x0 := (HX8.out.fr hn8 (fun h => h)).cell 0 rfl; have p4 := (HP8.out.fr hn8 (fun h => h)).cell 4 rfl; clear hR8 hf8 hat8 hn8)
                clear HT8 HM8 HS8
                have HT8 := HT8b
                have HM8 := HM8b
                have HS8 := HS8b
                refine (pLose_any _ tb mb mn _ bs2 LM t.nx t.f pid p.tty HT8.out (Nat.le_trans HLm.out (by decide)) HUp.out.2).mono ?_
                rintro e' wq ⟨rfl, hT9, hf9⟩
                have HLF : Hid ((giveL pid 0 LM).length ≤ 400) := hid (by rw [giveL_len]; exact HLm.out)
                have HUg : Hid (∀ p ∈ giveL pid 0 LM, J64 p.grp) := hid fun q hq => by
                  obtain ⟨q0, hq0, rfl⟩ := List.mem_map.1 hq
                  have := HUm.out q0 hq0
                  split
                  · exact this
                  · exact this
                have HTq := hid hT9
                have HMq := hid (HM8.out.fr hf9 (fun e => e.elim (fun hb => by have := HLTB.out _ hb; omega) (fun e => by have := HMBLT.out; omega)))
                have HFq := hid (HS8.out.trans (hf9.mono (fun k hk => HS.out k (hk.elim (fun h => .inr (.inr (.inl (HSub.out k h)))) (fun h => .inr (.inr (.inr h)))))))
                have HSq : Hid (SgR wq w.heap.size v8 [(fr, 4)]) := hid (Row.fr HR8.out hf9 (fun k hk e => e.elim (fun hb => by
                  obtain ⟨j, hj, rfl⟩ := List.getElem_of_mem hb
                  exact Row.not_blk HR8.out (HT8.out.prc j hj (by have := HT8.out.len; omega)) (by decide) hk) (fun e => SgR.notI HR8.out HT8.out.map (by rw [← e]; exact hk))))
                have HOq : Hid (([(fr, (4 : Int))] : List (Int × Int)).length ≤ 1) := hid (Nat.le_refl _)
                have HMnq := hid hmn
                rw [if_pos trivial] at HFin
                clear HT7 HM7 HT8 HX8 HM8 HP8 HS8 hT9 hf9 x0 p4 HR8 HT8b HM8b HS8b HRn
                generalize giveL pid 0 LM = LF at *
                generalize ([(fr, (4 : Int))] : List (Int × Int)) = outq at HFin HSq HOq
                generalize (fun j => if j = p.tty then 0 else t.f j) = Fq at HFin HTq
                generalize hmq : mn = mnq at HTq HMnq
                clear hmq
                go_wp2_with fail
                refine (pGrp_any _ tb mnq (PTB tb (.slice (some ⟨g, 0, none⟩) bs2.length c) bs2 mb) ⟨LF, t.nx, Fq⟩ ⟨_, _, _, _, HTq.out, fun _ h => h, Nat.le_refl _⟩ (Nat.le_trans HLF.out (by decide))).mono ?_
                rintro e' w8 ⟨gv, rfl, hgr8, hf8⟩
                obtain ⟨A8, c8, rfl, hc8⟩ := hgr8.shape
                obtain ⟨gb8, hgb8⟩ : ∃ gb8, gb8 = wq.heap.size := ⟨_, rfl⟩
                rw [← hgb8] at hgr8
                have HXS : Hid (XS w w8 tb S (.slice (some ⟨g, 0, none⟩) bs2.length c) (.slice A8 (grps LF).length c8) bs2 LF t.nx mb mnq Fq (w1.heap.size + 1) (grps t.l).length (wasF t.l) (grps LF) gb8 _ outq) := hid ⟨HTq.out.frd hf8, HMq.out.fr hf8 (fun h => h), hgr8, Row.fr HSq.out hf8 (fun _ _ h => h), HFq.out.trans (hf8.mono (fun _ h => h.elim))⟩
                have hg4 := Nat.le_trans (grps_len LF) HLF.out
                clear hgr8 hf8 hgb8
                go_wp2_with fail
                go_loopw [11, 14, 107] (fun v11 _ v107 wr => ∃ k : Nat, k ≤ (grps LF).length ∧ v107 = .int .i64 k ∧ Hid (XS w wr tb S (.slice (some ⟨g, 0, none⟩) bs2.length c) (.slice A8 (grps LF).length c8) bs2 LF t.nx mb mnq Fq (w1.heap.size + 1) (grps t.l).length (wasF t.l) (grps LF) gb8 v11 (outq ++ ((grps LF).take k).flatMap (newO (wasF t.l) LF)))) (fun _ _ v107 _ => (grps LF).length - (intOf v107).toNat)
                case atStart => exact ⟨0, Nat.zero_le _, rfl, hid (by simpa using HXS.out)⟩
                case round =>
                  obtain ⟨k, hk, rfl, HX⟩ := hrel
                  by_cases hkm : k < (grps LF).length
                  · obtain ⟨g3, c33, h3, _⟩ := HX.out.gr.ptr (by omega)
                    obtain rfl : A8 = some ⟨g3, 0, none⟩ := by injection h3
                    obtain rfl : c8 = c33 := by injection h3
                    have d0 := HX.out.gr.icell k hkm
                    have hj : J64 (grps LF)[k] := by
                      obtain ⟨q, hq, e⟩ := grps_mem LF _ (List.getElem_mem hkm)
                      rw [← e]
                      exact HUg.out q hq
                    have hlk := HX.out.mp.look _ hj
                    have HO := hid (pOrph_any _ tb mb mnq _ bs2 LF t.nx Fq (grps LF)[k] HX.out.pt (Nat.le_trans HLF.out (by decide)))
                    have HSu := hid (outO_succ (wasF t.l) LF outq (grps LF) k hkm)
                    have hol := outO_len (wasF t.l) LF outq (grps LF) k HOq.out
                    have hnew : newO (wasF t.l) LF (grps LF)[k] = if (!wasF t.l (grps LF)[k] && orphG LF (grps LF)[k]) = true then [((grps LF)[k], 4), ((grps LF)[k], 5)] else [] := rfl
                    clear h3 hj
                    generalize outq ++ ((grps LF).take k).flatMap (newO (wasF t.l) LF) = OU at *
                    generalize (grps LF)[k] = gk at *
                    obtain ⟨bw, hbw⟩ : ∃ bw, bw = wasF t.l gk := ⟨_, rfl⟩
                    obtain ⟨bo, hbo⟩ : ∃ bo, bo = orphG LF gk := ⟨_, rfl⟩
                    rw [← hbw] at hlk hnew
                    rw [← hbo] at HO hnew
                    clear hbw hbo
                    have h16 := le16 (OU.length + 2) (by omega)
                    have HL16 := hid h16
                    clear h16 hol
                    cases bw
                    rotate_left
                    · have HSu2 : Hid (outq ++ ((grps LF).take (k + 1)).flatMap (newO (wasF t.l) LF) = OU) := hid (by rw [HSu.out, hnew]; simp)
                      clear hnew
                      go_wp2
                      go_roundw
                      case rel => exact ⟨k + 1, by omega, by go_num, by rw [HSu2.out]; exact HX.out⟩
                      case measure => simp [intOf]; omega
                    cases bo
                    · have HSu2 : Hid (outq ++ ((grps LF).take (k + 1)).flatMap (newO (wasF t.l) LF) = OU) := hid (by rw [HSu.out, hnew]; simp)
                      clear hnew
                      go_wp2_with fail
                      refine HO.out.mono ?_
                      rintro e' w9 ⟨rfl, hf9⟩
                      have HX9 := hid (HX.out.quiet hf9)
                      clear hf9 hlk
                      go_wp2
                      go_roundw
                      case rel => exact ⟨k + 1, by omega, by go_num, by rw [HSu2.out]; exact HX9.out⟩
                      case measure => simp [intOf]; omega
                    · have HSu2 : Hid (outq ++ ((grps LF).take (k + 1)).flatMap (newO (wasF t.l) LF) = OU ++ [(gk, 4), (gk, 5)]) := hid (by rw [HSu.out, hnew]; simp)
                      clear hnew
                      go_wp2_with fail
                      refine HO.out.mono ?_
                      rintro e' w9 ⟨rfl, hf9⟩
                      have HX9 := hid (HX.out.quiet hf9)
                      have HXa := hid (HX9.out.quiet ((Fr.refl NoB w9).alloc (.cells #[.int .i64 gk, .int .i64 4, .int .i64 gk, .int .i64 5] 37)))
                      have hsr : ∀ j u, ([(gk, (4 : Int)), (gk, 5)].flatMap sgc)[j]? = some u → (w9.alloc (.cells #[.int .i64 gk, .int .i64 4, .int .i64 gk, .int .i64 5] 37)).cell? ((⟨w9.heap.size, 0, none⟩ : Addr).add j) = some u := Blk.cells (Blk.new w9 37 [.int .i64 gk, .int .i64 4, .int .i64 gk, .int .i64 5]) 0 _ (fun j v hj => by rw [Nat.zero_add]; exact hj)
                      have HSr := hid hsr
                      have HM2 : Hid ([(gk, (4 : Int)), (gk, 5)].length = 2) := hid rfl
                      have hsz9 : w.heap.size ≤ (w9.alloc (.cells #[.int .i64 gk, .int .i64 4, .int .i64 gk, .int .i64 5] 37)).heap.size := HXa.out.fr.size
                      have HSZ9 := hid hsz9
                      clear hf9 hlk hsr hsz9
                      go_wp2_with (at_builtin; go_must (refine row_apps (f := sgc) sgc_len sgc_one w.heap.size rfl (.tmp 120) (.tmp 125) 31 37 (.agg #[.int .i64 0, .int .i64 0]) 16 rfl Try.underlying31 infoSg rfl (by omega) (by omega) _ OU [(gk, 4), (gk, 5)] ⟨w9.heap.size, 0, none⟩ 2 2 rfl rfl HM2.out HSr.out HXa.out.so HSZ9.out HL16.out ?_); intro v10 w10 hR10 hf10 hat10; have HX10 := hid (HXa.out.app hf10 hR10); clear hR10 hf10 hat10)
                      go_roundw
                      case rel => exact ⟨k + 1, by omega, by go_num, by rw [HSu2.out]; exact HX10.out⟩
                      case measure => simp [intOf]; omega
                  · obtain rfl : k = (grps LF).length := by omega
                    have hfin := HFin.out
                    have hX := HX.out
                    rw [List.take_length] at hX
                    have HXf := hid hX
                    clear hX
                    have HFn := hid hfin
                    clear hfin
                    go_wp2
                    go_ret
                    rw [HFn.out]
                    exact ⟨u11, rfl, HXf.out.so, TabTo.of (t := ⟨LF, t.nx, Fq⟩) HXf.out.pt HMnq.out HXf.out.fr (fun k hk => .inl (hk.elim (fun h => HS.out k (.inl h)) (fun h => h.elim (fun h => HS.out k (.inr (.inl h))) (fun h => h.elim (fun h => HS.out k (.inr (.inr (.inl (HSub.out k h))))) (fun h => HS.out k (.inr (.inr (.inr h))))))))⟩
end Go.Proofs.Ytlagakcpjmjdfaa
