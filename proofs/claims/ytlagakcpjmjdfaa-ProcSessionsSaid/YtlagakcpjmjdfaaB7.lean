import Derived.Test.YtlagakcpjmjdfaaB6
set_option linter.unusedSimpArgs false
set_option linter.unusedVariables false
set_option maxRecDepth 20000
namespace Go.Proofs.Ytlagakcpjmjdfaa
open Go.RowKit Go.Proofs.YtlagakcpjmjdfaaW.PrintWords
/-- What a function of the document's hands back: a table, and an error's number. -/
def RErr (w : World) (v fv : Value) (r : Tb × Int) (e : Ending) (w' : World) : Prop := ∃ v' fv' F', e = .returned (.tuple #[rtv v' r.1.nx fv', .int .i64 r.2]) ∧ RT w' v' fv' r.1 F' ∧ Fr NoB w w' ∧ (∀ k, OwnB v' k → OwnB v k ∨ w.heap.size ≤ k) ∧ (∀ k, OwnB fv' k → OwnB fv k ∨ w.heap.size ≤ k)
theorem at_cases (l : List Pr) (pid : Int) : (ixP (isPid pid) l = -1 ∧ l.find? (isPid pid) = none) ∨ ∃ (i : Nat) (hi : i < l.length), ixP (isPid pid) l = i ∧ l.find? (isPid pid) = some l[i] ∧ l.findIdx (isPid pid) = i := by
  cases h : l.any (isPid pid)
  · exact .inl ⟨ixP_none h, find_none _ _ h⟩
  · obtain ⟨i, hi, h1, h2, h3⟩ := ixP_some _ _ h
    exact .inr ⟨i, hi, h1, h2, h3⟩
theorem RT.up {w : World} {v fv : Value} {t : Tb} {F : List Int} {base : Nat} {l : List Pr} (h : RT w v fv t F) {w1 : World} {v1 : Value} (hl : Row Pr.cells 6 51 w1 base v1 l) (hf : Fr NoB w w1) (nx : Int) : RT w1 v1 fv ⟨l, nx, t.f⟩ F :=
  ⟨Row.lower hl (Nat.zero_le _), h.f.fr hf (fun _ _ h => h), h.len, h.at_⟩
theorem Row.ge {α : Type} {f : α → List Value} {sz : Nat} {e : TypeId} {w : World} {base : Nat} {v : Value} {xs : List α} (h : Row f sz e w base v xs) (k : Nat) (hk : OwnB v k) : base ≤ k := by
  rcases h.2 with ⟨h0, _⟩ | ⟨g, c, cur, h0, h1, _⟩
  · rw [h0] at hk; cases hk
  · rw [h0] at hk
    obtain rfl : g = k := Option.some.inj hk
    exact h1
/-- A front is set. -/
theorem RT.setF {w : World} {v fv : Value} {t : Tb} {F : List Int} (h : RT w v fv t F) {w1 : World} {fv1 : Value} {base i : Nat} {gr : Int} (hr : Row ic 1 3 w1 base fv1 (F.set i gr)) (hf : Fr NoB w w1) (hi : i < 65) : RT w1 v fv1 ⟨t.l, t.nx, fun j => if j = (i : Int) then gr else t.f j⟩ (F.set i gr) := by
  refine ⟨h.l.fr hf (fun _ _ h => h), Row.lower hr (Nat.zero_le _), by rw [List.length_set]; exact h.len, fun j h1 h2 => ?_⟩
  have h3 := h.at_ j h1 h2
  have hlen := h.len
  show (F.set i gr).getD j 0 = if (j : Int) = (i : Int) then gr else t.f j
  rw [List.getD_eq_getElem?_getD, List.getElem?_set]
  by_cases e : i = j
  · subst e
    rw [if_pos rfl, if_pos (by omega), if_pos rfl]
    rfl
  · rw [if_neg e, if_neg (by omega), ← h3, List.getD_eq_getElem?_getD]
def sidP (p : Pr) (pid : Int) : Pr := ⟨p.pid, p.par, pid, pid, 0, p.deaf⟩
set_option maxHeartbeats 4000000 in
theorem rSid_any (w : World) (v fv : Value) (t : Tb) (F : List Int) (pid : Int) (h : RT w v fv t F) (hl : t.l.length ≤ 400) :
    Calls Try.prog 38 #[rtv v t.nx fv, .int .i64 pid] w (RErr w v fv (sidT t pid)) := by
  obtain ⟨A, c, hv, hc⟩ := h.l.shape
  obtain ⟨A2, c2, hfv, _⟩ := h.f.shape
  subst hv hfv
  have hf0 : Fr NoB w ((w.alloc (.cells #[.slice A t.l.length c, .int .i64 t.nx, .slice A2 F.length c2] 43)).alloc (.cells #[.slice none 0 0, .int .i64 0, .slice none 0 0] 43)) := ((Fr.refl _ _).alloc _).alloc _
  have hB := (Blk.new w 43 [.slice A t.l.length c, .int .i64 t.nx, .slice A2 F.length c2]).alloc (.cells #[.slice none 0 0, .int .i64 0, .slice none 0 0] 43)
  have hZ := Blk.new (w.alloc (.cells #[.slice A t.l.length c, .int .i64 t.nx, .slice A2 F.length c2] 43)) 43 [.slice none 0 0, .int .i64 0, .slice none 0 0]
  rw [World.size_alloc] at hZ
  have HB0 := hid hB
  have HZ0 := hid hZ
  have HF0 := hid hf0
  have HR0 := hid (h.frd hf0)
  have HRW := hid h
  have HL := hid hl
  clear h hf0 hB hZ
  have HAt := hid (rAt_any _ _ _ t.nx t F pid HR0.out (by have := HL.out; omega))
  have HHas := hid fun W (hW : Fr NoB w W) => rHas_any W _ _ t.nx t F pid 0 (HRW.out.frd hW) (by have := HL.out; omega)
  unfold rtv at HAt HHas
  rcases at_cases t.l pid with ⟨h1, h2⟩ | ⟨i, hi, h1, h2, h3⟩
  · have hr : sidT t pid = (t, 5) := by unfold sidT; rw [h2]
    rw [hr]
    rw [h1] at HAt
    clear hr h1 h2
    unfold rtv
    go_enter Try.func38, Try.ntmps38
    go_wp2_with fail
    refine Calls.mono (HAt.out) ?_
    rintro e' w1 ⟨rfl, hfn⟩
    have HF1 := hid (HF0.out.trans hfn)
    have HR1 := hid (HR0.out.frd hfn)
    have HB1 := hid (HB0.out.fr hfn (fun h => h))
    have HZ1 := hid (HZ0.out.fr hfn (fun h => h))
    clear hfn
    have hb := HB1.out
    have hz := HZ1.out
    have b0 := hb.cell 0 rfl
    have b1 := hb.cell 1 rfl
    have b2 := hb.cell 2 rfl
    have z0 := hz.cell 0 rfl
    have z1 := hz.cell 1 rfl
    have z2 := hz.cell 2 rfl
    have y0 := hz.frozen 0
    have y1 := hz.frozen 1
    have y2 := hz.frozen 2
    have yl := hz.lt
    have bl := hb.lt
    clear hb hz
    go_wp2
    have hfz := HF1.out.then_ ((((Fr.refl (At (w.heap.size + 1)) w1).setAt 0 (.slice A t.l.length c)).setAt 1 (.int .i64 t.nx)).setAt 2 (.slice A2 F.length c2)) (fun k e => .inr (by have e' : k = w.heap.size + 1 := e; omega))
    have hne : ∀ k, OwnB (.slice A t.l.length c) k → ¬ At (w.heap.size + 1) k := fun k hk e => Row.not_blk HR1.out.l HZ1.out (by decide) (by have e' : k = w.heap.size + 1 := e; rw [← e']; exact hk)
    have hne2 : ∀ k, OwnB (.slice A2 F.length c2) k → ¬ At (w.heap.size + 1) k := fun k hk e => Row.not_blk HR1.out.f HZ1.out (by decide) (by have e' : k = w.heap.size + 1 := e; rw [← e']; exact hk)
    refine bodyPost_ret (v := .tuple #[rtv (.slice A t.l.length c) t.nx (.slice A2 F.length c2), .int .i64 5]) (by simp [results, Try.results38, go_sem, z0, z1, z2, rtv]) rfl ⟨_, _, F, rfl, HR1.out.fr ((((Fr.refl (At (w.heap.size + 1)) w1).setAt 0 _).setAt 1 _).setAt 2 _) hne hne2, hfz, fun k hk => .inl hk, fun k hk => .inl hk⟩
  · have hr : sidT t pid = if hasG t.l pid 0 then (t, 8) else (⟨t.l.set i (sidP t.l[i] pid), t.nx, t.f⟩, 0) := by unfold sidT; rw [h2, h3]; rfl
    rw [hr]
    rw [h1] at HAt
    clear hr h1 h2 h3
    cases hg : hasG t.l pid 0
    · rw [hg] at HHas
      rw [if_neg (by decide)]
      clear hg
      unfold rtv
      go_enter Try.func38, Try.ntmps38
      go_wp2_with fail
      refine Calls.mono (HAt.out) ?_
      rintro e' w1 ⟨rfl, hfn⟩
      have HF1 := hid (HF0.out.trans hfn)
      have HR1 := hid (HR0.out.frd hfn)
      have HB1 := hid (HB0.out.fr hfn (fun h => h))
      have HZ1 := hid (HZ0.out.fr hfn (fun h => h))
      clear hfn
      have hb := HB1.out
      have hz := HZ1.out
      have b0 := hb.cell 0 rfl
      have b1 := hb.cell 1 rfl
      have b2 := hb.cell 2 rfl
      have z0 := hz.cell 0 rfl
      have z1 := hz.cell 1 rfl
      have z2 := hz.cell 2 rfl
      have y0 := hz.frozen 0
      have y1 := hz.frozen 1
      have y2 := hz.frozen 2
      have yl := hz.lt
      have bl := hb.lt
      clear hb hz
      go_wp2_with fail
      clear b0 b1 b2 z0 z1 z2 y0 y1 y2 yl bl
      refine Calls.mono (HHas.out _ HF1.out) ?_
      rintro e' w2 ⟨rfl, hfn⟩
      have HF2 := hid (HF1.out.trans hfn)
      have HR2 := hid (HR1.out.frd hfn)
      have HB2 := hid (HB1.out.fr hfn (fun h => h))
      have HZ2 := hid (HZ1.out.fr hfn (fun h => h))
      clear hfn
      have hb := HB2.out
      have hz := HZ2.out
      have b0 := hb.cell 0 rfl
      have b1 := hb.cell 1 rfl
      have b2 := hb.cell 2 rfl
      have z0 := hz.cell 0 rfl
      have z1 := hz.cell 1 rfl
      have z2 := hz.cell 2 rfl
      have y0 := hz.frozen 0
      have y1 := hz.frozen 1
      have y2 := hz.frozen 2
      have yl := hz.lt
      have bl := hb.lt
      clear hb hz
      obtain ⟨g, c9, h9, _, d0, d1, d2, d3, d4, d5⟩ := PrR.at_ HR2.out.l i hi
      obtain rfl : A = some ⟨g, 0, none⟩ := by injection h9
      clear h9
      go_wp2_with fail
      refine Calls.mono (rWith_any _ _ _ t.nx t F i (sidP t.l[i] pid) (HR2.out.frd ((Fr.refl _ _).alloc _)) HL.out hi) ?_
      rintro e' w3 ⟨v3, rfl, hr3, hf3⟩
      obtain ⟨A3, c3, hv3, _⟩ := hr3.shape
      rw [List.length_set] at hv3
      subst hv3
      unfold rtv
      have hfn := ((Fr.refl NoB w2).alloc (.cells #[.int .i64 t.l[i].pid, .int .i64 t.l[i].par, .int .i64 pid, .int .i64 pid, .int .i64 0, .bool t.l[i].deaf] 51)).trans hf3
      have HF3 := hid (HF2.out.trans hfn)
      have HZ3 := hid (HZ2.out.fr hfn (fun h => h))
      have HR3 := hid (HR2.out.up hr3 hfn t.nx)
      have HV3 := hid hr3.ge
      have HSZ : Hid (w.heap.size ≤ _) := hid (HF2.out.trans ((Fr.refl NoB w2).alloc (.cells #[.int .i64 t.l[i].pid, .int .i64 t.l[i].par, .int .i64 pid, .int .i64 pid, .int .i64 0, .bool t.l[i].deaf] 51))).size
      clear hfn hf3 hr3 b0 b1 b2 z0 z1 z2 y0 y1 y2 yl bl
      have hz := HZ3.out
      have z0 := hz.cell 0 rfl
      have z1 := hz.cell 1 rfl
      have z2 := hz.cell 2 rfl
      have y0 := hz.frozen 0
      have y1 := hz.frozen 1
      have y2 := hz.frozen 2
      have yl := hz.lt
      clear hz
      go_wp2
      have hfz := HF3.out.then_ ((((Fr.refl (At (w.heap.size + 1)) w3).setAt 0 (.slice A3 t.l.length c3)).setAt 1 (.int .i64 t.nx)).setAt 2 (.slice A2 F.length c2)) (fun k e => .inr (by have e' : k = w.heap.size + 1 := e; omega))
      have hne : ∀ k, OwnB (.slice A3 t.l.length c3) k → ¬ At (w.heap.size + 1) k := fun k hk e => Row.not_blk HR3.out.l HZ3.out (by decide) (by have e' : k = w.heap.size + 1 := e; rw [← e']; exact hk)
      have hne2 : ∀ k, OwnB (.slice A2 F.length c2) k → ¬ At (w.heap.size + 1) k := fun k hk e => Row.not_blk HR3.out.f HZ3.out (by decide) (by have e' : k = w.heap.size + 1 := e; rw [← e']; exact hk)
      refine bodyPost_ret (v := .tuple #[rtv (.slice A3 t.l.length c3) t.nx (.slice A2 F.length c2), .int .i64 0]) (by simp [results, Try.results38, go_sem, z0, z1, z2, rtv]) rfl ⟨_, _, F, rfl, HR3.out.fr ((((Fr.refl (At (w.heap.size + 1)) w3).setAt 0 _).setAt 1 _).setAt 2 _) hne hne2, hfz, fun k hk => .inr (Nat.le_trans HSZ.out (HV3.out k hk)), fun k hk => .inl hk⟩
    · rw [hg] at HHas
      rw [if_pos rfl]
      clear hg
      unfold rtv
      go_enter Try.func38, Try.ntmps38
      go_wp2_with fail
      refine Calls.mono (HAt.out) ?_
      rintro e' w1 ⟨rfl, hfn⟩
      have HF1 := hid (HF0.out.trans hfn)
      have HR1 := hid (HR0.out.frd hfn)
      have HB1 := hid (HB0.out.fr hfn (fun h => h))
      have HZ1 := hid (HZ0.out.fr hfn (fun h => h))
      clear hfn
      have hb := HB1.out
      have hz := HZ1.out
      have b0 := hb.cell 0 rfl
      have b1 := hb.cell 1 rfl
      have b2 := hb.cell 2 rfl
      have z0 := hz.cell 0 rfl
      have z1 := hz.cell 1 rfl
      have z2 := hz.cell 2 rfl
      have y0 := hz.frozen 0
      have y1 := hz.frozen 1
      have y2 := hz.frozen 2
      have yl := hz.lt
      have bl := hb.lt
      clear hb hz
      go_wp2_with fail
      clear b0 b1 b2 z0 z1 z2 y0 y1 y2 yl bl
      refine Calls.mono (HHas.out _ HF1.out) ?_
      rintro e' w2 ⟨rfl, hfn⟩
      have HF2 := hid (HF1.out.trans hfn)
      have HR2 := hid (HR1.out.frd hfn)
      have HB2 := hid (HB1.out.fr hfn (fun h => h))
      have HZ2 := hid (HZ1.out.fr hfn (fun h => h))
      clear hfn
      have hb := HB2.out
      have hz := HZ2.out
      have b0 := hb.cell 0 rfl
      have b1 := hb.cell 1 rfl
      have b2 := hb.cell 2 rfl
      have z0 := hz.cell 0 rfl
      have z1 := hz.cell 1 rfl
      have z2 := hz.cell 2 rfl
      have y0 := hz.frozen 0
      have y1 := hz.frozen 1
      have y2 := hz.frozen 2
      have yl := hz.lt
      have bl := hb.lt
      clear hb hz
      go_wp2
      have hfz := HF2.out.then_ ((((Fr.refl (At (w.heap.size + 1)) w2).setAt 0 (.slice A t.l.length c)).setAt 1 (.int .i64 t.nx)).setAt 2 (.slice A2 F.length c2)) (fun k e => .inr (by have e' : k = w.heap.size + 1 := e; omega))
      have hne : ∀ k, OwnB (.slice A t.l.length c) k → ¬ At (w.heap.size + 1) k := fun k hk e => Row.not_blk HR2.out.l HZ2.out (by decide) (by have e' : k = w.heap.size + 1 := e; rw [← e']; exact hk)
      have hne2 : ∀ k, OwnB (.slice A2 F.length c2) k → ¬ At (w.heap.size + 1) k := fun k hk e => Row.not_blk HR2.out.f HZ2.out (by decide) (by have e' : k = w.heap.size + 1 := e; rw [← e']; exact hk)
      refine bodyPost_ret (v := .tuple #[rtv (.slice A t.l.length c) t.nx (.slice A2 F.length c2), .int .i64 8]) (by simp [results, Try.results38, go_sem, z0, z1, z2, rtv]) rfl ⟨_, _, F, rfl, HR2.out.fr ((((Fr.refl (At (w.heap.size + 1)) w2).setAt 0 _).setAt 1 _).setAt 2 _) hne hne2, hfz, fun k hk => .inl hk, fun k hk => .inl hk⟩
end Go.Proofs.Ytlagakcpjmjdfaa
