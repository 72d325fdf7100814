import Derived.Test.YtnengimekcnfhaaQ9
import Derived.Test.YtnengimekcnfhaaE7
set_option linter.unusedSimpArgs false
set_option linter.unusedVariables false
set_option maxRecDepth 20000
namespace Go.Proofs.Ytnengimekcnfhaa
open Go.RowKit Go.Shelf Go.Proofs.YtnengimekcnfhaaW.PrintWords
/-- What the document's drawing writes. -/
def refCL (xs : List Wn) (t : Wn) (x y : Int) (l : List Cl) : List Wr := if Near x ∧ Near y then refC xs t x y l l.length else []
def refFL (xs : List Wn) (t : Wn) (r : Rc) (c : Cl) : List Wr := if r.Right then refF xs t r c t.h.toNat else []
def refKL (xs : List Wn) (t : Wn) (r : Rc) (x y : Int) (cs : List Cl) : List Wr := if r.Right ∧ Near x ∧ Near y then refK xs t r x y cs t.h.toNat else []
def RDTo (gb : Nat) (L : List Wr) (cs : List Cl) (w : World) (e : Ending) (w' : World) : Prop := ∃ gb' c', e = .returned (.tuple #[gV gb' c', .int .i64 L.length]) ∧ RG w' gb' c' (putsG 10 cs L) ∧ Fr NoB w w' ∧ (gb' = gb ∨ w.heap.size ≤ gb')
section
variable {w : World} {gb c : Nat} {cs : List Cl} {v : Value} {xs : List Wn} {t : Wn}
theorem rcells_all (x y : Int) (A : Option Addr) (cap : Nat) (l : List Cl) (hg : RG w gb c cs) (hV : WnS w v xs) (hl : xs.length ≤ 4096) (hF : ∀ q ∈ xs, FitsIn 10 10 q.r) (ht : FitsIn 10 10 t.r) (hca : CA w A l) (hcap : l.length ≤ cap) (hll : l.length ≤ 1000) (hlt : ∀ ad, A = some ad → 0 < l.length → ad.block < w.heap.size) :
    Calls Try.prog 42 #[gV gb c, v, t.v, .int .i64 x, .int .i64 y, .slice A l.length cap] w (RDTo gb (refCL xs t x y l) cs w) := by
  unfold refCL
  by_cases h : Near x ∧ Near y
  · rw [if_pos h]
    exact r13Cells_near w gb c cs v xs t x y A cap l hg hV hl hF ht h.1 h.2 hca hcap hll hlt
  · rw [if_neg h]
    exact (r13Cells_off w gb c cs v t x y A cap l.length hg h xs hV).mono fun e w' h => h
theorem rfill_all (r : Rc) (c0 : Cl) (hg : RG w gb c cs) (hV : WnS w v xs) (hl : xs.length ≤ 4096) (hF : ∀ q ∈ xs, FitsIn 10 10 q.r) (ht : FitsIn 10 10 t.r) :
    Calls Try.prog 43 #[gV gb c, v, t.v, r.v, c0.v] w (RDTo gb (refFL xs t r c0) cs w) := by
  unfold refFL
  by_cases h : r.Right
  · rw [if_pos h]
    exact r13Fill_in w gb c cs v xs t r c0 hg hV hl hF ht h
  · rw [if_neg h]
    exact (r13Fill_off w gb c cs v t r c0 hg xs hV ht h).mono fun e w' h => h
theorem rcopy_all (r : Rc) (x y : Int) (hg : RG w gb c cs) (hV : WnS w v xs) (hl : xs.length ≤ 4096) (hF : ∀ q ∈ xs, FitsIn 10 10 q.r) (ht : FitsIn 10 10 t.r) :
    Calls Try.prog 44 #[gV gb c, v, t.v, r.v, .int .i64 x, .int .i64 y] w (RDTo gb (refKL xs t r x y cs) cs w) := by
  unfold refKL
  by_cases h : r.Right ∧ Near x ∧ Near y
  · rw [if_pos h]
    exact r13Copy_in w gb c cs v xs t r x y hg hV hl hF ht h.1 h.2.1 h.2.2
  · rw [if_neg h]
    exact (r13Copy_off w gb c cs v t r x y hg xs hV ht h).mono fun e w' h => h
end
/-- What 'want' writes, and its end. -/
def refL (xs : List Wn) (d : Dr) (cs : List Cl) : List Wr := match getW xs d.id with
  | none => []
  | some t => if d.do_ = 0 then refCL xs t d.x d.y d.l else if d.do_ = 1 then refFL xs t d.r (d.l.headD Cl.zero) else refKL xs t d.r d.x d.y cs
def WantTo (gb : Nat) (L : List Wr) (er : Int) (cs : List Cl) (w : World) (e : Ending) (w' : World) : Prop := ∃ gb' c', e = .returned (.tuple #[gV gb' c', .int .i64 L.length, .int .i64 er]) ∧ RG w' gb' c' (putsG 10 cs L) ∧ Fr NoB w w' ∧ (gb' = gb ∨ w.heap.size ≤ gb')
set_option maxHeartbeats 8000000 in
theorem want_any (w : World) (gb c : Nat) (cs : List Cl) (v : Value) (xs : List Wn) (d : Dr) (hg : RG w gb c cs) (hV : WnS w v xs) (hl : xs.length ≤ 4096) (hF : ∀ q ∈ xs, FitsIn 10 10 q.r) (hd : d.Ok w) (hll : d.l.length ≤ 1000) :
    Calls Try.prog 19 #[gV gb c, v, .agg #[.int .i64 d.do_, .int .i64 d.id, .int .i64 d.x, .int .i64 d.y, .int .i64 d.r.x, .int .i64 d.r.y, .int .i64 d.r.w, .int .i64 d.r.h, .slice d.lA d.l.length d.lc]] w (WantTo gb (refL xs d cs) (foundE xs d.id) cs w) := by
  have hw1 : ∃ w1, w1 = (((w.alloc (.cells #[.int .i64 10, .int .i64 10, .slice (some ⟨gb, 0, none⟩) 100 c] 59)).alloc (.cells #[.int .i64 d.do_, .int .i64 d.id, .int .i64 d.x, .int .i64 d.y, .int .i64 d.r.x, .int .i64 d.r.y, .int .i64 d.r.w, .int .i64 d.r.h, .slice d.lA d.l.length d.lc] 53)).alloc (.cells #[.int .i64 0, .int .i64 0, .slice none 0 0] 59)) := ⟨_, rfl⟩
  obtain ⟨w1, hw1⟩ := hw1
  have hf0 : Fr NoB w w1 := by rw [hw1]; exact (((Fr.refl _ _).alloc _).alloc _).alloc _
  have a0 : Blk w1 w.heap.size 59 [.int .i64 10, .int .i64 10, .slice (some ⟨gb, 0, none⟩) 100 c] := by rw [hw1]; exact ((Blk.new w 59 _).alloc _).alloc _
  have a1 : Blk w1 (w.heap.size + 1) 53 d.cells := by
    have h := (Blk.new (w.alloc (.cells #[.int .i64 10, .int .i64 10, .slice (some ⟨gb, 0, none⟩) 100 c] 59)) 53 d.cells).alloc (.cells #[.int .i64 0, .int .i64 0, .slice none 0 0] 59)
    rw [World.size_alloc] at h
    rw [hw1]
    exact h
  have a2 : Blk w1 (w.heap.size + 1 + 1) 59 [.int .i64 0, .int .i64 0, .slice none 0 0] := by
    have h := Blk.new ((w.alloc (.cells #[.int .i64 10, .int .i64 10, .slice (some ⟨gb, 0, none⟩) 100 c] 59)).alloc (.cells #[.int .i64 d.do_, .int .i64 d.id, .int .i64 d.x, .int .i64 d.y, .int .i64 d.r.x, .int .i64 d.r.y, .int .i64 d.r.w, .int .i64 d.r.h, .slice d.lA d.l.length d.lc] 53)) 59 [.int .i64 0, .int .i64 0, .slice none 0 0]
    simp only [World.size_alloc] at h
    rw [hw1]
    exact h
  have HA0 := hid a0
  have HA1 := hid a1
  have HA2 := hid a2
  have HF0 := hid hf0
  have HRG := hid (hg.frd hf0)
  have HV := hid (hV.fr hf0 (fun _ _ h => h))
  have HFI := hid hF
  have HOK := hid hd
  obtain ⟨A9, c9, hv, _, _⟩ := hV.shape
  subst hv
  clear hf0 a0 a1 a2 hg hV hF hd
  unfold refL foundE gV
  cases hg : getW xs d.id with
  | none =>
    have HQI := hid (idAt_none hg)
    clear hg
    have e0 : (if (none : Option Wn).isSome = true then (0 : Int) else 5) = 5 := rfl
    rw [e0]
    clear e0
    go_enter Try.func19, Try.ntmps19
    have d0 := HA1.out.cell 0 rfl
    have d1 := HA1.out.cell 1 rfl
    have d2 := HA1.out.cell 2 rfl
    have d3 := HA1.out.cell 3 rfl
    have d4 := HA1.out.cell 4 rfl
    have d5 := HA1.out.cell 5 rfl
    have d6 := HA1.out.cell 6 rfl
    have d7 := HA1.out.cell 7 rfl
    have d8 := HA1.out.cell 8 rfl
    have dl := HA1.out.lt
    have m0 := HA0.out.cell 0 rfl
    have m1 := HA0.out.cell 1 rfl
    have m2 := HA0.out.cell 2 rfl
    have ml := HA0.out.lt
    have mf0 := HA0.out.frozen 0
    have mf1 := HA0.out.frozen 1
    have mf2 := HA0.out.frozen 2
    have z0 := HA2.out.cell 0 rfl
    have z1 := HA2.out.cell 1 rfl
    have z2 := HA2.out.cell 2 rfl
    have y0 := HA2.out.frozen 0
    have y1 := HA2.out.frozen 1
    have y2 := HA2.out.frozen 2
    have zl := HA2.out.lt
    go_wp2_with fail
    rw [← hw1]
    clear hw1
    refine (r12At_any w1 _ xs d.id HV.out hl).mono ?_
    rintro e' w2 ⟨rfl, hw2⟩
    have hw3 := hw2.symm
    subst hw3
    clear hw2
    rw [HQI.out]
    go_wp2
    have hZF := ((HA2.out.set 0 (.int .i64 10)).set 1 (.int .i64 10)).set 2 (.slice (some ⟨gb, 0, none⟩) 100 c)
    have r0 := hZF.cell 0 rfl
    have r1 := hZF.cell 1 rfl
    have r2 := hZF.cell 2 rfl
    have hs := (((Fr.refl (At (w.heap.size + 1 + 1)) w1).setAt 0 (.int .i64 10)).setAt 1 (.int .i64 10)).setAt 2 (.slice (some ⟨gb, 0, none⟩) 100 c)
    obtain ⟨rest, hv5⟩ := HRG.out.row
    refine bodyPost_ret (v := .tuple #[gV gb c, .int .i64 0, .int .i64 5]) (by simp [results, Try.results19, go_sem, r0, r1, r2, gV]) rfl ⟨gb, c, rfl, HRG.out.fr hs (fun e => absurd (blk_ty (show Blk w1 (w.heap.size + 1 + 1) _ _ from e ▸ hv5.blk) HA2.out) (by decide)), HF0.out.then_ hs (fun j e => .inr (by have e' : j = w.heap.size + 1 + 1 := e; omega)), .inl rfl⟩
  | some t =>
    obtain ⟨q, hqk, hqi, hqt, hti⟩ := idAt_some hg
    clear hti
    have hfit := HFI.out t (getW_mem hg)
    have HQI := hid hqi
    have HFT := hid hfit
    obtain ⟨g10, c11, r10, hv10, hV10, hx10, hm10⟩ := HV.out.vec (by omega)
    obtain ⟨rfl, rfl⟩ : A9 = some ⟨g10, 0, none⟩ ∧ c9 = c11 := by injection hv10 with e1 e2 e3; exact ⟨e1, e3⟩
    clear hv10
    obtain ⟨k0, k1, k2, k3, k4, k5, k6⟩ := WnV.cells hV10 q hqk
    rw [hqt] at k0 k1 k2 k3 k4 k5 k6
    have gl := WnV.lt hV10
    have e0 : (if (some t).isSome = true then (0 : Int) else 5) = 0 := rfl
    rw [e0]
    clear hg hqi hqt hfit hV10 hx10 hm10 e0
    have HF1 := hid ((Fr.refl NoB w1).alloc (.cells #[.int .i64 t.id, .int .i64 t.env, .int .i64 t.x, .int .i64 t.y, .int .i64 t.w, .int .i64 t.h, .bool t.hid] 73))
    have HCA := hid (HOK.out.ca.fr HF0.out (fun _ _ _ h => h))
    have HLT : Hid (∀ ad, d.lA = some ad → 0 < d.l.length → ad.block < w1.heap.size) := hid fun ad e h0 => Nat.lt_of_lt_of_le (HOK.out.lt ad e h0) HF0.out.size
    by_cases h0 : d.do_ = 0
    · have t0 : (d.do_ == 0) = true := by rw [beq_iff_eq]; exact h0
      simp only [if_pos h0]
      clear h0
      have HCl : Hid (∀ W, Fr NoB w1 W → Calls Try.prog 42 #[gV gb c, .slice (some ⟨g10, 0, none⟩) xs.length c9, t.v, .int .i64 d.x, .int .i64 d.y, .slice d.lA d.l.length d.lc] W (RDTo gb (refCL xs t d.x d.y d.l) cs W)) := hid fun W hW => rcells_all d.x d.y d.lA d.lc d.l (HRG.out.frd hW) (HV.out.fr hW (fun _ _ h => h)) hl HFI.out HFT.out (HCA.out.fr hW (fun _ _ _ h => h)) HOK.out.cap hll (fun ad e h0 => Nat.lt_of_lt_of_le (HLT.out ad e h0) hW.size)
      generalize refCL xs t d.x d.y d.l = L at *
      unfold gV Wn.v at HCl
      go_enter Try.func19, Try.ntmps19
      have d0 := HA1.out.cell 0 rfl
      have d1 := HA1.out.cell 1 rfl
      have d2 := HA1.out.cell 2 rfl
      have d3 := HA1.out.cell 3 rfl
      have d4 := HA1.out.cell 4 rfl
      have d5 := HA1.out.cell 5 rfl
      have d6 := HA1.out.cell 6 rfl
      have d7 := HA1.out.cell 7 rfl
      have d8 := HA1.out.cell 8 rfl
      have dl := HA1.out.lt
      have m0 := HA0.out.cell 0 rfl
      have m1 := HA0.out.cell 1 rfl
      have m2 := HA0.out.cell 2 rfl
      have ml := HA0.out.lt
      have mf0 := HA0.out.frozen 0
      have mf1 := HA0.out.frozen 1
      have mf2 := HA0.out.frozen 2
      have z0 := HA2.out.cell 0 rfl
      have z1 := HA2.out.cell 1 rfl
      have z2 := HA2.out.cell 2 rfl
      have y0 := HA2.out.frozen 0
      have y1 := HA2.out.frozen 1
      have y2 := HA2.out.frozen 2
      have zl := HA2.out.lt
      go_wp2_with fail
      rw [← hw1]
      clear hw1
      refine (r12At_any w1 _ xs d.id HV.out hl).mono ?_
      rintro e' w2 ⟨rfl, hw2⟩
      have hw3 := hw2.symm
      subst hw3
      clear hw2
      rw [HQI.out]
      go_wp2_with fail
      refine (HCl.out _ HF1.out).mono ?_
      rintro e' w5 ⟨gb5, c5, rfl, hrg5, hf5, hn5⟩
      have HN5 : Hid (gb5 = gb ∨ w.heap.size ≤ gb5) := hid (hn5.imp id (fun h => Nat.le_trans HF0.out.size (Nat.le_trans (by first | exact HF1.out.size | exact (HF1.out.alloc _).size) h)))
      have hf15 := HF1.out.size
      have HF5 : Hid (Fr NoB w1 w5) := by first | exact HF1.out.trans hf5 | exact (HF1.out.alloc _).trans hf5
      have HRG5 := hid hrg5
      have HZ5 := hid (HA2.out.fr HF5.out (fun h => h))
      have HG5 := hid (HA0.out.fr HF5.out (fun h => h))
      clear d0 d1 d2 d3 d4 d5 d6 d7 d8 dl m0 m1 m2 ml mf0 mf1 mf2 z0 z1 z2 y0 y1 y2 zl
      clear hf5 hrg5 hn5 k0 k1 k2 k3 k4 k5 k6 gl hf15
      have n0 := HG5.out.cell 0 rfl
      have n1 := HG5.out.cell 1 rfl
      have n2 := HG5.out.cell 2 rfl
      have n3 := HG5.out.frozen 0
      have n4 := HG5.out.frozen 1
      have n5 := HG5.out.frozen 2
      have nl := HG5.out.lt
      have z0 := HZ5.out.cell 0 rfl
      have z1 := HZ5.out.cell 1 rfl
      have z2 := HZ5.out.cell 2 rfl
      have z3 := HZ5.out.frozen 0
      have z4 := HZ5.out.frozen 1
      have z5 := HZ5.out.frozen 2
      have zl := HZ5.out.lt
      unfold gV
      go_wp2
      have hgs := (((Fr.refl (At w.heap.size) w5).setAt 0 (.int .i64 10)).setAt 1 (.int .i64 10)).setAt 2 (.slice (some ⟨gb5, 0, none⟩) 100 c5)
      have hZ6 := HZ5.out.fr hgs (fun e => by have e' : w.heap.size + 1 + 1 = w.heap.size := e; omega)
      have hZF := ((hZ6.set 0 (.int .i64 10)).set 1 (.int .i64 10)).set 2 (.slice (some ⟨gb5, 0, none⟩) 100 c5)
      have r0 := hZF.cell 0 rfl
      have r1 := hZF.cell 1 rfl
      have r2 := hZF.cell 2 rfl
      have hzs := fun W => (((Fr.refl (At (w.heap.size + 1 + 1)) W).setAt 0 (.int .i64 10)).setAt 1 (.int .i64 10)).setAt 2 (.slice (some ⟨gb5, 0, none⟩) 100 c5)
      obtain ⟨rest, hv5⟩ := HRG5.out.row
      have hr6 := HRG5.out.fr hgs (fun e => absurd (blk_ty (show Blk w5 w.heap.size _ _ from e ▸ hv5.blk) HG5.out) (by decide))
      have hne : w.heap.size + 1 + 1 ≠ gb5 := fun e => absurd (blk_ty (show Blk w5 (w.heap.size + 1 + 1) _ _ from e ▸ hv5.blk) HZ5.out) (by decide)
      refine bodyPost_ret (v := .tuple #[gV gb5 c5, .int .i64 L.length, .int .i64 0]) (by simp [results, Try.results19, go_sem, r0, r1, r2, gV]) rfl ⟨gb5, c5, rfl, hr6.fr (hzs _) (fun e => hne e.symm), ((HF0.out.trans HF5.out).then_ hgs (fun j e => .inr (by have e' : j = w.heap.size := e; omega))).then_ (hzs _) (fun j e => .inr (by have e' : j = w.heap.size + 1 + 1 := e; omega)), HN5.out⟩
    have t0 : (d.do_ == 0) = false := by rw [beq_eq_false_iff_ne]; exact h0
    by_cases h1 : d.do_ = 1
    · have t1 : (d.do_ == 1) = true := by rw [beq_iff_eq]; exact h1
      simp only [if_neg h0, if_pos h1]
      clear h0 h1
      have HFl : Hid (∀ W c0, Fr NoB w1 W → Calls Try.prog 43 #[gV gb c, .slice (some ⟨g10, 0, none⟩) xs.length c9, t.v, d.r.v, c0.v] W (RDTo gb (refFL xs t d.r c0) cs W)) := hid fun W c0 hW => rfill_all d.r c0 (HRG.out.frd hW) (HV.out.fr hW (fun _ _ h => h)) hl HFI.out HFT.out
      unfold gV Wn.v Rc.v Cl.v at HFl
      cases hl0 : decide (0 < (d.l.length : Int))
      · have hn : d.l = [] := List.eq_nil_of_length_eq_zero (by have := of_decide_eq_false hl0; omega)
        have hnl : ¬ (0 < (d.l.length : Int)) := of_decide_eq_false hl0
        rw [show d.l.headD Cl.zero = Cl.zero from by rw [hn]; rfl]
        clear hn
        generalize hL : refFL xs t d.r Cl.zero = L
        have HFl2 := fun W hW => hid (HFl.out W Cl.zero hW)
        rw [hL] at HFl2
        clear hL
        go_enter Try.func19, Try.ntmps19
        have d0 := HA1.out.cell 0 rfl
        have d1 := HA1.out.cell 1 rfl
        have d2 := HA1.out.cell 2 rfl
        have d3 := HA1.out.cell 3 rfl
        have d4 := HA1.out.cell 4 rfl
        have d5 := HA1.out.cell 5 rfl
        have d6 := HA1.out.cell 6 rfl
        have d7 := HA1.out.cell 7 rfl
        have d8 := HA1.out.cell 8 rfl
        have dl := HA1.out.lt
        have m0 := HA0.out.cell 0 rfl
        have m1 := HA0.out.cell 1 rfl
        have m2 := HA0.out.cell 2 rfl
        have ml := HA0.out.lt
        have mf0 := HA0.out.frozen 0
        have mf1 := HA0.out.frozen 1
        have mf2 := HA0.out.frozen 2
        have z0 := HA2.out.cell 0 rfl
        have z1 := HA2.out.cell 1 rfl
        have z2 := HA2.out.cell 2 rfl
        have y0 := HA2.out.frozen 0
        have y1 := HA2.out.frozen 1
        have y2 := HA2.out.frozen 2
        have zl := HA2.out.lt
        go_wp2_with fail
        rw [← hw1]
        clear hw1
        refine (r12At_any w1 _ xs d.id HV.out hl).mono ?_
        rintro e' w2 ⟨rfl, hw2⟩
        have hw3 := hw2.symm
        subst hw3
        clear hw2
        rw [HQI.out]
        go_wp2_with fail
        refine (HFl2 _ (HF1.out.alloc _)).out.mono ?_
        rintro e' w5 ⟨gb5, c5, rfl, hrg5, hf5, hn5⟩
        have HN5 : Hid (gb5 = gb ∨ w.heap.size ≤ gb5) := hid (hn5.imp id (fun h => Nat.le_trans HF0.out.size (Nat.le_trans (by first | exact HF1.out.size | exact (HF1.out.alloc _).size) h)))
        have hf15 := HF1.out.size
        have HF5 : Hid (Fr NoB w1 w5) := by first | exact HF1.out.trans hf5 | exact (HF1.out.alloc _).trans hf5
        have HRG5 := hid hrg5
        have HZ5 := hid (HA2.out.fr HF5.out (fun h => h))
        have HG5 := hid (HA0.out.fr HF5.out (fun h => h))
        clear d0 d1 d2 d3 d4 d5 d6 d7 d8 dl m0 m1 m2 ml mf0 mf1 mf2 z0 z1 z2 y0 y1 y2 zl
        clear hf5 hrg5 hn5 k0 k1 k2 k3 k4 k5 k6 gl hf15
        have n0 := HG5.out.cell 0 rfl
        have n1 := HG5.out.cell 1 rfl
        have n2 := HG5.out.cell 2 rfl
        have n3 := HG5.out.frozen 0
        have n4 := HG5.out.frozen 1
        have n5 := HG5.out.frozen 2
        have nl := HG5.out.lt
        have z0 := HZ5.out.cell 0 rfl
        have z1 := HZ5.out.cell 1 rfl
        have z2 := HZ5.out.cell 2 rfl
        have z3 := HZ5.out.frozen 0
        have z4 := HZ5.out.frozen 1
        have z5 := HZ5.out.frozen 2
        have zl := HZ5.out.lt
        unfold gV
        go_wp2
        have hgs := (((Fr.refl (At w.heap.size) w5).setAt 0 (.int .i64 10)).setAt 1 (.int .i64 10)).setAt 2 (.slice (some ⟨gb5, 0, none⟩) 100 c5)
        have hZ6 := HZ5.out.fr hgs (fun e => by have e' : w.heap.size + 1 + 1 = w.heap.size := e; omega)
        have hZF := ((hZ6.set 0 (.int .i64 10)).set 1 (.int .i64 10)).set 2 (.slice (some ⟨gb5, 0, none⟩) 100 c5)
        have r0 := hZF.cell 0 rfl
        have r1 := hZF.cell 1 rfl
        have r2 := hZF.cell 2 rfl
        have hzs := fun W => (((Fr.refl (At (w.heap.size + 1 + 1)) W).setAt 0 (.int .i64 10)).setAt 1 (.int .i64 10)).setAt 2 (.slice (some ⟨gb5, 0, none⟩) 100 c5)
        obtain ⟨rest, hv5⟩ := HRG5.out.row
        have hr6 := HRG5.out.fr hgs (fun e => absurd (blk_ty (show Blk w5 w.heap.size _ _ from e ▸ hv5.blk) HG5.out) (by decide))
        have hne : w.heap.size + 1 + 1 ≠ gb5 := fun e => absurd (blk_ty (show Blk w5 (w.heap.size + 1 + 1) _ _ from e ▸ hv5.blk) HZ5.out) (by decide)
        refine bodyPost_ret (v := .tuple #[gV gb5 c5, .int .i64 L.length, .int .i64 0]) (by simp [results, Try.results19, go_sem, r0, r1, r2, gV]) rfl ⟨gb5, c5, rfl, hr6.fr (hzs _) (fun e => hne e.symm), ((HF0.out.trans HF5.out).then_ hgs (fun j e => .inr (by have e' : j = w.heap.size := e; omega))).then_ (hzs _) (fun j e => .inr (by have e' : j = w.heap.size + 1 + 1 := e; omega)), HN5.out⟩
      · have hnl : 0 < (d.l.length : Int) := of_decide_eq_true hl0
        have h0 : 0 < d.l.length := by omega
        obtain ⟨ad, hA, c0, cj⟩ := HCA.out.at_ 0 h0
        rw [Nat.zero_mul, Addr.add_zero'] at c0
        have c1 := cj 1 _ (by decide) rfl
        have c2 := cj 2 _ (by decide) rfl
        have c3 := cj 3 _ (by decide) rfl
        rw [Nat.zero_mul, Addr.add_zero'] at c1 c2 c3
        have hlt := HLT.out ad hA h0
        rw [show d.l.headD Cl.zero = d.l[0] from by rw [List.headD_eq_head?_getD, List.head?_eq_getElem?, List.getElem?_eq_getElem h0]; rfl]
        clear cj
        generalize d.l[0] = q0 at *
        generalize hL : refFL xs t d.r q0 = L
        have HFl2 := fun W hW => hid (HFl.out W q0 hW)
        rw [hL] at HFl2
        clear hL
        have HA := hid hA
        clear hA
        go_enter Try.func19, Try.ntmps19
        have d0 := HA1.out.cell 0 rfl
        have d1 := HA1.out.cell 1 rfl
        have d2 := HA1.out.cell 2 rfl
        have d3 := HA1.out.cell 3 rfl
        have d4 := HA1.out.cell 4 rfl
        have d5 := HA1.out.cell 5 rfl
        have d6 := HA1.out.cell 6 rfl
        have d7 := HA1.out.cell 7 rfl
        have d8 := HA1.out.cell 8 rfl
        have dl := HA1.out.lt
        have m0 := HA0.out.cell 0 rfl
        have m1 := HA0.out.cell 1 rfl
        have m2 := HA0.out.cell 2 rfl
        have ml := HA0.out.lt
        have mf0 := HA0.out.frozen 0
        have mf1 := HA0.out.frozen 1
        have mf2 := HA0.out.frozen 2
        have z0 := HA2.out.cell 0 rfl
        have z1 := HA2.out.cell 1 rfl
        have z2 := HA2.out.cell 2 rfl
        have y0 := HA2.out.frozen 0
        have y1 := HA2.out.frozen 1
        have y2 := HA2.out.frozen 2
        have zl := HA2.out.lt
        go_wp2_with fail
        rw [← hw1]
        clear hw1
        refine (r12At_any w1 _ xs d.id HV.out hl).mono ?_
        rintro e' w2 ⟨rfl, hw2⟩
        have hw3 := hw2.symm
        subst hw3
        clear hw2
        rw [HQI.out]
        have hA := HA.out
        go_wp2_with fail
        refine (HFl2 _ (HF1.out.alloc _)).out.mono ?_
        rintro e' w5 ⟨gb5, c5, rfl, hrg5, hf5, hn5⟩
        have HN5 : Hid (gb5 = gb ∨ w.heap.size ≤ gb5) := hid (hn5.imp id (fun h => Nat.le_trans HF0.out.size (Nat.le_trans (by first | exact HF1.out.size | exact (HF1.out.alloc _).size) h)))
        have hf15 := HF1.out.size
        have HF5 : Hid (Fr NoB w1 w5) := by first | exact HF1.out.trans hf5 | exact (HF1.out.alloc _).trans hf5
        have HRG5 := hid hrg5
        have HZ5 := hid (HA2.out.fr HF5.out (fun h => h))
        have HG5 := hid (HA0.out.fr HF5.out (fun h => h))
        clear d0 d1 d2 d3 d4 d5 d6 d7 d8 dl m0 m1 m2 ml mf0 mf1 mf2 z0 z1 z2 y0 y1 y2 zl
        clear hf5 hrg5 hn5 k0 k1 k2 k3 k4 k5 k6 gl hf15
        have n0 := HG5.out.cell 0 rfl
        have n1 := HG5.out.cell 1 rfl
        have n2 := HG5.out.cell 2 rfl
        have n3 := HG5.out.frozen 0
        have n4 := HG5.out.frozen 1
        have n5 := HG5.out.frozen 2
        have nl := HG5.out.lt
        have z0 := HZ5.out.cell 0 rfl
        have z1 := HZ5.out.cell 1 rfl
        have z2 := HZ5.out.cell 2 rfl
        have z3 := HZ5.out.frozen 0
        have z4 := HZ5.out.frozen 1
        have z5 := HZ5.out.frozen 2
        have zl := HZ5.out.lt
        unfold gV
        go_wp2
        have hgs := (((Fr.refl (At w.heap.size) w5).setAt 0 (.int .i64 10)).setAt 1 (.int .i64 10)).setAt 2 (.slice (some ⟨gb5, 0, none⟩) 100 c5)
        have hZ6 := HZ5.out.fr hgs (fun e => by have e' : w.heap.size + 1 + 1 = w.heap.size := e; omega)
        have hZF := ((hZ6.set 0 (.int .i64 10)).set 1 (.int .i64 10)).set 2 (.slice (some ⟨gb5, 0, none⟩) 100 c5)
        have r0 := hZF.cell 0 rfl
        have r1 := hZF.cell 1 rfl
        have r2 := hZF.cell 2 rfl
        have hzs := fun W => (((Fr.refl (At (w.heap.size + 1 + 1)) W).setAt 0 (.int .i64 10)).setAt 1 (.int .i64 10)).setAt 2 (.slice (some ⟨gb5, 0, none⟩) 100 c5)
        obtain ⟨rest, hv5⟩ := HRG5.out.row
        have hr6 := HRG5.out.fr hgs (fun e => absurd (blk_ty (show Blk w5 w.heap.size _ _ from e ▸ hv5.blk) HG5.out) (by decide))
        have hne : w.heap.size + 1 + 1 ≠ gb5 := fun e => absurd (blk_ty (show Blk w5 (w.heap.size + 1 + 1) _ _ from e ▸ hv5.blk) HZ5.out) (by decide)
        refine bodyPost_ret (v := .tuple #[gV gb5 c5, .int .i64 L.length, .int .i64 0]) (by simp [results, Try.results19, go_sem, r0, r1, r2, gV]) rfl ⟨gb5, c5, rfl, hr6.fr (hzs _) (fun e => hne e.symm), ((HF0.out.trans HF5.out).then_ hgs (fun j e => .inr (by have e' : j = w.heap.size := e; omega))).then_ (hzs _) (fun j e => .inr (by have e' : j = w.heap.size + 1 + 1 := e; omega)), HN5.out⟩
    · have t1 : (d.do_ == 1) = false := by rw [beq_eq_false_iff_ne]; exact h1
      simp only [if_neg h0, if_neg h1]
      clear h0 h1
      have HCp : Hid (∀ W, Fr NoB w1 W → Calls Try.prog 44 #[gV gb c, .slice (some ⟨g10, 0, none⟩) xs.length c9, t.v, d.r.v, .int .i64 d.x, .int .i64 d.y] W (RDTo gb (refKL xs t d.r d.x d.y cs) cs W)) := hid fun W hW => rcopy_all d.r d.x d.y (HRG.out.frd hW) (HV.out.fr hW (fun _ _ h => h)) hl HFI.out HFT.out
      generalize refKL xs t d.r d.x d.y cs = L at *
      unfold gV Wn.v Rc.v at HCp
      go_enter Try.func19, Try.ntmps19
      have d0 := HA1.out.cell 0 rfl
      have d1 := HA1.out.cell 1 rfl
      have d2 := HA1.out.cell 2 rfl
      have d3 := HA1.out.cell 3 rfl
      have d4 := HA1.out.cell 4 rfl
      have d5 := HA1.out.cell 5 rfl
      have d6 := HA1.out.cell 6 rfl
      have d7 := HA1.out.cell 7 rfl
      have d8 := HA1.out.cell 8 rfl
      have dl := HA1.out.lt
      have m0 := HA0.out.cell 0 rfl
      have m1 := HA0.out.cell 1 rfl
      have m2 := HA0.out.cell 2 rfl
      have ml := HA0.out.lt
      have mf0 := HA0.out.frozen 0
      have mf1 := HA0.out.frozen 1
      have mf2 := HA0.out.frozen 2
      have z0 := HA2.out.cell 0 rfl
      have z1 := HA2.out.cell 1 rfl
      have z2 := HA2.out.cell 2 rfl
      have y0 := HA2.out.frozen 0
      have y1 := HA2.out.frozen 1
      have y2 := HA2.out.frozen 2
      have zl := HA2.out.lt
      go_wp2_with fail
      rw [← hw1]
      clear hw1
      refine (r12At_any w1 _ xs d.id HV.out hl).mono ?_
      rintro e' w2 ⟨rfl, hw2⟩
      have hw3 := hw2.symm
      subst hw3
      clear hw2
      rw [HQI.out]
      go_wp2_with fail
      refine (HCp.out _ HF1.out).mono ?_
      rintro e' w5 ⟨gb5, c5, rfl, hrg5, hf5, hn5⟩
      have HN5 : Hid (gb5 = gb ∨ w.heap.size ≤ gb5) := hid (hn5.imp id (fun h => Nat.le_trans HF0.out.size (Nat.le_trans (by first | exact HF1.out.size | exact (HF1.out.alloc _).size) h)))
      have hf15 := HF1.out.size
      have HF5 : Hid (Fr NoB w1 w5) := by first | exact HF1.out.trans hf5 | exact (HF1.out.alloc _).trans hf5
      have HRG5 := hid hrg5
      have HZ5 := hid (HA2.out.fr HF5.out (fun h => h))
      have HG5 := hid (HA0.out.fr HF5.out (fun h => h))
      clear d0 d1 d2 d3 d4 d5 d6 d7 d8 dl m0 m1 m2 ml mf0 mf1 mf2 z0 z1 z2 y0 y1 y2 zl
      clear hf5 hrg5 hn5 k0 k1 k2 k3 k4 k5 k6 gl hf15
      have n0 := HG5.out.cell 0 rfl
      have n1 := HG5.out.cell 1 rfl
      have n2 := HG5.out.cell 2 rfl
      have n3 := HG5.out.frozen 0
      have n4 := HG5.out.frozen 1
      have n5 := HG5.out.frozen 2
      have nl := HG5.out.lt
      have z0 := HZ5.out.cell 0 rfl
      have z1 := HZ5.out.cell 1 rfl
      have z2 := HZ5.out.cell 2 rfl
      have z3 := HZ5.out.frozen 0
      have z4 := HZ5.out.frozen 1
      have z5 := HZ5.out.frozen 2
      have zl := HZ5.out.lt
      unfold gV
      go_wp2
      have hgs := (((Fr.refl (At w.heap.size) w5).setAt 0 (.int .i64 10)).setAt 1 (.int .i64 10)).setAt 2 (.slice (some ⟨gb5, 0, none⟩) 100 c5)
      have hZ6 := HZ5.out.fr hgs (fun e => by have e' : w.heap.size + 1 + 1 = w.heap.size := e; omega)
      have hZF := ((hZ6.set 0 (.int .i64 10)).set 1 (.int .i64 10)).set 2 (.slice (some ⟨gb5, 0, none⟩) 100 c5)
      have r0 := hZF.cell 0 rfl
      have r1 := hZF.cell 1 rfl
      have r2 := hZF.cell 2 rfl
      have hzs := fun W => (((Fr.refl (At (w.heap.size + 1 + 1)) W).setAt 0 (.int .i64 10)).setAt 1 (.int .i64 10)).setAt 2 (.slice (some ⟨gb5, 0, none⟩) 100 c5)
      obtain ⟨rest, hv5⟩ := HRG5.out.row
      have hr6 := HRG5.out.fr hgs (fun e => absurd (blk_ty (show Blk w5 w.heap.size _ _ from e ▸ hv5.blk) HG5.out) (by decide))
      have hne : w.heap.size + 1 + 1 ≠ gb5 := fun e => absurd (blk_ty (show Blk w5 (w.heap.size + 1 + 1) _ _ from e ▸ hv5.blk) HZ5.out) (by decide)
      refine bodyPost_ret (v := .tuple #[gV gb5 c5, .int .i64 L.length, .int .i64 0]) (by simp [results, Try.results19, go_sem, r0, r1, r2, gV]) rfl ⟨gb5, c5, rfl, hr6.fr (hzs _) (fun e => hne e.symm), ((HF0.out.trans HF5.out).then_ hgs (fun j e => .inr (by have e' : j = w.heap.size := e; omega))).then_ (hzs _) (fun j e => .inr (by have e' : j = w.heap.size + 1 + 1 := e; omega)), HN5.out⟩
end Go.Proofs.Ytnengimekcnfhaa
