import Derived.Test.YtnengimekcnfhaaDoorW1
import Derived.Test.YtnengimekcnfhaaDoorR1
import Derived.RegionTactic
import Derived.Shelf.Abstract
set_option linter.unusedSimpArgs false
set_option linter.unusedVariables false
set_option maxRecDepth 20000
namespace Go.Proofs.YtnengimekcnfhaaDoor
open Go.RowKit Go.Proofs.YtnengimekcnfhaaDoorW.PrintWords
set_option maxHeartbeats 2000000 in
theorem w_ix_any (w : World) (v : Value) (fn : Nat) (lb : Array Value) (p : Wn → Bool) (S : Nat → Prop) (xs : List Wn) (hV : WnS w v xs) (hP : WnPred fn lb p S w) (hl : xs.length ≤ 4096) :
    Calls Tryd.prog 54 #[v, .func (.func fn) #[] lb] w fun e' w' => e' = .returned (.int .i64 (wIx p xs)) ∧ Fr NoB w w' := by
  obtain ⟨eg, hP⟩ := hP
  rcases hV with ⟨rfl, rfl⟩ | ⟨g, c, rest, rfl, hV, hxc, hcm⟩
  · go_enter Tryd.func54, Tryd.ntmps54
    go_wp2
    go_loopw [8] (fun v8 wr => v8 = .int .i64 0 ∧ Fr NoB w wr) (fun v8 _ => 0)
    case atStart => exact ⟨rfl, Fr.refl _ _⟩
    case round =>
      obtain ⟨rfl, hf⟩ := hrel
      go_wp2
      go_ret
      exact ⟨rfl, hf⟩
  · go_enter Tryd.func54, Tryd.ntmps54
    go_wp2
    go_loopw [8] (fun v8 wr => ∃ k : Nat, k ≤ xs.length ∧ v8 = .int .i64 k ∧ (xs.take k).any p = false ∧ Fr NoB w wr) (fun v8 _ => xs.length - (intOf v8).toNat)
    case atStart => exact ⟨0, Nat.zero_le _, rfl, rfl, Fr.refl _ _⟩
    case round =>
      obtain ⟨k, hk, rfl, hp0, hf⟩ := hrel
      by_cases hkm : k < xs.length
      · obtain ⟨c0, c1, c2, c3, c4, c5, c6⟩ := WnV.cells (Vec.fr hV hf (fun h => h)) k hkm
        have hhit := wIx_hit (p := p) hkm hp0
        have hmiss : (xs.take (k + 1)).any p = p xs[k] := by rw [List.take_succ_eq_append_getElem hkm, List.any_append, hp0]; simp
        have hcall := hP wr xs[k] (hf.mono (fun _ h => h.elim))
        have HPd := hid hP
        clear hP
        unfold Wn.v at hcall
        generalize xs[k] = x at *
        have HP := hid hp0
        have HH := hid hhit
        have HM := hid hmiss
        have HC := hid hcall
        clear hp0 hhit hmiss hcall
        go_wp2_with fail
        refine (HC.out).mono ?_
        rintro e' w1 ⟨rfl, hf1⟩
        cases hx : p x
        · have HX := hid hx
          clear hx
          go_wp2
          go_roundw
          case rel => exact ⟨k + 1, by omega, by go_num, HM.out.trans HX.out, hf.trans hf1⟩
          case measure => simp [intOf]; omega
        · have HX := hid hx
          clear hx
          go_wp2
          go_ret
          exact ⟨by rw [HH.out HX.out]; rfl, hf.trans hf1⟩
      · obtain rfl : k = xs.length := by omega
        rw [List.take_length] at hp0
        have HP := hid (wIx_none hp0)
        clear hp0
        go_wp2
        go_ret
        exact ⟨by rw [HP.out]; rfl, hf⟩
/-- A stack of windows in memory. -/
structure SK (w : World) (b : Nat) (scr : Rc) (v : Value) (xs : List Wn) (next : Int) : Prop where
  blk : Blk w b 54 [.int .i64 scr.x, .int .i64 scr.y, .int .i64 scr.w, .int .i64 scr.h, v, .int .i64 next]
  row : WnS w v xs
theorem WnS.shape {w : World} {v : Value} {xs : List Wn} (h : WnS w v xs) : ∃ A c, v = .slice A xs.length c ∧ xs.length ≤ c ∧ c ≤ maxLen := by
  rcases h with ⟨rfl, rfl⟩ | ⟨g, c, rest, rfl, h1, h2, h3⟩
  · exact ⟨none, 0, rfl, Nat.le_refl _, Nat.zero_le _⟩
  · exact ⟨_, c, rfl, h2, h3⟩
theorem WnS.ne {w : World} {v : Value} {xs : List Wn} {b : Nat} {T : TypeId} {l : List Value} (h : WnS w v xs) (hb : Blk w b T l) (he : 58 ≠ T) : ¬ OwnB v b := by
  rcases h with ⟨rfl, rfl⟩ | ⟨g, c, rest, rfl, h1, h2, h3⟩
  · intro hk
    cases hk
  · intro hk
    obtain rfl : g = b := Option.some.inj hk
    have h5 := h1.blk
    unfold Blk at h5 hb
    rw [hb] at h5
    injection h5 with h3
    injection h3 with h4 h5
    exact he h5.symm
theorem WnS.lt {w : World} {v : Value} {xs : List Wn} (h : WnS w v xs) (k : Nat) (hk : OwnB v k) : k < w.heap.size := by
  rcases h with ⟨rfl, rfl⟩ | ⟨g, c, rest, rfl, h1, h2, h3⟩
  · cases hk
  · obtain rfl : g = k := Option.some.inj hk
    exact h1.blk.lt
theorem SK.fr {S : Nat → Prop} {w w1 : World} {b : Nat} {scr : Rc} {v : Value} {xs : List Wn} {next : Int} (h : SK w b scr v xs next) (hf : Fr S w w1) (hb : ¬ S b) (hv : ∀ k, OwnB v k → ¬ S k) : SK w1 b scr v xs next :=
  ⟨h.blk.fr hf hb, h.row.fr hf hv⟩
theorem SK.frd {w w1 : World} {b : Nat} {scr : Rc} {v : Value} {xs : List Wn} {next : Int} (h : SK w b scr v xs next) (hf : Fr NoB w w1) : SK w1 b scr v xs next := h.fr hf (fun h => h) (fun _ _ h => h)
theorem sNew_ok (w : World) (W H : Int) (h1 : 1 ≤ W) (h2 : W ≤ 512) (h3 : 1 ≤ H) (h4 : H ≤ 512) :
    Calls Tryd.prog 9 #[.int .i64 W, .int .i64 H] w fun e w' => ∃ b, e = .returned (.pointer (some ⟨b, 0, none⟩)) ∧ SK w' b ⟨0, 0, W, H⟩ (.slice none 0 0) [] 1 ∧ Fr NoB w w' ∧ w.heap.size ≤ b := by
  have t1 : decide (W < 1) = false := decide_eq_false (by omega)
  have t2 : decide (W > 512) = false := decide_eq_false (by omega)
  have t3 : decide (H < 1) = false := decide_eq_false (by omega)
  have t4 : decide (H > 512) = false := decide_eq_false (by omega)
  go_enter Tryd.func9, Tryd.ntmps9
  go_wp2
  go_ret
  exact ⟨_, rfl, ⟨Blk.new w 54 _, .inl ⟨rfl, rfl⟩⟩, (Fr.refl _ _).alloc _, Nat.le_refl _⟩
/-- A window of a number. -/
def byId (id : Int) (x : Wn) : Bool := x.id == id
theorem sat1_any (w : World) (t : Wn) (p : Nat) (id : Int) (hp : w.cell? ⟨p, 0, none⟩ = some (.int .i64 id)) (hpl : p < w.heap.size) :
    Calls Tryd.prog 55 #[t.v, .pointer (some ⟨p, 0, none⟩)] w fun e w' => e = .returned (.bool (byId id t)) ∧ Fr NoB w w' := by
  unfold Wn.v byId
  cases hi : (t.id == id)
  all_goals
    go_enter Tryd.func55, Tryd.ntmps55
    go_wp2
    go_ret
    exact ⟨rfl, (Fr.refl _ _).alloc _⟩
def idAt (id : Int) (xs : List Wn) : Int := wIx (byId id) xs
theorem sat_any (w : World) (b : Nat) (scr : Rc) (v : Value) (xs : List Wn) (next id : Int) (h : SK w b scr v xs next) (hl : xs.length ≤ 4096) :
    Calls Tryd.prog 50 #[.pointer (some ⟨b, 0, none⟩), .int .i64 id] w fun e w' => e = .returned (.int .i64 (idAt id xs)) ∧ Fr NoB w w' := by
  have c4 := h.blk.cell 4 rfl
  have hlt := h.blk.lt
  have hf0 : Fr NoB w (w.alloc (.cells #[.int .i64 id] 3)) := (Fr.refl _ _).alloc _
  have HR := hid (h.row.fr hf0 (fun _ _ h => h))
  have hP : WnPred 55 #[.pointer (some ⟨w.heap.size, 0, none⟩)] (byId id) NoB (w.alloc (.cells #[.int .i64 id] 3)) := by
    refine ⟨enters_of Tryd.func55 (by kernel_rfl) rfl, fun W x hW => ?_⟩
    have hb := (Blk.new w 3 [.int .i64 id]).fr hW (fun h => h)
    exact sat1_any W x w.heap.size id (hb.cell 0 rfl) hb.lt
  have HP := hid hP
  have HF0 := hid hf0
  obtain ⟨A, c, rfl, _, _⟩ := h.row.shape
  clear h hf0 hP
  go_enter Tryd.func50, Tryd.ntmps50
  go_wp2_with (go_at_call 54; refine (w_ix_any _ _ 55 _ (byId id) NoB xs HR.out HP.out hl).mono ?_; rintro e' w1 ⟨rfl, hf1⟩)
  go_ret
  exact ⟨rfl, HF0.out.trans hf1⟩
def Wn.r (t : Wn) : Rc := ⟨t.x, t.y, t.w, t.h⟩
/-- Is a rectangle a window's, on a screen? -/
def Fits (scr r : Rc) : Prop := r.Right ∧ ¬ r.emp ∧ scr.Right ∧ r.Right ∧ scr.both r = r
instance (scr r : Rc) : Decidable (Fits scr r) := inferInstanceAs (Decidable (_ ∧ _))
/-- Who owns a cell. -/
def ownerOf : List Wn → Int → Int → Int
  | [], _, _ => 0
  | t :: l, x, y => if t.hid = false ∧ t.r.has x y then t.id else ownerOf l x y
theorem ownerOf_hit {xs : List Wn} {k : Nat} {x y : Int} (hk : k < xs.length) (h0 : ∀ t ∈ xs.take k, ¬ (t.hid = false ∧ t.r.has x y)) (h : xs[k].hid = false ∧ xs[k].r.has x y) : ownerOf xs x y = xs[k].id := by
  induction xs generalizing k with
  | nil => simp at hk
  | cons t l ih =>
    cases k with
    | zero => exact if_pos h
    | succ k =>
      unfold ownerOf
      rw [if_neg (h0 t (by simp))]
      exact ih (by simpa using hk) (fun t ht => h0 t (by simp [ht])) h
theorem ownerOf_none {xs : List Wn} {x y : Int} (h0 : ∀ t ∈ xs, ¬ (t.hid = false ∧ t.r.has x y)) : ownerOf xs x y = 0 := by
  induction xs with
  | nil => rfl
  | cons t l ih =>
    unfold ownerOf
    rw [if_neg (h0 t (by simp))]
    exact ih (fun t ht => h0 t (by simp [ht]))
set_option maxHeartbeats 4000000 in
theorem sOwner_any (w : World) (b : Nat) (scr : Rc) (v : Value) (xs : List Wn) (next x y : Int) (h : SK w b scr v xs next) (hl : xs.length ≤ 4096) (hI : ∀ t ∈ xs, t.r.I) (hx : I64 x) (hy : I64 y) :
    Calls Tryd.prog 23 #[.pointer (some ⟨b, 0, none⟩), .int .i64 x, .int .i64 y] w fun e w' => e = .returned (.int .i64 (ownerOf xs x y)) ∧ Fr NoB w w' := by
  have c4 := h.blk.cell 4 rfl
  have hlt := h.blk.lt
  rcases h.row with ⟨rfl, rfl⟩ | ⟨g, c, rest, rfl, hV, hxc, hcm⟩
  · clear h
    go_enter Tryd.func23, Tryd.ntmps23
    go_wp2
    go_loopw [14] (fun v14 wr => v14 = .int .i64 0 ∧ Fr NoB w wr) (fun v14 _ => 0)
    case atStart => exact ⟨rfl, Fr.refl _ _⟩
    case round =>
      obtain ⟨rfl, hf⟩ := hrel
      go_wp2
      go_ret
      exact ⟨rfl, hf⟩
  · have HV := hid hV
    have HI := hid hI
    have HX := hid hx
    have HY := hid hy
    clear h hV hI hx hy
    go_enter Tryd.func23, Tryd.ntmps23
    go_wp2
    go_loopw [14] (fun v14 wr => ∃ k : Nat, k ≤ xs.length ∧ v14 = .int .i64 k ∧ Hid (∀ t ∈ xs.take k, ¬ (t.hid = false ∧ t.r.has x y)) ∧ Hid (Fr NoB w wr)) (fun v14 _ => xs.length - (intOf v14).toNat)
    case atStart => exact ⟨0, Nat.zero_le _, rfl, (fun t ht => by simp at ht), Fr.refl _ _⟩
    case round =>
      obtain ⟨k, hk, rfl, H0, HF⟩ := hrel
      by_cases hkm : k < xs.length
      · obtain ⟨k0, k1, k2, k3, k4, k5, k6⟩ := WnV.cells (Vec.fr HV.out HF.out (fun h => h)) k hkm
        have hhit := fun h => ownerOf_hit (x := x) (y := y) hkm H0.out h
        have hmiss : ¬ (xs[k].hid = false ∧ xs[k].r.has x y) → ∀ t ∈ xs.take (k + 1), ¬ (t.hid = false ∧ t.r.has x y) := fun h t ht => by
          rw [List.take_succ_eq_append_getElem hkm] at ht
          rcases List.mem_append.1 ht with h5 | h5
          · exact H0.out t h5
          · rw [List.mem_singleton.1 h5]
            exact h
        have hti := HI.out _ (List.getElem_mem hkm)
        have HH := hid hhit
        have HM := hid hmiss
        have HT := hid hti
        clear hhit hmiss hti
        generalize xs[k] = t at *
        obtain ⟨tid, tenv, tx, ty, tw, th, thid⟩ := t
        simp only at k0 k1 k2 k3 k4 k5 k6
        have hIn := fun w => rIn_any w (Wn.r ⟨tid, tenv, tx, ty, tw, th, thid⟩) x y HT.out HX.out HY.out
        have HIn : ∀ w, Hid (Calls Tryd.prog 25 #[.agg #[.int .i64 tx, .int .i64 ty, .int .i64 tw, .int .i64 th], .int .i64 x, .int .i64 y] w fun e w' => e = .returned (.bool (decide (Rc.has (Wn.r ⟨tid, tenv, tx, ty, tw, th, thid⟩) x y))) ∧ Fr NoB w w') := hIn
        clear hIn
        have hB := Blk.new wr 58 (Wn.cells ⟨tid, tenv, tx, ty, tw, th, thid⟩)
        have HB := hid hB
        clear hB
        cases thid
        · cases hin : decide (Rc.has (Wn.r ⟨tid, tenv, tx, ty, tw, th, false⟩) x y)
          · rw [hin] at HIn
            have HN := hid (HM.out (fun h => of_decide_eq_false hin h.2))
            clear hin HM HH
            go_wp2_with fail
            refine (HIn _).out.mono ?_
            rintro e' w1 ⟨rfl, hf1⟩
            have HF1 := hid ((HF.out.alloc _).trans hf1)
            clear hf1
            go_wp2
            go_roundw
            case rel => exact ⟨k + 1, by omega, by go_num, HN.out, HF1.out⟩
            case measure => simp [intOf]; omega
          · rw [hin] at HIn
            have HN := hid (HH.out ⟨rfl, of_decide_eq_true hin⟩)
            clear hin HM HH
            go_wp2_with fail
            refine (HIn _).out.mono ?_
            rintro e' w1 ⟨rfl, hf1⟩
            have p0 := (HB.out.fr hf1 (fun h => h)).cell 0 rfl
            have plt := (HB.out.fr hf1 (fun h => h)).lt
            have HF1 := hid ((HF.out.alloc _).trans hf1)
            clear hf1
            go_wp2
            go_ret
            exact ⟨by rw [HN.out]; rfl, HF1.out⟩
        · have HN := hid (HM.out (fun h => by cases h.1))
          clear HM HH
          go_wp2
          go_roundw
          case rel => exact ⟨k + 1, by omega, by go_num, HN.out, HF.out.alloc _⟩
          case measure => simp [intOf]; omega
      · obtain rfl : k = xs.length := by omega
        rw [List.take_length] at H0
        have HZ := hid (ownerOf_none H0.out)
        go_wp2
        go_ret
        exact ⟨by rw [HZ.out]; rfl, HF.out⟩
end Go.Proofs.YtnengimekcnfhaaDoor
set_option linter.unusedSimpArgs false
set_option linter.unusedVariables false
set_option maxRecDepth 20000
namespace Go.Proofs.YtnengimekcnfhaaDoor
open Go.RowKit Go.Proofs.YtnengimekcnfhaaDoorW.PrintWords
def Wn.nil : Wn := ⟨0, 0, 0, 0, 0, 0, false⟩
/-- A window of a number, if there is one. -/
def getW (xs : List Wn) (id : Int) : Option Wn := xs.find? (byId id)
theorem cellto {w w1 : World} {a : Addr} {v : Value} (h : w.cell? a = some v) (hf : Fr NoB w w1) : w1.cell? a = some v :=
  (World.cell?_of_block (w' := w1) (hf.block a.block (cell_lt h) (fun h => h))).trans h
theorem idAt_some {xs : List Wn} {id : Int} {t : Wn} (h : getW xs id = some t) : ∃ k, ∃ hk : k < xs.length, idAt id xs = k ∧ xs[k] = t ∧ t.id = id := by
  unfold getW at h
  obtain ⟨hp, l1, l2, rfl, hn⟩ := List.find?_eq_some_iff_append.1 h
  refine ⟨l1.length, by simp, ?_, by simp, by unfold byId at hp; simpa using hp⟩
  have h5 := wIx_hit (p := byId id) (xs := l1 ++ t :: l2) (k := l1.length) (by simp) (by
    rw [List.take_left]
    rw [List.any_eq_false]
    intro x hx
    have := hn x hx
    simpa using this) (by simpa using hp)
  exact h5
theorem idAt_none {xs : List Wn} {id : Int} (h : getW xs id = none) : idAt id xs = -1 := by
  unfold getW at h
  rw [List.find?_eq_none] at h
  refine wIx_none ?_
  rw [List.any_eq_false]
  exact h
/-- A block of seven cells that a window is put into. -/
def put7 (w : World) (b : Nat) (t : Wn) : World := ((((((w.setCell ⟨b, 0, none⟩ (.int .i64 t.id)).setCell ⟨b, 1, none⟩ (.int .i64 t.env)).setCell ⟨b, 2, none⟩ (.int .i64 t.x)).setCell ⟨b, 3, none⟩ (.int .i64 t.y)).setCell ⟨b, 4, none⟩ (.int .i64 t.w)).setCell ⟨b, 5, none⟩ (.int .i64 t.h)).setCell ⟨b, 6, none⟩ (.bool t.hid)
theorem put7_blk {w : World} {b : Nat} {T : TypeId} {u : Wn} (h : Blk w b T u.cells) (t : Wn) : Blk (put7 w b t) b T t.cells :=
  ((((((h.set 0 (.int .i64 t.id)).set 1 (.int .i64 t.env)).set 2 (.int .i64 t.x)).set 3 (.int .i64 t.y)).set 4 (.int .i64 t.w)).set 5 (.int .i64 t.h)).set 6 (.bool t.hid)
theorem put7_fr {S : Nat → Prop} {w w1 : World} {b : Nat} (h : Fr S w w1) (hb : S b ∨ w.heap.size ≤ b) (t : Wn) : Fr S w (put7 w1 b t) :=
  ((((((h.setCell (p := ⟨b, 0, none⟩) hb _).setCell (p := ⟨b, 1, none⟩) hb _).setCell (p := ⟨b, 2, none⟩) hb _).setCell (p := ⟨b, 3, none⟩) hb _).setCell (p := ⟨b, 4, none⟩) hb _).setCell (p := ⟨b, 5, none⟩) hb _).setCell (p := ⟨b, 6, none⟩) hb _
set_option maxHeartbeats 4000000 in
theorem sGet_any (w : World) (b : Nat) (scr : Rc) (v : Value) (xs : List Wn) (next id : Int) (h : SK w b scr v xs next) (hl : xs.length ≤ 4096) :
    Calls Tryd.prog 37 #[.pointer (some ⟨b, 0, none⟩), .int .i64 id] w fun e w' => e = .returned (.tuple #[((getW xs id).getD Wn.nil).v, .bool (getW xs id).isSome]) ∧ Fr NoB w w' := by
  have hf0 : Fr NoB w (w.alloc (.cells #[.int .i64 0, .int .i64 0, .int .i64 0, .int .i64 0, .int .i64 0, .int .i64 0, .bool false] 58)) := (Fr.refl _ _).alloc _
  have HF0 := hid hf0
  have HAT := hid (sat_any _ b scr v xs next id (h.frd hf0) hl)
  have HB0 := hid (Blk.new w 58 (Wn.cells Wn.nil))
  have HK := hid h
  cases hg : getW xs id with
  | none =>
    have hi := idAt_none hg
    rw [hi] at HAT
    clear h hf0 hg hi
    go_enter Tryd.func37, Tryd.ntmps37
    go_wp2_with fail
    refine HAT.out.mono ?_
    rintro e' w1 ⟨rfl, hf1⟩
    have hB := HB0.out.fr hf1 (fun h => h)
    unfold Wn.cells at hB
    have q0 := hB.cell 0 rfl
    have q1 := hB.cell 1 rfl
    have q2 := hB.cell 2 rfl
    have q3 := hB.cell 3 rfl
    have q4 := hB.cell 4 rfl
    have q5 := hB.cell 5 rfl
    have q6 := hB.cell 6 rfl
    have p0 := hB.frozen 0
    have p1 := hB.frozen 1
    have p2 := hB.frozen 2
    have p3 := hB.frozen 3
    have p4 := hB.frozen 4
    have p5 := hB.frozen 5
    have p6 := hB.frozen 6
    have plt := hB.lt
    have hBF := put7_blk (u := Wn.nil) hB Wn.nil
    have r0 := hBF.cell 0 rfl
    have r1 := hBF.cell 1 rfl
    have r2 := hBF.cell 2 rfl
    have r3 := hBF.cell 3 rfl
    have r4 := hBF.cell 4 rfl
    have r5 := hBF.cell 5 rfl
    have r6 := hBF.cell 6 rfl
    unfold put7 at r0 r1 r2 r3 r4 r5 r6
    dsimp only [Wn.nil] at r0 r1 r2 r3 r4 r5 r6
    go_wp2
    refine bodyPost_ret (v := .tuple #[Wn.v Wn.nil, .bool false]) (by simp [results, Tryd.results37, go_sem, r0, r1, r2, r3, r4, r5, r6, Wn.v, Wn.nil]) rfl ⟨rfl, put7_fr (HF0.out.trans hf1) (.inr (Nat.le_refl _)) Wn.nil⟩
  | some t =>
    obtain ⟨k, hk, hi, hkt, hti⟩ := idAt_some hg
    clear hti
    rw [hi] at HAT
    obtain ⟨A, c, hv, hxc, hcm⟩ := h.row.shape
    have HKT := hid hkt
    have hvec : ∃ g, A = some ⟨g, 0, none⟩ ∧ ∃ rest, Hid (WnV w g xs rest c) := by
      rcases h.row with ⟨h1, h2⟩ | ⟨g, c', rest, h1, h2, _⟩
      · rw [h2] at hk
        simp at hk
      · rw [hv] at h1
        injection h1 with e1 e2 e3
        subst e1
        subst e3
        exact ⟨g, rfl, rest, h2⟩
    obtain ⟨g, rfl, rest, HV⟩ := hvec
    subst hv
    have c4 := h.blk.cell 4 rfl
    have hlt := h.blk.lt
    clear h hf0 hg hi hkt
    go_enter Tryd.func37, Tryd.ntmps37
    go_wp2_with fail
    refine HAT.out.mono ?_
    rintro e' w1 ⟨rfl, hf1⟩
    have hB := HB0.out.fr hf1 (fun h => h)
    have hF1 := hid (HF0.out.trans hf1)
    have d4 := cellto c4 hF1.out
    obtain ⟨k0, k1, k2, k3, k4, k5, k6⟩ := WnV.cells (Vec.fr HV.out hF1.out (fun h => h)) k hk
    rw [show xs[k] = t from HKT.out] at k0 k1 k2 k3 k4 k5 k6
    unfold Wn.cells at hB
    have q0 := hB.cell 0 rfl
    have q1 := hB.cell 1 rfl
    have q2 := hB.cell 2 rfl
    have q3 := hB.cell 3 rfl
    have q4 := hB.cell 4 rfl
    have q5 := hB.cell 5 rfl
    have q6 := hB.cell 6 rfl
    have p0 := hB.frozen 0
    have p1 := hB.frozen 1
    have p2 := hB.frozen 2
    have p3 := hB.frozen 3
    have p4 := hB.frozen 4
    have p5 := hB.frozen 5
    have p6 := hB.frozen 6
    have plt := hB.lt
    go_wp2
    have hBF := put7_blk (u := Wn.nil) hB t
    have r0 := hBF.cell 0 rfl
    have r1 := hBF.cell 1 rfl
    have r2 := hBF.cell 2 rfl
    have r3 := hBF.cell 3 rfl
    have r4 := hBF.cell 4 rfl
    have r5 := hBF.cell 5 rfl
    have r6 := hBF.cell 6 rfl
    unfold put7 at r0 r1 r2 r3 r4 r5 r6
    try dsimp only at r0 r1 r2 r3 r4 r5 r6
    refine bodyPost_ret (v := .tuple #[Wn.v t, .bool true]) (by simp [results, Tryd.results37, go_sem, r0, r1, r2, r3, r4, r5, r6, Wn.v]) rfl ⟨rfl, put7_fr (HF0.out.trans hf1) (.inr (Nat.le_refl _)) t⟩
end Go.Proofs.YtnengimekcnfhaaDoor
set_option linter.unusedSimpArgs false
set_option linter.unusedVariables false
set_option maxRecDepth 20000
namespace Go.Proofs.YtnengimekcnfhaaDoor
open Go.RowKit Go.Proofs.YtnengimekcnfhaaDoorW.PrintWords
set_option maxHeartbeats 4000000 in
theorem sfits_any (w : World) (b : Nat) (scr : Rc) (v : Value) (xs : List Wn) (next : Int) (r : Rc) (h : SK w b scr v xs next) :
    Calls Tryd.prog 18 #[.pointer (some ⟨b, 0, none⟩), r.v] w fun e w' => e = .returned (.bool (decide (Fits scr r))) ∧ Fr NoB w w' := by
  have hf0 : Fr NoB w (w.alloc (.cells #[.int .i64 r.x, .int .i64 r.y, .int .i64 r.w, .int .i64 r.h] 37)) := (Fr.refl _ _).alloc _
  have HF0 := hid hf0
  have hB0 := Blk.new w 37 r.cells
  have hS0 := h.blk.fr hf0 (fun h => h)
  have HR := fun w => hid (rRight_any w r)
  have HE := fun w => hid (rEmpty_any w r)
  have hlt := h.blk.lt
  have e1 : r.v = .agg #[.int .i64 r.x, .int .i64 r.y, .int .i64 r.w, .int .i64 r.h] := rfl
  unfold Rc.v at HR HE
  rw [e1]
  clear e1
  cases hr : decide r.Right
  · rw [show decide (Fits scr r) = false from decide_eq_false (fun h => of_decide_eq_false hr h.1)]
    have q0 := hB0.cell 0 rfl
    have q1 := hB0.cell 1 rfl
    have q2 := hB0.cell 2 rfl
    have q3 := hB0.cell 3 rfl
    have s0 := hS0.cell 0 rfl
    have s1 := hS0.cell 1 rfl
    have s2 := hS0.cell 2 rfl
    have s3 := hS0.cell 3 rfl
    clear h hB0 hS0 hf0
    go_enter Tryd.func18, Tryd.ntmps18
    go_wp2_with fail
    first | (go_region_with (first | (go_at_call 21; refine (HR _).out.mono ?_; rintro e' w6 ⟨rfl, hf6⟩; rw [hr]) | fail)) | fail
    all_goals
      go_wp2
      go_ret
      exact ⟨rfl, HF0.out.trans (Fr.trans (Fr.drew (Fr.refl _ _)) hf6)⟩
  cases he : decide r.emp
  · have hr' := of_decide_eq_true hr
    have he' := of_decide_eq_false he
    have hd : decide (Fits scr r) = decide (scr.Right ∧ r.Right ∧ scr.both r = r) := decide_eq_decide.2 ⟨fun h => h.2.2, fun h => ⟨hr', he', h⟩⟩
    rw [hd]
    have HH := fun w => hid (rHas_any w scr r he')
    have HH' : ∀ w, Hid (Calls Tryd.prog 34 #[.agg #[.int .i64 scr.x, .int .i64 scr.y, .int .i64 scr.w, .int .i64 scr.h], .agg #[.int .i64 r.x, .int .i64 r.y, .int .i64 r.w, .int .i64 r.h]] w fun e w' => e = .returned (.bool (decide (scr.Right ∧ r.Right ∧ scr.both r = r))) ∧ Fr NoB w w') := HH
    generalize decide (scr.Right ∧ r.Right ∧ scr.both r = r) = ans at HH' ⊢
    have hB0' := hid hB0
    have hS0' := hid hS0
    have HS : Hid (∀ W, Fr NoB (w.alloc (.cells #[.int .i64 r.x, .int .i64 r.y, .int .i64 r.w, .int .i64 r.h] 37)) W → (Fr NoB (w.alloc (.cells #[.int .i64 r.x, .int .i64 r.y, .int .i64 r.w, .int .i64 r.h] 37)) W ∧ W.cell? ⟨w.heap.size, 0, none⟩ = some (.int .i64 r.x) ∧ W.cell? ⟨w.heap.size, 1, none⟩ = some (.int .i64 r.y) ∧ W.cell? ⟨w.heap.size, 2, none⟩ = some (.int .i64 r.w) ∧ W.cell? ⟨w.heap.size, 3, none⟩ = some (.int .i64 r.h) ∧
        W.cell? ⟨b, 0, none⟩ = some (.int .i64 scr.x) ∧ W.cell? ⟨b, 1, none⟩ = some (.int .i64 scr.y) ∧ W.cell? ⟨b, 2, none⟩ = some (.int .i64 scr.w) ∧ W.cell? ⟨b, 3, none⟩ = some (.int .i64 scr.h))) := fun W hW => by
      have h1 := hB0'.out.fr hW (fun h => h)
      have h2 := hS0'.out.fr hW (fun h => h)
      exact ⟨hW, h1.cell 0 rfl, h1.cell 1 rfl, h1.cell 2 rfl, h1.cell 3 rfl, h2.cell 0 rfl, h2.cell 1 rfl, h2.cell 2 rfl, h2.cell 3 rfl⟩
    clear h hB0 hS0 hf0 hd HH hr' he'
    go_enter Tryd.func18, Tryd.ntmps18
    go_wp2_with fail
    go_region_held3 (fun W : World => Fr NoB (w.alloc (.cells #[.int .i64 r.x, .int .i64 r.y, .int .i64 r.w, .int .i64 r.h] 37)) W ∧ W.cell? ⟨w.heap.size, 0, none⟩ = some (.int .i64 r.x) ∧ W.cell? ⟨w.heap.size, 1, none⟩ = some (.int .i64 r.y) ∧ W.cell? ⟨w.heap.size, 2, none⟩ = some (.int .i64 r.w) ∧ W.cell? ⟨w.heap.size, 3, none⟩ = some (.int .i64 r.h) ∧
        W.cell? ⟨b, 0, none⟩ = some (.int .i64 scr.x) ∧ W.cell? ⟨b, 1, none⟩ = some (.int .i64 scr.y) ∧ W.cell? ⟨b, 2, none⟩ = some (.int .i64 scr.w) ∧ W.cell? ⟨b, 3, none⟩ = some (.int .i64 scr.h)) (first | exact HS.out _ (Fr.drew (Fr.refl _ _)) | exact HS.out _ (Fr.trans (by assumption : Fr NoB _ _ ∧ _ ∧ _).1 (by assumption)) | exact HS.out _ (by assumption) | fail) (first | (go_at_call 21; refine (HR _).out.mono ?_; rintro e' w6 ⟨rfl, hf6⟩; rw [hr]) | (go_at_call 33; refine (HE _).out.mono ?_; rintro e' w7 ⟨rfl, hf7⟩; rw [he]) | (go_at_call 34; refine (HH' _).out.mono ?_; rintro e' w8 ⟨rfl, hf8⟩) | fail)
    have hF8 := (by assumption : Fr NoB _ w8 ∧ _ ∧ _).1
    go_wp2
    go_ret
    exact ⟨rfl, HF0.out.trans hF8⟩
  · rw [show decide (Fits scr r) = false from decide_eq_false (fun h => h.2.1 (of_decide_eq_true he))]
    have q0 := hB0.cell 0 rfl
    have q1 := hB0.cell 1 rfl
    have q2 := hB0.cell 2 rfl
    have q3 := hB0.cell 3 rfl
    have s0 := hS0.cell 0 rfl
    have s1 := hS0.cell 1 rfl
    have s2 := hS0.cell 2 rfl
    have s3 := hS0.cell 3 rfl
    have HB0 := hid hB0
    have HS0 := hid hS0
    clear h hB0 hS0 hf0
    go_enter Tryd.func18, Tryd.ntmps18
    go_wp2_with fail
    first | (go_region_with (first | (go_at_call 21; refine (HR _).out.mono ?_; rintro e' w6 ⟨rfl, hf6⟩; rw [hr]; have B6 := HB0.out.fr (Fr.trans (Fr.drew (Fr.refl _ _)) hf6) (fun h => h); have z0 := B6.cell 0 rfl; have z1 := B6.cell 1 rfl; have z2 := B6.cell 2 rfl; have z3 := B6.cell 3 rfl; have S6 := HS0.out.fr (Fr.trans (Fr.drew (Fr.refl _ _)) hf6) (fun h => h); have y0 := S6.cell 0 rfl; have y1 := S6.cell 1 rfl; have y2 := S6.cell 2 rfl; have y3 := S6.cell 3 rfl) | (go_at_call 33; refine (HE _).out.mono ?_; rintro e' w7 ⟨rfl, hf7⟩; rw [he]) | fail)) | fail
    all_goals
      go_wp2
      go_ret
      exact ⟨rfl, HF0.out.trans (Fr.trans (Fr.trans (Fr.drew (Fr.refl _ _)) hf6) hf7)⟩
end Go.Proofs.YtnengimekcnfhaaDoor
set_option linter.unusedSimpArgs false
set_option linter.unusedVariables false
set_option maxRecDepth 20000
namespace Go.Proofs.YtnengimekcnfhaaDoor
open Go.RowKit Go.Proofs.YtnengimekcnfhaaDoorW.PrintWords
/-- What a stack's function writes to. -/
def SB (b : Nat) (v : Value) : Nat → Prop := fun k => k = b ∨ OwnB v k
/-- A stack's function's end. -/
def SKto (b : Nat) (scr : Rc) (v : Value) (xs' : List Wn) (next' : Int) (r : Value) (w : World) (e : Ending) (w' : World) : Prop :=
  e = .returned r ∧ ∃ v', SK w' b scr v' xs' next' ∧ Fr (SB b v) w w' ∧ ∀ k, OwnB v' k → OwnB v k ∨ w.heap.size ≤ k
theorem SK.same {w w' : World} {b : Nat} {scr : Rc} {v : Value} {xs : List Wn} {next : Int} (h : SK w b scr v xs next) (hf : Fr NoB w w') (r : Value) : SKto b scr v xs next r w (.returned r) w' :=
  ⟨rfl, v, h.frd hf, hf.mono (fun _ h => h.elim), fun k hk => .inl hk⟩
structure AddR where
  xs : List Wn
  next : Int
  id : Int
  e : Int
def addR (scr : Rc) (xs : List Wn) (next env : Int) (r : Rc) : AddR :=
  if env < 0 then ⟨xs, next, 0, 1⟩ else if ¬ Fits scr r then ⟨xs, next, 0, 2⟩ else if xs.length = 256 then ⟨xs, next, 0, 3⟩ else ⟨⟨next, env, r.x, r.y, r.w, r.h, false⟩ :: xs, next + 1, next, 0⟩
set_option maxHeartbeats 8000000 in
theorem sAdd_any (w : World) (b : Nat) (scr : Rc) (v : Value) (xs : List Wn) (next env : Int) (r : Rc) (h : SK w b scr v xs next) (hl : xs.length ≤ 256) (hn0 : 0 ≤ next) (hn1 : next ≤ 1000000) :
    Calls Tryd.prog 10 #[.pointer (some ⟨b, 0, none⟩), .int .i64 env, r.v] w (SKto b scr v (addR scr xs next env r).xs (addR scr xs next env r).next (.tuple #[.int .i64 (addR scr xs next env r).id, .int .i64 (addR scr xs next env r).e]) w) := by
  have HK := hid h
  have hf0 : Fr NoB w (w.alloc (.cells #[.int .i64 r.x, .int .i64 r.y, .int .i64 r.w, .int .i64 r.h] 37)) := (Fr.refl _ _).alloc _
  have HF0 := hid hf0
  have HB0 := hid (Blk.new w 37 r.cells)
  have HFI := hid (sfits_any _ b scr v xs next r (h.frd hf0))
  unfold Rc.v at HFI
  have e1 : r.v = .agg #[.int .i64 r.x, .int .i64 r.y, .int .i64 r.w, .int .i64 r.h] := rfl
  rw [e1]
  have c4 := h.blk.cell 4 rfl
  have hlt := h.blk.lt
  unfold addR
  clear e1 h hf0
  by_cases henv : env < 0
  · rw [if_pos henv]
    have t1 : decide (env < 0) = true := decide_eq_true henv
    clear henv
    go_enter Tryd.func10, Tryd.ntmps10
    go_wp2
    go_ret2
    exact HK.out.same HF0.out _
  rw [if_neg henv]
  have t1 : decide (env < 0) = false := decide_eq_false henv
  cases hfit : decide (Fits scr r)
  · have hF := of_decide_eq_false hfit
    rw [if_pos hF]
    rw [hfit] at HFI
    clear henv hfit hF
    go_enter Tryd.func10, Tryd.ntmps10
    go_wp2_with fail
    refine HFI.out.mono ?_
    rintro e' w1 ⟨rfl, hf1⟩
    go_wp2
    go_ret2
    exact HK.out.same (HF0.out.trans hf1) _
  have hF := of_decide_eq_true hfit
  rw [if_neg (fun h => h hF)]
  rw [hfit] at HFI
  obtain ⟨A, c, hv, hxc, hcm⟩ := HK.out.row.shape
  by_cases hfull : xs.length = 256
  · rw [if_pos hfull]
    rw [hv] at c4
    have t2 : ((xs.length : Int) == 256) = true := by rw [beq_iff_eq]; omega
    clear henv hfit hF
    have HFU := hid hfull
    have HV := hid hv
    clear hfull hv
    go_enter Tryd.func10, Tryd.ntmps10
    go_wp2_with fail
    refine HFI.out.mono ?_
    rintro e' w1 ⟨rfl, hf1⟩
    have d4 := cellto c4 (HF0.out.trans hf1)
    go_wp2
    go_ret2
    exact HK.out.same (HF0.out.trans hf1) _
  rw [if_neg hfull]
  have t2 : ((xs.length : Int) == 256) = false := by rw [beq_eq_false_iff_ne]; omega
  have hl' : xs.length + 1 ≤ 4096 := by omega
  have HV := hid hv
  rw [hv] at c4
  clear henv hfit hF hfull hv
  go_enter Tryd.func10, Tryd.ntmps10
  go_wp2_with fail
  refine HFI.out.mono ?_
  rintro e' w1 ⟨rfl, hf1⟩
  have hF1 := hid (HF0.out.trans hf1)
  have hK1 := HK.out.frd hF1.out
  have HK1 := hid hK1
  have d4 := hK1.blk.cell 4 rfl
  have d5 := hK1.blk.cell 5 rfl
  have g5 := hK1.blk.frozen 5
  have g4 := hK1.blk.frozen 4
  have dlt := hK1.blk.lt
  rw [show v = _ from HV.out] at d4
  have hB1 := HB0.out.fr hf1 (fun h => h)
  have q0 := hB1.cell 0 rfl
  have q1 := hB1.cell 1 rfl
  have q2 := hB1.cell 2 rfl
  have q3 := hB1.cell 3 rfl
  have hNE : Hid (¬ OwnB v w1.heap.size) := fun hk => by have := HK1.out.row.lt _ hk; omega
  have hBI : Hid (Blk (w1.alloc (.cells #[.int .i64 next, .int .i64 env, .int .i64 r.x, .int .i64 r.y, .int .i64 r.w, .int .i64 r.h, .bool false] 58)).drew w1.heap.size 58 (Wn.mk next env r.x r.y r.w r.h false).cells) := (Blk.new w1 58 (Wn.mk next env r.x r.y r.w r.h false).cells).drew
  have hVI : WnS (w1.alloc (.cells #[.int .i64 next, .int .i64 env, .int .i64 r.x, .int .i64 r.y, .int .i64 r.w, .int .i64 r.h, .bool false] 58)).drew v xs := HK1.out.row.fr (((Fr.refl NoB w1).alloc _).drew) (fun _ _ h => h)
  have HIns := hid (w_ins_any _ v xs 0 ⟨next, env, r.x, r.y, r.w, r.h, false⟩ w1.heap.size hVI (Nat.zero_le _) hl' hBI.out hNE.out)
  rw [List.take_zero, List.nil_append, List.drop_zero] at HIns
  have HNEb : Hid (¬ OwnB v b) := hid (HK1.out.row.ne HK1.out.blk (by decide))
  rw [show v = _ from HV.out] at HIns
  clear hK1 hB1 hVI c4 hf1
  go_wp2_with fail
  go_region_with (go_at_call 19; refine HIns.out.mono ?_; rintro e' w5 ⟨v5, rfl, hV5, hf5, ho5⟩; obtain ⟨A5, c5, hv5, _, _⟩ := hV5.shape; have hB5 := (HK1.out.blk.fr (((Fr.refl NoB w1).alloc _).drew) (fun h => h)).fr hf5 (by rw [← show v = _ from HV.out]; exact HNEb.out); have p4 := hB5.cell 4 rfl; have p5 := hB5.cell 5 rfl; have y4 := hB5.frozen 4; have y5 := hB5.frozen 5; have y6 := hB5.lt; rw [hv5])
  all_goals
    go_wp2
    go_ret2
    have hFa : Fr (SB b v) w (w1.alloc (.cells #[.int .i64 next, .int .i64 env, .int .i64 r.x, .int .i64 r.y, .int .i64 r.w, .int .i64 r.h, .bool false] 58)).drew := ((hF1.out.alloc _).drew).mono (fun _ h => h.elim)
    have hFb : Fr (SB b v) w w5 := hFa.then_ hf5 (fun k hk => .inl (.inr (by rw [show v = _ from HV.out]; exact hk)))
    have hst := (hB5.set 4 (.slice A5 ((Wn.mk next env r.x r.y r.w r.h false) :: xs).length c5)).set 5 (.int .i64 (next + 1))
    refine ⟨rfl, .slice A5 ((Wn.mk next env r.x r.y r.w r.h false) :: xs).length c5, ⟨hst, ?_⟩, (hFb.setCell (p := ⟨b, 4, none⟩) (.inl (.inl rfl)) _).setCell (p := ⟨b, 5, none⟩) (.inl (.inl rfl)) _, fun k hk => ?_⟩
    · rw [← hv5]
      exact hV5.fr ((((Fr.refl (At b) w5).setAt 4 _).setAt 5 _)) (fun k hk he => hV5.ne hB5 (by decide) (by have he' : k = b := he; subst he'; exact hk))
    · rw [← hv5] at hk
      rcases ho5 k hk with h5 | h5
      · exact .inl (by rw [show v = _ from HV.out]; exact h5)
      · have h6 : w1.heap.size ≤ k := Nat.le_trans (Fr.size (((Fr.refl NoB w1).alloc _).drew)) h5
        exact .inr (Nat.le_trans hF1.out.size h6)
end Go.Proofs.YtnengimekcnfhaaDoor
