import Derived.Test.YtnengimekcnfhaaW1
import Derived.Test.YtnengimekcnfhaaR2
import Derived.RegionTactic
import Derived.Shelf.Abstract
set_option linter.unusedSimpArgs false
set_option linter.unusedVariables false
set_option maxRecDepth 20000
namespace Go.Proofs.Ytnengimekcnfhaa
open Go.RowKit Go.Proofs.YtnengimekcnfhaaW.PrintWords
set_option maxHeartbeats 2000000 in
theorem w_ix_any (w : World) (v : Value) (fn : Nat) (lb : Array Value) (p : Wn → Bool) (S : Nat → Prop) (xs : List Wn) (hV : WnS w v xs) (hP : WnPred fn lb p S w) (hl : xs.length ≤ 4096) :
    Calls Try.prog 80 #[v, .func (.func fn) #[] lb] w fun e' w' => e' = .returned (.int .i64 (wIx p xs)) ∧ Fr NoB w w' := by
  obtain ⟨eg, hP⟩ := hP
  rcases hV with ⟨rfl, rfl⟩ | ⟨g, c, rest, rfl, hV, hxc, hcm⟩
  · go_enter Try.func80, Try.ntmps80
    go_wp2
    go_loopw [8] (fun v8 wr => v8 = .int .i64 0 ∧ Fr NoB w wr) (fun v8 _ => 0)
    case atStart => exact ⟨rfl, Fr.refl _ _⟩
    case round =>
      obtain ⟨rfl, hf⟩ := hrel
      go_wp2
      go_ret
      exact ⟨rfl, hf⟩
  · go_enter Try.func80, Try.ntmps80
    go_wp2
    go_loopw [8] (fun v8 wr => ∃ k : Nat, k ≤ xs.length ∧ v8 = .int .i64 k ∧ (xs.take k).any p = false ∧ Fr NoB w wr) (fun v8 _ => xs.length - (intOf v8).toNat)
    case atStart => exact ⟨0, Nat.zero_le _, rfl, rfl, Fr.refl _ _⟩
    case round =>
      obtain ⟨k, hk, rfl, hp0, hf⟩ := hrel
      by_cases hkm : k < xs.length
      · obtain ⟨c0, c1, c2, c3, c4, c5, c6⟩ := WnV.cells (Vec.fr hV hf (fun h => h)) k hkm
        have hhit := wIx_hit (p := p) hkm hp0
        have hmiss : (xs.take (k + 1)).any p = p xs[k] := by rw [List.take_succ_eq_append_getElem hkm, List.any_append, hp0]; simp
        have hcall := hP wr xs[k] (hf.mono (fun _ h => h.elim))
        have HPd := hid hP
        clear hP
        unfold Wn.v at hcall
        generalize xs[k] = x at *
        have HP := hid hp0
        have HH := hid hhit
        have HM := hid hmiss
        have HC := hid hcall
        clear hp0 hhit hmiss hcall
        go_wp2_with fail
        refine (HC.out).mono ?_
        rintro e' w1 ⟨rfl, hf1⟩
        cases hx : p x
        · have HX := hid hx
          clear hx
          go_wp2
          go_roundw
          case rel => exact ⟨k + 1, by omega, by go_num, HM.out.trans HX.out, hf.trans hf1⟩
          case measure => simp [intOf]; omega
        · have HX := hid hx
          clear hx
          go_wp2
          go_ret
          exact ⟨by rw [HH.out HX.out]; rfl, hf.trans hf1⟩
      · obtain rfl : k = xs.length := by omega
        rw [List.take_length] at hp0
        have HP := hid (wIx_none hp0)
        clear hp0
        go_wp2
        go_ret
        exact ⟨by rw [HP.out]; rfl, hf⟩
/-- A stack of windows in memory. -/
structure SK (w : World) (b : Nat) (scr : Rc) (v : Value) (xs : List Wn) (next : Int) : Prop where
  blk : Blk w b 70 [.int .i64 scr.x, .int .i64 scr.y, .int .i64 scr.w, .int .i64 scr.h, v, .int .i64 next]
  row : WnS w v xs
theorem WnS.shape {w : World} {v : Value} {xs : List Wn} (h : WnS w v xs) : ∃ A c, v = .slice A xs.length c ∧ xs.length ≤ c ∧ c ≤ maxLen := by
  rcases h with ⟨rfl, rfl⟩ | ⟨g, c, rest, rfl, h1, h2, h3⟩
  · exact ⟨none, 0, rfl, Nat.le_refl _, Nat.zero_le _⟩
  · exact ⟨_, c, rfl, h2, h3⟩
theorem WnS.ne {w : World} {v : Value} {xs : List Wn} {b : Nat} {T : TypeId} {l : List Value} (h : WnS w v xs) (hb : Blk w b T l) (he : 73 ≠ T) : ¬ OwnB v b := by
  rcases h with ⟨rfl, rfl⟩ | ⟨g, c, rest, rfl, h1, h2, h3⟩
  · intro hk
    cases hk
  · intro hk
    obtain rfl : g = b := Option.some.inj hk
    have h5 := h1.blk
    unfold Blk at h5 hb
    rw [hb] at h5
    injection h5 with h3
    injection h3 with h4 h5
    exact he h5.symm
theorem WnS.lt {w : World} {v : Value} {xs : List Wn} (h : WnS w v xs) (k : Nat) (hk : OwnB v k) : k < w.heap.size := by
  rcases h with ⟨rfl, rfl⟩ | ⟨g, c, rest, rfl, h1, h2, h3⟩
  · cases hk
  · obtain rfl : g = k := Option.some.inj hk
    exact h1.blk.lt
theorem SK.fr {S : Nat → Prop} {w w1 : World} {b : Nat} {scr : Rc} {v : Value} {xs : List Wn} {next : Int} (h : SK w b scr v xs next) (hf : Fr S w w1) (hb : ¬ S b) (hv : ∀ k, OwnB v k → ¬ S k) : SK w1 b scr v xs next :=
  ⟨h.blk.fr hf hb, h.row.fr hf hv⟩
theorem SK.frd {w w1 : World} {b : Nat} {scr : Rc} {v : Value} {xs : List Wn} {next : Int} (h : SK w b scr v xs next) (hf : Fr NoB w w1) : SK w1 b scr v xs next := h.fr hf (fun h => h) (fun _ _ h => h)
theorem sNew_ok (w : World) (W H : Int) (h1 : 1 ≤ W) (h2 : W ≤ 512) (h3 : 1 ≤ H) (h4 : H ≤ 512) :
    Calls Try.prog 9 #[.int .i64 W, .int .i64 H] w fun e w' => ∃ b, e = .returned (.pointer (some ⟨b, 0, none⟩)) ∧ SK w' b ⟨0, 0, W, H⟩ (.slice none 0 0) [] 1 ∧ Fr NoB w w' ∧ w.heap.size ≤ b := by
  have t1 : decide (W < 1) = false := decide_eq_false (by omega)
  have t2 : decide (W > 512) = false := decide_eq_false (by omega)
  have t3 : decide (H < 1) = false := decide_eq_false (by omega)
  have t4 : decide (H > 512) = false := decide_eq_false (by omega)
  go_enter Try.func9, Try.ntmps9
  go_wp2
  go_ret
  exact ⟨_, rfl, ⟨Blk.new w 70 _, .inl ⟨rfl, rfl⟩⟩, (Fr.refl _ _).alloc _, Nat.le_refl _⟩
/-- A window of a number. -/
def byId (id : Int) (x : Wn) : Bool := x.id == id
theorem sat1_any (w : World) (t : Wn) (p : Nat) (id : Int) (hp : w.cell? ⟨p, 0, none⟩ = some (.int .i64 id)) (hpl : p < w.heap.size) :
    Calls Try.prog 81 #[t.v, .pointer (some ⟨p, 0, none⟩)] w fun e w' => e = .returned (.bool (byId id t)) ∧ Fr NoB w w' := by
  unfold Wn.v byId
  cases hi : (t.id == id)
  all_goals
    go_enter Try.func81, Try.ntmps81
    go_wp2
    go_ret
    exact ⟨rfl, (Fr.refl _ _).alloc _⟩
def idAt (id : Int) (xs : List Wn) : Int := wIx (byId id) xs
theorem sat_any (w : World) (b : Nat) (scr : Rc) (v : Value) (xs : List Wn) (next id : Int) (h : SK w b scr v xs next) (hl : xs.length ≤ 4096) :
    Calls Try.prog 74 #[.pointer (some ⟨b, 0, none⟩), .int .i64 id] w fun e w' => e = .returned (.int .i64 (idAt id xs)) ∧ Fr NoB w w' := by
  have c4 := h.blk.cell 4 rfl
  have hlt := h.blk.lt
  have hf0 : Fr NoB w (w.alloc (.cells #[.int .i64 id] 3)) := (Fr.refl _ _).alloc _
  have HR := hid (h.row.fr hf0 (fun _ _ h => h))
  have hP : WnPred 81 #[.pointer (some ⟨w.heap.size, 0, none⟩)] (byId id) NoB (w.alloc (.cells #[.int .i64 id] 3)) := by
    refine ⟨enters_of Try.func81 (by kernel_rfl) rfl, fun W x hW => ?_⟩
    have hb := (Blk.new w 3 [.int .i64 id]).fr hW (fun h => h)
    exact sat1_any W x w.heap.size id (hb.cell 0 rfl) hb.lt
  have HP := hid hP
  have HF0 := hid hf0
  obtain ⟨A, c, rfl, _, _⟩ := h.row.shape
  clear h hf0 hP
  go_enter Try.func74, Try.ntmps74
  go_wp2_with (go_at_call 80; refine (w_ix_any _ _ 81 _ (byId id) NoB xs HR.out HP.out hl).mono ?_; rintro e' w1 ⟨rfl, hf1⟩)
  go_ret
  exact ⟨rfl, HF0.out.trans hf1⟩
def Wn.r (t : Wn) : Rc := ⟨t.x, t.y, t.w, t.h⟩
/-- Is a rectangle a window's, on a screen? -/
def Fits (scr r : Rc) : Prop := r.Right ∧ ¬ r.emp ∧ scr.Right ∧ r.Right ∧ scr.both r = r
instance (scr r : Rc) : Decidable (Fits scr r) := inferInstanceAs (Decidable (_ ∧ _))
/-- Who owns a cell. -/
def ownerOf : List Wn → Int → Int → Int
  | [], _, _ => 0
  | t :: l, x, y => if t.hid = false ∧ t.r.has x y then t.id else ownerOf l x y
theorem ownerOf_hit {xs : List Wn} {k : Nat} {x y : Int} (hk : k < xs.length) (h0 : ∀ t ∈ xs.take k, ¬ (t.hid = false ∧ t.r.has x y)) (h : xs[k].hid = false ∧ xs[k].r.has x y) : ownerOf xs x y = xs[k].id := by
  induction xs generalizing k with
  | nil => simp at hk
  | cons t l ih =>
    cases k with
    | zero => exact if_pos h
    | succ k =>
      unfold ownerOf
      rw [if_neg (h0 t (by simp))]
      exact ih (by simpa using hk) (fun t ht => h0 t (by simp [ht])) h
theorem ownerOf_none {xs : List Wn} {x y : Int} (h0 : ∀ t ∈ xs, ¬ (t.hid = false ∧ t.r.has x y)) : ownerOf xs x y = 0 := by
  induction xs with
  | nil => rfl
  | cons t l ih =>
    unfold ownerOf
    rw [if_neg (h0 t (by simp))]
    exact ih (fun t ht => h0 t (by simp [ht]))
set_option maxHeartbeats 4000000 in
theorem sOwner_any (w : World) (b : Nat) (scr : Rc) (v : Value) (xs : List Wn) (next x y : Int) (h : SK w b scr v xs next) (hl : xs.length ≤ 4096) (hI : ∀ t ∈ xs, t.r.I) (hx : I64 x) (hy : I64 y) :
    Calls Try.prog 17 #[.pointer (some ⟨b, 0, none⟩), .int .i64 x, .int .i64 y] w fun e w' => e = .returned (.int .i64 (ownerOf xs x y)) ∧ Fr NoB w w' := by
  have c4 := h.blk.cell 4 rfl
  have hlt := h.blk.lt
  rcases h.row with ⟨rfl, rfl⟩ | ⟨g, c, rest, rfl, hV, hxc, hcm⟩
  · clear h
    go_enter Try.func17, Try.ntmps17
    go_wp2
    go_loopw [14] (fun v14 wr => v14 = .int .i64 0 ∧ Fr NoB w wr) (fun v14 _ => 0)
    case atStart => exact ⟨rfl, Fr.refl _ _⟩
    case round =>
      obtain ⟨rfl, hf⟩ := hrel
      go_wp2
      go_ret
      exact ⟨rfl, hf⟩
  · have HV := hid hV
    have HI := hid hI
    have HX := hid hx
    have HY := hid hy
    clear h hV hI hx hy
    go_enter Try.func17, Try.ntmps17
    go_wp2
    go_loopw [14] (fun v14 wr => ∃ k : Nat, k ≤ xs.length ∧ v14 = .int .i64 k ∧ Hid (∀ t ∈ xs.take k, ¬ (t.hid = false ∧ t.r.has x y)) ∧ Hid (Fr NoB w wr)) (fun v14 _ => xs.length - (intOf v14).toNat)
    case atStart => exact ⟨0, Nat.zero_le _, rfl, (fun t ht => by simp at ht), Fr.refl _ _⟩
    case round =>
      obtain ⟨k, hk, rfl, H0, HF⟩ := hrel
      by_cases hkm : k < xs.length
      · obtain ⟨k0, k1, k2, k3, k4, k5, k6⟩ := WnV.cells (Vec.fr HV.out HF.out (fun h => h)) k hkm
        have hhit := fun h => ownerOf_hit (x := x) (y := y) hkm H0.out h
        have hmiss : ¬ (xs[k].hid = false ∧ xs[k].r.has x y) → ∀ t ∈ xs.take (k + 1), ¬ (t.hid = false ∧ t.r.has x y) := fun h t ht => by
          rw [List.take_succ_eq_append_getElem hkm] at ht
          rcases List.mem_append.1 ht with h5 | h5
          · exact H0.out t h5
          · rw [List.mem_singleton.1 h5]
            exact h
        have hti := HI.out _ (List.getElem_mem hkm)
        have HH := hid hhit
        have HM := hid hmiss
        have HT := hid hti
        clear hhit hmiss hti
        generalize xs[k] = t at *
        obtain ⟨tid, tenv, tx, ty, tw, th, thid⟩ := t
        simp only at k0 k1 k2 k3 k4 k5 k6
        have hIn := fun w => rIn_any w (Wn.r ⟨tid, tenv, tx, ty, tw, th, thid⟩) x y HT.out HX.out HY.out
        have HIn : ∀ w, Hid (Calls Try.prog 32 #[.agg #[.int .i64 tx, .int .i64 ty, .int .i64 tw, .int .i64 th], .int .i64 x, .int .i64 y] w fun e w' => e = .returned (.bool (decide (Rc.has (Wn.r ⟨tid, tenv, tx, ty, tw, th, thid⟩) x y))) ∧ Fr NoB w w') := hIn
        clear hIn
        have hB := Blk.new wr 73 (Wn.cells ⟨tid, tenv, tx, ty, tw, th, thid⟩)
        have HB := hid hB
        clear hB
        cases thid
        · cases hin : decide (Rc.has (Wn.r ⟨tid, tenv, tx, ty, tw, th, false⟩) x y)
          · rw [hin] at HIn
            have HN := hid (HM.out (fun h => of_decide_eq_false hin h.2))
            clear hin HM HH
            go_wp2_with fail
            refine (HIn _).out.mono ?_
            rintro e' w1 ⟨rfl, hf1⟩
            have HF1 := hid ((HF.out.alloc _).trans hf1)
            clear hf1
            go_wp2
            go_roundw
            case rel => exact ⟨k + 1, by omega, by go_num, HN.out, HF1.out⟩
            case measure => simp [intOf]; omega
          · rw [hin] at HIn
            have HN := hid (HH.out ⟨rfl, of_decide_eq_true hin⟩)
            clear hin HM HH
            go_wp2_with fail
            refine (HIn _).out.mono ?_
            rintro e' w1 ⟨rfl, hf1⟩
            have p0 := (HB.out.fr hf1 (fun h => h)).cell 0 rfl
            have plt := (HB.out.fr hf1 (fun h => h)).lt
            have HF1 := hid ((HF.out.alloc _).trans hf1)
            clear hf1
            go_wp2
            go_ret
            exact ⟨by rw [HN.out]; rfl, HF1.out⟩
        · have HN := hid (HM.out (fun h => by cases h.1))
          clear HM HH
          go_wp2
          go_roundw
          case rel => exact ⟨k + 1, by omega, by go_num, HN.out, HF.out.alloc _⟩
          case measure => simp [intOf]; omega
      · obtain rfl : k = xs.length := by omega
        rw [List.take_length] at H0
        have HZ := hid (ownerOf_none H0.out)
        go_wp2
        go_ret
        exact ⟨by rw [HZ.out]; rfl, HF.out⟩
end Go.Proofs.Ytnengimekcnfhaa
