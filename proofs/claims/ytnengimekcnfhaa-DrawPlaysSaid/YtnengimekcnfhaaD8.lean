import Derived.Test.YtnengimekcnfhaaD1
import Derived.Test.YtnengimekcnfhaaD7
set_option linter.unusedSimpArgs false
set_option linter.unusedVariables false
set_option maxRecDepth 20000
namespace Go.Proofs.Ytnengimekcnfhaa
open Go.RowKit Go.Shelf Go.Proofs.YtnengimekcnfhaaW.PrintWords
section
open Go.Proofs.YtnengimekcnfhaaW.PrintMore
theorem dCells_far (w : World) (f b : Nat) (scr : Rc) (id x y : Int) (v : Value) (xs : List Wn) (next : Int) (A : Option Addr) (n cap : Nat) (t : Wn)
    (hsk : SK w b scr v xs next) (hl : xs.length ≤ 4096) (hg : getW xs id = some t) (hfar : ¬ (Near x ∧ Near y)) :
    Calls Try.prog 11 #[.pointer (some ⟨f, 0, none⟩), .pointer (some ⟨b, 0, none⟩), .int .i64 id, .int .i64 x, .int .i64 y, .slice A n cap] w fun e w' => e = .returned (.tuple #[.int .i64 0, .int .i64 0]) ∧ Fr NoB w w' := by
  have hb0 : Fr NoB w (((((w.alloc (.cells #[.pointer (some ⟨f, 0, none⟩)] 27)).alloc (.cells #[.pointer (some ⟨b, 0, none⟩)] 29)).alloc (.cells #[.int .i64 id] 3)).alloc (.cells #[.int .i64 x] 3)).alloc (.cells #[.slice A n cap] 24)) := (((((Fr.refl _ _).alloc _).alloc _).alloc _).alloc _).alloc _
  have HWi := hid (window_any _ f b scr v xs next id (hsk.frd hb0) hl)
  rw [hg] at HWi
  have HWi' : Hid (Calls Try.prog 28 #[.pointer (some ⟨f, 0, none⟩), .pointer (some ⟨b, 0, none⟩), .int .i64 id] (((((w.alloc (.cells #[.pointer (some ⟨f, 0, none⟩)] 27)).alloc (.cells #[.pointer (some ⟨b, 0, none⟩)] 29)).alloc (.cells #[.int .i64 id] 3)).alloc (.cells #[.int .i64 x] 3)).alloc (.cells #[.slice A n cap] 24)) fun e w' => e = .returned (.tuple #[.agg #[.int .i64 t.id, .int .i64 t.env, .int .i64 t.x, .int .i64 t.y, .int .i64 t.w, .int .i64 t.h, .bool t.hid], .int .i64 0]) ∧ Fr NoB (((((w.alloc (.cells #[.pointer (some ⟨f, 0, none⟩)] 27)).alloc (.cells #[.pointer (some ⟨b, 0, none⟩)] 29)).alloc (.cells #[.int .i64 id] 3)).alloc (.cells #[.int .i64 x] 3)).alloc (.cells #[.slice A n cap] 24)) w') := HWi
  have HF0 := hid hb0
  have B3 := (Blk.new (((w.alloc (.cells #[.pointer (some ⟨f, 0, none⟩)] 27)).alloc (.cells #[.pointer (some ⟨b, 0, none⟩)] 29)).alloc (.cells #[.int .i64 id] 3)) 3 [.int .i64 x]).alloc (.cells #[.slice A n cap] 24)
  simp only [World.size_alloc] at B3
  have HB3 := hid B3
  clear hb0 HWi B3 hg
  cases n1 : decide (Near x)
  · clear hfar
    go_enter Try.func11, Try.ntmps11
    go_wp2_with fail
    refine HWi'.out.mono ?_
    rintro e' w1 ⟨rfl, hf1⟩
    have HF1 := hid (HF0.out.trans hf1)
    have k3 := (HB3.out.fr hf1 (fun h => h)).cell 0 rfl
    have k3l := (HB3.out.fr hf1 (fun h => h)).lt
    clear hf1
    go_wp2_with (first | (go_at_call 29; refine (dnear_any _ _).mono ?_; rintro e' w' ⟨rfl, rfl⟩; rw [n1]) | fail)
    go_ret2
    exact ⟨rfl, (HF1.out.alloc _)⟩
  · have n2 : decide (Near y) = false := decide_eq_false (fun h => hfar ⟨of_decide_eq_true n1, h⟩)
    clear hfar
    go_enter Try.func11, Try.ntmps11
    go_wp2_with fail
    refine HWi'.out.mono ?_
    rintro e' w1 ⟨rfl, hf1⟩
    have HF1 := hid (HF0.out.trans hf1)
    have k3 := (HB3.out.fr hf1 (fun h => h)).cell 0 rfl
    have k3l := (HB3.out.fr hf1 (fun h => h)).lt
    clear hf1
    go_wp2_with (first | (go_at_call 29; refine (dnear_any _ _).mono ?_; rintro e' w' ⟨rfl, rfl⟩; (first | rw [n1] | rw [n2])) | fail)
    go_ret2
    exact ⟨rfl, (HF1.out.alloc _)⟩
end
end Go.Proofs.Ytnengimekcnfhaa
set_option linter.unusedSimpArgs false
set_option linter.unusedVariables false
set_option maxRecDepth 20000
namespace Go.Proofs.Ytnengimekcnfhaa
open Go.RowKit Go.Shelf Go.Proofs.YtnengimekcnfhaaW.PrintWords
section
open Go.Proofs.YtnengimekcnfhaaW.PrintMore
theorem dCells_none (w : World) (f b : Nat) (scr : Rc) (id x y : Int) (v : Value) (xs : List Wn) (next : Int) (A : Option Addr) (n cap : Nat)
    (hsk : SK w b scr v xs next) (hl : xs.length ≤ 4096) (hg : getW xs id = none) :
    Calls Try.prog 11 #[.pointer (some ⟨f, 0, none⟩), .pointer (some ⟨b, 0, none⟩), .int .i64 id, .int .i64 x, .int .i64 y, .slice A n cap] w fun e w' => e = .returned (.tuple #[.int .i64 0, .int .i64 5]) ∧ Fr NoB w w' := by
  have hb0 : Fr NoB w (((((w.alloc (.cells #[.pointer (some ⟨f, 0, none⟩)] 27)).alloc (.cells #[.pointer (some ⟨b, 0, none⟩)] 29)).alloc (.cells #[.int .i64 id] 3)).alloc (.cells #[.int .i64 x] 3)).alloc (.cells #[.slice A n cap] 24)) := (((((Fr.refl _ _).alloc _).alloc _).alloc _).alloc _).alloc _
  have HWi := hid (window_any _ f b scr v xs next id (hsk.frd hb0) hl)
  rw [hg] at HWi
  have HWi' : Hid (Calls Try.prog 28 #[.pointer (some ⟨f, 0, none⟩), .pointer (some ⟨b, 0, none⟩), .int .i64 id] (((((w.alloc (.cells #[.pointer (some ⟨f, 0, none⟩)] 27)).alloc (.cells #[.pointer (some ⟨b, 0, none⟩)] 29)).alloc (.cells #[.int .i64 id] 3)).alloc (.cells #[.int .i64 x] 3)).alloc (.cells #[.slice A n cap] 24)) fun e w' => e = .returned (.tuple #[.agg #[.int .i64 0, .int .i64 0, .int .i64 0, .int .i64 0, .int .i64 0, .int .i64 0, .bool false], .int .i64 5]) ∧ Fr NoB (((((w.alloc (.cells #[.pointer (some ⟨f, 0, none⟩)] 27)).alloc (.cells #[.pointer (some ⟨b, 0, none⟩)] 29)).alloc (.cells #[.int .i64 id] 3)).alloc (.cells #[.int .i64 x] 3)).alloc (.cells #[.slice A n cap] 24)) w') := HWi
  have HF0 := hid hb0
  clear hb0 hg HWi
  go_enter Try.func11, Try.ntmps11
  go_wp2_with fail
  refine HWi'.out.mono ?_
  rintro e' w1 ⟨rfl, hf1⟩
  have HF1 := hid (HF0.out.trans hf1)
  clear hf1
  go_wp2_with fail
  go_ret2
  exact ⟨rfl, HF1.out.alloc _⟩
theorem dFill_none (w : World) (f b : Nat) (scr : Rc) (id : Int) (r : Rc) (c : Cl) (v : Value) (xs : List Wn) (next : Int)
    (hsk : SK w b scr v xs next) (hl : xs.length ≤ 4096) (hg : getW xs id = none) :
    Calls Try.prog 22 #[.pointer (some ⟨f, 0, none⟩), .pointer (some ⟨b, 0, none⟩), .int .i64 id, r.v, c.v] w fun e w' => e = .returned (.tuple #[.int .i64 0, .int .i64 5]) ∧ Fr NoB w w' := by
  have hb0 : Fr NoB w (((((w.alloc (.cells #[.pointer (some ⟨f, 0, none⟩)] 27)).alloc (.cells #[.pointer (some ⟨b, 0, none⟩)] 29)).alloc (.cells #[.int .i64 id] 3)).alloc (.cells #[.int .i64 r.x, .int .i64 r.y, .int .i64 r.w, .int .i64 r.h] 23)).alloc (.cells #[.int .i32 c.r, .int .i64 c.fg, .int .i64 c.bg, .int .i64 c.fl] 38)) := (((((Fr.refl _ _).alloc _).alloc _).alloc _).alloc _).alloc _
  have HWi := hid (window_any _ f b scr v xs next id (hsk.frd hb0) hl)
  rw [hg] at HWi
  have HWi' : Hid (Calls Try.prog 28 #[.pointer (some ⟨f, 0, none⟩), .pointer (some ⟨b, 0, none⟩), .int .i64 id] (((((w.alloc (.cells #[.pointer (some ⟨f, 0, none⟩)] 27)).alloc (.cells #[.pointer (some ⟨b, 0, none⟩)] 29)).alloc (.cells #[.int .i64 id] 3)).alloc (.cells #[.int .i64 r.x, .int .i64 r.y, .int .i64 r.w, .int .i64 r.h] 23)).alloc (.cells #[.int .i32 c.r, .int .i64 c.fg, .int .i64 c.bg, .int .i64 c.fl] 38)) fun e w' => e = .returned (.tuple #[.agg #[.int .i64 0, .int .i64 0, .int .i64 0, .int .i64 0, .int .i64 0, .int .i64 0, .bool false], .int .i64 5]) ∧ Fr NoB (((((w.alloc (.cells #[.pointer (some ⟨f, 0, none⟩)] 27)).alloc (.cells #[.pointer (some ⟨b, 0, none⟩)] 29)).alloc (.cells #[.int .i64 id] 3)).alloc (.cells #[.int .i64 r.x, .int .i64 r.y, .int .i64 r.w, .int .i64 r.h] 23)).alloc (.cells #[.int .i32 c.r, .int .i64 c.fg, .int .i64 c.bg, .int .i64 c.fl] 38)) w') := HWi
  have HF0 := hid hb0
  clear hb0 hg HWi
  unfold Rc.v Cl.v
  go_enter Try.func22, Try.ntmps22
  go_wp2_with fail
  refine HWi'.out.mono ?_
  rintro e' w1 ⟨rfl, hf1⟩
  have HF1 := hid (HF0.out.trans hf1)
  clear hf1
  go_wp2_with fail
  go_ret2
  exact ⟨rfl, HF1.out.alloc _⟩
theorem dFill_wrong (w : World) (f b : Nat) (scr : Rc) (id : Int) (r : Rc) (c : Cl) (v : Value) (xs : List Wn) (next : Int) (t : Wn) (hr : ¬ r.Right)
    (hsk : SK w b scr v xs next) (hl : xs.length ≤ 4096) (hg : getW xs id = some t) :
    Calls Try.prog 22 #[.pointer (some ⟨f, 0, none⟩), .pointer (some ⟨b, 0, none⟩), .int .i64 id, r.v, c.v] w fun e w' => e = .returned (.tuple #[.int .i64 0, .int .i64 0]) ∧ Fr NoB w w' := by
  have hb0 : Fr NoB w (((((w.alloc (.cells #[.pointer (some ⟨f, 0, none⟩)] 27)).alloc (.cells #[.pointer (some ⟨b, 0, none⟩)] 29)).alloc (.cells #[.int .i64 id] 3)).alloc (.cells #[.int .i64 r.x, .int .i64 r.y, .int .i64 r.w, .int .i64 r.h] 23)).alloc (.cells #[.int .i32 c.r, .int .i64 c.fg, .int .i64 c.bg, .int .i64 c.fl] 38)) := (((((Fr.refl _ _).alloc _).alloc _).alloc _).alloc _).alloc _
  have HWi := hid (window_any _ f b scr v xs next id (hsk.frd hb0) hl)
  rw [hg] at HWi
  have HWi' : Hid (Calls Try.prog 28 #[.pointer (some ⟨f, 0, none⟩), .pointer (some ⟨b, 0, none⟩), .int .i64 id] (((((w.alloc (.cells #[.pointer (some ⟨f, 0, none⟩)] 27)).alloc (.cells #[.pointer (some ⟨b, 0, none⟩)] 29)).alloc (.cells #[.int .i64 id] 3)).alloc (.cells #[.int .i64 r.x, .int .i64 r.y, .int .i64 r.w, .int .i64 r.h] 23)).alloc (.cells #[.int .i32 c.r, .int .i64 c.fg, .int .i64 c.bg, .int .i64 c.fl] 38)) fun e w' => e = .returned (.tuple #[.agg #[.int .i64 t.id, .int .i64 t.env, .int .i64 t.x, .int .i64 t.y, .int .i64 t.w, .int .i64 t.h, .bool t.hid], .int .i64 0]) ∧ Fr NoB (((((w.alloc (.cells #[.pointer (some ⟨f, 0, none⟩)] 27)).alloc (.cells #[.pointer (some ⟨b, 0, none⟩)] 29)).alloc (.cells #[.int .i64 id] 3)).alloc (.cells #[.int .i64 r.x, .int .i64 r.y, .int .i64 r.w, .int .i64 r.h] 23)).alloc (.cells #[.int .i32 c.r, .int .i64 c.fg, .int .i64 c.bg, .int .i64 c.fl] 38)) w') := HWi
  have HF0 := hid hb0
  have n1 : decide r.Right = false := decide_eq_false hr
  have HRr := fun w9 => hid (rRight_any w9 r)
  have B3 := (Blk.new (((w.alloc (.cells #[.pointer (some ⟨f, 0, none⟩)] 27)).alloc (.cells #[.pointer (some ⟨b, 0, none⟩)] 29)).alloc (.cells #[.int .i64 id] 3)) 23 r.cells).alloc (.cells #[.int .i32 c.r, .int .i64 c.fg, .int .i64 c.bg, .int .i64 c.fl] 38)
  simp only [World.size_alloc] at B3
  have HB3 := hid B3
  clear hb0 hg HWi B3 hr
  unfold Rc.v at HRr
  unfold Rc.v Cl.v
  go_enter Try.func22, Try.ntmps22
  go_wp2_with fail
  refine HWi'.out.mono ?_
  rintro e' w1 ⟨rfl, hf1⟩
  have HF1 := hid (HF0.out.trans hf1)
  have k0 := (HB3.out.fr hf1 (fun h => h)).cell 0 rfl
  have k1 := (HB3.out.fr hf1 (fun h => h)).cell 1 rfl
  have k2 := (HB3.out.fr hf1 (fun h => h)).cell 2 rfl
  have k3 := (HB3.out.fr hf1 (fun h => h)).cell 3 rfl
  have kl := (HB3.out.fr hf1 (fun h => h)).lt
  clear hf1
  go_wp2_with fail
  refine (HRr _).out.mono ?_
  rintro e' w2 ⟨rfl, hf2⟩
  rw [n1]
  have HF2 := hid ((HF1.out.alloc _).trans hf2)
  clear hf2
  go_wp2_with fail
  go_ret2
  exact ⟨rfl, HF2.out⟩
end
end Go.Proofs.Ytnengimekcnfhaa
set_option linter.unusedSimpArgs false
set_option linter.unusedVariables false
namespace Go.Proofs.Ytnengimekcnfhaa
open Go.RowKit Go.Proofs.YtnengimekcnfhaaW.PrintWords
theorem fNotes_any (w : World) (f g gb W H : Nat) (cs : List Cl) (nv : Value) (ns : List Wr) (h : FD w f g gb W H cs nv ns) :
    Calls Try.prog 16 #[.pointer (some ⟨f, 0, none⟩)] w fun e w' => e = .returned nv ∧ FD w' f g gb W H cs (.slice none 0 0) [] ∧ WrRow w' nv ns ∧ Fr (At f) w w' := by
  have c0 := h.blk.cell 0 rfl
  have c1 := h.blk.cell 1 rfl
  have c1f := h.blk.frozen 1
  have hlt := h.blk.lt
  obtain ⟨a1, a2, a3, a4, a5, a6⟩ := h.apart
  have hf : Fr (At f) w (w.setCell ⟨f, 1, none⟩ (.slice none 0 0)) := (Fr.refl _ _).setAt 1 _
  have HF := hid hf
  have HX : Hid (FD (w.setCell ⟨f, 1, none⟩ (.slice none 0 0)) f g gb W H cs (.slice none 0 0) []) := ⟨h.blk.set 1 _, h.gd.fr hf (fun e => a1 e.symm) (fun e => a2 e.symm), Row.nil ..⟩
  have HR : Hid (WrRow (w.setCell ⟨f, 1, none⟩ (.slice none 0 0)) nv ns) := h.row.fr hf (fun k hk e => by obtain rfl : k = f := e; exact a4 hk)
  obtain ⟨A, c, rfl, hc⟩ := h.row.shape
  clear h hf
  go_enter Try.func16, Try.ntmps16
  go_wp2
  go_ret
  exact ⟨rfl, HX.out, HR.out, HF.out⟩
end Go.Proofs.Ytnengimekcnfhaa
set_option linter.unusedSimpArgs false
set_option linter.unusedVariables false
set_option maxRecDepth 20000
namespace Go.Proofs.Ytnengimekcnfhaa
open Go.RowKit Go.Shelf Go.Proofs.YtnengimekcnfhaaW.PrintWords
section
open Go.Proofs.YtnengimekcnfhaaW.PrintMore
theorem dCopy_none (w : World) (f b : Nat) (scr : Rc) (id x y : Int) (r : Rc) (v : Value) (xs : List Wn) (next : Int) (hg : getW xs id = none)
    (hsk : SK w b scr v xs next) (hl : xs.length ≤ 4096) :
    Calls Try.prog 23 #[.pointer (some ⟨f, 0, none⟩), .pointer (some ⟨b, 0, none⟩), .int .i64 id, r.v, .int .i64 x, .int .i64 y] w fun e w' => e = .returned (.tuple #[.int .i64 0, .int .i64 5]) ∧ Fr NoB w w' := by
  have hb0 : Fr NoB w ((((((w.alloc (.cells #[.pointer (some ⟨f, 0, none⟩)] 27)).alloc (.cells #[.pointer (some ⟨b, 0, none⟩)] 29)).alloc (.cells #[.int .i64 id] 3)).alloc (.cells #[.int .i64 r.x, .int .i64 r.y, .int .i64 r.w, .int .i64 r.h] 23)).alloc (.cells #[.int .i64 x] 3)).alloc (.cells #[.int .i64 y] 3)) := ((((((Fr.refl _ _).alloc _).alloc _).alloc _).alloc _).alloc _).alloc _
  have HWi := hid (window_any _ f b scr v xs next id (hsk.frd hb0) hl)
  rw [hg] at HWi
  have HWi' : Hid (Calls Try.prog 28 #[.pointer (some ⟨f, 0, none⟩), .pointer (some ⟨b, 0, none⟩), .int .i64 id] ((((((w.alloc (.cells #[.pointer (some ⟨f, 0, none⟩)] 27)).alloc (.cells #[.pointer (some ⟨b, 0, none⟩)] 29)).alloc (.cells #[.int .i64 id] 3)).alloc (.cells #[.int .i64 r.x, .int .i64 r.y, .int .i64 r.w, .int .i64 r.h] 23)).alloc (.cells #[.int .i64 x] 3)).alloc (.cells #[.int .i64 y] 3)) fun e w' => e = .returned (.tuple #[.agg #[.int .i64 0, .int .i64 0, .int .i64 0, .int .i64 0, .int .i64 0, .int .i64 0, .bool false], .int .i64 5]) ∧ Fr NoB ((((((w.alloc (.cells #[.pointer (some ⟨f, 0, none⟩)] 27)).alloc (.cells #[.pointer (some ⟨b, 0, none⟩)] 29)).alloc (.cells #[.int .i64 id] 3)).alloc (.cells #[.int .i64 r.x, .int .i64 r.y, .int .i64 r.w, .int .i64 r.h] 23)).alloc (.cells #[.int .i64 x] 3)).alloc (.cells #[.int .i64 y] 3)) w') := HWi
  have HF0 := hid hb0
  clear hb0 hg HWi
  unfold Rc.v
  go_enter Try.func23, Try.ntmps23
  go_wp2_with fail
  refine HWi'.out.mono ?_
  rintro e' w1 ⟨rfl, hf1⟩
  have HF1 := hid (HF0.out.trans hf1)
  clear hf1
  go_wp2_with fail
  go_ret2
  exact ⟨rfl, HF1.out.alloc _⟩
theorem dCopy_off (w : World) (f b : Nat) (scr : Rc) (id x y : Int) (r : Rc) (v : Value) (xs : List Wn) (next : Int) (t : Wn) (hg : getW xs id = some t) (hoff : ¬ (r.Right ∧ Near x ∧ Near y))
    (hsk : SK w b scr v xs next) (hl : xs.length ≤ 4096) :
    Calls Try.prog 23 #[.pointer (some ⟨f, 0, none⟩), .pointer (some ⟨b, 0, none⟩), .int .i64 id, r.v, .int .i64 x, .int .i64 y] w fun e w' => e = .returned (.tuple #[.int .i64 0, .int .i64 0]) ∧ Fr NoB w w' := by
  have hb0 : Fr NoB w ((((((w.alloc (.cells #[.pointer (some ⟨f, 0, none⟩)] 27)).alloc (.cells #[.pointer (some ⟨b, 0, none⟩)] 29)).alloc (.cells #[.int .i64 id] 3)).alloc (.cells #[.int .i64 r.x, .int .i64 r.y, .int .i64 r.w, .int .i64 r.h] 23)).alloc (.cells #[.int .i64 x] 3)).alloc (.cells #[.int .i64 y] 3)) := ((((((Fr.refl _ _).alloc _).alloc _).alloc _).alloc _).alloc _).alloc _
  have HWi := hid (window_any _ f b scr v xs next id (hsk.frd hb0) hl)
  rw [hg] at HWi
  have HWi' : Hid (Calls Try.prog 28 #[.pointer (some ⟨f, 0, none⟩), .pointer (some ⟨b, 0, none⟩), .int .i64 id] ((((((w.alloc (.cells #[.pointer (some ⟨f, 0, none⟩)] 27)).alloc (.cells #[.pointer (some ⟨b, 0, none⟩)] 29)).alloc (.cells #[.int .i64 id] 3)).alloc (.cells #[.int .i64 r.x, .int .i64 r.y, .int .i64 r.w, .int .i64 r.h] 23)).alloc (.cells #[.int .i64 x] 3)).alloc (.cells #[.int .i64 y] 3)) fun e w' => e = .returned (.tuple #[.agg #[.int .i64 t.id, .int .i64 t.env, .int .i64 t.x, .int .i64 t.y, .int .i64 t.w, .int .i64 t.h, .bool t.hid], .int .i64 0]) ∧ Fr NoB ((((((w.alloc (.cells #[.pointer (some ⟨f, 0, none⟩)] 27)).alloc (.cells #[.pointer (some ⟨b, 0, none⟩)] 29)).alloc (.cells #[.int .i64 id] 3)).alloc (.cells #[.int .i64 r.x, .int .i64 r.y, .int .i64 r.w, .int .i64 r.h] 23)).alloc (.cells #[.int .i64 x] 3)).alloc (.cells #[.int .i64 y] 3)) w') := HWi
  have HF0 := hid hb0

  have B3 := ((Blk.new (((w.alloc (.cells #[.pointer (some ⟨f, 0, none⟩)] 27)).alloc (.cells #[.pointer (some ⟨b, 0, none⟩)] 29)).alloc (.cells #[.int .i64 id] 3)) 23 r.cells).alloc (.cells #[.int .i64 x] 3)).alloc (.cells #[.int .i64 y] 3)
  have B4 := (Blk.new ((((w.alloc (.cells #[.pointer (some ⟨f, 0, none⟩)] 27)).alloc (.cells #[.pointer (some ⟨b, 0, none⟩)] 29)).alloc (.cells #[.int .i64 id] 3)).alloc (.cells #[.int .i64 r.x, .int .i64 r.y, .int .i64 r.w, .int .i64 r.h] 23)) 3 [.int .i64 x]).alloc (.cells #[.int .i64 y] 3)
  have B5 := Blk.new (((((w.alloc (.cells #[.pointer (some ⟨f, 0, none⟩)] 27)).alloc (.cells #[.pointer (some ⟨b, 0, none⟩)] 29)).alloc (.cells #[.int .i64 id] 3)).alloc (.cells #[.int .i64 r.x, .int .i64 r.y, .int .i64 r.w, .int .i64 r.h] 23)).alloc (.cells #[.int .i64 x] 3)) 3 [.int .i64 y]
  simp only [World.size_alloc] at B3 B4 B5
  have HB3 := hid B3
  have HB4 := hid B4
  have HB5 := hid B5
  have HRr := fun w9 => hid (rRight_any w9 r)
  unfold Rc.v at HRr
  clear hb0 hg HWi B3 B4 B5
  unfold Rc.v
  cases n1 : decide r.Right
  · clear hoff
    go_enter Try.func23, Try.ntmps23
    go_wp2_with fail
    refine HWi'.out.mono ?_
    rintro e' w1 ⟨rfl, hf1⟩
    have HF1 := hid (HF0.out.trans hf1)
    have k0 := (HB3.out.fr hf1 (fun h => h)).cell 0 rfl
    have k1 := (HB3.out.fr hf1 (fun h => h)).cell 1 rfl
    have k2 := (HB3.out.fr hf1 (fun h => h)).cell 2 rfl
    have k3 := (HB3.out.fr hf1 (fun h => h)).cell 3 rfl
    have kl := (HB3.out.fr hf1 (fun h => h)).lt
    have HX1 := hid (HB4.out.fr hf1 (fun h => h))
    have HY1 := hid (HB5.out.fr hf1 (fun h => h))
    clear hf1
    go_wp2_with fail
    refine (HRr _).out.mono ?_
    rintro e' w2 ⟨rfl, hf2⟩
    rw [n1]
    have HF2 := hid ((HF1.out.alloc (.cells #[.int .i64 t.id, .int .i64 t.env, .int .i64 t.x, .int .i64 t.y, .int .i64 t.w, .int .i64 t.h, .bool t.hid] 73)).trans hf2)
    clear hf2
    go_wp2_with fail
    go_ret2
    exact ⟨rfl, HF2.out⟩
  · cases n2 : decide (Near x)
    · clear hoff
      go_enter Try.func23, Try.ntmps23
      go_wp2_with fail
      refine HWi'.out.mono ?_
      rintro e' w1 ⟨rfl, hf1⟩
      have HF1 := hid (HF0.out.trans hf1)
      have k0 := (HB3.out.fr hf1 (fun h => h)).cell 0 rfl
      have k1 := (HB3.out.fr hf1 (fun h => h)).cell 1 rfl
      have k2 := (HB3.out.fr hf1 (fun h => h)).cell 2 rfl
      have k3 := (HB3.out.fr hf1 (fun h => h)).cell 3 rfl
      have kl := (HB3.out.fr hf1 (fun h => h)).lt
      have HX1 := hid (HB4.out.fr hf1 (fun h => h))
      have HY1 := hid (HB5.out.fr hf1 (fun h => h))
      clear hf1
      go_wp2_with fail
      refine (HRr _).out.mono ?_
      rintro e' w2 ⟨rfl, hf2⟩
      rw [n1]
      have HF2 := hid ((HF1.out.alloc (.cells #[.int .i64 t.id, .int .i64 t.env, .int .i64 t.x, .int .i64 t.y, .int .i64 t.w, .int .i64 t.h, .bool t.hid] 73)).trans hf2)
      have hfw : Fr NoB w1 w2 := ((Fr.refl NoB w1).alloc (.cells #[.int .i64 t.id, .int .i64 t.env, .int .i64 t.x, .int .i64 t.y, .int .i64 t.w, .int .i64 t.h, .bool t.hid] 73)).trans hf2
      have x0 := (HX1.out.fr hfw (fun h => h)).cell 0 rfl
      have xl := (HX1.out.fr hfw (fun h => h)).lt
      have y0 := (HY1.out.fr hfw (fun h => h)).cell 0 rfl
      have yl := (HY1.out.fr hfw (fun h => h)).lt
      clear hf2 hfw
      go_wp2_with fail
      refine (dnear_any _ _).mono ?_
      rintro e' w' ⟨rfl, rfl⟩
      rw [n2]
      go_wp2_with fail
      go_ret2
      exact ⟨rfl, HF2.out⟩
    · have n3 : decide (Near y) = false := decide_eq_false (fun h => hoff ⟨of_decide_eq_true n1, of_decide_eq_true n2, h⟩)
      clear hoff
      go_enter Try.func23, Try.ntmps23
      go_wp2_with fail
      refine HWi'.out.mono ?_
      rintro e' w1 ⟨rfl, hf1⟩
      have HF1 := hid (HF0.out.trans hf1)
      have k0 := (HB3.out.fr hf1 (fun h => h)).cell 0 rfl
      have k1 := (HB3.out.fr hf1 (fun h => h)).cell 1 rfl
      have k2 := (HB3.out.fr hf1 (fun h => h)).cell 2 rfl
      have k3 := (HB3.out.fr hf1 (fun h => h)).cell 3 rfl
      have kl := (HB3.out.fr hf1 (fun h => h)).lt
      have HX1 := hid (HB4.out.fr hf1 (fun h => h))
      have HY1 := hid (HB5.out.fr hf1 (fun h => h))
      clear hf1
      go_wp2_with fail
      refine (HRr _).out.mono ?_
      rintro e' w2 ⟨rfl, hf2⟩
      rw [n1]
      have HF2 := hid ((HF1.out.alloc (.cells #[.int .i64 t.id, .int .i64 t.env, .int .i64 t.x, .int .i64 t.y, .int .i64 t.w, .int .i64 t.h, .bool t.hid] 73)).trans hf2)
      have hfw : Fr NoB w1 w2 := ((Fr.refl NoB w1).alloc (.cells #[.int .i64 t.id, .int .i64 t.env, .int .i64 t.x, .int .i64 t.y, .int .i64 t.w, .int .i64 t.h, .bool t.hid] 73)).trans hf2
      have x0 := (HX1.out.fr hfw (fun h => h)).cell 0 rfl
      have xl := (HX1.out.fr hfw (fun h => h)).lt
      have y0 := (HY1.out.fr hfw (fun h => h)).cell 0 rfl
      have yl := (HY1.out.fr hfw (fun h => h)).lt
      clear hf2 hfw
      go_wp2_with fail
      refine (dnear_any _ _).mono ?_
      rintro e' w' ⟨rfl, rfl⟩
      rw [n2]
      go_wp2_with fail
      refine (dnear_any _ _).mono ?_
      rintro e' w' ⟨rfl, rfl⟩
      rw [n3]
      go_wp2_with fail
      go_ret2
      exact ⟨rfl, HF2.out⟩
end
end Go.Proofs.Ytnengimekcnfhaa
