import Derived.Test.YtnengimekcnfhaaD5
set_option linter.unusedSimpArgs false
set_option linter.unusedVariables false
set_option maxRecDepth 20000
namespace Go.Proofs.Ytnengimekcnfhaa
open Go.RowKit Go.Shelf Go.Proofs.YtnengimekcnfhaaW.PrintWords
section
open Go.Proofs.YtnengimekcnfhaaW.PrintMore
theorem dCells_far (w : World) (f b : Nat) (scr : Rc) (id x y : Int) (v : Value) (xs : List Wn) (next : Int) (A : Option Addr) (n cap : Nat) (t : Wn)
    (hsk : SK w b scr v xs next) (hl : xs.length ≤ 4096) (hg : getW xs id = some t) (hfar : ¬ (Near x ∧ Near y)) :
    Calls Try.prog 11 #[.pointer (some ⟨f, 0, none⟩), .pointer (some ⟨b, 0, none⟩), .int .i64 id, .int .i64 x, .int .i64 y, .slice A n cap] w fun e w' => e = .returned (.tuple #[.int .i64 0, .int .i64 0]) ∧ Fr NoB w w' := by
  have hb0 : Fr NoB w (((((w.alloc (.cells #[.pointer (some ⟨f, 0, none⟩)] 27)).alloc (.cells #[.pointer (some ⟨b, 0, none⟩)] 29)).alloc (.cells #[.int .i64 id] 3)).alloc (.cells #[.int .i64 x] 3)).alloc (.cells #[.slice A n cap] 24)) := (((((Fr.refl _ _).alloc _).alloc _).alloc _).alloc _).alloc _
  have HWi := hid (window_any _ f b scr v xs next id (hsk.frd hb0) hl)
  rw [hg] at HWi
  have HWi' : Hid (Calls Try.prog 28 #[.pointer (some ⟨f, 0, none⟩), .pointer (some ⟨b, 0, none⟩), .int .i64 id] (((((w.alloc (.cells #[.pointer (some ⟨f, 0, none⟩)] 27)).alloc (.cells #[.pointer (some ⟨b, 0, none⟩)] 29)).alloc (.cells #[.int .i64 id] 3)).alloc (.cells #[.int .i64 x] 3)).alloc (.cells #[.slice A n cap] 24)) fun e w' => e = .returned (.tuple #[.agg #[.int .i64 t.id, .int .i64 t.env, .int .i64 t.x, .int .i64 t.y, .int .i64 t.w, .int .i64 t.h, .bool t.hid], .int .i64 0]) ∧ Fr NoB (((((w.alloc (.cells #[.pointer (some ⟨f, 0, none⟩)] 27)).alloc (.cells #[.pointer (some ⟨b, 0, none⟩)] 29)).alloc (.cells #[.int .i64 id] 3)).alloc (.cells #[.int .i64 x] 3)).alloc (.cells #[.slice A n cap] 24)) w') := HWi
  have HF0 := hid hb0
  have B3 := (Blk.new (((w.alloc (.cells #[.pointer (some ⟨f, 0, none⟩)] 27)).alloc (.cells #[.pointer (some ⟨b, 0, none⟩)] 29)).alloc (.cells #[.int .i64 id] 3)) 3 [.int .i64 x]).alloc (.cells #[.slice A n cap] 24)
  simp only [World.size_alloc] at B3
  have HB3 := hid B3
  clear hb0 HWi B3 hg
  cases n1 : decide (Near x)
  · clear hfar
    go_enter Try.func11, Try.ntmps11
    go_wp2_with fail
    refine HWi'.out.mono ?_
    rintro e' w1 ⟨rfl, hf1⟩
    have HF1 := hid (HF0.out.trans hf1)
    have k3 := (HB3.out.fr hf1 (fun h => h)).cell 0 rfl
    have k3l := (HB3.out.fr hf1 (fun h => h)).lt
    clear hf1
    go_wp2_with (first | (go_at_call 29; refine (dnear_any _ _).mono ?_; rintro e' w' ⟨rfl, rfl⟩; rw [n1]) | fail)
    go_ret2
    exact ⟨rfl, (HF1.out.alloc _)⟩
  · have n2 : decide (Near y) = false := decide_eq_false (fun h => hfar ⟨of_decide_eq_true n1, h⟩)
    clear hfar
    go_enter Try.func11, Try.ntmps11
    go_wp2_with fail
    refine HWi'.out.mono ?_
    rintro e' w1 ⟨rfl, hf1⟩
    have HF1 := hid (HF0.out.trans hf1)
    have k3 := (HB3.out.fr hf1 (fun h => h)).cell 0 rfl
    have k3l := (HB3.out.fr hf1 (fun h => h)).lt
    clear hf1
    go_wp2_with (first | (go_at_call 29; refine (dnear_any _ _).mono ?_; rintro e' w' ⟨rfl, rfl⟩; (first | rw [n1] | rw [n2])) | fail)
    go_ret2
    exact ⟨rfl, (HF1.out.alloc _)⟩
end
end Go.Proofs.Ytnengimekcnfhaa
