import Derived.Test.YtnengimekcnfhaaDoorT2
import Derived.Test.YtnengimekcnfhaaDoorE2
import Derived.Deep.RegionHeld3
import Derived.Test.YtnengimekcnfhaaDoorV1
set_option linter.unusedSimpArgs false
set_option linter.unusedVariables false
set_option maxRecDepth 20000
namespace Go.Proofs.YtnengimekcnfhaaDoor
open Go.RowKit Go.ChangeShapes Go.WideShapes Go.Proofs.YtnengimekcnfhaaDoorW.PrintWords
theorem ClsTo.open_ {w w' : World} {l : List Cl} {e : Ending} (h : ClsTo w l e w') : ∃ A c, e = .returned (.slice A l.length c) ∧ CA w' A l ∧ Fr NoB w w' := by
  obtain ⟨v, rfl, hr, hf⟩ := h
  cases l with
  | nil =>
    obtain ⟨A, c, rfl, _⟩ := hr.shape
    exact ⟨A, c, rfl, fun k hk => absurd hk (Nat.not_lt_zero _), hf⟩
  | cons a l =>
    obtain ⟨g, c, rfl, hc⟩ := hr.ca (by simp)
    exact ⟨_, c, rfl, hc, hf⟩
set_option maxHeartbeats 8000000 in
theorem lawTexts_any (w : World) (s : ByteArray) (p : Pn) (hs : s.size ≤ 140737488351232) (hL : WideLaid w) :
    Calls Tryd.prog 3 #[.string s, p.v] w fun e w' => e = .returned (.bool true) ∧ Fr NoB w w' := by
  have HAw := fun w9 => hid (awake_any w9)
  have hpb : Blk (w.alloc (.cells #[.int .i64 p.fg, .int .i64 p.bg, .int .i64 p.fl] 23)) w.heap.size 23 p.cells := Blk.new w 23 p.cells
  have hf1 : Fr NoB w (w.alloc (.cells #[.int .i64 p.fg, .int .i64 p.bg, .int .i64 p.fl] 23)) := (Fr.refl _ _).alloc _
  have HF1 := hid hf1
  have HPB := hid hpb
  clear hf1 hpb
  by_cases h2 : s.size ≤ 200
  · have hlen := txtL_len p (pall (bytesOfS s))
    have hpl := pall_len2 (bytesOfS s)
    have hbl : (bytesOfS s).length ≤ 200 := by simpa [bytesOfS] using h2
    obtain ⟨L, hLe⟩ : ∃ L, L = txtL p (pall (bytesOfS s)) := ⟨_, rfl⟩
    have hll : L.length ≤ 1000 := by rw [hLe]; omega
    have HD : Hid (∀ W, Fr NoB w W → Calls Tryd.prog 6 #[.string s, .agg #[.int .i64 p.fg, .int .i64 p.bg, .int .i64 p.fl]] W (ClsTo W L)) := hid fun W hW => by rw [hLe]; exact dText_any W s p (by omega) (hL.fr hW)
    have HR : Hid (∀ W, Calls Tryd.prog 7 #[.string s, .agg #[.int .i64 p.fg, .int .i64 p.bg, .int .i64 p.fl]] W (ClsTo W L)) := hid fun W => by rw [hLe]; exact rText_any W s p (by omega)
    clear hLe hlen hpl hbl hL
    unfold Pn.v
    go_enter Tryd.func3, Tryd.ntmps3
    go_wp2_with fail
    generalize (w.alloc (.cells #[.int .i64 p.fg, .int .i64 p.bg, .int .i64 p.fl] 23)) = w1 at HF1 HPB ⊢
    have HSv : Hid (∀ W, Fr NoB w1 W → W.cell? ⟨w.heap.size, 0, none⟩ = some (.int .i64 p.fg) ∧ W.cell? ⟨w.heap.size, 1, none⟩ = some (.int .i64 p.bg) ∧ W.cell? ⟨w.heap.size, 2, none⟩ = some (.int .i64 p.fl)) := hid fun W hW => ⟨(HPB.out.fr hW (fun h => h)).cell 0 rfl, (HPB.out.fr hW (fun h => h)).cell 1 rfl, (HPB.out.fr hW (fun h => h)).cell 2 rfl⟩
    have HFD := hid (Fr.drew (Fr.refl NoB w1))
    go_region_held3 (fun W : World => W.cell? ⟨w.heap.size, 0, none⟩ = some (.int .i64 p.fg) ∧ W.cell? ⟨w.heap.size, 1, none⟩ = some (.int .i64 p.bg) ∧ W.cell? ⟨w.heap.size, 2, none⟩ = some (.int .i64 p.fl)) (first | exact HSv.out _ HF6.out | exact HSv.out _ HF5.out | exact HSv.out _ HF4.out | exact HSv.out _ HF3.out | exact HSv.out _ HFD.out | fail) (first | (go_at_call 6; refine (HD.out _ (HF1.out.trans HFD.out)).mono ?_; intro e' w3 hto; obtain ⟨A3, c3, rfl, hc3, hf3⟩ := hto.open_; have HC3 := hid hc3; have HF3 := hid (HFD.out.trans hf3); clear hto hc3 hf3) | (go_at_call 7; refine (HR.out _).mono ?_; intro e' w4 hto; obtain ⟨A4, c4, rfl, hc4, hf4⟩ := hto.open_; have HC4 := hid hc4; have HC34 := hid (HC3.out.fr hf4 (fun _ _ _ h => h)); have HF4 := hid (HF3.out.trans hf4); clear hto hc4 hf4) | (go_at_call 5; refine (r6Same_any _ A3 A4 c3 c4 L HC34.out HC4.out hll).mono ?_; rintro e' w5 ⟨rfl, hf5⟩; have HF5 := hid (HF4.out.trans hf5); clear hf5) | (go_at_call 4; refine (HAw _).out.mono ?_; rintro e' w6 ⟨rfl, hf6⟩; have HF6 := hid (HF5.out.trans hf6); clear hf6) | fail)
    go_wp2
    go_ret
    exact ⟨rfl, HF1.out.trans HF6.out⟩
  · clear hL HPB
    unfold Pn.v
    go_enter Tryd.func3, Tryd.ntmps3
    go_wp2_with fail
    refine (HAw _).out.mono ?_
    rintro e' w6 ⟨rfl, hf6⟩
    have HF6 := hid (HF1.out.trans hf6)
    clear hf6
    go_wp2
    go_ret
    exact ⟨rfl, HF6.out⟩
theorem plainRow : PlainT Tryd.prog 78 :=
  PlainT.of_struct (fun i => i) (fun _ => 1) Tryd.underlying78 rfl (fun _ => rfl) (by kernel_rfl) (fun i f hi => by
    match i, hi with
    | 0, hi => obtain rfl := Option.some.inj hi; exact ⟨PlainT.of_int Tryd.underlying21, rfl, by kernel_rfl⟩
    | 1, hi => obtain rfl := Option.some.inj hi; exact ⟨PlainT.of_int Tryd.underlying21, rfl, by kernel_rfl⟩
    | n + 2, hi => simp at hi)
theorem wide_of_laid {w : World} (h : laidMetH Tryd.prog Rows.drawTextsRow.laid w) : WideLaid w := by
  rw [show Rows.drawTextsRow.laid = [("betony/wide.marks", Rows.laid_betony_wide_marks), ("betony/wide.wides", Rows.laid_betony_wide_wides)] from rfl, MakeChecks.laidMetH_plain _ _ _ (by kernel_rfl)] at h
  obtain ⟨ps, h, _, _⟩ := h
  obtain ⟨h0, q, h⟩ := laid_cell h 0 (by kernel_rfl) 79 (by kernel_rfl) (PlainT.of_array Tryd.underlying79 (by kernel_rfl) plainRow)
  obtain ⟨h1, q, h⟩ := laid_cell h 1 (by kernel_rfl) 80 (by kernel_rfl) (PlainT.of_array Tryd.underlying80 (by kernel_rfl) plainRow)
  have e0 : flatD (H := Unit) Rows.laid_betony_wide_marks = (wMarks.flatMap fun p => [.int .i32 p.1, .int .i32 p.2] : List Value) := rfl
  have e1 : flatD (H := Unit) Rows.laid_betony_wide_wides = (wWides.flatMap fun p => [.int .i32 p.1, .int .i32 p.2] : List Value) := rfl
  rw [e0] at h0
  rw [e1] at h1
  have hn : ∀ x : Int × Int, (([.int .i32 x.1, .int .i32 x.2] : List Value)).length = 2 := fun _ => rfl
  refine ⟨fun k hk => ⟨h0 _ _ (flat_get (f := fun p : Int × Int => ([.int .i32 p.1, .int .i32 p.2] : List Value)) hn wMarks k 0 hk (by omega)), h0 _ _ (flat_get (f := fun p : Int × Int => ([.int .i32 p.1, .int .i32 p.2] : List Value)) hn wMarks k 1 hk (by omega))⟩, fun k hk => ⟨h1 _ _ (flat_get (f := fun p : Int × Int => ([.int .i32 p.1, .int .i32 p.2] : List Value)) hn wWides k 0 hk (by omega)), h1 _ _ (flat_get (f := fun p : Int × Int => ([.int .i32 p.1, .int .i32 p.2] : List Value)) hn wWides k 1 hk (by omega))⟩, ?_⟩
  exact cell_lt (h1 0 _ rfl)
theorem flatPen : FlatT Tryd.prog 23 [.int .i64, .int .i64, .int .i64] :=
  FlatT.of_struct [[.int .i64], [.int .i64], [.int .i64]] Tryd.underlying23 (by kernel_rfl) (fun i ls hi => by
    match i, hi with
    | 0, hi => obtain rfl := Option.some.inj hi; exact ⟨_, rfl, FlatT.of_int Tryd.underlying3, rfl, by kernel_rfl⟩
    | 1, hi => obtain rfl := Option.some.inj hi; exact ⟨_, rfl, FlatT.of_int Tryd.underlying3, rfl, by kernel_rfl⟩
    | 2, hi => obtain rfl := Option.some.inj hi; exact ⟨_, rfl, FlatT.of_int Tryd.underlying3, rfl, by kernel_rfl⟩
    | n + 3, hi => simp at hi)
theorem open_pen {H : Type} {enc : TypeId × Value → H} {w : World} {base : Nat} {spare : Nat → Bool} {held : Bool} {v : Value} {d : DataW H} {ps : List MemPlace} {r0 : Reach} {b0 : Nat} {w0 : World}
    (hw : Value.okWide Tryd.prog w0 r0 b0 23 v) (h : DataW.Trod enc Tryd.prog w base spare held 23 v d ps) : ∃ p : Pn, v = p.v ∧ True := by
  obtain ⟨cs, rfl, hsz⟩ := okWide_struct Tryd.underlying23 hw
  obtain ⟨fuel, hf⟩ := h
  obtain ⟨h1, h2⟩ := flatPen H enc w base spare held fuel _ _ hf
  obtain ⟨cs⟩ := cs
  simp only [Value.cells] at h1 h2
  match cs, h1 with
  | [v0, v1, v2], _ =>
    obtain ⟨n0, rfl, w0⟩ := h2 0 _ v0 rfl rfl
    obtain ⟨n1, rfl, w1⟩ := h2 1 _ v1 rfl rfl
    obtain ⟨n2, rfl, w2⟩ := h2 2 _ v2 rfl rfl
    exact ⟨⟨n0, n1, n2⟩, rfl, trivial⟩
theorem drawTexts_walk (s : ByteArray) (p : Pn) (w : World) (hs : s.size ≤ 140737488351232) (hp : True) (hL : WideLaid w) :
    Calls Tryd.prog 3 #[.string s, p.v] w fun e w' => e = .returned (.bool true) ∧ Below w.heap.size w w' :=
  (lawTexts_any w s p hs hL).mono fun e w' h => ⟨h.1, h.2.below0⟩
end Go.Proofs.YtnengimekcnfhaaDoor
