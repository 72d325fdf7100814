import Derived.Test.YtnengimekcnfhaaQ2
import Derived.Test.YtnengimekcnfhaaP1
import Derived.Test.YtnengimekcnfhaaD1
import Derived.Test.YtnengimekcnfhaaWEqStruct
set_option linter.unusedSimpArgs false
set_option linter.unusedVariables false
set_option maxRecDepth 20000
namespace Go.Proofs.Ytnengimekcnfhaa
open Go.RowKit Go.Proofs.YtnengimekcnfhaaW.PrintWords
def ClA (w : World) (ad : Addr) (xs : List Cl) : Prop := ∀ j u, (xs.flatMap Cl.cells)[j]? = some u → w.cell? (ad.add j) = some u
def ClTo (xs : List Cl) (w : World) (e : Ending) (w' : World) : Prop := ∃ v', e = .returned v' ∧ Row Cl.cells 4 38 w' w.heap.size v' xs ∧ Fr NoB w w'
set_option maxHeartbeats 4000000 in
theorem cl_clone (w : World) (ad : Addr) (n c : Nat) (xs : List Cl) (hA : ClA w ad xs) (hlt : 0 < xs.length → ad.block < w.heap.size) (hn : Hid (xs.length = n)) (hl : xs.length ≤ 4096) :
    Calls Try.prog 71 #[.slice (some ad) n c] w (ClTo xs w) := by
  have hnil2 := fun (w : World) (a : Option Addr) (n c : Nat) => Lib.run_eql_slice_nil (P := Try.prog) w 24 38 a n c 0 0 Try.underlying24
  have hT := hid hA
  have hf0 : Fr NoB w (w.alloc (.cells #[] 38)) := (Fr.refl _ _).alloc _
  have HE : Hid (Row Cl.cells 4 38 (w.alloc (.cells #[] 38)) w.heap.size (.slice (some ⟨w.heap.size, 0, none⟩) 0 0) []) :=
    World.ownsRow_lit (base := w.heap.size) (e := 38) (size := 4) w #[] 0 (Nat.le_refl _) (by simp [maxLen]) (by simp)
  have hn4 : n ≤ 4096 := by rw [← hn.out]; exact hl
  have HS : Hid (ClA (w.alloc (.cells #[] 38)) ad xs) := fun j u hj => cellto (hT.out j u hj) hf0
  clear hl hA hf0
  go_enter Try.func71, Try.ntmps71
  go_wp2_with (at_builtin; go_must (refine row_apps (f := Cl.cells) Cl.cells_len Cl.one w.heap.size rfl (.tmp 5) (.tmp 6) 24 38 Cl.zero.v 32 rfl Try.underlying24 infoCl rfl (by omega) (by omega) _ [] xs ad n c rfl rfl hn HS.out HE.out (by simp) (by simp; omega) ?_); intro v1 w1 hv1 hf1 hat)
  go_ret
  refine ⟨_, rfl, hv1, ?_⟩
  refine ((Fr.refl NoB w).alloc _).then_ hf1 (fun k hk => .inr ?_)
  have hk' : some w.heap.size = some k := hk
  exact Nat.le_of_eq (Option.some.inj hk')
/-- A grid of 10 by 10 cells, with room to spare. -/
structure GX (w : World) (g gb c : Nat) (cs : List Cl) : Prop where
  blk : Blk w g 100 [.int .i64 10, .int .i64 10, .slice (some ⟨gb, 0, none⟩) 100 c]
  rg : RG w gb c cs
theorem GX.frd {w w1 : World} {g gb c : Nat} {cs : List Cl} (h : GX w g gb c cs) (hf : Fr NoB w w1) : GX w1 g gb c cs := ⟨h.blk.fr hf (fun h => h), h.rg.frd hf⟩
/-- Cells from place o on. -/
theorem RG.src {w : World} {gb c : Nat} {cs : List Cl} (h : RG w gb c cs) (o : Nat) (ho : o ≤ cs.length) (ys : List Cl) (hy : ys <+: cs.drop o) : ClA w ⟨gb, o * 4, none⟩ ys := fun j u hj => by
  obtain ⟨rest, hr⟩ := h.row
  exact Vec.src hr Cl.cells_len o ho ys hy j u hj
/-- A cut of ten cells. -/
theorem cut_ten (gb c k : Nat) (hk : k < 10) (hc : 100 ≤ c) (W0 : World) : (Instr.slice 24 (.slice (some ⟨gb, 0, none⟩) 100 c) (some (.int .i64 ((k * 10 : Nat) : Int))) (some (.int .i64 ((k * 10 + 10 : Nat) : Int))) none).run Try.prog W0 = .ok (.slice (some ⟨gb, k * 10 * 4, none⟩) 10 (c - k * 10)) W0 := by
  have he : Try.prog.elem 24 = 38 := by simp [Program.elem, Try.underlying24]
  rw [run_slice_lh W0 24 _ _ _ (by rw [he]; exact Try.underlying24) .i64 .i64 _ _ (by omega) (by omega) (by omega), he, sizeCl]
  simp only [sliced, Result.andThen, Int.toNat_natCast]
  have h5 : ¬ (c = k * 10) := by omega
  simp [h5, Addr.add]
  omega
theorem gRowX (w : World) (g gb c : Nat) (cs : List Cl) (y : Nat) (h : GX w g gb c cs) (hy : y < 10) : Calls Try.prog 34 #[.pointer (some ⟨g, 0, none⟩), .int .i64 y] w fun e w' => e = .returned (.slice (some ⟨gb, y * 10 * 4, none⟩) 10 (c - y * 10)) ∧ Fr NoB w w' := by
  have c0 := h.blk.cell 0 rfl
  have c2 := h.blk.cell 2 rfl
  have hlt := h.blk.lt
  have m1 : IntKind.i64.wrap ((y : Int) * 10) = ((y * 10 : Nat) : Int) := by rw [IntWalk.i64_in _ (by omega)]; omega
  have m2 : IntKind.i64.wrap (((y : Int) + 1) * 10) = ((y * 10 + 10 : Nat) : Int) := by rw [IntWalk.i64_in _ (by omega)]; omega
  have hcut := cut_ten gb c y hy h.rg.cap
  have hcc := h.rg.cap
  obtain ⟨yw, hyw⟩ : ∃ yw, yw = y * 10 := ⟨_, rfl⟩
  rw [← hyw] at m1 m2 hcut
  have b1 : (0 : Int) ≤ (yw : Int) := by omega
  have b2 : (yw : Int) ≤ ((yw + 10 : Nat) : Int) := by omega
  have b3 : ((yw + 10 : Nat) : Int) ≤ 100 := by omega
  have k1 : IntKind.i64.wrap ((y : Int) + 1) = (y : Int) + 1 := IntWalk.i64_in _ (by omega)
  have HY := hid hyw
  clear h hyw
  go_enter Try.func34, Try.ntmps34
  go_wp2
  refine wp_region_still_tail 17 (by kernel_rfl) (by kernel_rfl) ?_
  change wpStill _ _ (World.drew _) _ _ _
  simp only [List.take_succ_cons, List.take_zero, List.drop_succ_cons, List.drop_zero]
  iterate 17 still_step
  refine wpStill_nil ?_
  change wpList _ _ _ _ _ (World.drew _)
  go_wp2
  go_ret
  rw [HY.out]
  refine ⟨?_, Fr.drew (Fr.refl _ _)⟩
  show Ending.returned (Value.slice (some ⟨gb, y * 10 * 4, none⟩) (y * 10 + 10 - y * 10) (c - y * 10)) = _
  rw [Nat.add_sub_cancel_left]
theorem gSizeX (w : World) (g gb c : Nat) (cs : List Cl) (h : GX w g gb c cs) : Calls Try.prog 45 #[.pointer (some ⟨g, 0, none⟩)] w fun e w' => e = .returned (.tuple #[.int .i64 10, .int .i64 10]) ∧ Fr NoB w w' := by
  have c0 := h.blk.cell 0 rfl
  have c1 := h.blk.cell 1 rfl
  have hlt := h.blk.lt
  clear h
  go_enter Try.func45, Try.ntmps45
  go_wp2
  go_quiet (fail)
  go_wp2
  go_ret2
  exact ⟨rfl, (Fr.refl _ _).drewN _⟩
/-- Row y of a grid, a row of the call's own. -/
def rowC (cs : List Cl) (y : Nat) : List Cl := (cs.drop (y * 10)).take 10
theorem rowC_len (cs : List Cl) (y : Nat) (h : cs.length = 100) (hy : y < 10) : (rowC cs y).length = 10 := by
  unfold rowC
  rw [List.length_take, List.length_drop]
  omega
theorem gRow2X (w : World) (g gb c : Nat) (cs : List Cl) (y : Nat) (h : GX w g gb c cs) (hy : y < 10) : Calls Try.prog 47 #[.pointer (some ⟨g, 0, none⟩), .int .i64 y] w (ClTo (rowC cs y) w) := by
  have c1 := h.blk.cell 1 rfl
  have hlt := h.blk.lt
  have HR := hid (gRowX w g gb c cs y h hy)
  have HCl : Hid (∀ W, Fr NoB w W → Calls Try.prog 71 #[.slice (some ⟨gb, y * 10 * 4, none⟩) 10 (c - y * 10)] W (ClTo (rowC cs y) W)) := hid fun W hW => by
    have hr := h.rg.frd hW
    refine cl_clone W _ 10 _ (rowC cs y) (hr.src (y * 10) (by have := hr.len; omega) _ (List.take_prefix _ _)) (fun _ => hr.lt) (rowC_len cs y hr.len hy) (by rw [rowC_len cs y hr.len hy]; omega)
  clear h
  go_enter Try.func47, Try.ntmps47
  go_wp2_with fail
  refine HR.out.mono ?_
  rintro e' w1 ⟨rfl, hf1⟩
  have HF1 := hid hf1
  clear hf1
  go_wp2_with fail
  refine (HCl.out _ HF1.out).mono ?_
  rintro e' w2 ⟨v2, rfl, hr2, hf2⟩
  have HR2 := hid hr2
  have HF2 := hid hf2
  clear hr2 hf2
  go_wp2
  go_ret
  exact ⟨v2, rfl, HR2.out.base_le HF1.out.size, HF1.out.trans HF2.out⟩
set_option maxHeartbeats 4000000 in
theorem gCloneX (w : World) (g gb : Nat) (cs : List Cl) (h : GD w g gb 10 10 cs) : Calls Try.prog 48 #[.pointer (some ⟨g, 0, none⟩)] w fun e w' => ∃ g2 gb2 c2, e = .returned (.pointer (some ⟨g2, 0, none⟩)) ∧ GX w' g2 gb2 c2 cs ∧ Fr NoB w w' := by
  have HSv : Hid (∀ W, Fr NoB w W → W.cell? ⟨g, 0, none⟩ = some (.int .i64 10) ∧ W.cell? ⟨g, 1, none⟩ = some (.int .i64 10) ∧ W.cell? ⟨g, 2, none⟩ = some (.slice (some ⟨gb, 0, none⟩) 100 100)) := hid fun W hW => by
    have hb := h.blk.fr hW (fun h => h)
    exact ⟨hb.cell 0 rfl, hb.cell 1 rfl, hb.cell 2 rfl⟩
  have hlt := h.blk.lt
  have HCl : Hid (∀ W, Fr NoB w W → Calls Try.prog 71 #[.slice (some ⟨gb, 0, none⟩) 100 100] W (ClTo cs W)) := hid fun W hW => by
    have hb := h.cel.fr hW (fun h => h)
    have hl : cs.length = 100 := h.len
    refine cl_clone W _ 100 _ cs (fun j u hj => ?_) (fun _ => hb.lt) hl (by omega)
    have h1 := hb.cells 0 (cs.flatMap Cl.cells) (fun j v hj => by rwa [Nat.zero_add]) j u hj
    exact h1
  have HLN : Hid (cs.length = 100) := h.len
  have HFW := hid (Fr.drew (Fr.refl NoB w))
  clear h
  go_enter Try.func48, Try.ntmps48
  go_wp2_with fail
  go_region_held3 (fun W : World => W.cell? ⟨g, 0, none⟩ = some (.int .i64 10) ∧ W.cell? ⟨g, 1, none⟩ = some (.int .i64 10) ∧ W.cell? ⟨g, 2, none⟩ = some (.slice (some ⟨gb, 0, none⟩) 100 100)) (first | exact HSv.out _ (HF5.out.alloc _) | exact HSv.out _ HF5.out | exact HSv.out _ HFW.out | fail) (first | (go_at_call 71; refine (HCl.out _ HFW.out).mono ?_; rintro e' w5 ⟨v5, rfl, hr5, hf5⟩; have HF5 := hid (HFW.out.trans hf5); have HR5 := hid hr5; obtain ⟨A5, n5, c5, hv5⟩ : ∃ A n c, v5 = .slice A n c := (by obtain ⟨A1, c1, h1, _⟩ := Row.shape hr5; exact ⟨A1, _, c1, h1⟩); have HV5 := hid hv5; rw [hv5]; clear hv5 hr5 hf5) | fail)
  all_goals
    go_wp2
    go_ret
    obtain ⟨g1, c2, rest, hvv, hvec, hbase, hcap, hcm⟩ := Vec.of_row HR5.out (by have := HLN.out; omega)
    have h1 := HV5.out.symm.trans hvv
    injection h1 with e1 e2 e3
    have hb := Blk.new w5 100 [.int .i64 10, .int .i64 10, .slice A5 n5 c5]
    rw [e1, e2, e3, HLN.out] at hb ⊢
    exact ⟨_, g1, c2, rfl, ⟨hb, ⟨⟨rest, hvec.fr ((Fr.refl NoB w5).alloc _) (fun h => h)⟩, HLN.out, by have := HLN.out; omega, hcm⟩⟩, HF5.out.alloc _⟩
theorem fGridX (w : World) (f g gb : Nat) (cs : List Cl) (nv : Value) (ns : List Wr) (h : FD w f g gb 10 10 cs nv ns) : Calls Try.prog 21 #[.pointer (some ⟨f, 0, none⟩)] w fun e w' => ∃ g2 gb2 c2, e = .returned (.pointer (some ⟨g2, 0, none⟩)) ∧ GX w' g2 gb2 c2 cs ∧ Fr NoB w w' := by
  have c0 := h.blk.cell 0 rfl
  have hlt := h.blk.lt
  have HC := hid (gCloneX w g gb cs h.gd)
  clear h
  go_enter Try.func21, Try.ntmps21
  go_wp2_with fail
  refine HC.out.mono ?_
  rintro e' w1 ⟨g2, gb2, c2, rfl, hx, hf⟩
  have HX := hid hx
  have HF := hid hf
  clear hx hf
  go_wp2
  go_ret
  exact ⟨g2, gb2, c2, rfl, HX.out, HF.out⟩
end Go.Proofs.Ytnengimekcnfhaa
