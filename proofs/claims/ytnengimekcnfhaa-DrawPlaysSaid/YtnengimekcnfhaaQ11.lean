import Derived.Test.YtnengimekcnfhaaQ10
import Derived.Test.YtnengimekcnfhaaQ5
set_option linter.unusedSimpArgs false
set_option linter.unusedVariables false
set_option maxRecDepth 20000
namespace Go.Proofs.Ytnengimekcnfhaa
open Go.RowKit Go.Proofs.YtnengimekcnfhaaW.PrintWords
section
open Go.Proofs.YtnengimekcnfhaaW.PrintMore
theorem cellEqA (d : Nat) (w : World) (x0 y0 : Int) (x1 y1 : Int) (x2 y2 : Int) (x3 y3 : Int) :
    (Op.equalIn (d + 3) 38 (.agg #[.int .i32 x0, .int .i64 x1, .int .i64 x2, .int .i64 x3]) (.agg #[.int .i32 y0, .int .i64 y1, .int .i64 y2, .int .i64 y3])).run Try.prog w = .ok (x0 == y0 && (x1 == y1 && (x2 == y2 && (x3 == y3)))) w := by
  refine eqA_of Try.underlying38 (by kernel_rfl) ?_
  refine eqf_cons (by rfl) (by go_simp; rfl) (by go_simp; rfl) (by go_simp) ?_
  refine eqf_last (by rfl) (by go_simp; rfl) (by go_simp; rfl) ?_
  refine eqA_of Try.underlying36 (by kernel_rfl) ?_
  refine eqf_cons (by rfl) (by go_simp; rfl) (by go_simp; rfl) (by go_simp) ?_
  refine eqf_cons (by rfl) (by go_simp; rfl) (by go_simp; rfl) (by go_simp) ?_
  exact eqf_last (by rfl) (by go_simp; rfl) (by go_simp; rfl) (by go_simp)
theorem cellEq (c : Cl) (w : World) : (Op.equalIn 10000 38 (.agg #[.int .i32 c.r, .int .i64 c.fg, .int .i64 c.bg, .int .i64 c.fl]) (.agg #[.int .i32 c.r, .int .i64 c.fg, .int .i64 c.bg, .int .i64 c.fl])).run Try.prog w = .ok true w := by
  rw [cellEqA 9997 w]
  simp
end
set_option maxHeartbeats 4000000 in
/-- The same cells twice. -/
theorem r6Same_any (w : World) (A B : Option Addr) (c1 c2 : Nat) (l : List Cl) (hA : CA w A l) (hB : CA w B l) (hl : l.length ≤ 1000) :
    Calls Try.prog 46 #[.slice A l.length c1, .slice B l.length c2] w fun e w' => e = .returned (.bool true) ∧ Fr NoB w w' := by
  have HA := hid hA
  have HB := hid hB
  clear hA hB
  go_enter Try.func46, Try.ntmps46
  go_wp2
  go_loopw [5] (fun v5 wr => ∃ k : Nat, k ≤ l.length ∧ v5 = .int .i64 k ∧ Hid (Fr NoB w wr)) (fun v5 _ => l.length - (intOf v5).toNat)
  case atStart => exact ⟨0, Nat.zero_le _, rfl, Fr.refl _ _⟩
  case round =>
    obtain ⟨k, hk, rfl, HF⟩ := hrel
    by_cases hkm : k < l.length
    · obtain ⟨ad, rfl, _⟩ := HA.out k hkm
      obtain ⟨bd, rfl, _⟩ := HB.out k hkm
      have HSv : Hid (∀ W, Fr NoB w W → W.cell? (ad.add (k * 4)) = some (.int .i32 l[k].r) ∧ W.cell? ⟨(ad.add (k * 4)).block, (ad.add (k * 4)).off + 1, none⟩ = some (.int .i64 l[k].fg) ∧ W.cell? ⟨(ad.add (k * 4)).block, (ad.add (k * 4)).off + 2, none⟩ = some (.int .i64 l[k].bg) ∧ W.cell? ⟨(ad.add (k * 4)).block, (ad.add (k * 4)).off + 3, none⟩ = some (.int .i64 l[k].fl) ∧
          W.cell? (bd.add (k * 4)) = some (.int .i32 l[k].r) ∧ W.cell? ⟨(bd.add (k * 4)).block, (bd.add (k * 4)).off + 1, none⟩ = some (.int .i64 l[k].fg) ∧ W.cell? ⟨(bd.add (k * 4)).block, (bd.add (k * 4)).off + 2, none⟩ = some (.int .i64 l[k].bg) ∧ W.cell? ⟨(bd.add (k * 4)).block, (bd.add (k * 4)).off + 3, none⟩ = some (.int .i64 l[k].fl)) := hid fun W hW => by
        obtain ⟨a', ea, a0, aj⟩ := (HA.out.fr hW (fun _ _ _ h => h)).at_ k hkm
        obtain ⟨b', eb, b0, bj⟩ := (HB.out.fr hW (fun _ _ _ h => h)).at_ k hkm
        obtain rfl := Option.some.inj ea
        obtain rfl := Option.some.inj eb
        exact ⟨a0, aj 1 _ (by decide) rfl, aj 2 _ (by decide) rfl, aj 3 _ (by decide) rfl, b0, bj 1 _ (by decide) rfl, bj 2 _ (by decide) rfl, bj 3 _ (by decide) rfl⟩
      generalize l[k] = c at *
      have hce := fun w9 => cellEq c w9
      have HFD := hid HF.out.drew
      go_wp2_with fail
      go_region_held3 (fun W : World => W.cell? (ad.add (k * 4)) = some (.int .i32 c.r) ∧ W.cell? ⟨(ad.add (k * 4)).block, (ad.add (k * 4)).off + 1, none⟩ = some (.int .i64 c.fg) ∧ W.cell? ⟨(ad.add (k * 4)).block, (ad.add (k * 4)).off + 2, none⟩ = some (.int .i64 c.bg) ∧ W.cell? ⟨(ad.add (k * 4)).block, (ad.add (k * 4)).off + 3, none⟩ = some (.int .i64 c.fl) ∧
          W.cell? (bd.add (k * 4)) = some (.int .i32 c.r) ∧ W.cell? ⟨(bd.add (k * 4)).block, (bd.add (k * 4)).off + 1, none⟩ = some (.int .i64 c.fg) ∧ W.cell? ⟨(bd.add (k * 4)).block, (bd.add (k * 4)).off + 2, none⟩ = some (.int .i64 c.bg) ∧ W.cell? ⟨(bd.add (k * 4)).block, (bd.add (k * 4)).off + 3, none⟩ = some (.int .i64 c.fl)) (first | exact HSv.out _ HFD.out | fail) (fail)
      all_goals
        go_wp2
        go_roundw
        case rel => exact ⟨k + 1, by omega, by go_num, HFD.out⟩
        case measure => simp [intOf]; omega
    · obtain rfl : k = l.length := by omega
      go_wp2
      go_ret
      exact ⟨rfl, HF.out⟩
/-- Rows and cuts, read cell by cell. -/
theorem Row.ca {w : World} {base : Nat} {v : Value} {l : List Cl} (h : Row Cl.cells 4 38 w base v l) (h0 : 0 < l.length) : ∃ g c, v = .slice (some ⟨g, 0, none⟩) l.length c ∧ CA w (some ⟨g, 0, none⟩) l := by
  obtain ⟨g, c, hv, _, _⟩ := h.ptr h0
  subst hv
  refine ⟨g, c, rfl, fun k hk => ⟨_, rfl, ?_⟩⟩
  simp only [Addr.add_lit, Nat.zero_add]
  have z0 := h.cell Cl.cells_len k hk 0 (by decide) rfl
  rw [Nat.add_zero] at z0
  exact ⟨z0, h.cell Cl.cells_len k hk 1 (by decide) rfl, h.cell Cl.cells_len k hk 2 (by decide) rfl, h.cell Cl.cells_len k hk 3 (by decide) rfl⟩
theorem ClA.ca {w : World} {b o : Nat} {l : List Cl} (h : ClA w ⟨b, o, none⟩ l) : CA w (some ⟨b, o, none⟩) l := fun k hk => by
  have q : ∀ j v, j < 4 → (l[k].cells)[j]? = some v → w.cell? ((⟨b, o, none⟩ : Addr).add (k * 4 + j)) = some v := fun j v hj hv => h _ _ ((flat_get Cl.cells_len l k j hk hj).trans hv)
  have z0 := q 0 _ (by decide) rfl
  rw [Nat.add_zero] at z0
  exact ⟨_, rfl, z0, q 1 _ (by decide) rfl, q 2 _ (by decide) rfl, q 3 _ (by decide) rfl⟩
set_option maxHeartbeats 4000000 in
theorem shows_any (w : World) (g2 gb2 c2 gb c : Nat) (cs : List Cl) (h : GX w g2 gb2 c2 cs) (hr : RG w gb c cs) :
    Calls Try.prog 20 #[.pointer (some ⟨g2, 0, none⟩), gV gb c] w fun e w' => e = .returned (.int .i64 0) ∧ Fr NoB w w' := by
  have hf0 : Fr NoB w (w.alloc (.cells #[.int .i64 10, .int .i64 10, .slice (some ⟨gb, 0, none⟩) 100 c] 59)) := (Fr.refl _ _).alloc _
  have HB := hid (Blk.new w 59 [.int .i64 10, .int .i64 10, .slice (some ⟨gb, 0, none⟩) 100 c])
  have HX := hid (h.frd hf0)
  have HR := hid (hr.frd hf0)
  have HF0 := hid hf0
  have hcc := hr.cap
  have HSz := fun W hW => hid (gSizeX W g2 gb2 c2 cs (HX.out.frd hW))
  have HLN : Hid (cs.length = 100) := hr.len
  have b0 := HB.out.cell 0 rfl
  have b1 := HB.out.cell 1 rfl
  have b2 := HB.out.cell 2 rfl
  have bl := HB.out.lt
  unfold gV
  clear h hr hf0
  go_enter Try.func20, Try.ntmps20
  go_wp2_with fail
  refine (HSz _ (Fr.refl _ _)).out.mono ?_
  rintro e' w1 ⟨rfl, hf1⟩
  have HF1 := hid hf1
  have hB1 := HB.out.fr hf1 (fun h => h)
  have d0 := hB1.cell 0 rfl
  have d1 := hB1.cell 1 rfl
  have dl := hB1.lt
  clear hf1 hB1 b0 b1 b2 bl
  go_wp2
  go_loopw [7] (fun v7 wr => ∃ k : Nat, k ≤ 10 ∧ v7 = .int .i64 k ∧ Hid (Fr NoB (w.alloc (.cells #[.int .i64 10, .int .i64 10, .slice (some ⟨gb, 0, none⟩) 100 c] 59)) wr)) (fun v7 _ => 10 - (intOf v7).toNat)
  case atStart => exact ⟨0, Nat.zero_le _, rfl, HF1.out⟩
  case round =>
    obtain ⟨k, hk, rfl, HF⟩ := hrel
    by_cases hkm : k < 10
    · have m1 : IntKind.i64.wrap ((k : Int) * 10) = ((k * 10 : Nat) : Int) := by rw [IntWalk.i64_in _ (by omega)]; omega
      have m2 : IntKind.i64.wrap (((k : Int) + 1) * 10) = ((k * 10 + 10 : Nat) : Int) := by rw [IntWalk.i64_in _ (by omega)]; omega
      have hcut := cut_ten gb c k hkm hcc
      have HRow : Hid (∀ W, Fr NoB (w.alloc (.cells #[.int .i64 10, .int .i64 10, .slice (some ⟨gb, 0, none⟩) 100 c] 59)) W → Calls Try.prog 47 #[.pointer (some ⟨g2, 0, none⟩), .int .i64 k] W fun e w' => ∃ g5 c5, e = .returned (.slice (some ⟨g5, 0, none⟩) 10 c5) ∧ CA w' (some ⟨g5, 0, none⟩) (rowC cs k) ∧ Fr NoB W w') := hid fun W hW => by
        refine (gRow2X W g2 gb2 c2 cs k (HX.out.frd hW) hkm).mono ?_
        rintro e' w' ⟨v5, rfl, hr5, hf5⟩
        obtain ⟨g5, c5, rfl, hca⟩ := Row.ca hr5 (by rw [rowC_len cs k HLN.out hkm]; decide)
        rw [rowC_len cs k HLN.out hkm]
        exact ⟨g5, c5, rfl, hca, hf5⟩
      have HSame : Hid (∀ W g5 c5, Fr NoB (w.alloc (.cells #[.int .i64 10, .int .i64 10, .slice (some ⟨gb, 0, none⟩) 100 c] 59)) W → CA W (some ⟨g5, 0, none⟩) (rowC cs k) → Calls Try.prog 46 #[.slice (some ⟨g5, 0, none⟩) 10 c5, .slice (some ⟨gb, k * 10 * 4, none⟩) 10 (c - k * 10)] W fun e w' => e = .returned (.bool true) ∧ Fr NoB W w') := hid fun W g5 c5 hW hca => by
        have hb : CA W (some ⟨gb, k * 10 * 4, none⟩) (rowC cs k) := ((HR.out.frd hW).src (k * 10) (by have := HLN.out; omega) _ (List.take_prefix _ _)).ca
        have h := r6Same_any W (some ⟨g5, 0, none⟩) (some ⟨gb, k * 10 * 4, none⟩) c5 (c - k * 10) (rowC cs k) hca hb (by rw [rowC_len cs k HLN.out hkm]; decide)
        rw [rowC_len cs k HLN.out hkm] at h
        exact h
      have HSv : Hid (∀ W, Fr NoB (w.alloc (.cells #[.int .i64 10, .int .i64 10, .slice (some ⟨gb, 0, none⟩) 100 c] 59)) W → W.cell? ⟨w.heap.size, 2, none⟩ = some (.slice (some ⟨gb, 0, none⟩) 100 c)) := hid fun W hW => (HB.out.fr hW (fun h => h)).cell 2 rfl
      have k1 : IntKind.i64.wrap ((k : Int) + 1) = (k : Int) + 1 := IntWalk.i64_in _ (by omega)
      have HFD := hid HF.out.drew
      have b1 : (0 : Int) ≤ ((k * 10 : Nat) : Int) := by omega
      have b2 : ((k * 10 : Nat) : Int) ≤ ((k * 10 + 10 : Nat) : Int) := by omega
      have b3 : ((k * 10 + 10 : Nat) : Int) ≤ 100 := by omega
      obtain ⟨ko, hko⟩ : ∃ ko, ko = k * 10 * 4 := ⟨_, rfl⟩
      obtain ⟨ku, hku⟩ : ∃ ku, ku = k * 10 + 10 := ⟨_, rfl⟩
      rw [← hku] at hcut m2 b2 b3
      obtain ⟨kt, hkt⟩ : ∃ kt, kt = k * 10 := ⟨_, rfl⟩
      rw [← hko] at hcut HSame
      rw [← hkt] at m1 hcut HSame b1 b2
      clear hko hkt hku
      go_wp2_with fail
      go_region_held3 (fun W : World => W.cell? ⟨w.heap.size, 2, none⟩ = some (.slice (some ⟨gb, 0, none⟩) 100 c)) (first | exact HSv.out _ HF7.out | exact HSv.out _ HF6.out | exact HSv.out _ HFD.out | fail) (first | (go_at_call 47; refine (HRow.out _ HFD.out).mono ?_; rintro e' w6 ⟨g5, c5, rfl, hca6, hf6⟩; have HCA6 := hid hca6; have HF6 := hid (HFD.out.trans hf6); clear hca6 hf6) | (go_at_call 46; refine (HSame.out _ g5 c5 HF6.out HCA6.out).mono ?_; rintro e' w7 ⟨rfl, hf7⟩; have HF7 := hid (HF6.out.trans hf7); clear hf7) | fail)
      all_goals
        go_wp2
        go_roundw
        case rel => exact ⟨k + 1, by omega, by go_num, HF7.out⟩
        case measure => simp [intOf]; omega
    · obtain rfl : k = 10 := by omega
      go_wp2
      go_ret
      exact ⟨rfl, HF0.out.trans HF.out⟩
end Go.Proofs.Ytnengimekcnfhaa
