import Derived.Test.YtnengimekcnfhaaDoorD1
set_option linter.unusedSimpArgs false
set_option linter.unusedVariables false
set_option maxRecDepth 20000
namespace Go.Proofs.YtnengimekcnfhaaDoor
open Go.RowKit Go.Proofs.YtnengimekcnfhaaDoorW.PrintWords
/-- Cell k of cells that came in, as the walk spells the addresses. -/
theorem CA.at_ {w : World} {A : Option Addr} {l : List Cl} (h : CA w A l) (k : Nat) (hk : k < l.length) : ∃ ad : Addr, A = some ad ∧ w.cell? (ad.add (k * 4)) = some (.int .i32 l[k].r) ∧ ∀ j v, 0 < j → (l[k].cells)[j]? = some v → w.cell? ⟨(ad.add (k * 4)).block, (ad.add (k * 4)).off + j, none⟩ = some v := by
  obtain ⟨ad, e, c0, c1, c2, c3⟩ := h k hk
  refine ⟨ad, e, c0, fun j v hj hv => ?_⟩
  match j, hj, hv with
  | 1, _, hv => rw [← Addr.add_add, Addr.add_succ'] at c1; obtain rfl := Option.some.inj hv; exact c1
  | 2, _, hv => rw [← Addr.add_add, Addr.add_succ'] at c2; obtain rfl := Option.some.inj hv; exact c2
  | 3, _, hv => rw [← Addr.add_add, Addr.add_succ'] at c3; obtain rfl := Option.some.inj hv; exact c3
  | j + 4, _, hv => simp [Cl.cells] at hv
section
open Go.Proofs.YtnengimekcnfhaaDoorW.PrintMore
theorem cellEqA (d : Nat) (w : World) (x0 y0 : Int) (x1 y1 : Int) (x2 y2 : Int) (x3 y3 : Int) :
    (Op.equalIn (d + 3) 40 (.agg #[.int .i32 x0, .int .i64 x1, .int .i64 x2, .int .i64 x3]) (.agg #[.int .i32 y0, .int .i64 y1, .int .i64 y2, .int .i64 y3])).run Tryd.prog w = .ok (x0 == y0 && (x1 == y1 && (x2 == y2 && (x3 == y3)))) w := by
  refine eqA_of Tryd.underlying40 (by kernel_rfl) ?_
  refine eqf_cons (by rfl) (by go_simp; rfl) (by go_simp; rfl) (by go_simp) ?_
  refine eqf_last (by rfl) (by go_simp; rfl) (by go_simp; rfl) ?_
  refine eqA_of Tryd.underlying23 (by kernel_rfl) ?_
  refine eqf_cons (by rfl) (by go_simp; rfl) (by go_simp; rfl) (by go_simp) ?_
  refine eqf_cons (by rfl) (by go_simp; rfl) (by go_simp; rfl) (by go_simp) ?_
  exact eqf_last (by rfl) (by go_simp; rfl) (by go_simp; rfl) (by go_simp)
theorem cellEq (c : Cl) (w : World) : (Op.equalIn 10000 40 (.agg #[.int .i32 c.r, .int .i64 c.fg, .int .i64 c.bg, .int .i64 c.fl]) (.agg #[.int .i32 c.r, .int .i64 c.fg, .int .i64 c.bg, .int .i64 c.fl])).run Tryd.prog w = .ok true w := by
  rw [cellEqA 9997 w]
  simp
end
set_option maxHeartbeats 4000000 in
/-- The same cells twice. -/
theorem r6Same_any (w : World) (A B : Option Addr) (c1 c2 : Nat) (l : List Cl) (hA : CA w A l) (hB : CA w B l) (hl : l.length ≤ 1000) :
    Calls Tryd.prog 5 #[.slice A l.length c1, .slice B l.length c2] w fun e w' => e = .returned (.bool true) ∧ Fr NoB w w' := by
  have HA := hid hA
  have HB := hid hB
  clear hA hB
  go_enter Tryd.func5, Tryd.ntmps5
  go_wp2
  go_loopw [5] (fun v5 wr => ∃ k : Nat, k ≤ l.length ∧ v5 = .int .i64 k ∧ Hid (Fr NoB w wr)) (fun v5 _ => l.length - (intOf v5).toNat)
  case atStart => exact ⟨0, Nat.zero_le _, rfl, Fr.refl _ _⟩
  case round =>
    obtain ⟨k, hk, rfl, HF⟩ := hrel
    by_cases hkm : k < l.length
    · obtain ⟨ad, rfl, _⟩ := HA.out k hkm
      obtain ⟨bd, rfl, _⟩ := HB.out k hkm
      have HSv : Hid (∀ W, Fr NoB w W → W.cell? (ad.add (k * 4)) = some (.int .i32 l[k].r) ∧ W.cell? ⟨(ad.add (k * 4)).block, (ad.add (k * 4)).off + 1, none⟩ = some (.int .i64 l[k].fg) ∧ W.cell? ⟨(ad.add (k * 4)).block, (ad.add (k * 4)).off + 2, none⟩ = some (.int .i64 l[k].bg) ∧ W.cell? ⟨(ad.add (k * 4)).block, (ad.add (k * 4)).off + 3, none⟩ = some (.int .i64 l[k].fl) ∧
          W.cell? (bd.add (k * 4)) = some (.int .i32 l[k].r) ∧ W.cell? ⟨(bd.add (k * 4)).block, (bd.add (k * 4)).off + 1, none⟩ = some (.int .i64 l[k].fg) ∧ W.cell? ⟨(bd.add (k * 4)).block, (bd.add (k * 4)).off + 2, none⟩ = some (.int .i64 l[k].bg) ∧ W.cell? ⟨(bd.add (k * 4)).block, (bd.add (k * 4)).off + 3, none⟩ = some (.int .i64 l[k].fl)) := hid fun W hW => by
        obtain ⟨a', ea, a0, aj⟩ := (HA.out.fr hW (fun _ _ _ h => h)).at_ k hkm
        obtain ⟨b', eb, b0, bj⟩ := (HB.out.fr hW (fun _ _ _ h => h)).at_ k hkm
        obtain rfl := Option.some.inj ea
        obtain rfl := Option.some.inj eb
        exact ⟨a0, aj 1 _ (by decide) rfl, aj 2 _ (by decide) rfl, aj 3 _ (by decide) rfl, b0, bj 1 _ (by decide) rfl, bj 2 _ (by decide) rfl, bj 3 _ (by decide) rfl⟩
      generalize l[k] = c at *
      have hce := fun w9 => cellEq c w9
      have HFD := hid HF.out.drew
      go_wp2_with fail
      go_region_held3 (fun W : World => W.cell? (ad.add (k * 4)) = some (.int .i32 c.r) ∧ W.cell? ⟨(ad.add (k * 4)).block, (ad.add (k * 4)).off + 1, none⟩ = some (.int .i64 c.fg) ∧ W.cell? ⟨(ad.add (k * 4)).block, (ad.add (k * 4)).off + 2, none⟩ = some (.int .i64 c.bg) ∧ W.cell? ⟨(ad.add (k * 4)).block, (ad.add (k * 4)).off + 3, none⟩ = some (.int .i64 c.fl) ∧
          W.cell? (bd.add (k * 4)) = some (.int .i32 c.r) ∧ W.cell? ⟨(bd.add (k * 4)).block, (bd.add (k * 4)).off + 1, none⟩ = some (.int .i64 c.fg) ∧ W.cell? ⟨(bd.add (k * 4)).block, (bd.add (k * 4)).off + 2, none⟩ = some (.int .i64 c.bg) ∧ W.cell? ⟨(bd.add (k * 4)).block, (bd.add (k * 4)).off + 3, none⟩ = some (.int .i64 c.fl)) (first | exact HSv.out _ HFD.out | fail) (fail)
      all_goals
        go_wp2
        go_roundw
        case rel => exact ⟨k + 1, by omega, by go_num, HFD.out⟩
        case measure => simp [intOf]; omega
    · obtain rfl : k = l.length := by omega
      go_wp2
      go_ret
      exact ⟨rfl, HF.out⟩
/-- Rows and cuts, read cell by cell. -/
theorem Row.ca {w : World} {base : Nat} {v : Value} {l : List Cl} (h : Row Cl.cells 4 40 w base v l) (h0 : 0 < l.length) : ∃ g c, v = .slice (some ⟨g, 0, none⟩) l.length c ∧ CA w (some ⟨g, 0, none⟩) l := by
  obtain ⟨g, c, hv, _, _⟩ := h.ptr h0
  subst hv
  refine ⟨g, c, rfl, fun k hk => ⟨_, rfl, ?_⟩⟩
  simp only [Addr.add_lit, Nat.zero_add]
  have z0 := h.cell Cl.cells_len k hk 0 (by decide) rfl
  rw [Nat.add_zero] at z0
  exact ⟨z0, h.cell Cl.cells_len k hk 1 (by decide) rfl, h.cell Cl.cells_len k hk 2 (by decide) rfl, h.cell Cl.cells_len k hk 3 (by decide) rfl⟩
end Go.Proofs.YtnengimekcnfhaaDoor
