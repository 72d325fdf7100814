import Derived.Test.YtnengimekcnfhaaE2
import Derived.Test.YtnengimekcnfhaaE5
import Derived.Deep.RegionHeld3
import Derived.Test.YtnengimekcnfhaaWEqStruct
set_option linter.unusedSimpArgs false
set_option linter.unusedVariables false
set_option maxRecDepth 20000
namespace Go.Proofs.Ytnengimekcnfhaa
open Go.RowKit Go.Shelf Go.Proofs.YtnengimekcnfhaaW.PrintWords
theorem fits_of (r : Rc) (h : FitsIn 10 10 r) : Fits ⟨0, 0, 10, 10⟩ r := by
  obtain ⟨h1, h2, h3, h4, h5, h6, h7⟩ := h
  have hs : Rc.Right ⟨0, 0, 10, 10⟩ := by decide
  refine ⟨h1, fun he => by rcases he with h | h <;> omega, hs, h1, ?_⟩
  obtain ⟨rx, ry, rw_, rh⟩ := r
  simp only at h2 h3 h4 h5 h6 h7
  unfold Rc.both ofR
  rw [if_pos ⟨hs, h1⟩]
  simp only
  rw [if_neg (by omega)]
  congr 1 <;> omega
theorem addT (r : Rc) (h : Fits ⟨0, 0, 10, 10⟩ r) : addR ⟨0, 0, 10, 10⟩ [] 1 0 r = ⟨[tW r], 2, 1, 0⟩ := by
  unfold addR
  rw [if_neg (by decide), if_neg (fun hn => hn h), if_neg (by decide)]
  rfl
theorem cl_eqA (d : Nat) (w : World) (x0 y0 : Int) (x1 y1 : Int) (x2 y2 : Int) (x3 y3 : Int) :
    (Op.equalIn (d + 3) 38 (.agg #[.int .i32 x0, .int .i64 x1, .int .i64 x2, .int .i64 x3]) (.agg #[.int .i32 y0, .int .i64 y1, .int .i64 y2, .int .i64 y3])).run Try.prog w = .ok (x0 == y0 && (x1 == y1 && (x2 == y2 && (x3 == y3)))) w := by
  refine eqA_of Try.underlying38 (by kernel_rfl) ?_
  refine eqf_cons (by rfl) (by go_simp; rfl) (by go_simp; rfl) (by go_simp) ?_
  refine eqf_last (by rfl) (by go_simp; rfl) (by go_simp; rfl) ?_
  refine eqA_of Try.underlying36 (by kernel_rfl) ?_
  refine eqf_cons (by rfl) (by go_simp; rfl) (by go_simp; rfl) (by go_simp) ?_
  refine eqf_cons (by rfl) (by go_simp; rfl) (by go_simp; rfl) (by go_simp) ?_
  exact eqf_last (by rfl) (by go_simp; rfl) (by go_simp; rfl) (by go_simp)
theorem cl_eq (c : Cl) (w : World) : (Op.equalIn 10000 38 (.agg #[.int .i32 c.r, .int .i64 c.fg, .int .i64 c.bg, .int .i64 c.fl]) (.agg #[.int .i32 c.r, .int .i64 c.fg, .int .i64 c.bg, .int .i64 c.fl])).run Try.prog w = .ok true w := by
  rw [cl_eqA 9997 w]
  simp
section
open Go.Proofs.YtnengimekcnfhaaW.PrintMore
attribute [local go_sem] max2_mx min2_mn max_two min_two
set_option maxHeartbeats 4000000 in
theorem drawFull_any (w : World) (A : Option Addr) (cap : Nat) (l : List Cl) (r : Rc) (x y : Int) (hx : I64 x) (hy : I64 y) (hr : r.I) (hca : CA w A l) (hcap : l.length ≤ cap) (hA : ∀ ad, A = some ad → 0 < l.length → ad.block < w.heap.size) :
    Calls Try.prog 3 #[r.v, .int .i64 x, .int .i64 y, .slice A l.length cap] w fun e w' => e = .returned (.bool true) ∧ Fr NoB w w' := by
  have HAw := fun w9 => hid (awake_any w9)
  have HFt := fun w9 => hid (r12Fits_any w9 10 10 r)
  have HB := hid (Blk.new w 23 r.cells)
  have hf0 : Fr NoB w (w.alloc (.cells #[.int .i64 r.x, .int .i64 r.y, .int .i64 r.w, .int .i64 r.h] 23)) := (Fr.refl _ _).alloc _
  have HF0 := hid hf0
  unfold Rc.v at *
  have b0 := HB.out.cell 0 rfl
  have b1 := HB.out.cell 1 rfl
  have b2 := HB.out.cell 2 rfl
  have b3 := HB.out.cell 3 rfl
  clear hf0
  cases n0 : decide ((l.length : Int) > 20)
  rotate_left
  · clear hca hcap hA hx hy hr
    go_enter Try.func3, Try.ntmps3
    go_wp2_with (first | (go_at_call 7; refine (HAw _).out.mono ?_; rintro e' w1 ⟨rfl, hf⟩; have HF := hid (HF0.out.trans hf); clear hf) | fail)
    go_ret
    exact ⟨rfl, HF.out⟩
  cases n1 : decide (FitsIn 10 10 r)
  · clear hca hcap hA hx hy hr
    go_enter Try.func3, Try.ntmps3
    go_wp2_with fail
    refine (HFt _).out.mono ?_
    rintro e' w1 ⟨rfl, hf⟩
    rw [n1]
    have HF1 := hid (HF0.out.trans hf)
    clear hf
    go_wp2_with fail
    refine (HAw _).out.mono ?_
    rintro e' w2 ⟨rfl, hf⟩
    have HF := hid (HF1.out.trans hf)
    clear hf
    go_wp2_with fail
    go_ret
    exact ⟨rfl, HF.out⟩
  have hfit := of_decide_eq_true n1
  have hll : l.length ≤ 20 := by have := of_decide_eq_false n0; omega
  have HNf := fun w9 => hid (fNew_ok w9 10 10 (by decide) (by decide) (by decide) (by decide))
  have HNs := fun w9 => hid (sNew_ok w9 10 10 (by decide) (by decide) (by decide) (by decide))
  have HFIT := hid hfit
  have HCA := hid hca
  have HAA := hid hA
  clear hca hA hfit
  go_enter Try.func3, Try.ntmps3
  go_wp2_with fail
  refine (HFt _).out.mono ?_
  rintro e' w1 ⟨rfl, hf⟩
  rw [n1]
  have HF1 := hid (HF0.out.trans hf)
  have HB1 := hid (HB.out.fr hf (fun h => h))
  clear hf b0 b1 b2 b3
  go_wp2_with fail
  refine (HNf _).out.mono ?_
  rintro e' w2 ⟨f, g, gb, rfl, hfd, hf, hF0, _, hG0⟩
  have HFD2 := hid hfd
  have HF2 := hid (HF1.out.trans hf)
  have HB2 := hid (HB1.out.fr hf (fun h => h))
  clear hf hfd
  go_wp2_with fail
  refine (HNs _).out.mono ?_
  rintro e' w3 ⟨b, rfl, hsk, hf, hb⟩
  have HSK3 := hid hsk
  have HF3 := hid (HF2.out.trans hf)
  have HFD3 := hid (HFD2.out.frd hf)
  have HB3 := hid (HB2.out.fr hf (fun h => h))
  clear hf hsk
  have b0 := HB3.out.cell 0 rfl
  have b1 := HB3.out.cell 1 rfl
  have b2 := HB3.out.cell 2 rfl
  have b3 := HB3.out.cell 3 rfl
  have bl := HB3.out.lt
  have HA := hid (sAdd_any w3 b _ _ [] 1 0 r HSK3.out (by decide) (by decide) (by decide))
  rw [show addR _ [] 1 0 r = _ from addT r (fits_of r HFIT.out)] at HA
  unfold Rc.v at HA
  go_wp2_with fail
  refine HA.out.mono ?_
  clear HA
  rintro e' w4 ⟨rfl, v4, hsk4, hf4, ho4⟩
  have HSK4 := hid hsk4
  have HFD4 := hid (HFD3.out.past HSK3.out hf4)
  have HF4 := hid (HF3.out.then_ hf4 (fun k hk => .inr (by rcases hk with rfl | hk; exact Nat.le_trans HF2.out.size hb; cases hk)))
  have HCA4 := hid (HCA.out.fr HF4.out (fun _ _ _ h => h))
  have HB4 := hid (HB3.out.fr hf4 (fun hk => by rcases hk with e | hk; exact absurd (blk_type (e ▸ HB3.out) HSK3.out.blk) (by decide); cases hk))
  clear hsk4 hf4 ho4 b0 b1 b2 b3
  have b0 := HB4.out.cell 0 rfl
  have b1 := HB4.out.cell 1 rfl
  have b2 := HB4.out.cell 2 rfl
  have b3 := HB4.out.cell 3 rfl
  have bl := HB4.out.lt
  go_wp2_with fail
  have HC := hid (dCells_full w4 f g gb b r v4 x y A cap l HFD4.out HSK4.out HFIT.out hll HCA4.out hcap (fun ad e h0 => by
    have h1 := HAA.out ad e h0
    have h2 := HF1.out.size
    have h3 := HF4.out.size
    have h4 := HF2.out.size
    exact ⟨by omega, by omega, by omega⟩))
  refine HC.out.mono ?_
  clear HC
  rintro e' w5 ⟨n, rfl, hn, hf5, hgood⟩
  have HGD := hid hgood
  have HB5 := hid (HB4.out.fr hf5 (HFD4.out.notFB HB4.out (by decide) (by decide) (by decide)))
  have HF5 := hid (HF4.out.then_ hf5 (fun k hk => .inr (by
    have h2 := HF1.out.size
    rcases hk with rfl | rfl | hk
    · omega
    · omega
    · cases hk)))
  have HCA5 := hid (HCA.out.fr HF5.out (fun _ _ _ h => h))
  clear hgood hf5 b0 b1 b2 b3 bl
  have b0 := HB5.out.cell 0 rfl
  have b1 := HB5.out.cell 1 rfl
  have b2 := HB5.out.cell 2 rfl
  have b3 := HB5.out.cell 3 rfl
  have bl := HB5.out.lt
  have n2 : decide (n > (l.length : Int)) = false := decide_eq_false (by omega)
  cases c1 : decide (x < 0)
  rotate_left
  · skip
    go_wp2_with fail
    refine (HAw _).out.mono ?_
    rintro e' w6 ⟨rfl, hf⟩
    have HF6 := hid (HF5.out.trans hf)
    clear hf
    go_wp2_with fail
    go_ret
    exact ⟨rfl, HF6.out⟩
  cases c2 : decide (y < 0)
  rotate_left
  · skip
    go_wp2_with fail
    refine (HAw _).out.mono ?_
    rintro e' w6 ⟨rfl, hf⟩
    have HF6 := hid (HF5.out.trans hf)
    clear hf
    go_wp2_with fail
    go_ret
    exact ⟨rfl, HF6.out⟩
  cases c3 : decide (x > 9)
  rotate_left
  · skip
    go_wp2_with fail
    refine (HAw _).out.mono ?_
    rintro e' w6 ⟨rfl, hf⟩
    have HF6 := hid (HF5.out.trans hf)
    clear hf
    go_wp2_with fail
    go_ret
    exact ⟨rfl, HF6.out⟩
  cases c4 : decide (y ≥ r.h)
  rotate_left
  · skip
    go_wp2_with fail
    refine (HAw _).out.mono ?_
    rintro e' w6 ⟨rfl, hf⟩
    have HF6 := hid (HF5.out.trans hf)
    clear hf
    go_wp2_with fail
    go_ret
    exact ⟨rfl, HF6.out⟩
  have hx0 := of_decide_eq_false c1
  have hy0 := of_decide_eq_false c2
  have hx9 := of_decide_eq_false c3
  have hyh := of_decide_eq_false c4
  obtain ⟨hn', cs, nv, ns, hfd5, hat⟩ := HGD.out (by omega) (by omega) (by omega) (by omega)
  obtain ⟨hR, f1, f2, f3, f4, f5, f6⟩ := HFIT.out
  have HFD5 := hid hfd5
  have HAT := hid hat
  clear hfd5 hat
  subst hn'
  have a0 : IntKind.i64.wrap (r.w - x) = r.w - x := IntWalk.i64_in _ (by omega)
  have a1 : IntKind.i64.wrap (r.x + x) = r.x + x := IntWalk.i64_in _ (by omega)
  have a2 : IntKind.i64.wrap (r.y + y) = r.y + y := IntWalk.i64_in _ (by omega)
  have FX : Hid (0 ≤ x ∧ 0 ≤ y ∧ x ≤ 9 ∧ y < r.h ∧ 0 < r.w ∧ 0 < r.h ∧ 0 ≤ r.x ∧ 0 ≤ r.y ∧ r.x + r.w ≤ 10 ∧ r.y + r.h ≤ 10) := ⟨by omega, by omega, by omega, by omega, f1, f2, f3, f4, f5, f6⟩
  clear hx0 hy0 hx9 hyh hn hR f1 f2 f3 f4 f5 f6 hx hy hr
  go_wp2_with fail
  clear b0 b1 b2 b3 bl
  go_loopw [15] (fun v15 wr => ∃ k : Nat, k ≤ l.length ∧ v15 = .int .i64 k ∧ Hid (Fr NoB w5 wr)) (fun v15 _ => l.length - (intOf v15).toNat)
  case atStart => exact ⟨0, Nat.zero_le _, rfl, Fr.refl _ _⟩
  case round =>
    obtain ⟨k, hk, rfl, HFr⟩ := hrel
    have b0 := (HB5.out.fr HFr.out (fun h => h)).cell 0 rfl
    have b1 := (HB5.out.fr HFr.out (fun h => h)).cell 1 rfl
    have b2 := (HB5.out.fr HFr.out (fun h => h)).cell 2 rfl
    have b3 := (HB5.out.fr HFr.out (fun h => h)).cell 3 rfl
    have bl := (HB5.out.fr HFr.out (fun h => h)).lt
    have a3 : IntKind.i64.wrap (x + (k : Int)) = x + k := IntWalk.i64_in _ (by have := FX.out; omega)
    by_cases hkm : k < l.length
    · have d1 : decide ((k : Int) < (l.length : Int)) = true := decide_eq_true (by omega)
      cases d2 : decide (x + (k : Int) < r.w)
      · go_wp2_with fail
        refine (HAw _).out.mono ?_
        rintro e' w6 ⟨rfl, hf⟩
        have HF6 := hid ((HF5.out.trans HFr.out).trans hf)
        clear hf
        go_wp2_with fail
        go_ret
        exact ⟨rfl, HF6.out⟩
      · obtain ⟨g0, g1, g2, g3, g4, g5, g6, g7, g8, g9⟩ := FX.out
        have hxk := of_decide_eq_true d2
        obtain ⟨pn, hpn⟩ : ∃ n : Nat, r.x + x + (k : Int) = n := ⟨(r.x + x + (k : Int)).toNat, by omega⟩
        obtain ⟨qn, hqn⟩ : ∃ n : Nat, r.y + y = n := ⟨(r.y + y).toNat, by omega⟩
        have a4 : IntKind.i64.wrap (r.x + x + (k : Int)) = (pn : Int) := by rw [hpn]; exact IntWalk.i64_in _ (by omega)
        have a5 : IntKind.i64.wrap (r.y + y) = (qn : Int) := by rw [hqn]; exact IntWalk.i64_in _ (by omega)
        have a6 : IntKind.i64.wrap ((k : Int) + 1) = ((k + 1 : Nat) : Int) := by rw [show (k : Int) + 1 = ((k + 1 : Nat) : Int) by omega]; exact IntWalk.i64_in _ (by omega)
        have hklI : (k : Int) < (l.length : Int) := by omega
        have hfw : Fr NoB wr wr.drew := Fr.drew (Fr.refl _ _)
        have hat := HAT.out k hkm hxk
        rw [hpn, hqn] at hat
        have HAt0 : Hid (∀ w9, Fr NoB wr w9 → Calls Try.prog 12 #[.pointer (some ⟨g, 0, none⟩), .int .i64 pn, .int .i64 qn] w9 fun e w' => e = .returned l[k].v ∧ Fr NoB w9 w') := fun w9 h9 => by
          have h := gAt_in w9 g gb 10 10 cs pn qn (((HFD5.out.frd HFr.out).frd h9).gd) (by omega) (by omega)
          rw [hat] at h
          exact h
        have hkca : ∀ {W2 : World}, CA W2 A l → ∃ ad, A = some ad ∧ W2.cell? (ad.add (k * 4)) = some (.int .i32 l[k].r) ∧ W2.cell? (ad.add (k * 4 + 1)) = some (.int .i64 l[k].fg) ∧ W2.cell? (ad.add (k * 4 + 2)) = some (.int .i64 l[k].bg) ∧ W2.cell? (ad.add (k * 4 + 3)) = some (.int .i64 l[k].fl) := fun h => h k hkm
        clear hat
        generalize l[k] = c at *
        obtain ⟨ad, rfl, _⟩ := hkca HCA5.out
        have HAt : Hid (∀ w9, Fr NoB wr w9 → Calls Try.prog 12 #[.pointer (some ⟨g, 0, none⟩), .int .i64 pn, .int .i64 qn] w9 fun e w' => e = .returned (.agg #[.int .i32 c.r, .int .i64 c.fg, .int .i64 c.bg, .int .i64 c.fl]) ∧ Fr NoB w9 w') := HAt0.out
        have HSv : Hid (∀ W2, Fr NoB wr W2 → W2.cell? ⟨f, 0, none⟩ = some (.pointer (some ⟨g, 0, none⟩)) ∧ W2.cell? ⟨w.heap.size, 0, none⟩ = some (.int .i64 r.x) ∧ W2.cell? ⟨w.heap.size, 1, none⟩ = some (.int .i64 r.y) ∧ W2.cell? (ad.add (k * 4)) = some (.int .i32 c.r) ∧ W2.cell? ⟨(ad.add (k * 4)).block, (ad.add (k * 4)).off + 1, none⟩ = some (.int .i64 c.fg) ∧ W2.cell? ⟨(ad.add (k * 4)).block, (ad.add (k * 4)).off + 2, none⟩ = some (.int .i64 c.bg) ∧ W2.cell? ⟨(ad.add (k * 4)).block, (ad.add (k * 4)).off + 3, none⟩ = some (.int .i64 c.fl)) := fun W2 h => by
          obtain ⟨ad', e', c1, c2, c3, c4⟩ := hkca ((HCA5.out.fr HFr.out (fun _ _ _ h => h)).fr h (fun _ _ _ h => h))
          obtain rfl := Option.some.inj e'
          exact ⟨((HFD5.out.frd HFr.out).frd h).blk.cell 0 rfl, ((HB5.out.fr HFr.out (fun h => h)).fr h (fun h => h)).cell 0 rfl, ((HB5.out.fr HFr.out (fun h => h)).fr h (fun h => h)).cell 1 rfl, c1, by show W2.cell? ((ad.add (k * 4)).add 1) = _; rw [Addr.add_add]; exact c2, by show W2.cell? ((ad.add (k * 4)).add 2) = _; rw [Addr.add_add]; exact c3, by show W2.cell? ((ad.add (k * 4)).add 3) = _; rw [Addr.add_add]; exact c4⟩
        have hce := fun w9 => cl_eq c w9
        clear hkca HAt0 hpn hqn a2 g0 g1 g2 g3 g4 g5 g6 g7 g8 g9 hxk
        go_wp2_with fail
        refine wp_region_held_drew (S := (fun W : World => Fr NoB wr W ∧ W.cell? ⟨f, 0, none⟩ = some (.pointer (some ⟨g, 0, none⟩)) ∧ W.cell? ⟨w.heap.size, 0, none⟩ = some (.int .i64 r.x) ∧ W.cell? ⟨w.heap.size, 1, none⟩ = some (.int .i64 r.y) ∧ W.cell? (ad.add (k * 4)) = some (.int .i32 c.r) ∧ W.cell? ⟨(ad.add (k * 4)).block, (ad.add (k * 4)).off + 1, none⟩ = some (.int .i64 c.fg) ∧ W.cell? ⟨(ad.add (k * 4)).block, (ad.add (k * 4)).off + 2, none⟩ = some (.int .i64 c.bg) ∧ W.cell? ⟨(ad.add (k * 4)).block, (ad.add (k * 4)).off + 3, none⟩ = some (.int .i64 c.fl))) (by kernel_rfl) ⟨hfw, HSv.out _ hfw⟩ (fun hHeld => ?_)
        refine wpAnyH_take (i := 0) (oi := { dst := some 88, op := Op.move (Operand.tmp 9), type := 27, pos := "law.go:161", after := #[], guard := none }) (v := ?v0) rfl (by kernel_rfl) (by kernel_rfl) (by kernel_rfl) (fun _ _ _ h => h) (Or.inl ⟨by rfl, ?hy0⟩) (by assumption) ?r0
        case hy0 => (intro w hSw; (try dsimp only at hSw); go_simp; try (with_reducible rfl))
        try simp only [Act.put, List.setIfInBounds_toArray, List.set_cons_zero, List.set_cons_succ]
        refine wpAnyH_take (i := 1) (oi := { dst := some 89, op := Op.nilCheck (Operand.tmp 88), type := 0, pos := "law.go:161", after := #[{ on := 0, ground := Ground.data }], guard := none }) (v := ?v1) rfl (by kernel_rfl) (by kernel_rfl) (by kernel_rfl) (fun _ _ _ h => h) (Or.inl ⟨by rfl, ?hy1⟩) (by assumption) ?r1
        case hy1 => (intro w hSw; (try dsimp only at hSw); go_simp; try (with_reducible rfl))
        try simp only [Act.put, List.setIfInBounds_toArray, List.set_cons_zero, List.set_cons_succ]
        refine wpAnyH_take (i := 2) (oi := { dst := some 90, op := Op.fieldAddr 43 (Operand.tmp 89) 0, type := 0, pos := "law.go:161", after := #[{ on := 1, ground := Ground.data }], guard := none }) (v := ?v2) rfl (by kernel_rfl) (by kernel_rfl) (by kernel_rfl) (fun _ _ _ h => h) (Or.inl ⟨by rfl, ?hy2⟩) (by assumption) ?r2
        case hy2 => (intro w hSw; (try dsimp only at hSw); go_simp; try (with_reducible rfl))
        try simp only [Act.put, List.setIfInBounds_toArray, List.set_cons_zero, List.set_cons_succ]
        refine wpAnyH_take (i := 3) (oi := { dst := some 91, op := Op.load 40 (Operand.tmp 90), type := 40, pos := "law.go:161", after := #[{ on := 2, ground := Ground.data }], guard := none }) (v := ?v3) rfl (by kernel_rfl) (by kernel_rfl) (by kernel_rfl) (fun _ _ _ h => h) (Or.inl ⟨by rfl, ?hy3⟩) (by assumption) ?r3
        case hy3 => (intro w hSw; (try dsimp only at hSw); go_simp; try (with_reducible rfl))
        try simp only [Act.put, List.setIfInBounds_toArray, List.set_cons_zero, List.set_cons_succ]
        refine wpAnyH_take (i := 4) (oi := { dst := some 92, op := Op.fieldAddr 23 (Operand.tmp 4) 0, type := 0, pos := "law.go:161", after := #[], guard := none }) (v := ?v4) rfl (by kernel_rfl) (by kernel_rfl) (by kernel_rfl) (fun _ _ _ h => h) (Or.inl ⟨by rfl, ?hy4⟩) (by assumption) ?r4
        case hy4 => (intro w hSw; (try dsimp only at hSw); go_simp; try (with_reducible rfl))
        try simp only [Act.put, List.setIfInBounds_toArray, List.set_cons_zero, List.set_cons_succ]
        refine wpAnyH_take (i := 5) (oi := { dst := some 93, op := Op.load 3 (Operand.tmp 92), type := 3, pos := "law.go:161", after := #[{ on := 4, ground := Ground.data }], guard := none }) (v := ?v5) rfl (by kernel_rfl) (by kernel_rfl) (by kernel_rfl) (fun _ _ _ h => h) (Or.inl ⟨by rfl, ?hy5⟩) (by assumption) ?r5
        case hy5 => (intro w hSw; (try dsimp only at hSw); go_simp; try (with_reducible rfl))
        try simp only [Act.put, List.setIfInBounds_toArray, List.set_cons_zero, List.set_cons_succ]
        refine wpAnyH_take (i := 6) (oi := { dst := some 94, op := Op.move (Operand.tmp 1), type := 3, pos := "law.go:161", after := #[], guard := none }) (v := ?v6) rfl (by kernel_rfl) (by kernel_rfl) (by kernel_rfl) (fun _ _ _ h => h) (Or.inl ⟨by rfl, ?hy6⟩) (by assumption) ?r6
        case hy6 => (intro w hSw; (try dsimp only at hSw); go_simp; try (with_reducible rfl))
        try simp only [Act.put, List.setIfInBounds_toArray, List.set_cons_zero, List.set_cons_succ]
        refine wpAnyH_take (i := 7) (oi := { dst := some 95, op := Op.binOp BinOp.add 3 (Operand.tmp 93) (Operand.tmp 94) 3, type := 3, pos := "law.go:161", after := #[{ on := 5, ground := Ground.data }, { on := 6, ground := Ground.data }], guard := none }) (v := ?v7) rfl (by kernel_rfl) (by kernel_rfl) (by kernel_rfl) (fun _ _ _ h => h) (Or.inl ⟨by rfl, ?hy7⟩) (by assumption) ?r7
        case hy7 => (intro w hSw; (try dsimp only at hSw); go_simp; try (with_reducible rfl))
        try simp only [Act.put, List.setIfInBounds_toArray, List.set_cons_zero, List.set_cons_succ]
        refine wpAnyH_take (i := 8) (oi := { dst := some 96, op := Op.move (Operand.tmp 15), type := 3, pos := "law.go:161", after := #[], guard := none }) (v := ?v8) rfl (by kernel_rfl) (by kernel_rfl) (by kernel_rfl) (fun _ _ _ h => h) (Or.inl ⟨by rfl, ?hy8⟩) (by assumption) ?r8
        case hy8 => (intro w hSw; (try dsimp only at hSw); go_simp; try (with_reducible rfl))
        try simp only [Act.put, List.setIfInBounds_toArray, List.set_cons_zero, List.set_cons_succ]
        refine wpAnyH_take (i := 9) (oi := { dst := some 97, op := Op.binOp BinOp.add 3 (Operand.tmp 95) (Operand.tmp 96) 3, type := 3, pos := "law.go:161", after := #[{ on := 7, ground := Ground.data }, { on := 8, ground := Ground.data }], guard := none }) (v := ?v9) rfl (by kernel_rfl) (by kernel_rfl) (by kernel_rfl) (fun _ _ _ h => h) (Or.inl ⟨by rfl, ?hy9⟩) (by assumption) ?r9
        case hy9 => (intro w hSw; (try dsimp only at hSw); go_simp; try (with_reducible rfl))
        try simp only [Act.put, List.setIfInBounds_toArray, List.set_cons_zero, List.set_cons_succ]
        refine wpAnyH_take (i := 10) (oi := { dst := some 98, op := Op.fieldAddr 23 (Operand.tmp 4) 1, type := 0, pos := "law.go:161", after := #[], guard := none }) (v := ?v10) rfl (by kernel_rfl) (by kernel_rfl) (by kernel_rfl) (fun _ _ _ h => h) (Or.inl ⟨by rfl, ?hy10⟩) (by assumption) ?r10
        case hy10 => (intro w hSw; (try dsimp only at hSw); go_simp; try (with_reducible rfl))
        try simp only [Act.put, List.setIfInBounds_toArray, List.set_cons_zero, List.set_cons_succ]
        refine wpAnyH_take (i := 11) (oi := { dst := some 99, op := Op.load 3 (Operand.tmp 98), type := 3, pos := "law.go:161", after := #[{ on := 10, ground := Ground.data }], guard := none }) (v := ?v11) rfl (by kernel_rfl) (by kernel_rfl) (by kernel_rfl) (fun _ _ _ h => h) (Or.inl ⟨by rfl, ?hy11⟩) (by assumption) ?r11
        case hy11 => (intro w hSw; (try dsimp only at hSw); go_simp; try (with_reducible rfl))
        try simp only [Act.put, List.setIfInBounds_toArray, List.set_cons_zero, List.set_cons_succ]
        refine wpAnyH_take (i := 12) (oi := { dst := some 100, op := Op.move (Operand.tmp 2), type := 3, pos := "law.go:161", after := #[], guard := none }) (v := ?v12) rfl (by kernel_rfl) (by kernel_rfl) (by kernel_rfl) (fun _ _ _ h => h) (Or.inl ⟨by rfl, ?hy12⟩) (by assumption) ?r12
        case hy12 => (intro w hSw; (try dsimp only at hSw); go_simp; try (with_reducible rfl))
        try simp only [Act.put, List.setIfInBounds_toArray, List.set_cons_zero, List.set_cons_succ]
        refine wpAnyH_take (i := 13) (oi := { dst := some 101, op := Op.binOp BinOp.add 3 (Operand.tmp 99) (Operand.tmp 100) 3, type := 3, pos := "law.go:161", after := #[{ on := 11, ground := Ground.data }, { on := 12, ground := Ground.data }], guard := none }) (v := ?v13) rfl (by kernel_rfl) (by kernel_rfl) (by kernel_rfl) (fun _ _ _ h => h) (Or.inl ⟨by rfl, ?hy13⟩) (by assumption) ?r13
        case hy13 => (intro w hSw; (try dsimp only at hSw); go_simp; try (with_reducible rfl))
        try simp only [Act.put, List.setIfInBounds_toArray, List.set_cons_zero, List.set_cons_succ]
        refine wpAnyH_take (i := 15) (oi := { dst := some 103, op := Op.move (Operand.tmp 3), type := 24, pos := "law.go:161", after := #[], guard := none }) (v := ?v15) rfl (by kernel_rfl) (by kernel_rfl) (by kernel_rfl) (fun _ _ _ h => h) (Or.inl ⟨by rfl, ?hy15⟩) (by assumption) ?r15
        case hy15 => (intro w hSw; (try dsimp only at hSw); go_simp; try (with_reducible rfl))
        try simp only [Act.put, List.setIfInBounds_toArray, List.set_cons_zero, List.set_cons_succ]
        refine wpAnyH_take (i := 16) (oi := { dst := some 104, op := Op.move (Operand.tmp 15), type := 3, pos := "law.go:161", after := #[], guard := none }) (v := ?v16) rfl (by kernel_rfl) (by kernel_rfl) (by kernel_rfl) (fun _ _ _ h => h) (Or.inl ⟨by rfl, ?hy16⟩) (by assumption) ?r16
        case hy16 => (intro w hSw; (try dsimp only at hSw); go_simp; try (with_reducible rfl))
        try simp only [Act.put, List.setIfInBounds_toArray, List.set_cons_zero, List.set_cons_succ]
        refine wpAnyH_take (i := 17) (oi := { dst := some 105, op := Op.indexAddr 24 (Operand.tmp 103) (Operand.tmp 104), type := 0, pos := "law.go:161", after := #[{ on := 15, ground := Ground.data }, { on := 16, ground := Ground.data }], guard := none }) (v := ?v17) rfl (by kernel_rfl) (by kernel_rfl) (by kernel_rfl) (fun _ _ _ h => h) (Or.inl ⟨by rfl, ?hy17⟩) (by assumption) ?r17
        case hy17 => (intro w hSw; (try dsimp only at hSw); go_simp; try (with_reducible rfl))
        try simp only [Act.put, List.setIfInBounds_toArray, List.set_cons_zero, List.set_cons_succ]
        refine wpAnyH_take (i := 18) (oi := { dst := some 106, op := Op.load 38 (Operand.tmp 105), type := 38, pos := "law.go:161", after := #[{ on := 17, ground := Ground.data }], guard := none }) (v := ?v18) rfl (by kernel_rfl) (by kernel_rfl) (by kernel_rfl) (fun _ _ _ h => h) (Or.inl ⟨by rfl, ?hy18⟩) (by assumption) ?r18
        case hy18 => (intro w hSw; (try dsimp only at hSw); go_simp; try (with_reducible rfl))
        try simp only [Act.put, List.setIfInBounds_toArray, List.set_cons_zero, List.set_cons_succ]
        refine wpAnyH_ready (rs := [14]) (by kernel_rfl) (by simp) ?_
        refine AllReadyH.cons (o := { dst := some 102, op := Op.call { callee := Callee.value (Operand.func 12), args := #[Operand.tmp 91, Operand.tmp 97, Operand.tmp 101], argTypes := #[40, 3, 3] }, type := 38, pos := "law.go:161", after := #[{ on := 3, ground := Ground.data }, { on := 9, ground := Ground.data }, { on := 13, ground := Ground.data }], guard := none }) rfl (fun K hK => ?_) AllReadyH.nil
        go_simp
        refine (HAt.out _ hfw).mono ?_
        rintro e' w6 ⟨rfl, hf6⟩
        have HF6 := hid (hfw.trans hf6)
        clear hHeld hf6
        go_wp2_with fail
        refine hK.out _ _ (⟨HF6.out, HSv.out _ HF6.out⟩) (fun hHeld => ?_)
        clear hK K
        try simp only [Act.put, List.setIfInBounds_toArray, List.set_cons_zero, List.set_cons_succ]
        refine wpAnyH_take (i := 19) (oi := { dst := some 107, op := Op.binOp BinOp.neq 38 (Operand.tmp 102) (Operand.tmp 106) 38, type := 4, pos := "law.go:161", after := #[{ on := 14, ground := Ground.data }, { on := 18, ground := Ground.data }], guard := none }) (v := ?v19) rfl (by kernel_rfl) (by kernel_rfl) (by kernel_rfl) (fun _ _ _ h => h) (Or.inl ⟨by rfl, ?hy19⟩) (by assumption) ?r19
        case hy19 => (intro w hSw; (try dsimp only at hSw); go_simp; try (with_reducible rfl))
        try simp only [Act.put, List.setIfInBounds_toArray, List.set_cons_zero, List.set_cons_succ]
        refine wpAnyH_done (by kernel_rfl) ?_ _
        clear hHeld HSv
        go_wp2_with fail
        exact ⟨⟨k + 1, hkm, by rw [show (k : Int) + 1 = ((k + 1 : Nat) : Int) by omega], HFr.out.trans HF6.out⟩, by simp only [intOf]; omega⟩
    · have d1 : decide ((k : Int) < (l.length : Int)) = false := decide_eq_false (by omega)
      go_wp2_with fail
      refine (HAw _).out.mono ?_
      rintro e' w6 ⟨rfl, hf⟩
      have HF6 := hid ((HF5.out.trans HFr.out).trans hf)
      clear hf
      go_wp2_with fail
      go_ret
      exact ⟨rfl, HF6.out⟩
end
end Go.Proofs.Ytnengimekcnfhaa
