import Derived.Test.YtnengimekcnfhaaQ1
import Derived.Test.YtnengimekcnfhaaW6
set_option linter.unusedSimpArgs false
set_option linter.unusedVariables false
set_option maxRecDepth 20000
namespace Go.Proofs.Ytnengimekcnfhaa
open Go.RowKit Go.Proofs.YtnengimekcnfhaaW.PrintWords
/-- A fresh grid: a value whose row is made by the call. -/
def RGto (cs : List Cl) (w : World) (e : Ending) (w' : World) : Prop := ∃ gb c, e = .returned (gV gb c) ∧ RG w' gb c cs ∧ Fr NoB w w' ∧ w.heap.size ≤ gb
theorem Vec.put4c {w : World} {g c : Nat} {cs : List Cl} {rest : List Value} (h : Vec Cl.cells 4 w g 38 cs rest c) (k : Nat) (hk : k < cs.length) (q : Cl) : Vec Cl.cells 4 (put4c w g (k * 4) q) g 38 (cs.set k q) rest c := by
  have h1 := Vec.set1 h Cl.cells_len k 0 hk (by decide) (.int .i32 q.r) ⟨q.r, cs[k].fg, cs[k].bg, cs[k].fl⟩ rfl
  have h2 := Vec.set1 h1 Cl.cells_len k 1 (by simpa using hk) (by decide) (.int .i64 q.fg) ⟨q.r, q.fg, cs[k].bg, cs[k].fl⟩ (by rw [List.getElem_set_self]; rfl)
  have h3 := Vec.set1 h2 Cl.cells_len k 2 (by simpa using hk) (by decide) (.int .i64 q.bg) ⟨q.r, q.fg, q.bg, cs[k].fl⟩ (by rw [List.getElem_set_self]; rfl)
  have h4 := Vec.set1 h3 Cl.cells_len k 3 (by simpa using hk) (by decide) (.int .i64 q.fl) q (by rw [List.getElem_set_self]; rfl)
  rw [List.set_set, List.set_set, List.set_set, Nat.add_zero] at h4
  exact h4
set_option maxHeartbeats 8000000 in
theorem r6Set_in (w : World) (gb c : Nat) (cs : List Cl) (x y : Nat) (q : Cl) (h : RG w gb c cs) (hx : x < 10) (hy : y < 10) :
    Calls Try.prog 68 #[gV gb c, .int .i64 x, .int .i64 y, q.v] w (RGto (setG 10 cs x y q) w) := by
  have hk : y * 10 + x < 100 := by omega
  have hgl := h.lt
  have HI := fun w9 => hid (r6In_any w9 (.slice (some ⟨gb, 0, none⟩) 100 c) _ _ _ rfl (x : Int) (y : Int))
  have hin : decide (0 ≤ (x : Int) ∧ (x : Int) < 10 ∧ 0 ≤ (y : Int) ∧ (y : Int) < 10) = true := decide_eq_true (by omega)
  rw [hin] at HI
  have m1 : IntKind.i64.wrap ((y : Int) * 10) = (y : Int) * 10 := IntWalk.i64_in _ (by omega)
  have m2 : IntKind.i64.wrap ((y : Int) * 10 + x) = ((y * 10 + x : Nat) : Int) := by rw [IntWalk.i64_in _ (by omega)]; omega
  have hset : setG 10 cs x y q = cs.set (y * 10 + x) q := by unfold setG; congr 1
  rw [hset]
  generalize y * 10 + x = k at *
  have HH := hid h
  have hW0 : ∃ w0, w0 = ((w.alloc (.cells #[.int .i64 10, .int .i64 10, .slice (some ⟨gb, 0, none⟩) 100 c] 59)).alloc (.cells #[.int .i32 q.r, .int .i64 q.fg, .int .i64 q.bg, .int .i64 q.fl] 38)).alloc (.cells #[.int .i64 0, .int .i64 0, .slice none 0 0] 59) := ⟨_, rfl⟩
  obtain ⟨w0, hw0⟩ := hW0
  have hF0 : Fr NoB w w0 := by rw [hw0]; exact (((Fr.refl NoB w).alloc _).alloc _).alloc _
  have hB : Blk w0 w.heap.size 59 [.int .i64 10, .int .i64 10, .slice (some ⟨gb, 0, none⟩) 100 c] := by rw [hw0]; exact ((Blk.new w 59 _).alloc _).alloc _
  have hQ : Blk w0 (w.heap.size + 1) 38 q.cells := by
    have := (Blk.new (w.alloc (.cells #[.int .i64 10, .int .i64 10, .slice (some ⟨gb, 0, none⟩) 100 c] 59)) 38 q.cells).alloc (.cells #[.int .i64 0, .int .i64 0, .slice none 0 0] 59)
    rw [World.size_alloc] at this
    rw [hw0]
    exact this
  have hZ : Blk w0 (w.heap.size + 1 + 1) 59 [.int .i64 0, .int .i64 0, .slice none 0 0] := by
    have := Blk.new ((w.alloc (.cells #[.int .i64 10, .int .i64 10, .slice (some ⟨gb, 0, none⟩) 100 c] 59)).alloc (.cells #[.int .i32 q.r, .int .i64 q.fg, .int .i64 q.bg, .int .i64 q.fl] 38)) 59 [.int .i64 0, .int .i64 0, .slice none 0 0]
    simp only [World.size_alloc] at this
    rw [hw0]
    exact this
  have hN : w0.heap.size = w.heap.size + 1 + 1 + 1 := by rw [hw0]; simp only [World.size_alloc]
  have HSv : Hid (∀ W, Blk W w.heap.size 59 [.int .i64 10, .int .i64 10, .slice (some ⟨gb, 0, none⟩) 100 c] → W.cell? ⟨w.heap.size, 0, none⟩ = some (.int .i64 10) ∧ W.cell? ⟨w.heap.size, 1, none⟩ = some (.int .i64 10) ∧ W.cell? ⟨w.heap.size, 2, none⟩ = some (.slice (some ⟨gb, 0, none⟩) 100 c)) := hid fun W h => ⟨h.cell 0 rfl, h.cell 1 rfl, h.cell 2 rfl⟩
  have HSk := hid (fun (W : World) (hW : Fr NoB w0 W) => HSv.out W (hB.fr hW (fun h => h)))
  have HSrc : Hid (∀ W, Fr NoB w W → ∀ j u, (cs.flatMap Cl.cells)[j]? = some u → W.cell? ((⟨gb, 0, none⟩ : Addr).add j) = some u) := hid fun W hW j u hj => by
    obtain ⟨rest, hr⟩ := (h.frd hW).row
    have h1 := Vec.src hr Cl.cells_len 0 (Nat.zero_le _) cs (List.prefix_refl _) j u hj
    rw [Nat.zero_mul] at h1
    exact h1
  have HLN : Hid (cs.length = 100) := h.len
  have HL32 : Hid ((([] : List Cl).length + 100) * 32 ≤ 140737488355328) := hid (by decide)
  have HRow0 : Hid (∀ W P, Blk W P 38 [] → w.heap.size ≤ P → Row Cl.cells 4 38 W w.heap.size (.slice (some ⟨P, 0, none⟩) 0 0) []) := hid fun W P hb hp => by
    have hv : Vec Cl.cells 4 W P 38 ([] : List Cl) [] 0 := ⟨hb, rfl⟩
    exact hv.row Cl.cells_len hp (Nat.le_refl _) (by decide)
  have HGA : Hid (Fr NoB w0 ((w0.drew.alloc (.cells #[.int .i64 0, .int .i64 0, .slice none 0 0] 59)).alloc (.cells #[] 38))) := hid ((((Fr.refl NoB w0).drew).alloc _).alloc _)
  have HGB : Hid (Fr NoB w0 ((w0.drew.alloc (.cells #[] 38)).alloc (.cells #[.int .i64 0, .int .i64 0, .slice none 0 0] 59))) := hid ((((Fr.refl NoB w0).drew).alloc _).alloc _)
  have HGC : Hid (Fr NoB w0 (w0.drew.alloc (.cells #[] 38))) := hid (((Fr.refl NoB w0).drew).alloc _)
  have HFA := hid (hF0.trans HGA.out)
  have HFB := hid (hF0.trans HGB.out)
  have HFC := hid (hF0.trans HGC.out)
  have HEA : Hid (Blk ((w0.drew.alloc (.cells #[.int .i64 0, .int .i64 0, .slice none 0 0] 59)).alloc (.cells #[] 38)) (w0.heap.size + 1) 38 []) := by
    have h1 := Blk.new (w0.drew.alloc (.cells #[.int .i64 0, .int .i64 0, .slice none 0 0] 59)) 38 []
    rw [World.size_alloc] at h1
    exact h1
  have HEB : Hid (Blk ((w0.drew.alloc (.cells #[] 38)).alloc (.cells #[.int .i64 0, .int .i64 0, .slice none 0 0] 59)) w0.heap.size 38 []) := hid ((Blk.new w0.drew 38 []).alloc _)
  have HEC : Hid (Blk (w0.drew.alloc (.cells #[] 38)) w0.heap.size 38 []) := hid (Blk.new w0.drew 38 [])
  have HPA : Hid (Blk ((w0.drew.alloc (.cells #[.int .i64 0, .int .i64 0, .slice none 0 0] 59)).alloc (.cells #[] 38)) w0.heap.size 59 [.int .i64 0, .int .i64 0, .slice none 0 0]) := hid ((Blk.new w0.drew 59 [.int .i64 0, .int .i64 0, .slice none 0 0]).alloc _)
  have HPB : Hid (Blk ((w0.drew.alloc (.cells #[] 38)).alloc (.cells #[.int .i64 0, .int .i64 0, .slice none 0 0] 59)) (w0.heap.size + 1) 59 [.int .i64 0, .int .i64 0, .slice none 0 0]) := by
    have h1 := Blk.new (w0.drew.alloc (.cells #[] 38)) 59 [.int .i64 0, .int .i64 0, .slice none 0 0]
    rw [World.size_alloc] at h1
    exact h1
  unfold gV Cl.v
  have HN0 := hid hN
  clear hin h hN
  go_enter Try.func68, Try.ntmps68
  go_wp2_with fail
  rw [← hw0]
  clear hw0
  refine wp_region_held_drew (S := (fun W : World => W.cell? ⟨w.heap.size, 0, none⟩ = some (.int .i64 10) ∧ W.cell? ⟨w.heap.size, 1, none⟩ = some (.int .i64 10) ∧ W.cell? ⟨w.heap.size, 2, none⟩ = some (.slice (some ⟨gb, 0, none⟩) 100 c))) (by kernel_rfl) (HSk.out _ (Fr.drew (Fr.refl _ _))) (fun hHeld => ?_)
  refine wpAnyH_take (i := 0) (oi := { dst := some 10, op := Op.fieldAddr 59 (Operand.tmp 4) 0, type := 0, pos := "ref.go:34", after := #[], guard := none }) (v := ?vs1) rfl (by kernel_rfl) (by kernel_rfl) (by kernel_rfl) (fun _ _ _ h => h) (Or.inl ⟨by rfl, ?hys1⟩) (by assumption) ?rs1
  case hys1 => (intro w hSw; (try dsimp only at hSw); go_simp; try (with_reducible rfl))
  try simp only [Act.put, List.setIfInBounds_toArray, List.set_cons_zero, List.set_cons_succ]
  refine wpAnyH_take (i := 1) (oi := { dst := some 11, op := Op.load 3 (Operand.tmp 10), type := 3, pos := "ref.go:34", after := #[{ on := 0, ground := Ground.data }], guard := none }) (v := ?vs2) rfl (by kernel_rfl) (by kernel_rfl) (by kernel_rfl) (fun _ _ _ h => h) (Or.inl ⟨by rfl, ?hys2⟩) (by assumption) ?rs2
  case hys2 => (intro w hSw; (try dsimp only at hSw); go_simp; try (with_reducible rfl))
  try simp only [Act.put, List.setIfInBounds_toArray, List.set_cons_zero, List.set_cons_succ]
  refine wpAnyH_take (i := 2) (oi := { dst := some 12, op := Op.fieldAddr 59 (Operand.tmp 4) 1, type := 0, pos := "ref.go:34", after := #[], guard := none }) (v := ?vs3) rfl (by kernel_rfl) (by kernel_rfl) (by kernel_rfl) (fun _ _ _ h => h) (Or.inl ⟨by rfl, ?hys3⟩) (by assumption) ?rs3
  case hys3 => (intro w hSw; (try dsimp only at hSw); go_simp; try (with_reducible rfl))
  try simp only [Act.put, List.setIfInBounds_toArray, List.set_cons_zero, List.set_cons_succ]
  refine wpAnyH_take (i := 3) (oi := { dst := some 13, op := Op.load 3 (Operand.tmp 12), type := 3, pos := "ref.go:34", after := #[{ on := 2, ground := Ground.data }], guard := none }) (v := ?vs4) rfl (by kernel_rfl) (by kernel_rfl) (by kernel_rfl) (fun _ _ _ h => h) (Or.inl ⟨by rfl, ?hys4⟩) (by assumption) ?rs4
  case hys4 => (intro w hSw; (try dsimp only at hSw); go_simp; try (with_reducible rfl))
  try simp only [Act.put, List.setIfInBounds_toArray, List.set_cons_zero, List.set_cons_succ]
  refine wpAnyH_take (i := 5) (oi := { dst := some 15, op := Op.fieldAddr 59 (Operand.tmp 4) 2, type := 0, pos := "ref.go:34", after := #[], guard := none }) (v := ?vs5) rfl (by kernel_rfl) (by kernel_rfl) (by kernel_rfl) (fun _ _ _ h => h) (Or.inl ⟨by rfl, ?hys5⟩) (by assumption) ?rs5
  case hys5 => (intro w hSw; (try dsimp only at hSw); go_simp; try (with_reducible rfl))
  try simp only [Act.put, List.setIfInBounds_toArray, List.set_cons_zero, List.set_cons_succ]
  refine wpAnyH_take (i := 6) (oi := { dst := some 16, op := Op.load 24 (Operand.tmp 15), type := 24, pos := "ref.go:34", after := #[{ on := 5, ground := Ground.data }], guard := none }) (v := ?vs6) rfl (by kernel_rfl) (by kernel_rfl) (by kernel_rfl) (fun _ _ _ h => h) (Or.inl ⟨by rfl, ?hys6⟩) (by assumption) ?rs6
  case hys6 => (intro w hSw; (try dsimp only at hSw); go_simp; try (with_reducible rfl))
  try simp only [Act.put, List.setIfInBounds_toArray, List.set_cons_zero, List.set_cons_succ]
  refine wpAnyH_ready (rs := [4, 9]) (by kernel_rfl) (by simp) ?_
  refine AllReadyH.cons (o := { dst := some 14, op := Op.buildSlice 24 0 #[], type := 24, pos := "ref.go:34", after := #[], guard := none }) rfl (fun K hK => ?_) ?_
  · go_simp
    refine hK.out _ _ (HSk.out _ (Fr.alloc (Fr.drew (Fr.refl _ _)) _)) (fun hHeld => ?_)
    clear hK K
    try simp only [Act.put, List.setIfInBounds_toArray, List.set_cons_zero, List.set_cons_succ]
    refine wpAnyH_ready (rs := [7, 9]) (by kernel_rfl) (by simp) ?_
    refine AllReadyH.cons (o := { dst := some 17, op := Op.call { callee := Callee.builtin Builtin.append, args := #[Operand.tmp 14, Operand.tmp 16], argTypes := #[24, 24] }, type := 24, pos := "ref.go:34", after := #[{ on := 4, ground := Ground.data }, { on := 6, ground := Ground.data }], guard := none }) rfl (fun K hK => ?_) ?_
    · refine step_row_apps (f := Cl.cells) Cl.cells_len Cl.one w.heap.size rfl (.tmp 14) (.tmp 16) 24 38 Cl.zero.v 32 rfl Try.underlying24 infoCl rfl (by omega) (by omega) (.slice (some ⟨w0.heap.size, 0, none⟩) 0 0) [] cs ⟨gb, 0, none⟩ 100 c rfl rfl HLN.out (HSrc.out _ HFC.out) (HRow0.out _ _ HEC.out (by have hN := HN0.out; omega)) HFC.out.size HL32.out ?_
      intro v1 w7 hr7 hf7 hat
      rw [List.nil_append] at hr7
      obtain ⟨A1, n1, c1, hv1⟩ : ∃ A n c, v1 = .slice A n c := by obtain ⟨A1, c1, h1, _⟩ := Row.shape hr7; exact ⟨A1, _, c1, h1⟩
      have HR7 := hid hr7
      have HF7 := hid (HFC.out.then_ hf7 (fun j hj => .inr (by have e : w0.heap.size = j := Option.some.inj hj; have hN := HN0.out; omega)))
      have HB7 := hid ((hB.fr HGC.out (fun h => h)).fr hf7 (fun e => by have e' : w0.heap.size = w.heap.size := Option.some.inj e; have hN := HN0.out; omega))
      have HQ7 := hid ((hQ.fr HGC.out (fun h => h)).fr hf7 (fun e => by have e' : w0.heap.size = w.heap.size + 1 := Option.some.inj e; have hN := HN0.out; omega))
      have HZ7 := hid ((hZ.fr HGC.out (fun h => h)).fr hf7 (fun e => by have e' : w0.heap.size = w.heap.size + 1 + 1 := Option.some.inj e; have hN := HN0.out; omega))
      have HV1 := hid hv1
      clear hHeld hr7 hf7 hat
      rw [hv1]
      clear hv1
      refine hK.out _ _ (HSv.out _ HB7.out) (fun hHeld => ?_)
      clear hK K
      try simp only [Act.put, List.setIfInBounds_toArray, List.set_cons_zero, List.set_cons_succ]
      refine wpAnyH_take (i := 8) (oi := { dst := some 18, op := Op.build 59 #[(0, Operand.tmp 11), (1, Operand.tmp 13), (2, Operand.tmp 17)], type := 59, pos := "ref.go:34", after := #[{ on := 1, ground := Ground.data }, { on := 3, ground := Ground.data }, { on := 7, ground := Ground.data }], guard := none }) (v := ?vs7) rfl (by kernel_rfl) (by kernel_rfl) (by kernel_rfl) (fun _ _ _ h => h) (Or.inl ⟨by rfl, ?hys7⟩) (by assumption) ?rs7
      case hys7 => (intro w hSw; (try dsimp only at hSw); go_simp; try (with_reducible rfl))
      try simp only [Act.put, List.setIfInBounds_toArray, List.set_cons_zero, List.set_cons_succ]
      refine wpAnyH_ready (rs := [9]) (by kernel_rfl) (by simp) ?_
      refine AllReadyH.cons (o := { dst := some 9, op := Op.alloc 59, type := 0, pos := "ref.go:34", after := #[], guard := none }) rfl (fun K hK => ?_) AllReadyH.nil
      go_simp
      refine hK.out _ _ (HSv.out _ (HB7.out.alloc _)) (fun hHeld => ?_)
      clear hK K
      try simp only [Act.put, List.setIfInBounds_toArray, List.set_cons_zero, List.set_cons_succ]
      refine wpAnyH_ready (rs := [10]) (by kernel_rfl) (by simp) ?_
      refine AllReadyH.cons (o := { dst := none, op := Op.store 59 (Operand.tmp 9) (Operand.tmp 18), type := 0, pos := "ref.go:34", after := #[{ on := 9, ground := Ground.data }, { on := 8, ground := Ground.data }, { on := 7, ground := Ground.chain }, { on := 0, ground := Ground.phase }, { on := 1, ground := Ground.phase }, { on := 2, ground := Ground.phase }, { on := 3, ground := Ground.phase }, { on := 4, ground := Ground.phase }, { on := 5, ground := Ground.phase }, { on := 6, ground := Ground.phase }, { on := 7, ground := Ground.phase }, { on := 8, ground := Ground.phase }, { on := 9, ground := Ground.phase }], guard := none }) rfl (fun K hK => ?_) AllReadyH.nil
      go_simp
      refine hK.out _ _ (HSv.out _ (HB7.out.alloc _)) (fun hHeld => ?_)
      clear hK K
      try simp only [Act.put, List.setIfInBounds_toArray, List.set_cons_zero, List.set_cons_succ]
      refine wpAnyH_done (by kernel_rfl) ?_ _
      have HG9 := hid (Blk.new w7 59 [.int .i64 10, .int .i64 10, .slice A1 n1 c1])
      have HR9 := hid (HR7.out.fr ((Fr.refl NoB w7).alloc (.cells #[.int .i64 10, .int .i64 10, .slice A1 n1 c1] 59)) (fun _ _ h => h))
      have HF9 := hid (HF7.out.alloc (.cells #[.int .i64 10, .int .i64 10, .slice A1 n1 c1] 59))
      have HB9 := hid (HB7.out.alloc (.cells #[.int .i64 10, .int .i64 10, .slice A1 n1 c1] 59))
      have HQ9 := hid (HQ7.out.alloc (.cells #[.int .i64 10, .int .i64 10, .slice A1 n1 c1] 59))
      have HZ9 := hid (HZ7.out.alloc (.cells #[.int .i64 10, .int .i64 10, .slice A1 n1 c1] 59))
      generalize w7.alloc (.cells #[.int .i64 10, .int .i64 10, .slice A1 n1 c1] 59) = w9 at HG9 HR9 HF9 HB9 HQ9 HZ9 ⊢
      generalize w7.heap.size = P9 at HG9 ⊢
      obtain ⟨g1, c2, rest, hvv, hvec, hbase, hcap, hcm⟩ := Vec.of_row HR9.out (by have := HLN.out; omega)
      obtain ⟨rfl, rfl, rfl⟩ : A1 = some ⟨g1, 0, none⟩ ∧ n1 = cs.length ∧ c1 = c2 := by
        have h1 := HV1.out.symm.trans hvv
        injection h1 with e1 e2 e3
        exact ⟨e1, e2, e3⟩
      have HVEC := hid hvec
      have hne1 : P9 ≠ g1 := fun e => absurd (blk_ty (e ▸ HG9.out) hvec.blk) (by decide)
      have hcl : cs.length = 100 := HLN.out
      rw [hcl]
      have HG9 : Hid (Blk w9 P9 59 [.int .i64 10, .int .i64 10, .slice (some ⟨g1, 0, none⟩) 100 c1]) := by
        have h1 := HG9.out
        rw [hcl] at h1
        exact h1
      have b0 := HB9.out.cell 0 rfl
      have b1 := HB9.out.cell 1 rfl
      have b2 := HB9.out.cell 2 rfl
      have bl := HB9.out.lt
      clear hvv hvec hcl
      go_wp2_with fail
      refine (HI _).out.mono ?_
      rintro e' w5 ⟨rfl, hf5⟩
      have HF5 := hid (HF9.out.trans hf5)
      have hV5 := Vec.fr HVEC.out hf5 (fun h => h)
      have hG5 := HG9.out.fr hf5 (fun h => h)
      have hQ5 := HQ9.out.fr hf5 (fun h => h)
      have hZ5 := HZ9.out.fr hf5 (fun h => h)
      have hB5 := HB9.out.fr hf5 (fun h => h)
      have i0 := hB5.cell 0 rfl
      have il := hB5.lt
      have j0 := hG5.cell 0 rfl
      have j1 := hG5.cell 1 rfl
      have j2 := hG5.cell 2 rfl
      have jl := hG5.lt
      have o0 := hQ5.cell 0 rfl
      have o1 := hQ5.cell 1 rfl
      have o2 := hQ5.cell 2 rfl
      have o3 := hQ5.cell 3 rfl
      have ol := hQ5.lt
      have u0 := hZ5.cell 0 rfl
      have u1 := hZ5.cell 1 rfl
      have u2 := hZ5.cell 2 rfl
      have v0 := hZ5.frozen 0
      have v1 := hZ5.frozen 1
      have v2 := hZ5.frozen 2
      have ul := hZ5.lt
      have hkc : k < cs.length := by have := HLN.out; omega
      have s0 := hV5.cell Cl.cells_len k hkc 0 (by decide) rfl
      rw [Nat.add_zero] at s0
      have s1 := hV5.cell Cl.cells_len k hkc 1 (by decide) rfl
      have s2 := hV5.cell Cl.cells_len k hkc 2 (by decide) rfl
      have s3 := hV5.cell Cl.cells_len k hkc 3 (by decide) rfl
      have t0 := hV5.blk.frozen (k * 4)
      have t1 := hV5.blk.frozen (k * 4 + 1)
      have t2 := hV5.blk.frozen (k * 4 + 2)
      have t3 := hV5.blk.frozen (k * 4 + 3)
      have tl := hV5.blk.lt
      have HV5 := hid hV5
      have HZ5 := hid hZ5
      have hne2 : w.heap.size + 1 + 1 ≠ g1 := fun e => absurd (blk_ty (e ▸ hZ5) hV5.blk) (by decide)
      have HKC := hid hkc
      clear hV5 hG5 hQ5 hZ5 hB5 hf5 b0 b1 b2 bl
      go_wp2
      have hV6 := Vec.put4c HV5.out k HKC.out q
      have hp : Fr (At g1) w5 (put4c w5 g1 (k * 4) q) := put4c_fr (S := At g1) (b := g1) (Fr.refl _ _) (.inl rfl) _ _
      have hZ6 := HZ5.out.fr hp (fun e => hne2 e)
      have hZ7 := ((hZ6.set 0 (.int .i64 10)).set 1 (.int .i64 10)).set 2 (.slice (some ⟨g1, 0, none⟩) 100 c1)
      have r0 := hZ7.cell 0 rfl
      have r1 := hZ7.cell 1 rfl
      have r2 := hZ7.cell 2 rfl
      unfold put4c at r0 r1 r2
      have hz : Fr (At (w.heap.size + 1 + 1)) (put4c w5 g1 (k * 4) q) ((((put4c w5 g1 (k * 4) q).setCell ⟨w.heap.size + 1 + 1, 0, none⟩ (.int .i64 10)).setCell ⟨w.heap.size + 1 + 1, 1, none⟩ (.int .i64 10)).setCell ⟨w.heap.size + 1 + 1, 2, none⟩ (.slice (some ⟨g1, 0, none⟩) 100 c1)) := ((Fr.refl _ _).setAt 0 _ |>.setAt 1 _).setAt 2 _
      have hfz := (HF5.out.then_ hp (fun j e => .inr (by have e' : j = g1 := e; rw [e']; exact hbase))).then_ hz (fun j e => .inr (by have e' : j = w.heap.size + 1 + 1 := e; omega))
      have hVz := hV6.fr hz (fun e => hne2 e.symm)
      refine bodyPost_ret (v := gV g1 c1) (by simp [results, Try.results68, go_sem, r0, r1, r2, gV]) rfl ⟨g1, c1, rfl, ⟨⟨rest, hVz⟩, by rw [List.length_set]; exact HLN.out, by have := HLN.out; omega, hcm⟩, hfz, hbase⟩
    refine AllReadyH.cons (o := { dst := some 9, op := Op.alloc 59, type := 0, pos := "ref.go:34", after := #[], guard := none }) rfl (fun K hK => ?_) ?_
    · go_simp
      refine hK.out _ _ (HSk.out _ (Fr.alloc (Fr.alloc (Fr.drew (Fr.refl _ _)) _) _)) (fun hHeld => ?_)
      clear hK K
      try simp only [Act.put, List.setIfInBounds_toArray, List.set_cons_zero, List.set_cons_succ]
      refine wpAnyH_ready (rs := [7]) (by kernel_rfl) (by simp) ?_
      refine AllReadyH.cons (o := { dst := some 17, op := Op.call { callee := Callee.builtin Builtin.append, args := #[Operand.tmp 14, Operand.tmp 16], argTypes := #[24, 24] }, type := 24, pos := "ref.go:34", after := #[{ on := 4, ground := Ground.data }, { on := 6, ground := Ground.data }], guard := none }) rfl (fun K hK => ?_) AllReadyH.nil
      refine step_row_apps (f := Cl.cells) Cl.cells_len Cl.one w.heap.size rfl (.tmp 14) (.tmp 16) 24 38 Cl.zero.v 32 rfl Try.underlying24 infoCl rfl (by omega) (by omega) (.slice (some ⟨w0.heap.size, 0, none⟩) 0 0) [] cs ⟨gb, 0, none⟩ 100 c rfl rfl HLN.out (HSrc.out _ HFB.out) (HRow0.out _ _ HEB.out (by have hN := HN0.out; omega)) HFB.out.size HL32.out ?_
      intro v1 w7 hr7 hf7 hat
      rw [List.nil_append] at hr7
      obtain ⟨A1, n1, c1, hv1⟩ : ∃ A n c, v1 = .slice A n c := by obtain ⟨A1, c1, h1, _⟩ := Row.shape hr7; exact ⟨A1, _, c1, h1⟩
      have HR7 := hid hr7
      have HF7 := hid (HFB.out.then_ hf7 (fun j hj => .inr (by have e : w0.heap.size = j := Option.some.inj hj; have hN := HN0.out; omega)))
      have HB7 := hid ((hB.fr HGB.out (fun h => h)).fr hf7 (fun e => by have e' : w0.heap.size = w.heap.size := Option.some.inj e; have hN := HN0.out; omega))
      have HQ7 := hid ((hQ.fr HGB.out (fun h => h)).fr hf7 (fun e => by have e' : w0.heap.size = w.heap.size + 1 := Option.some.inj e; have hN := HN0.out; omega))
      have HZ7 := hid ((hZ.fr HGB.out (fun h => h)).fr hf7 (fun e => by have e' : w0.heap.size = w.heap.size + 1 + 1 := Option.some.inj e; have hN := HN0.out; omega))
      have HP7 := hid (HPB.out.fr hf7 (fun e => by have e' : w0.heap.size = w0.heap.size + 1 := Option.some.inj e; have hN := HN0.out; omega))
      have f0 := HP7.out.frozen 0
      have f1 := HP7.out.frozen 1
      have f2 := HP7.out.frozen 2
      have z0 := HP7.out.cell 0 rfl
      have z1 := HP7.out.cell 1 rfl
      have z2 := HP7.out.cell 2 rfl
      have zl := HP7.out.lt
      have HV1 := hid hv1
      clear hHeld hr7 hf7 hat
      rw [hv1]
      clear hv1
      refine hK.out _ _ (HSv.out _ HB7.out) (fun hHeld => ?_)
      clear hK K
      try simp only [Act.put, List.setIfInBounds_toArray, List.set_cons_zero, List.set_cons_succ]
      refine wpAnyH_take (i := 8) (oi := { dst := some 18, op := Op.build 59 #[(0, Operand.tmp 11), (1, Operand.tmp 13), (2, Operand.tmp 17)], type := 59, pos := "ref.go:34", after := #[{ on := 1, ground := Ground.data }, { on := 3, ground := Ground.data }, { on := 7, ground := Ground.data }], guard := none }) (v := ?vs8) rfl (by kernel_rfl) (by kernel_rfl) (by kernel_rfl) (fun _ _ _ h => h) (Or.inl ⟨by rfl, ?hys8⟩) (by assumption) ?rs8
      case hys8 => (intro w hSw; (try dsimp only at hSw); go_simp; try (with_reducible rfl))
      try simp only [Act.put, List.setIfInBounds_toArray, List.set_cons_zero, List.set_cons_succ]
      refine wpAnyH_ready (rs := [10]) (by kernel_rfl) (by simp) ?_
      refine AllReadyH.cons (o := { dst := none, op := Op.store 59 (Operand.tmp 9) (Operand.tmp 18), type := 0, pos := "ref.go:34", after := #[{ on := 9, ground := Ground.data }, { on := 8, ground := Ground.data }, { on := 7, ground := Ground.chain }, { on := 0, ground := Ground.phase }, { on := 1, ground := Ground.phase }, { on := 2, ground := Ground.phase }, { on := 3, ground := Ground.phase }, { on := 4, ground := Ground.phase }, { on := 5, ground := Ground.phase }, { on := 6, ground := Ground.phase }, { on := 7, ground := Ground.phase }, { on := 8, ground := Ground.phase }, { on := 9, ground := Ground.phase }], guard := none }) rfl (fun K hK => ?_) AllReadyH.nil
      go_simp
      refine hK.out _ _ (HSv.out _ (((HB7.out.other (p := ⟨w0.heap.size + 1, 0, none⟩) (by show w.heap.size ≠ w0.heap.size + 1; have hN := HN0.out; omega) _).other (p := ⟨w0.heap.size + 1, 1, none⟩) (by show w.heap.size ≠ w0.heap.size + 1; have hN := HN0.out; omega) _).other (p := ⟨w0.heap.size + 1, 2, none⟩) (by show w.heap.size ≠ w0.heap.size + 1; have hN := HN0.out; omega) _)) (fun hHeld => ?_)
      clear hK K
      try simp only [Act.put, List.setIfInBounds_toArray, List.set_cons_zero, List.set_cons_succ]
      refine wpAnyH_done (by kernel_rfl) ?_ _
      have HG9 := hid (((HP7.out.set 0 (.int .i64 10)).set 1 (.int .i64 10)).set 2 (.slice A1 n1 c1))
      have HS9 : Hid (Fr (At (w0.heap.size + 1)) w7 (((w7.setCell ⟨w0.heap.size + 1, 0, none⟩ (.int .i64 10)).setCell ⟨w0.heap.size + 1, 1, none⟩ (.int .i64 10)).setCell ⟨w0.heap.size + 1, 2, none⟩ (.slice A1 n1 c1))) := hid (((Fr.refl _ _).setAt 0 _).setAt 1 _ |>.setAt 2 _)
      have HR9 := hid (HR7.out.fr HS9.out (fun j hj e => by have e' : j = w0.heap.size + 1 := e; subst e'; exact HR7.out.not_blk HP7.out (by decide) hj))
      have HF9 := hid (HF7.out.then_ HS9.out (fun j e => .inr (by have e' : j = w0.heap.size + 1 := e; have hN := HN0.out; omega)))
      have HB9 := hid (HB7.out.fr HS9.out (fun e => by have e' : w.heap.size = w0.heap.size + 1 := e; have hN := HN0.out; omega))
      have HQ9 := hid (HQ7.out.fr HS9.out (fun e => by have e' : w.heap.size + 1 = w0.heap.size + 1 := e; have hN := HN0.out; omega))
      have HZ9 := hid (HZ7.out.fr HS9.out (fun e => by have e' : w.heap.size + 1 + 1 = w0.heap.size + 1 := e; have hN := HN0.out; omega))
      generalize ((w7.setCell ⟨w0.heap.size + 1, 0, none⟩ (.int .i64 10)).setCell ⟨w0.heap.size + 1, 1, none⟩ (.int .i64 10)).setCell ⟨w0.heap.size + 1, 2, none⟩ (.slice A1 n1 c1) = w9 at HG9 HS9 HR9 HF9 HB9 HQ9 HZ9 ⊢
      generalize w0.heap.size + 1 = P9 at HG9 ⊢
      obtain ⟨g1, c2, rest, hvv, hvec, hbase, hcap, hcm⟩ := Vec.of_row HR9.out (by have := HLN.out; omega)
      obtain ⟨rfl, rfl, rfl⟩ : A1 = some ⟨g1, 0, none⟩ ∧ n1 = cs.length ∧ c1 = c2 := by
        have h1 := HV1.out.symm.trans hvv
        injection h1 with e1 e2 e3
        exact ⟨e1, e2, e3⟩
      have HVEC := hid hvec
      have hne1 : P9 ≠ g1 := fun e => absurd (blk_ty (e ▸ HG9.out) hvec.blk) (by decide)
      have hcl : cs.length = 100 := HLN.out
      rw [hcl]
      have HG9 : Hid (Blk w9 P9 59 [.int .i64 10, .int .i64 10, .slice (some ⟨g1, 0, none⟩) 100 c1]) := by
        have h1 := HG9.out
        rw [hcl] at h1
        exact h1
      have b0 := HB9.out.cell 0 rfl
      have b1 := HB9.out.cell 1 rfl
      have b2 := HB9.out.cell 2 rfl
      have bl := HB9.out.lt
      clear hvv hvec hcl
      go_wp2_with fail
      refine (HI _).out.mono ?_
      rintro e' w5 ⟨rfl, hf5⟩
      have HF5 := hid (HF9.out.trans hf5)
      have hV5 := Vec.fr HVEC.out hf5 (fun h => h)
      have hG5 := HG9.out.fr hf5 (fun h => h)
      have hQ5 := HQ9.out.fr hf5 (fun h => h)
      have hZ5 := HZ9.out.fr hf5 (fun h => h)
      have hB5 := HB9.out.fr hf5 (fun h => h)
      have i0 := hB5.cell 0 rfl
      have il := hB5.lt
      have j0 := hG5.cell 0 rfl
      have j1 := hG5.cell 1 rfl
      have j2 := hG5.cell 2 rfl
      have jl := hG5.lt
      have o0 := hQ5.cell 0 rfl
      have o1 := hQ5.cell 1 rfl
      have o2 := hQ5.cell 2 rfl
      have o3 := hQ5.cell 3 rfl
      have ol := hQ5.lt
      have u0 := hZ5.cell 0 rfl
      have u1 := hZ5.cell 1 rfl
      have u2 := hZ5.cell 2 rfl
      have v0 := hZ5.frozen 0
      have v1 := hZ5.frozen 1
      have v2 := hZ5.frozen 2
      have ul := hZ5.lt
      have hkc : k < cs.length := by have := HLN.out; omega
      have s0 := hV5.cell Cl.cells_len k hkc 0 (by decide) rfl
      rw [Nat.add_zero] at s0
      have s1 := hV5.cell Cl.cells_len k hkc 1 (by decide) rfl
      have s2 := hV5.cell Cl.cells_len k hkc 2 (by decide) rfl
      have s3 := hV5.cell Cl.cells_len k hkc 3 (by decide) rfl
      have t0 := hV5.blk.frozen (k * 4)
      have t1 := hV5.blk.frozen (k * 4 + 1)
      have t2 := hV5.blk.frozen (k * 4 + 2)
      have t3 := hV5.blk.frozen (k * 4 + 3)
      have tl := hV5.blk.lt
      have HV5 := hid hV5
      have HZ5 := hid hZ5
      have hne2 : w.heap.size + 1 + 1 ≠ g1 := fun e => absurd (blk_ty (e ▸ hZ5) hV5.blk) (by decide)
      have HKC := hid hkc
      clear hV5 hG5 hQ5 hZ5 hB5 hf5 b0 b1 b2 bl
      go_wp2
      have hV6 := Vec.put4c HV5.out k HKC.out q
      have hp : Fr (At g1) w5 (put4c w5 g1 (k * 4) q) := put4c_fr (S := At g1) (b := g1) (Fr.refl _ _) (.inl rfl) _ _
      have hZ6 := HZ5.out.fr hp (fun e => hne2 e)
      have hZ7 := ((hZ6.set 0 (.int .i64 10)).set 1 (.int .i64 10)).set 2 (.slice (some ⟨g1, 0, none⟩) 100 c1)
      have r0 := hZ7.cell 0 rfl
      have r1 := hZ7.cell 1 rfl
      have r2 := hZ7.cell 2 rfl
      unfold put4c at r0 r1 r2
      have hz : Fr (At (w.heap.size + 1 + 1)) (put4c w5 g1 (k * 4) q) ((((put4c w5 g1 (k * 4) q).setCell ⟨w.heap.size + 1 + 1, 0, none⟩ (.int .i64 10)).setCell ⟨w.heap.size + 1 + 1, 1, none⟩ (.int .i64 10)).setCell ⟨w.heap.size + 1 + 1, 2, none⟩ (.slice (some ⟨g1, 0, none⟩) 100 c1)) := ((Fr.refl _ _).setAt 0 _ |>.setAt 1 _).setAt 2 _
      have hfz := (HF5.out.then_ hp (fun j e => .inr (by have e' : j = g1 := e; rw [e']; exact hbase))).then_ hz (fun j e => .inr (by have e' : j = w.heap.size + 1 + 1 := e; omega))
      have hVz := hV6.fr hz (fun e => hne2 e.symm)
      refine bodyPost_ret (v := gV g1 c1) (by simp [results, Try.results68, go_sem, r0, r1, r2, gV]) rfl ⟨g1, c1, rfl, ⟨⟨rest, hVz⟩, by rw [List.length_set]; exact HLN.out, by have := HLN.out; omega, hcm⟩, hfz, hbase⟩
    exact AllReadyH.nil
  refine AllReadyH.cons (o := { dst := some 9, op := Op.alloc 59, type := 0, pos := "ref.go:34", after := #[], guard := none }) rfl (fun K hK => ?_) ?_
  · go_simp
    refine hK.out _ _ (HSk.out _ (Fr.alloc (Fr.drew (Fr.refl _ _)) _)) (fun hHeld => ?_)
    clear hK K
    try simp only [Act.put, List.setIfInBounds_toArray, List.set_cons_zero, List.set_cons_succ]
    refine wpAnyH_ready (rs := [4]) (by kernel_rfl) (by simp) ?_
    refine AllReadyH.cons (o := { dst := some 14, op := Op.buildSlice 24 0 #[], type := 24, pos := "ref.go:34", after := #[], guard := none }) rfl (fun K hK => ?_) AllReadyH.nil
    go_simp
    refine hK.out _ _ (HSk.out _ (Fr.alloc (Fr.alloc (Fr.drew (Fr.refl _ _)) _) _)) (fun hHeld => ?_)
    clear hK K
    try simp only [Act.put, List.setIfInBounds_toArray, List.set_cons_zero, List.set_cons_succ]
    refine wpAnyH_ready (rs := [7]) (by kernel_rfl) (by simp) ?_
    refine AllReadyH.cons (o := { dst := some 17, op := Op.call { callee := Callee.builtin Builtin.append, args := #[Operand.tmp 14, Operand.tmp 16], argTypes := #[24, 24] }, type := 24, pos := "ref.go:34", after := #[{ on := 4, ground := Ground.data }, { on := 6, ground := Ground.data }], guard := none }) rfl (fun K hK => ?_) AllReadyH.nil
    refine step_row_apps (f := Cl.cells) Cl.cells_len Cl.one w.heap.size rfl (.tmp 14) (.tmp 16) 24 38 Cl.zero.v 32 rfl Try.underlying24 infoCl rfl (by omega) (by omega) (.slice (some ⟨w0.heap.size + 1, 0, none⟩) 0 0) [] cs ⟨gb, 0, none⟩ 100 c rfl rfl HLN.out (HSrc.out _ HFA.out) (HRow0.out _ _ HEA.out (by have hN := HN0.out; omega)) HFA.out.size HL32.out ?_
    intro v1 w7 hr7 hf7 hat
    rw [List.nil_append] at hr7
    obtain ⟨A1, n1, c1, hv1⟩ : ∃ A n c, v1 = .slice A n c := by obtain ⟨A1, c1, h1, _⟩ := Row.shape hr7; exact ⟨A1, _, c1, h1⟩
    have HR7 := hid hr7
    have HF7 := hid (HFA.out.then_ hf7 (fun j hj => .inr (by have e : w0.heap.size + 1 = j := Option.some.inj hj; have hN := HN0.out; omega)))
    have HB7 := hid ((hB.fr HGA.out (fun h => h)).fr hf7 (fun e => by have e' : w0.heap.size + 1 = w.heap.size := Option.some.inj e; have hN := HN0.out; omega))
    have HQ7 := hid ((hQ.fr HGA.out (fun h => h)).fr hf7 (fun e => by have e' : w0.heap.size + 1 = w.heap.size + 1 := Option.some.inj e; have hN := HN0.out; omega))
    have HZ7 := hid ((hZ.fr HGA.out (fun h => h)).fr hf7 (fun e => by have e' : w0.heap.size + 1 = w.heap.size + 1 + 1 := Option.some.inj e; have hN := HN0.out; omega))
    have HP7 := hid (HPA.out.fr hf7 (fun e => by have e' : w0.heap.size + 1 = w0.heap.size := Option.some.inj e; have hN := HN0.out; omega))
    have f0 := HP7.out.frozen 0
    have f1 := HP7.out.frozen 1
    have f2 := HP7.out.frozen 2
    have z0 := HP7.out.cell 0 rfl
    have z1 := HP7.out.cell 1 rfl
    have z2 := HP7.out.cell 2 rfl
    have zl := HP7.out.lt
    have HV1 := hid hv1
    clear hHeld hr7 hf7 hat
    rw [hv1]
    clear hv1
    refine hK.out _ _ (HSv.out _ HB7.out) (fun hHeld => ?_)
    clear hK K
    try simp only [Act.put, List.setIfInBounds_toArray, List.set_cons_zero, List.set_cons_succ]
    refine wpAnyH_take (i := 8) (oi := { dst := some 18, op := Op.build 59 #[(0, Operand.tmp 11), (1, Operand.tmp 13), (2, Operand.tmp 17)], type := 59, pos := "ref.go:34", after := #[{ on := 1, ground := Ground.data }, { on := 3, ground := Ground.data }, { on := 7, ground := Ground.data }], guard := none }) (v := ?vs9) rfl (by kernel_rfl) (by kernel_rfl) (by kernel_rfl) (fun _ _ _ h => h) (Or.inl ⟨by rfl, ?hys9⟩) (by assumption) ?rs9
    case hys9 => (intro w hSw; (try dsimp only at hSw); go_simp; try (with_reducible rfl))
    try simp only [Act.put, List.setIfInBounds_toArray, List.set_cons_zero, List.set_cons_succ]
    refine wpAnyH_ready (rs := [10]) (by kernel_rfl) (by simp) ?_
    refine AllReadyH.cons (o := { dst := none, op := Op.store 59 (Operand.tmp 9) (Operand.tmp 18), type := 0, pos := "ref.go:34", after := #[{ on := 9, ground := Ground.data }, { on := 8, ground := Ground.data }, { on := 7, ground := Ground.chain }, { on := 0, ground := Ground.phase }, { on := 1, ground := Ground.phase }, { on := 2, ground := Ground.phase }, { on := 3, ground := Ground.phase }, { on := 4, ground := Ground.phase }, { on := 5, ground := Ground.phase }, { on := 6, ground := Ground.phase }, { on := 7, ground := Ground.phase }, { on := 8, ground := Ground.phase }, { on := 9, ground := Ground.phase }], guard := none }) rfl (fun K hK => ?_) AllReadyH.nil
    go_simp
    refine hK.out _ _ (HSv.out _ (((HB7.out.other (p := ⟨w0.heap.size, 0, none⟩) (by show w.heap.size ≠ w0.heap.size; have hN := HN0.out; omega) _).other (p := ⟨w0.heap.size, 1, none⟩) (by show w.heap.size ≠ w0.heap.size; have hN := HN0.out; omega) _).other (p := ⟨w0.heap.size, 2, none⟩) (by show w.heap.size ≠ w0.heap.size; have hN := HN0.out; omega) _)) (fun hHeld => ?_)
    clear hK K
    try simp only [Act.put, List.setIfInBounds_toArray, List.set_cons_zero, List.set_cons_succ]
    refine wpAnyH_done (by kernel_rfl) ?_ _
    have HG9 := hid (((HP7.out.set 0 (.int .i64 10)).set 1 (.int .i64 10)).set 2 (.slice A1 n1 c1))
    have HS9 : Hid (Fr (At (w0.heap.size)) w7 (((w7.setCell ⟨w0.heap.size, 0, none⟩ (.int .i64 10)).setCell ⟨w0.heap.size, 1, none⟩ (.int .i64 10)).setCell ⟨w0.heap.size, 2, none⟩ (.slice A1 n1 c1))) := hid (((Fr.refl _ _).setAt 0 _).setAt 1 _ |>.setAt 2 _)
    have HR9 := hid (HR7.out.fr HS9.out (fun j hj e => by have e' : j = w0.heap.size := e; subst e'; exact HR7.out.not_blk HP7.out (by decide) hj))
    have HF9 := hid (HF7.out.then_ HS9.out (fun j e => .inr (by have e' : j = w0.heap.size := e; have hN := HN0.out; omega)))
    have HB9 := hid (HB7.out.fr HS9.out (fun e => by have e' : w.heap.size = w0.heap.size := e; have hN := HN0.out; omega))
    have HQ9 := hid (HQ7.out.fr HS9.out (fun e => by have e' : w.heap.size + 1 = w0.heap.size := e; have hN := HN0.out; omega))
    have HZ9 := hid (HZ7.out.fr HS9.out (fun e => by have e' : w.heap.size + 1 + 1 = w0.heap.size := e; have hN := HN0.out; omega))
    generalize ((w7.setCell ⟨w0.heap.size, 0, none⟩ (.int .i64 10)).setCell ⟨w0.heap.size, 1, none⟩ (.int .i64 10)).setCell ⟨w0.heap.size, 2, none⟩ (.slice A1 n1 c1) = w9 at HG9 HS9 HR9 HF9 HB9 HQ9 HZ9 ⊢
    generalize w0.heap.size = P9 at HG9 ⊢
    obtain ⟨g1, c2, rest, hvv, hvec, hbase, hcap, hcm⟩ := Vec.of_row HR9.out (by have := HLN.out; omega)
    obtain ⟨rfl, rfl, rfl⟩ : A1 = some ⟨g1, 0, none⟩ ∧ n1 = cs.length ∧ c1 = c2 := by
      have h1 := HV1.out.symm.trans hvv
      injection h1 with e1 e2 e3
      exact ⟨e1, e2, e3⟩
    have HVEC := hid hvec
    have hne1 : P9 ≠ g1 := fun e => absurd (blk_ty (e ▸ HG9.out) hvec.blk) (by decide)
    have hcl : cs.length = 100 := HLN.out
    rw [hcl]
    have HG9 : Hid (Blk w9 P9 59 [.int .i64 10, .int .i64 10, .slice (some ⟨g1, 0, none⟩) 100 c1]) := by
      have h1 := HG9.out
      rw [hcl] at h1
      exact h1
    have b0 := HB9.out.cell 0 rfl
    have b1 := HB9.out.cell 1 rfl
    have b2 := HB9.out.cell 2 rfl
    have bl := HB9.out.lt
    clear hvv hvec hcl
    go_wp2_with fail
    refine (HI _).out.mono ?_
    rintro e' w5 ⟨rfl, hf5⟩
    have HF5 := hid (HF9.out.trans hf5)
    have hV5 := Vec.fr HVEC.out hf5 (fun h => h)
    have hG5 := HG9.out.fr hf5 (fun h => h)
    have hQ5 := HQ9.out.fr hf5 (fun h => h)
    have hZ5 := HZ9.out.fr hf5 (fun h => h)
    have hB5 := HB9.out.fr hf5 (fun h => h)
    have i0 := hB5.cell 0 rfl
    have il := hB5.lt
    have j0 := hG5.cell 0 rfl
    have j1 := hG5.cell 1 rfl
    have j2 := hG5.cell 2 rfl
    have jl := hG5.lt
    have o0 := hQ5.cell 0 rfl
    have o1 := hQ5.cell 1 rfl
    have o2 := hQ5.cell 2 rfl
    have o3 := hQ5.cell 3 rfl
    have ol := hQ5.lt
    have u0 := hZ5.cell 0 rfl
    have u1 := hZ5.cell 1 rfl
    have u2 := hZ5.cell 2 rfl
    have v0 := hZ5.frozen 0
    have v1 := hZ5.frozen 1
    have v2 := hZ5.frozen 2
    have ul := hZ5.lt
    have hkc : k < cs.length := by have := HLN.out; omega
    have s0 := hV5.cell Cl.cells_len k hkc 0 (by decide) rfl
    rw [Nat.add_zero] at s0
    have s1 := hV5.cell Cl.cells_len k hkc 1 (by decide) rfl
    have s2 := hV5.cell Cl.cells_len k hkc 2 (by decide) rfl
    have s3 := hV5.cell Cl.cells_len k hkc 3 (by decide) rfl
    have t0 := hV5.blk.frozen (k * 4)
    have t1 := hV5.blk.frozen (k * 4 + 1)
    have t2 := hV5.blk.frozen (k * 4 + 2)
    have t3 := hV5.blk.frozen (k * 4 + 3)
    have tl := hV5.blk.lt
    have HV5 := hid hV5
    have HZ5 := hid hZ5
    have hne2 : w.heap.size + 1 + 1 ≠ g1 := fun e => absurd (blk_ty (e ▸ hZ5) hV5.blk) (by decide)
    have HKC := hid hkc
    clear hV5 hG5 hQ5 hZ5 hB5 hf5 b0 b1 b2 bl
    go_wp2
    have hV6 := Vec.put4c HV5.out k HKC.out q
    have hp : Fr (At g1) w5 (put4c w5 g1 (k * 4) q) := put4c_fr (S := At g1) (b := g1) (Fr.refl _ _) (.inl rfl) _ _
    have hZ6 := HZ5.out.fr hp (fun e => hne2 e)
    have hZ7 := ((hZ6.set 0 (.int .i64 10)).set 1 (.int .i64 10)).set 2 (.slice (some ⟨g1, 0, none⟩) 100 c1)
    have r0 := hZ7.cell 0 rfl
    have r1 := hZ7.cell 1 rfl
    have r2 := hZ7.cell 2 rfl
    unfold put4c at r0 r1 r2
    have hz : Fr (At (w.heap.size + 1 + 1)) (put4c w5 g1 (k * 4) q) ((((put4c w5 g1 (k * 4) q).setCell ⟨w.heap.size + 1 + 1, 0, none⟩ (.int .i64 10)).setCell ⟨w.heap.size + 1 + 1, 1, none⟩ (.int .i64 10)).setCell ⟨w.heap.size + 1 + 1, 2, none⟩ (.slice (some ⟨g1, 0, none⟩) 100 c1)) := ((Fr.refl _ _).setAt 0 _ |>.setAt 1 _).setAt 2 _
    have hfz := (HF5.out.then_ hp (fun j e => .inr (by have e' : j = g1 := e; rw [e']; exact hbase))).then_ hz (fun j e => .inr (by have e' : j = w.heap.size + 1 + 1 := e; omega))
    have hVz := hV6.fr hz (fun e => hne2 e.symm)
    refine bodyPost_ret (v := gV g1 c1) (by simp [results, Try.results68, go_sem, r0, r1, r2, gV]) rfl ⟨g1, c1, rfl, ⟨⟨rest, hVz⟩, by rw [List.length_set]; exact HLN.out, by have := HLN.out; omega, hcm⟩, hfz, hbase⟩
  exact AllReadyH.nil
end Go.Proofs.Ytnengimekcnfhaa
