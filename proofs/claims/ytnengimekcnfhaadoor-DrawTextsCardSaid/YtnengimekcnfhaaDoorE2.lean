import Derived.Test.YtnengimekcnfhaaDoorD7
import Derived.Test.YtnengimekcnfhaaDoorE1
set_option linter.unusedSimpArgs false
set_option linter.unusedVariables false
set_option maxRecDepth 20000
namespace Go.Proofs.YtnengimekcnfhaaDoor
open Go.RowKit Go.Shelf Go.Proofs.YtnengimekcnfhaaDoorW.PrintWords
theorem FD.past {w w' : World} {f g gb W H : Nat} {cs : List Cl} {nv : Value} {ns : List Wr} {b : Nat} {scr : Rc} {v : Value} {xs : List Wn} {next : Int} (h : FD w f g gb W H cs nv ns) (hs : SK w b scr v xs next) (hf : Fr (SB b v) w w') : FD w' f g gb W H cs nv ns := by
  have ne : ∀ {c T L}, Blk w c T L → T ≠ 54 → 58 ≠ T → ¬ SB b v c := fun hb h1 h2 hk => by
    rcases hk with rfl | hk
    · exact h1 (blk_type hb hs.blk)
    · exact hs.row.ne hb h2 hk
  refine h.fr hf (ne h.blk (by decide) (by decide)) (ne h.gd.blk (by decide) (by decide)) (ne h.gd.cel (by decide) (by decide)) (fun k hk hs' => ?_)
  rcases h.row.2 with ⟨h6, _⟩ | ⟨g', c', cur, h6, _, h7, _⟩
  · rw [h6] at hk
    cases hk
  · rw [h6] at hk
    obtain rfl : g' = k := Option.some.inj hk
    rcases hs' with rfl | hk'
    · have := hs.blk
      unfold Blk at this
      rw [h7] at this
      cases this
    · rcases hs.row with ⟨h8, _⟩ | ⟨g2, c2, rest, h8, hV, _⟩
      · rw [h8] at hk'
        cases hk'
      · rw [h8] at hk'
        obtain rfl : g2 = g' := Option.some.inj hk'
        have := hV.blk
        unfold Blk at this
        rw [h7] at this
        cases this
def wA : Wn := ⟨1, 1, 0, 0, 4, 1, false⟩
def wB2 : Wn := ⟨2, 2, 0, 0, 2, 1, false⟩
def cX : Cl := ⟨120, 0, 0, 0⟩
theorem addA : addR ⟨0, 0, 4, 1⟩ [] 1 1 ⟨0, 0, 4, 1⟩ = ⟨[wA], 2, 1, 0⟩ := by
  unfold addR
  rw [if_neg (by decide), if_neg (by decide), if_neg (by decide)]
  rfl
theorem addB : addR ⟨0, 0, 4, 1⟩ [wA] 2 2 ⟨0, 0, 2, 1⟩ = ⟨[wB2, wA], 3, 2, 0⟩ := by
  unfold addR
  rw [if_neg (by decide), if_neg (by decide), if_neg (by decide)]
  rfl
theorem fillA : foldF 4 [wB2, wA] 1 cX (List.replicate (4 * 1) Cl.zero) [] (plL (wA.x + (inW wA ⟨0, 0, 4, 1⟩).x) (wA.y + (inW wA ⟨0, 0, 4, 1⟩).y) (inW wA ⟨0, 0, 4, 1⟩).w.toNat (inW wA ⟨0, 0, 4, 1⟩).h.toNat) = ([Cl.zero, Cl.zero, cX, cX], [⟨2, 0, cX⟩, ⟨3, 0, cX⟩], 2) := by rfl
theorem wI2 : ∀ q ∈ [wB2, wA], q.r.I := by
  have h0 : I64 0 := Near.i ⟨by decide, by decide⟩
  have h1 : I64 1 := Near.i ⟨by decide, by decide⟩
  have h2 : I64 2 := Near.i ⟨by decide, by decide⟩
  have h4 : I64 4 := Near.i ⟨by decide, by decide⟩
  intro q hq
  rcases List.mem_cons.1 hq with rfl | hq
  · exact ⟨h0, h0, h2, h1⟩
  · rcases List.mem_cons.1 hq with rfl | hq
    · exact ⟨h0, h0, h4, h1⟩
    · cases hq
attribute [local go_sem] Go.Instr.field in
theorem cl_field0 (w : World) (a b c d : Int) : (Go.Instr.field 40 (.agg #[.int .i32 a, .int .i64 b, .int .i64 c, .int .i64 d]) 0).run Tryd.prog w = .ok (.int .i32 a) w := by
  go_simp
  rfl
attribute [local go_sem] cl_field0 in
theorem awake_any (w : World) : Calls Tryd.prog 4 #[] w fun e w' => e = .returned (.bool true) ∧ Fr NoB w w' := by
  have HNf := hid (fNew_ok w 4 1 (by decide) (by decide) (by decide) (by decide))
  have HNs := fun w9 => hid (sNew_ok w9 4 1 (by decide) (by decide) (by decide) (by decide))
  go_enter Tryd.func4, Tryd.ntmps4
  go_wp2_with fail
  refine HNf.out.mono ?_
  rintro e' w1 ⟨f, g, gb, rfl, hfd, hf1, hF0, _, hG0⟩
  have HFD := hid hfd
  have HF1 := hid hf1
  clear hfd hf1
  go_wp2_with fail
  refine (HNs _).out.mono ?_
  rintro e' w2 ⟨b, rfl, hsk, hf2, hb⟩
  have HSK := hid hsk
  have HF2 := hid (HF1.out.trans hf2)
  have HFD2 := hid (HFD.out.frd hf2)
  clear hsk hf2
  go_wp2_with fail
  have HA := hid (sAdd_any w2 b _ _ [] 1 1 ⟨0, 0, 4, 1⟩ HSK.out (by decide) (by decide) (by decide))
  rw [show addR _ [] 1 1 _ = _ from addA] at HA
  refine HA.out.mono ?_
  clear HA
  rintro e' w3 ⟨rfl, v3, hsk3, hf3, ho3⟩
  have HSK3 := hid hsk3
  have HFD3 := hid (HFD2.out.past HSK.out hf3)
  have HF3 := hid (HF2.out.then_ hf3 (fun k hk => .inr (by rcases hk with rfl | hk; exact Nat.le_trans HF1.out.size hb; cases hk)))
  have HO3 : Hid (∀ k, OwnB v3 k → w.heap.size ≤ k) := fun k hk => by
    rcases ho3 k hk with h | h
    · cases h
    · exact Nat.le_trans HF2.out.size h
  clear hsk3 hf3 ho3
  have HB := hid (sAdd_any w3 b _ _ [wA] 2 2 ⟨0, 0, 2, 1⟩ HSK3.out (by decide) (by decide) (by decide))
  rw [show addR _ [wA] 2 2 _ = _ from addB] at HB
  go_wp2_with fail
  refine HB.out.mono ?_
  clear HB
  rintro e' w4 ⟨rfl, v4, hsk4, hf4, ho4⟩
  have HSK4 := hid hsk4
  have HFD4 := hid (HFD3.out.past HSK3.out hf4)
  have HF4 := hid (HF3.out.then_ hf4 (fun k hk => .inr (by rcases hk with rfl | hk; exact Nat.le_trans HF1.out.size hb; exact HO3.out k hk)))
  clear hsk4 hf4 ho4
  have HFi := hid (dFill_in w4 f g gb 4 1 b _ _ [] v4 [wB2, wA] 3 1 ⟨0, 0, 4, 1⟩ cX wA HFD4.out HSK4.out (by decide) rfl wI2 (by decide) (by decide) (by decide) (by decide) (by decide) (by decide) (by decide))
  rw [fillA] at HFi
  go_wp2_with fail
  refine HFi.out.mono ?_
  clear HFi
  rintro e' w5 ⟨rfl, ⟨nv5, hfd5, _⟩, _, hf5⟩
  have HFD5 := hid hfd5
  have HF5 := hid (HF4.out.then_ hf5 (fun k hk => .inr (by rcases hk with rfl | rfl | hk; exact hF0; exact hG0; cases hk)))
  have f0 := hfd5.blk.cell 0 rfl
  have fl := hfd5.blk.lt
  clear hfd5 hf5
  go_wp2_with fail
  have HAt0 := hid (gAt_in w5 g gb 4 1 _ 0 0 HFD5.out.gd (by decide) (by decide))
  rw [show atG 4 1 [Cl.zero, Cl.zero, cX, cX] ((0 : Nat) : Int) ((0 : Nat) : Int) = Cl.zero from rfl] at HAt0
  refine HAt0.out.mono ?_
  rintro e' w6 ⟨rfl, hf6⟩
  have HFD6 := hid (HFD5.out.frd hf6)
  have HF6 := hid (HF5.out.trans hf6)
  have f0 := HFD6.out.blk.cell 0 rfl
  have fl := HFD6.out.blk.lt
  clear hf6
  rw [show Cl.zero.v = .agg #[.int .i32 0, .int .i64 0, .int .i64 0, .int .i64 0] from rfl]
  go_wp2_with fail
  have HAt2 := hid (gAt_in w6 g gb 4 1 _ 2 0 HFD6.out.gd (by decide) (by decide))
  rw [show atG 4 1 [Cl.zero, Cl.zero, cX, cX] ((2 : Nat) : Int) ((0 : Nat) : Int) = cX from rfl] at HAt2
  refine HAt2.out.mono ?_
  rintro e' w7 ⟨rfl, hf7⟩
  have HF7 := hid (HF6.out.trans hf7)
  clear hf7
  rw [show cX.v = .agg #[.int .i32 120, .int .i64 0, .int .i64 0, .int .i64 0] from rfl]
  go_wp2_with fail
  go_ret
  exact ⟨rfl, HF7.out⟩
end Go.Proofs.YtnengimekcnfhaaDoor
