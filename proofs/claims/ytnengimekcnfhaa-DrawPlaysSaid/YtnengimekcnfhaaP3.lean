import Derived.Test.YtnengimekcnfhaaP1
set_option linter.unusedSimpArgs false
set_option linter.unusedVariables false
set_option maxRecDepth 40000
namespace Go.Proofs.Ytnengimekcnfhaa
open Go.RowKit Go.Proofs.YtnengimekcnfhaaW.PrintWords
/-- What is left behind the acts: windows that fit, in the stack and in the document's row. -/
def PlayTo (W H b : Nat) (m : Nat) (w : World) (e : Ending) (w' : World) : Prop :=
  ∃ v10 v xs nx, e = .returned (.tuple #[v10, .bool true]) ∧ PI w w' b (rect0 W H) xs xs nx v v10 ∧ Good (rect0 W H) xs nx m
set_option maxHeartbeats 16000000 in
theorem play_any (w : World) (W H b : Nat) (A : Option Addr) (cap : Nat) (l : List Ac) (h1 : 1 ≤ W) (h2 : W ≤ 512) (h3 : 1 ≤ H) (h4 : H ≤ 512) (hs : SK w b (rect0 W H) (.slice none 0 0) [] 1) (hA : AcA w A l) (hll : l.length ≤ 100) (hcap : l.length ≤ cap) (hfar : ∀ ad, A = some ad → 0 < l.length → ad.block ≠ b) :
    Calls Try.prog 14 #[.pointer (some ⟨b, 0, none⟩), .int .i64 W, .int .i64 H, .slice A l.length cap] w (PlayTo W H b l.length w) := by
  have hP0 : PI w w b (rect0 W H) [] [] 1 (.slice none 0 0) (.slice none 0 0) := ⟨.inl ⟨rfl, rfl⟩, hs, Fr.refl _ _, (fun j h => nomatch h), (fun j h => nomatch h)⟩
  have hG0 : Good (rect0 W H) [] 1 0 := ⟨(fun q h => nomatch h), Nat.le_refl _, by omega, by omega⟩
  have HP0 := hid hP0
  have HG0 := hid hG0
  have HA := hid hA
  have HFAR := hid hfar
  have hbl := hs.blk.lt
  have HFI := hid (fits_iff W H h1 h2 h3 h4)
  clear hP0 hG0 hA hfar hs
  go_enter Try.func14, Try.ntmps14
  go_wp2
  go_loopw [10, 11, 12] (fun v10 v11 v12 wr => ∃ (k : Nat) (xs : List Wn) (nx : Int) (v : Value), k ≤ l.length ∧ v12 = .int .i64 k ∧ v11 = .int .i64 nx ∧ Hid (PI w wr b (rect0 W H) xs xs nx v v10 ∧ Good (rect0 W H) xs nx k)) (fun v10 v11 v12 _ => l.length - (intOf v12).toNat)
  case atStart => exact ⟨0, [], 1, .slice none 0 0, Nat.zero_le _, rfl, rfl, HP0.out, HG0.out⟩
  case round =>
    obtain ⟨k, xs, nx, v, hk, rfl, rfl, HR⟩ := hrel
    by_cases hkm : k < l.length
    · obtain ⟨ad, rfl, c0, cj⟩ := (HA.out.fr HR.out.1.fr (fun ad e h0 => HFAR.out ad e h0)).cells k hkm
      have c0 := c0 _ rfl
      have c1 := cj 1 _ (by decide) rfl
      have c2 := cj 2 _ (by decide) rfl
      have c3 := cj 3 _ (by decide) rfl
      have c4 := cj 4 _ (by decide) rfl
      have c5 := cj 5 _ (by decide) rfl
      have c6 := cj 6 _ (by decide) rfl
      generalize l[k] = a at *
      clear cj
      have HG := hid HR.out.2
      obtain ⟨A10, c10, hv10, _, _⟩ := HR.out.1.row.shape
      subst hv10
      have t256 : ¬ (256 ≤ (xs.length : Int)) := by have := HG.out.len; omega
      have hnb : wr.heap.size ≠ b := by have := HR.out.1.fr.size; omega
      have HNB := hid hnb
      clear hnb
      go_wp2_with fail
      refine (r12At_any _ _ xs a.id (HR.out.1.frd ((Fr.refl NoB wr).alloc _)).row (by have := HG.out.len; omega)).mono ?_
      rintro e' w1 ⟨rfl, hw1⟩
      have HI1 : Hid (PI w w1 b (rect0 W H) xs xs nx v (.slice A10 xs.length c10)) := by rw [hw1]; exact HR.out.1.frd ((Fr.refl NoB wr).alloc _)
      have HB : Hid (Blk w1 wr.heap.size 85 a.cells) := by rw [hw1]; exact Blk.new wr 85 a.cells
      clear hw1 c0 c1 c2 c3 c4 c5 c6 HR
      have a0 := HB.out.cell 0 rfl
      have a1 := HB.out.cell 1 rfl
      have a2 := HB.out.cell 2 rfl
      have a3 := HB.out.cell 3 rfl
      have a4 := HB.out.cell 4 rfl
      have a5 := HB.out.cell 5 rfl
      have a6 := HB.out.cell 6 rfl
      have aL := HB.out.lt
      by_cases hd0 : a.do_ = 0
      · have t0 : (a.do_ == 0) = true := by rw [beq_iff_eq]; exact hd0
        clear hd0
        have hat : ∃ q : Int, idAt a.id xs = q := ⟨_, rfl⟩
        obtain ⟨q, hq⟩ := hat
        rw [hq]
        clear hq
        cases tq : decide (q < 0)
        all_goals
          cases tf : decide (FitsIn W H a.r)
          · cases te : decide (a.env < 0)
            · have HAR : Hid (addR (rect0 W H) xs nx a.env a.r = ⟨xs, nx, 0, 2⟩) := by
                show _ = _
                unfold addR
                rw [if_neg (of_decide_eq_false te), if_pos (fun h => (of_decide_eq_false tf) ((HFI.out a.r).1 h))]
              go_wp2_with fail
              refine (r12Fits_any _ W H a.r).mono ?_
              rintro e' w2 ⟨rfl, hf2⟩
              rw [tf]
              have HI2 := hid (HI1.out.frd hf2)
              clear a0 a1 a2 a3 a4 a5 a6 aL
              have HB := hid (HB.out.fr hf2 (fun h => h))
              clear hf2
              have a0 := HB.out.cell 0 rfl
              have a1 := HB.out.cell 1 rfl
              have a2 := HB.out.cell 2 rfl
              have a3 := HB.out.cell 3 rfl
              have a4 := HB.out.cell 4 rfl
              have a5 := HB.out.cell 5 rfl
              have a6 := HB.out.cell 6 rfl
              have aL := HB.out.lt
              go_wp2_with fail
              refine (sAdd_any _ b (rect0 W H) v xs nx a.env a.r HI2.out.sk (by have := HG.out.len; omega) (by have := HG.out.n1; omega) (by have := HG.out.n2; omega)).mono ?_
              rw [show addR (rect0 W H) xs nx a.env a.r = _ from HAR.out]
              intro e' w3 hs3
              obtain ⟨v3, rfl, hI3, hf3⟩ := HI2.out.stack hs3
              have HI3 := hid hI3
              have HB := hid (HI2.out.keepB HB.out (by decide) HNB.out hf3)
              clear hs3 hI3 hf3
              clear a0 a1 a2 a3 a4 a5 a6 aL
              have a0 := HB.out.cell 0 rfl
              have a1 := HB.out.cell 1 rfl
              have a2 := HB.out.cell 2 rfl
              have a3 := HB.out.cell 3 rfl
              have a4 := HB.out.cell 4 rfl
              have a5 := HB.out.cell 5 rfl
              have a6 := HB.out.cell 6 rfl
              have aL := HB.out.lt
              go_wp2
              go_roundw
              case rel => exact ⟨k + 1, xs, nx, v3, by omega, by go_num, rfl, HI3.out, HG.out.succ⟩
              case measure => simp [intOf]; omega
            · have HAR : Hid (addR (rect0 W H) xs nx a.env a.r = ⟨xs, nx, 0, 1⟩) := by
                show _ = _
                unfold addR
                rw [if_pos (of_decide_eq_true te)]
              go_wp2_with fail
              refine (r12Fits_any _ W H a.r).mono ?_
              rintro e' w2 ⟨rfl, hf2⟩
              rw [tf]
              have HI2 := hid (HI1.out.frd hf2)
              clear a0 a1 a2 a3 a4 a5 a6 aL
              have HB := hid (HB.out.fr hf2 (fun h => h))
              clear hf2
              have a0 := HB.out.cell 0 rfl
              have a1 := HB.out.cell 1 rfl
              have a2 := HB.out.cell 2 rfl
              have a3 := HB.out.cell 3 rfl
              have a4 := HB.out.cell 4 rfl
              have a5 := HB.out.cell 5 rfl
              have a6 := HB.out.cell 6 rfl
              have aL := HB.out.lt
              go_wp2_with fail
              refine (sAdd_any _ b (rect0 W H) v xs nx a.env a.r HI2.out.sk (by have := HG.out.len; omega) (by have := HG.out.n1; omega) (by have := HG.out.n2; omega)).mono ?_
              rw [show addR (rect0 W H) xs nx a.env a.r = _ from HAR.out]
              intro e' w3 hs3
              obtain ⟨v3, rfl, hI3, hf3⟩ := HI2.out.stack hs3
              have HI3 := hid hI3
              have HB := hid (HI2.out.keepB HB.out (by decide) HNB.out hf3)
              clear hs3 hI3 hf3
              clear a0 a1 a2 a3 a4 a5 a6 aL
              have a0 := HB.out.cell 0 rfl
              have a1 := HB.out.cell 1 rfl
              have a2 := HB.out.cell 2 rfl
              have a3 := HB.out.cell 3 rfl
              have a4 := HB.out.cell 4 rfl
              have a5 := HB.out.cell 5 rfl
              have a6 := HB.out.cell 6 rfl
              have aL := HB.out.lt
              go_wp2
              go_roundw
              case rel => exact ⟨k + 1, xs, nx, v3, by omega, by go_num, rfl, HI3.out, HG.out.succ⟩
              case measure => simp [intOf]; omega
          · cases te : decide (a.env < 0)
            · have HAR : Hid (addR (rect0 W H) xs nx a.env a.r = ⟨⟨nx, a.env, a.r.x, a.r.y, a.r.w, a.r.h, false⟩ :: xs, nx + 1, nx, 0⟩) := by
                show _ = _
                unfold addR
                rw [if_neg (of_decide_eq_false te), if_neg (fun h => h ((HFI.out a.r).2 (of_decide_eq_true tf))), if_neg (by have := HG.out.len; omega)]
              have HFT : Hid (Fits (rect0 W H) a.r) := (HFI.out a.r).2 (of_decide_eq_true tf)
              have tw1 : IntKind.i64.wrap (nx + 1) = nx + 1 := IntWalk.i64_in _ (by have := HG.out.n1; have := HG.out.n2; omega)
              have tw3 : IntKind.i64.wrap nx = nx := IntWalk.i64_in _ (by have := HG.out.n1; have := HG.out.n2; omega)
              have tw2 : IntKind.i64.wrap (nx + 1 - 1) = nx := by rw [IntWalk.i64_in _ (by have := HG.out.n1; have := HG.out.n2; omega)]; omega
              go_wp2_with fail
              refine (r12Fits_any _ W H a.r).mono ?_
              rintro e' w2 ⟨rfl, hf2⟩
              rw [tf]
              have HI2 := hid (HI1.out.frd hf2)
              clear a0 a1 a2 a3 a4 a5 a6 aL
              have HB := hid (HB.out.fr hf2 (fun h => h))
              clear hf2
              have a0 := HB.out.cell 0 rfl
              have a1 := HB.out.cell 1 rfl
              have a2 := HB.out.cell 2 rfl
              have a3 := HB.out.cell 3 rfl
              have a4 := HB.out.cell 4 rfl
              have a5 := HB.out.cell 5 rfl
              have a6 := HB.out.cell 6 rfl
              have aL := HB.out.lt
              go_wp2_with fail
              refine (sAdd_any _ b (rect0 W H) v xs nx a.env a.r HI2.out.sk (by have := HG.out.len; omega) (by have := HG.out.n1; omega) (by have := HG.out.n2; omega)).mono ?_
              rw [show addR (rect0 W H) xs nx a.env a.r = _ from HAR.out]
              intro e' w3 hs3
              obtain ⟨v3, rfl, hI3, hf3⟩ := HI2.out.stack hs3
              have HI3 := hid hI3
              have HB := hid (HI2.out.keepB HB.out (by decide) HNB.out hf3)
              clear hs3 hI3 hf3
              clear a0 a1 a2 a3 a4 a5 a6 aL
              have a0 := HB.out.cell 0 rfl
              have a1 := HB.out.cell 1 rfl
              have a2 := HB.out.cell 2 rfl
              have a3 := HB.out.cell 3 rfl
              have a4 := HB.out.cell 4 rfl
              have a5 := HB.out.cell 5 rfl
              have a6 := HB.out.cell 6 rfl
              have aL := HB.out.lt
              go_wp2_with fail
              refine (r12First_any _ _ xs ⟨nx, a.env, a.r.x, a.r.y, a.r.w, a.r.h, false⟩ HI3.out.row (by have := HG.out.len; omega)).mono ?_
              intro e' w4 hs4
              obtain ⟨v4, rfl, hI4, hf4⟩ := HI3.out.fresh hs4
              have HI4 := hid hI4
              clear a0 a1 a2 a3 a4 a5 a6 aL
              have HB := hid (HB.out.fr hf4 (fun h => h))
              clear hs4 hI4 hf4
              have a0 := HB.out.cell 0 rfl
              have a1 := HB.out.cell 1 rfl
              have a2 := HB.out.cell 2 rfl
              have a3 := HB.out.cell 3 rfl
              have a4 := HB.out.cell 4 rfl
              have a5 := HB.out.cell 5 rfl
              have a6 := HB.out.cell 6 rfl
              have aL := HB.out.lt
              go_wp2
              go_roundw
              case rel => exact ⟨k + 1, _, nx + 1, v3, by omega, by go_num, rfl, HI4.out, HG.out.add a.env a.r HFT.out⟩
              case measure => simp [intOf]; omega
            · have HAR : Hid (addR (rect0 W H) xs nx a.env a.r = ⟨xs, nx, 0, 1⟩) := by
                show _ = _
                unfold addR
                rw [if_pos (of_decide_eq_true te)]
              go_wp2_with fail
              refine (r12Fits_any _ W H a.r).mono ?_
              rintro e' w2 ⟨rfl, hf2⟩
              rw [tf]
              have HI2 := hid (HI1.out.frd hf2)
              clear a0 a1 a2 a3 a4 a5 a6 aL
              have HB := hid (HB.out.fr hf2 (fun h => h))
              clear hf2
              have a0 := HB.out.cell 0 rfl
              have a1 := HB.out.cell 1 rfl
              have a2 := HB.out.cell 2 rfl
              have a3 := HB.out.cell 3 rfl
              have a4 := HB.out.cell 4 rfl
              have a5 := HB.out.cell 5 rfl
              have a6 := HB.out.cell 6 rfl
              have aL := HB.out.lt
              go_wp2_with fail
              refine (sAdd_any _ b (rect0 W H) v xs nx a.env a.r HI2.out.sk (by have := HG.out.len; omega) (by have := HG.out.n1; omega) (by have := HG.out.n2; omega)).mono ?_
              rw [show addR (rect0 W H) xs nx a.env a.r = _ from HAR.out]
              intro e' w3 hs3
              obtain ⟨v3, rfl, hI3, hf3⟩ := HI2.out.stack hs3
              have HI3 := hid hI3
              have HB := hid (HI2.out.keepB HB.out (by decide) HNB.out hf3)
              clear hs3 hI3 hf3
              clear a0 a1 a2 a3 a4 a5 a6 aL
              have a0 := HB.out.cell 0 rfl
              have a1 := HB.out.cell 1 rfl
              have a2 := HB.out.cell 2 rfl
              have a3 := HB.out.cell 3 rfl
              have a4 := HB.out.cell 4 rfl
              have a5 := HB.out.cell 5 rfl
              have a6 := HB.out.cell 6 rfl
              have aL := HB.out.lt
              go_wp2
              go_roundw
              case rel => exact ⟨k + 1, xs, nx, v3, by omega, by go_num, rfl, HI3.out, HG.out.succ⟩
              case measure => simp [intOf]; omega
      have t0 : (a.do_ == 0) = false := by rw [beq_eq_false_iff_ne]; exact hd0
      clear hd0
      by_cases hd1 : a.do_ = 1
      · have t1 : (a.do_ == 1) = true := by rw [beq_iff_eq]; exact hd1
        clear hd1
        have HST := hid (sDrop_any w1 b (rect0 W H) v xs nx a.id HI1.out.sk (by have := HG.out.len; omega))
        have hfq : ∃ q : Int, idAt a.id xs = q ∧ ((getW xs a.id = none ∧ q = -1) ∨ ∃ (t : Wn) (n : Nat) (hn : n < xs.length), getW xs a.id = some t ∧ q = n ∧ xs[n] = t) := by
          cases hg : getW xs a.id with
          | none => exact ⟨_, rfl, .inl ⟨rfl, idAt_none hg⟩⟩
          | some t =>
            obtain ⟨n, hn, hi, ht, _⟩ := idAt_some hg
            exact ⟨_, rfl, .inr ⟨t, n, hn, rfl, hi, ht⟩⟩
        obtain ⟨qi, hqi, hq⟩ := hfq
        rw [hqi]
        rcases hq with ⟨hg, hqn⟩ | ⟨t, q, hqk, hg, hqn, hqt⟩
        · subst hqn
          rw [show dropX xs a.id = xs from by unfold dropX; rw [hg]; rfl, show foundE xs a.id = 5 from by unfold foundE; rw [hg]; rfl] at HST
          clear hg hqi

          go_wp2_with fail
          refine HST.out.mono ?_
          intro e' w3 hs3
          obtain ⟨v3, rfl, hI3, hf3⟩ := HI1.out.stack hs3
          have HI3 := hid hI3
          have HB := hid (HI1.out.keepB HB.out (by decide) HNB.out hf3)
          clear hs3 hI3 hf3
          clear a0 a1 a2 a3 a4 a5 a6 aL
          have a0 := HB.out.cell 0 rfl
          have a1 := HB.out.cell 1 rfl
          have a2 := HB.out.cell 2 rfl
          have a3 := HB.out.cell 3 rfl
          have a4 := HB.out.cell 4 rfl
          have a5 := HB.out.cell 5 rfl
          have a6 := HB.out.cell 6 rfl
          have aL := HB.out.lt
          go_wp2

          go_roundw
          case rel => exact ⟨k + 1, _, nx, v3, by omega, by go_num, rfl, HI3.out, HG.out.succ⟩
          case measure => simp [intOf]; omega
        · subst hqn
          rw [show dropX xs a.id = outAt xs q from by unfold dropX; rw [hg, hqi]; rfl, show foundE xs a.id = 0 from by unfold foundE; rw [hg]; rfl] at HST
          clear hg hqi hqt

          go_wp2_with fail
          refine HST.out.mono ?_
          intro e' w3 hs3
          obtain ⟨v3, rfl, hI3, hf3⟩ := HI1.out.stack hs3
          have HI3 := hid hI3
          have HB := hid (HI1.out.keepB HB.out (by decide) HNB.out hf3)
          clear hs3 hI3 hf3
          clear a0 a1 a2 a3 a4 a5 a6 aL
          have a0 := HB.out.cell 0 rfl
          have a1 := HB.out.cell 1 rfl
          have a2 := HB.out.cell 2 rfl
          have a3 := HB.out.cell 3 rfl
          have a4 := HB.out.cell 4 rfl
          have a5 := HB.out.cell 5 rfl
          have a6 := HB.out.cell 6 rfl
          have aL := HB.out.lt
          go_wp2_with fail
          refine (r12Out_any _ _ xs q (q + 1) HI3.out.row (by have := HG.out.len; omega) hqk rfl).mono ?_

          intro e' w4 hs4
          obtain ⟨v4, rfl, hI4, hf4⟩ := HI3.out.fresh hs4
          have HI4 := hid hI4
          clear a0 a1 a2 a3 a4 a5 a6 aL
          have HB := hid (HB.out.fr hf4 (fun h => h))
          clear hs4 hI4 hf4
          have a0 := HB.out.cell 0 rfl
          have a1 := HB.out.cell 1 rfl
          have a2 := HB.out.cell 2 rfl
          have a3 := HB.out.cell 3 rfl
          have a4 := HB.out.cell 4 rfl
          have a5 := HB.out.cell 5 rfl
          have a6 := HB.out.cell 6 rfl
          have aL := HB.out.lt
          go_wp2

          go_roundw
          case rel => exact ⟨k + 1, _, nx, v3, by omega, by go_num, rfl, HI4.out, HG.out.out q hqk⟩
          case measure => simp [intOf]; omega
      have t1 : (a.do_ == 1) = false := by rw [beq_eq_false_iff_ne]; exact hd1
      clear hd1
      by_cases hd2 : a.do_ = 2
      · have t2 : (a.do_ == 2) = true := by rw [beq_iff_eq]; exact hd2
        clear hd2
        have HST := hid (sTop_any w1 b (rect0 W H) v xs nx a.id HI1.out.sk (by have := HG.out.len; omega))
        have hfq : ∃ q : Int, idAt a.id xs = q ∧ ((getW xs a.id = none ∧ q = -1) ∨ ∃ (t : Wn) (n : Nat) (hn : n < xs.length), getW xs a.id = some t ∧ q = n ∧ xs[n] = t) := by
          cases hg : getW xs a.id with
          | none => exact ⟨_, rfl, .inl ⟨rfl, idAt_none hg⟩⟩
          | some t =>
            obtain ⟨n, hn, hi, ht, _⟩ := idAt_some hg
            exact ⟨_, rfl, .inr ⟨t, n, hn, rfl, hi, ht⟩⟩
        obtain ⟨qi, hqi, hq⟩ := hfq
        rw [hqi]
        rcases hq with ⟨hg, hqn⟩ | ⟨t, q, hqk, hg, hqn, hqt⟩
        · subst hqn
          rw [show topX xs a.id = xs from by unfold topX; rw [hg], show foundE xs a.id = 5 from by unfold foundE; rw [hg]; rfl] at HST
          clear hg hqi

          go_wp2_with fail
          refine HST.out.mono ?_
          intro e' w3 hs3
          obtain ⟨v3, rfl, hI3, hf3⟩ := HI1.out.stack hs3
          have HI3 := hid hI3
          have HB := hid (HI1.out.keepB HB.out (by decide) HNB.out hf3)
          clear hs3 hI3 hf3
          clear a0 a1 a2 a3 a4 a5 a6 aL
          have a0 := HB.out.cell 0 rfl
          have a1 := HB.out.cell 1 rfl
          have a2 := HB.out.cell 2 rfl
          have a3 := HB.out.cell 3 rfl
          have a4 := HB.out.cell 4 rfl
          have a5 := HB.out.cell 5 rfl
          have a6 := HB.out.cell 6 rfl
          have aL := HB.out.lt
          go_wp2

          go_roundw
          case rel => exact ⟨k + 1, _, nx, v3, by omega, by go_num, rfl, HI3.out, HG.out.succ⟩
          case measure => simp [intOf]; omega
        · subst hqn
          rw [show topX xs a.id = xs[q] :: outAt xs q from by unfold topX; rw [hg, hqi, hqt]; rfl, show foundE xs a.id = 0 from by unfold foundE; rw [hg]; rfl] at HST
          clear hg hqi hqt

          go_wp2_with fail
          refine HST.out.mono ?_
          intro e' w3 hs3
          obtain ⟨v3, rfl, hI3, hf3⟩ := HI1.out.stack hs3
          have HI3 := hid hI3
          have HB := hid (HI1.out.keepB HB.out (by decide) HNB.out hf3)
          clear hs3 hI3 hf3
          clear a0 a1 a2 a3 a4 a5 a6 aL
          have a0 := HB.out.cell 0 rfl
          have a1 := HB.out.cell 1 rfl
          have a2 := HB.out.cell 2 rfl
          have a3 := HB.out.cell 3 rfl
          have a4 := HB.out.cell 4 rfl
          have a5 := HB.out.cell 5 rfl
          have a6 := HB.out.cell 6 rfl
          have aL := HB.out.lt

          obtain ⟨g10, c11, r10, hv10, hV10, hx10, hm10⟩ := HI3.out.row.vec (by omega)
          obtain ⟨rfl, rfl⟩ : A10 = some ⟨g10, 0, none⟩ ∧ c10 = c11 := by injection hv10 with e1 e2 e3; exact ⟨e1, e3⟩
          clear hv10
          obtain ⟨k0, k1, k2, k3, k4, k5, k6⟩ := WnV.cells hV10 q hqk
          have g2 := WnV.frozen hV10 (q * 7 + 2)
          have g3 := WnV.frozen hV10 (q * 7 + 3)
          have g4 := WnV.frozen hV10 (q * 7 + 4)
          have g5 := WnV.frozen hV10 (q * 7 + 5)
          have g6 := WnV.frozen hV10 (q * 7 + 6)
          have gl := WnV.lt hV10
          have HV10 := hid hV10
          have HM10 := hid (And.intro hx10 hm10)
          clear hV10 hx10 hm10

          have HSv : Hid (∀ W, Fr NoB w3 W → W.cell? ⟨g10, q * 7, none⟩ = some (.int .i64 xs[q].id) ∧ W.cell? ⟨g10, q * 7 + 1, none⟩ = some (.int .i64 xs[q].env) ∧ W.cell? ⟨g10, q * 7 + 2, none⟩ = some (.int .i64 xs[q].x) ∧ W.cell? ⟨g10, q * 7 + 3, none⟩ = some (.int .i64 xs[q].y) ∧ W.cell? ⟨g10, q * 7 + 4, none⟩ = some (.int .i64 xs[q].w) ∧ W.cell? ⟨g10, q * 7 + 5, none⟩ = some (.int .i64 xs[q].h) ∧ W.cell? ⟨g10, q * 7 + 6, none⟩ = some (.bool xs[q].hid)) := hid fun W hW => WnV.cells (HV10.out.fr hW (fun h => h)) q hqk
          have HFq := hid (Fr.drew (Fr.refl NoB w3))
          have HOut : Hid (∀ W, Fr NoB w3 W → Calls Try.prog 38 #[.slice (some ⟨g10, 0, none⟩) xs.length c10, .int .i64 q] W (WnRowTo (outAt xs q) W)) := hid fun W hW => r12Out_any W _ xs q (q + 1) (HI3.out.row.fr hW (fun _ _ h => h)) (by have := HG.out.len; omega) hqk rfl
          have HOL : Hid ((outAt xs q).length ≤ 4096) := hid (by have := outAt_len xs q hqk; have := HG.out.len; omega)
          clear k0 k1 k2 k3 k4 k5 k6 g2 g3 g4 g5 g6
          clear a0 a1 a2 a3 a4 a5 a6 aL
          go_wp2_with fail
          go_region_held3 (fun W : World => W.cell? ⟨g10, q * 7, none⟩ = some (.int .i64 xs[q].id) ∧ W.cell? ⟨g10, q * 7 + 1, none⟩ = some (.int .i64 xs[q].env) ∧ W.cell? ⟨g10, q * 7 + 2, none⟩ = some (.int .i64 xs[q].x) ∧ W.cell? ⟨g10, q * 7 + 3, none⟩ = some (.int .i64 xs[q].y) ∧ W.cell? ⟨g10, q * 7 + 4, none⟩ = some (.int .i64 xs[q].w) ∧ W.cell? ⟨g10, q * 7 + 5, none⟩ = some (.int .i64 xs[q].h) ∧ W.cell? ⟨g10, q * 7 + 6, none⟩ = some (.bool xs[q].hid)) (first | exact HSv.out _ HF5.out | exact HSv.out _ HF4.out | exact HSv.out _ HFq.out | fail) (first | (go_at_call 38; refine (HOut.out _ HFq.out).mono ?_; rintro e' w4 ⟨v4, rfl, hr4, hf4⟩; have HR4 := hid hr4; have HF4 := hid (HFq.out.trans hf4); clear hr4 hf4) | (go_at_call 36; refine (r12First_any _ _ (outAt xs q) xs[q] (WnS.of_row HR4.out) HOL.out).mono ?_; rintro e' w5 ⟨v5, rfl, hr5, hf5⟩; have HR5 := hid hr5; have HF5 := hid (HF4.out.trans hf5); have HS4 := hid hf5.size; clear hr5 hf5) | fail)
          all_goals
            obtain ⟨v5', he5, hI5, hf5⟩ := HI3.out.fresh (e := .returned v5) (xs' := xs[q] :: outAt xs q) ⟨v5, rfl, HR5.out.base_le HF4.out.size, HF5.out⟩
            obtain rfl : v5 = v5' := Ending.returned.inj he5
            have HI5 := hid hI5
            have HB := hid (HB.out.fr HF5.out (fun h => h))
            clear hI5 he5 hf5
            have a0 := HB.out.cell 0 rfl
            have a1 := HB.out.cell 1 rfl
            have a2 := HB.out.cell 2 rfl
            have a3 := HB.out.cell 3 rfl
            have a4 := HB.out.cell 4 rfl
            have a5 := HB.out.cell 5 rfl
            have a6 := HB.out.cell 6 rfl
            have aL := HB.out.lt
            go_wp2
            go_roundw
            case rel => exact ⟨k + 1, _, nx, v3, by omega, by go_num, rfl, HI5.out, HG.out.top q hqk⟩
            case measure => simp [intOf]; omega
      have t2 : (a.do_ == 2) = false := by rw [beq_eq_false_iff_ne]; exact hd2
      clear hd2
      by_cases hd3 : a.do_ = 3
      · have t3 : (a.do_ == 3) = true := by rw [beq_iff_eq]; exact hd3
        clear hd3
        have HST := hid (sHide_any w1 b (rect0 W H) v xs nx a.id true HI1.out.sk (by have := HG.out.len; omega))
        have hfq : ∃ q : Int, idAt a.id xs = q ∧ ((getW xs a.id = none ∧ q = -1) ∨ ∃ (t : Wn) (n : Nat) (hn : n < xs.length), getW xs a.id = some t ∧ q = n ∧ xs[n] = t) := by
          cases hg : getW xs a.id with
          | none => exact ⟨_, rfl, .inl ⟨rfl, idAt_none hg⟩⟩
          | some t =>
            obtain ⟨n, hn, hi, ht, _⟩ := idAt_some hg
            exact ⟨_, rfl, .inr ⟨t, n, hn, rfl, hi, ht⟩⟩
        obtain ⟨qi, hqi, hq⟩ := hfq
        rw [hqi]
        rcases hq with ⟨hg, hqn⟩ | ⟨t, q, hqk, hg, hqn, hqt⟩
        · subst hqn
          rw [show hideX xs a.id true = xs from by unfold hideX; rw [hg], show foundE xs a.id = 5 from by unfold foundE; rw [hg]; rfl] at HST
          clear hg hqi

          go_wp2_with fail
          refine HST.out.mono ?_
          intro e' w3 hs3
          obtain ⟨v3, rfl, hI3, hf3⟩ := HI1.out.stack hs3
          have HI3 := hid hI3
          have HB := hid (HI1.out.keepB HB.out (by decide) HNB.out hf3)
          clear hs3 hI3 hf3
          clear a0 a1 a2 a3 a4 a5 a6 aL
          have a0 := HB.out.cell 0 rfl
          have a1 := HB.out.cell 1 rfl
          have a2 := HB.out.cell 2 rfl
          have a3 := HB.out.cell 3 rfl
          have a4 := HB.out.cell 4 rfl
          have a5 := HB.out.cell 5 rfl
          have a6 := HB.out.cell 6 rfl
          have aL := HB.out.lt
          go_wp2

          go_roundw
          case rel => exact ⟨k + 1, _, nx, v3, by omega, by go_num, rfl, HI3.out, HG.out.succ⟩
          case measure => simp [intOf]; omega
        · subst hqn
          rw [show hideX xs a.id true = xs.set q (xs[q].hide true) from by unfold hideX; rw [hg, hqi, hqt]; rfl, show foundE xs a.id = 0 from by unfold foundE; rw [hg]; rfl] at HST
          clear hg hqi hqt

          go_wp2_with fail
          refine HST.out.mono ?_
          intro e' w3 hs3
          obtain ⟨v3, rfl, hI3, hf3⟩ := HI1.out.stack hs3
          have HI3 := hid hI3
          have HB := hid (HI1.out.keepB HB.out (by decide) HNB.out hf3)
          clear hs3 hI3 hf3
          clear a0 a1 a2 a3 a4 a5 a6 aL
          have a0 := HB.out.cell 0 rfl
          have a1 := HB.out.cell 1 rfl
          have a2 := HB.out.cell 2 rfl
          have a3 := HB.out.cell 3 rfl
          have a4 := HB.out.cell 4 rfl
          have a5 := HB.out.cell 5 rfl
          have a6 := HB.out.cell 6 rfl
          have aL := HB.out.lt

          obtain ⟨g10, c11, r10, hv10, hV10, hx10, hm10⟩ := HI3.out.row.vec (by omega)
          obtain ⟨rfl, rfl⟩ : A10 = some ⟨g10, 0, none⟩ ∧ c10 = c11 := by injection hv10 with e1 e2 e3; exact ⟨e1, e3⟩
          clear hv10
          obtain ⟨k0, k1, k2, k3, k4, k5, k6⟩ := WnV.cells hV10 q hqk
          have g2 := WnV.frozen hV10 (q * 7 + 2)
          have g3 := WnV.frozen hV10 (q * 7 + 3)
          have g4 := WnV.frozen hV10 (q * 7 + 4)
          have g5 := WnV.frozen hV10 (q * 7 + 5)
          have g6 := WnV.frozen hV10 (q * 7 + 6)
          have gl := WnV.lt hV10
          have HV10 := hid hV10
          have HM10 := hid (And.intro hx10 hm10)
          clear hV10 hx10 hm10

          go_wp2
          have hst := WnV.hide HV10.out q hqk true
          have hI4 := HI3.out.put hbl rfl (xs' := xs.set q (xs[q].hide true)) (.inr ⟨g10, c10, r10, by rw [List.length_set], hst, by rw [List.length_set]; exact HM10.out.1, HM10.out.2⟩) ((Fr.refl _ _).setAt _ _)
          have HI4 := hid hI4
          clear hI4 hst

          go_roundw
          case rel => exact ⟨k + 1, _, nx, v3, by omega, by go_num, rfl, HI4.out, HG.out.set q hqk _ rfl (HG.out.fit _ (List.getElem_mem hqk)).1⟩
          case measure => simp [intOf]; omega
      have t3 : (a.do_ == 3) = false := by rw [beq_eq_false_iff_ne]; exact hd3
      clear hd3
      by_cases hd4 : a.do_ = 4
      · have t4 : (a.do_ == 4) = true := by rw [beq_iff_eq]; exact hd4
        clear hd4
        have HST := hid (sHide_any w1 b (rect0 W H) v xs nx a.id false HI1.out.sk (by have := HG.out.len; omega))
        have hfq : ∃ q : Int, idAt a.id xs = q ∧ ((getW xs a.id = none ∧ q = -1) ∨ ∃ (t : Wn) (n : Nat) (hn : n < xs.length), getW xs a.id = some t ∧ q = n ∧ xs[n] = t) := by
          cases hg : getW xs a.id with
          | none => exact ⟨_, rfl, .inl ⟨rfl, idAt_none hg⟩⟩
          | some t =>
            obtain ⟨n, hn, hi, ht, _⟩ := idAt_some hg
            exact ⟨_, rfl, .inr ⟨t, n, hn, rfl, hi, ht⟩⟩
        obtain ⟨qi, hqi, hq⟩ := hfq
        rw [hqi]
        rcases hq with ⟨hg, hqn⟩ | ⟨t, q, hqk, hg, hqn, hqt⟩
        · subst hqn
          rw [show hideX xs a.id false = xs from by unfold hideX; rw [hg], show foundE xs a.id = 5 from by unfold foundE; rw [hg]; rfl] at HST
          clear hg hqi

          go_wp2_with fail
          refine HST.out.mono ?_
          intro e' w3 hs3
          obtain ⟨v3, rfl, hI3, hf3⟩ := HI1.out.stack hs3
          have HI3 := hid hI3
          have HB := hid (HI1.out.keepB HB.out (by decide) HNB.out hf3)
          clear hs3 hI3 hf3
          clear a0 a1 a2 a3 a4 a5 a6 aL
          have a0 := HB.out.cell 0 rfl
          have a1 := HB.out.cell 1 rfl
          have a2 := HB.out.cell 2 rfl
          have a3 := HB.out.cell 3 rfl
          have a4 := HB.out.cell 4 rfl
          have a5 := HB.out.cell 5 rfl
          have a6 := HB.out.cell 6 rfl
          have aL := HB.out.lt
          go_wp2

          go_roundw
          case rel => exact ⟨k + 1, _, nx, v3, by omega, by go_num, rfl, HI3.out, HG.out.succ⟩
          case measure => simp [intOf]; omega
        · subst hqn
          rw [show hideX xs a.id false = xs.set q (xs[q].hide false) from by unfold hideX; rw [hg, hqi, hqt]; rfl, show foundE xs a.id = 0 from by unfold foundE; rw [hg]; rfl] at HST
          clear hg hqi hqt

          go_wp2_with fail
          refine HST.out.mono ?_
          intro e' w3 hs3
          obtain ⟨v3, rfl, hI3, hf3⟩ := HI1.out.stack hs3
          have HI3 := hid hI3
          have HB := hid (HI1.out.keepB HB.out (by decide) HNB.out hf3)
          clear hs3 hI3 hf3
          clear a0 a1 a2 a3 a4 a5 a6 aL
          have a0 := HB.out.cell 0 rfl
          have a1 := HB.out.cell 1 rfl
          have a2 := HB.out.cell 2 rfl
          have a3 := HB.out.cell 3 rfl
          have a4 := HB.out.cell 4 rfl
          have a5 := HB.out.cell 5 rfl
          have a6 := HB.out.cell 6 rfl
          have aL := HB.out.lt

          obtain ⟨g10, c11, r10, hv10, hV10, hx10, hm10⟩ := HI3.out.row.vec (by omega)
          obtain ⟨rfl, rfl⟩ : A10 = some ⟨g10, 0, none⟩ ∧ c10 = c11 := by injection hv10 with e1 e2 e3; exact ⟨e1, e3⟩
          clear hv10
          obtain ⟨k0, k1, k2, k3, k4, k5, k6⟩ := WnV.cells hV10 q hqk
          have g2 := WnV.frozen hV10 (q * 7 + 2)
          have g3 := WnV.frozen hV10 (q * 7 + 3)
          have g4 := WnV.frozen hV10 (q * 7 + 4)
          have g5 := WnV.frozen hV10 (q * 7 + 5)
          have g6 := WnV.frozen hV10 (q * 7 + 6)
          have gl := WnV.lt hV10
          have HV10 := hid hV10
          have HM10 := hid (And.intro hx10 hm10)
          clear hV10 hx10 hm10

          go_wp2
          have hst := WnV.hide HV10.out q hqk false
          have hI4 := HI3.out.put hbl rfl (xs' := xs.set q (xs[q].hide false)) (.inr ⟨g10, c10, r10, by rw [List.length_set], hst, by rw [List.length_set]; exact HM10.out.1, HM10.out.2⟩) ((Fr.refl _ _).setAt _ _)
          have HI4 := hid hI4
          clear hI4 hst

          go_roundw
          case rel => exact ⟨k + 1, _, nx, v3, by omega, by go_num, rfl, HI4.out, HG.out.set q hqk _ rfl (HG.out.fit _ (List.getElem_mem hqk)).1⟩
          case measure => simp [intOf]; omega
      have t4 : (a.do_ == 4) = false := by rw [beq_eq_false_iff_ne]; exact hd4
      clear hd4
      by_cases hd5 : a.do_ = 5
      · have t5 : (a.do_ == 5) = true := by rw [beq_iff_eq]; exact hd5
        clear hd5
        have HST := hid (sMove_any w1 b (rect0 W H) v xs nx a.id a.r HI1.out.sk (by have := HG.out.len; omega))
        have hfq : ∃ q : Int, idAt a.id xs = q ∧ ((getW xs a.id = none ∧ q = -1) ∨ ∃ (t : Wn) (n : Nat) (hn : n < xs.length), getW xs a.id = some t ∧ q = n ∧ xs[n] = t) := by
          cases hg : getW xs a.id with
          | none => exact ⟨_, rfl, .inl ⟨rfl, idAt_none hg⟩⟩
          | some t =>
            obtain ⟨n, hn, hi, ht, _⟩ := idAt_some hg
            exact ⟨_, rfl, .inr ⟨t, n, hn, rfl, hi, ht⟩⟩
        obtain ⟨qi, hqi, hq⟩ := hfq
        rw [hqi]
        rcases hq with ⟨hg, hqn⟩ | ⟨t, q, hqk, hg, hqn, hqt⟩
        · subst hqn
          rw [show moveX (rect0 W H) xs a.id a.r = xs from by unfold moveX; rw [hg], show moveE (rect0 W H) xs a.id a.r = 5 from by unfold moveE; rw [hg]; rfl] at HST
          clear hg hqi

          go_wp2_with fail
          refine HST.out.mono ?_
          intro e' w3 hs3
          obtain ⟨v3, rfl, hI3, hf3⟩ := HI1.out.stack hs3
          have HI3 := hid hI3
          have HB := hid (HI1.out.keepB HB.out (by decide) HNB.out hf3)
          clear hs3 hI3 hf3
          clear a0 a1 a2 a3 a4 a5 a6 aL
          have a0 := HB.out.cell 0 rfl
          have a1 := HB.out.cell 1 rfl
          have a2 := HB.out.cell 2 rfl
          have a3 := HB.out.cell 3 rfl
          have a4 := HB.out.cell 4 rfl
          have a5 := HB.out.cell 5 rfl
          have a6 := HB.out.cell 6 rfl
          have aL := HB.out.lt
          go_wp2

          go_roundw
          case rel => exact ⟨k + 1, _, nx, v3, by omega, by go_num, rfl, HI3.out, HG.out.succ⟩
          case measure => simp [intOf]; omega
        · subst hqn
          cases tf : decide (FitsIn W H a.r)
          · have hnf : ¬ Fits (rect0 W H) a.r := fun h => (of_decide_eq_false tf) ((HFI.out a.r).1 h)
            rw [show moveX (rect0 W H) xs a.id a.r = xs from by unfold moveX; rw [hg]; exact if_neg hnf, show moveE (rect0 W H) xs a.id a.r = 2 from by unfold moveE; rw [hg]; exact (if_pos rfl).trans (if_neg hnf)] at HST
            clear hg hqi hqt hnf
            go_wp2_with fail
            refine HST.out.mono ?_
            intro e' w3 hs3
            obtain ⟨v3, rfl, hI3, hf3⟩ := HI1.out.stack hs3
            have HI3 := hid hI3
            have HB := hid (HI1.out.keepB HB.out (by decide) HNB.out hf3)
            clear hs3 hI3 hf3
            clear a0 a1 a2 a3 a4 a5 a6 aL
            have a0 := HB.out.cell 0 rfl
            have a1 := HB.out.cell 1 rfl
            have a2 := HB.out.cell 2 rfl
            have a3 := HB.out.cell 3 rfl
            have a4 := HB.out.cell 4 rfl
            have a5 := HB.out.cell 5 rfl
            have a6 := HB.out.cell 6 rfl
            have aL := HB.out.lt
            go_wp2_with fail
            refine (r12Fits_any _ W H a.r).mono ?_
            rintro e' w4 ⟨rfl, hf4⟩
            rw [tf]
            have HI4 := hid (HI3.out.frd hf4)
            clear a0 a1 a2 a3 a4 a5 a6 aL
            have HB := hid (HB.out.fr hf4 (fun h => h))
            clear hf4
            have a0 := HB.out.cell 0 rfl
            have a1 := HB.out.cell 1 rfl
            have a2 := HB.out.cell 2 rfl
            have a3 := HB.out.cell 3 rfl
            have a4 := HB.out.cell 4 rfl
            have a5 := HB.out.cell 5 rfl
            have a6 := HB.out.cell 6 rfl
            have aL := HB.out.lt
            go_wp2
            go_roundw
            case rel => exact ⟨k + 1, _, nx, v3, by omega, by go_num, rfl, HI4.out, HG.out.succ⟩
            case measure => simp [intOf]; omega
          · have hft : Fits (rect0 W H) a.r := (HFI.out a.r).2 (of_decide_eq_true tf)
            have HFT := hid hft
            rw [show moveX (rect0 W H) xs a.id a.r = xs.set q (xs[q].at_ a.r) from by unfold moveX; rw [hg, hqi, hqt]; exact if_pos hft, show moveE (rect0 W H) xs a.id a.r = 0 from by unfold moveE; rw [hg]; exact (if_pos rfl).trans (if_pos hft)] at HST
            clear hg hqi hqt hft
            go_wp2_with fail
            refine HST.out.mono ?_
            intro e' w3 hs3
            obtain ⟨v3, rfl, hI3, hf3⟩ := HI1.out.stack hs3
            have HI3 := hid hI3
            have HB := hid (HI1.out.keepB HB.out (by decide) HNB.out hf3)
            clear hs3 hI3 hf3
            clear a0 a1 a2 a3 a4 a5 a6 aL
            have a0 := HB.out.cell 0 rfl
            have a1 := HB.out.cell 1 rfl
            have a2 := HB.out.cell 2 rfl
            have a3 := HB.out.cell 3 rfl
            have a4 := HB.out.cell 4 rfl
            have a5 := HB.out.cell 5 rfl
            have a6 := HB.out.cell 6 rfl
            have aL := HB.out.lt
            go_wp2_with fail
            refine (r12Fits_any _ W H a.r).mono ?_
            rintro e' w4 ⟨rfl, hf4⟩
            rw [tf]
            have HI3 := hid (HI3.out.frd hf4)
            clear a0 a1 a2 a3 a4 a5 a6 aL
            have HB := hid (HB.out.fr hf4 (fun h => h))
            clear hf4
            have a0 := HB.out.cell 0 rfl
            have a1 := HB.out.cell 1 rfl
            have a2 := HB.out.cell 2 rfl
            have a3 := HB.out.cell 3 rfl
            have a4 := HB.out.cell 4 rfl
            have a5 := HB.out.cell 5 rfl
            have a6 := HB.out.cell 6 rfl
            have aL := HB.out.lt
            obtain ⟨g10, c11, r10, hv10, hV10, hx10, hm10⟩ := HI3.out.row.vec (by omega)
            obtain ⟨rfl, rfl⟩ : A10 = some ⟨g10, 0, none⟩ ∧ c10 = c11 := by injection hv10 with e1 e2 e3; exact ⟨e1, e3⟩
            clear hv10
            obtain ⟨k0, k1, k2, k3, k4, k5, k6⟩ := WnV.cells hV10 q hqk
            have g2 := WnV.frozen hV10 (q * 7 + 2)
            have g3 := WnV.frozen hV10 (q * 7 + 3)
            have g4 := WnV.frozen hV10 (q * 7 + 4)
            have g5 := WnV.frozen hV10 (q * 7 + 5)
            have g6 := WnV.frozen hV10 (q * 7 + 6)
            have gl := WnV.lt hV10
            have HV10 := hid hV10
            have HM10 := hid (And.intro hx10 hm10)
            clear hV10 hx10 hm10
            go_wp2
            have hst := WnV.at_ HV10.out q hqk a.r
            have hI4 := HI3.out.put hbl rfl (xs' := xs.set q (xs[q].at_ a.r)) (.inr ⟨g10, c10, r10, by rw [List.length_set], hst, by rw [List.length_set]; exact HM10.out.1, HM10.out.2⟩) (((((Fr.refl _ _).setAt _ _).setAt _ _).setAt _ _).setAt _ _)
            have HI4 := hid hI4
            clear hI4 hst
            go_roundw
            case rel => exact ⟨k + 1, _, nx, v3, by omega, by go_num, rfl, HI4.out, HG.out.set q hqk _ rfl HFT.out⟩
            case measure => simp [intOf]; omega
      have t5 : (a.do_ == 5) = false := by rw [beq_eq_false_iff_ne]; exact hd5
      clear hd5

      have hfq : ∃ q : Int, idAt a.id xs = q := ⟨_, rfl⟩
      obtain ⟨q, hq⟩ := hfq
      rw [hq]
      clear hq
      cases tq : decide (q < 0)
      all_goals
        go_wp2
        go_roundw
        case rel => exact ⟨k + 1, xs, nx, v, by omega, by go_num, rfl, HI1.out, HG.out.succ⟩
        case measure => simp [intOf]; omega
    · obtain rfl : k = l.length := by omega
      obtain ⟨A10, c10, hv10, _, _⟩ := HR.out.1.row.shape
      subst hv10
      go_wp2
      go_ret2
      exact ⟨_, v, xs, nx, rfl, HR.out.1, HR.out.2⟩
end Go.Proofs.Ytnengimekcnfhaa
