import Derived.Test.YtgjgmaeickhhfaaL14
set_option linter.unusedSimpArgs false
set_option linter.unusedVariables false
namespace Go.Proofs.Ytgjgmaeickhhfaa
open Go.RowKit Go.Proofs.YtgjgmaeickhhfaaW.PrintWords
/-- Timers that are read, wherever they lie. -/
structure XV (w : World) (A : Option Addr) (c : Nat) (xs : List Tm) : Prop where
  cap : xs.length ≤ c
  nil : A = none → xs = []
  at_ : ∀ ad, A = some ad → ad.spot = none ∧ TA w ad xs
theorem XV.cells {w : World} {A : Option Addr} {c : Nat} {xs : List Tm} (h : XV w A c xs) (k : Nat) (hk : k < xs.length) : ∃ g o, A = some ⟨g, o, none⟩ ∧ w.cell? ⟨g, o + k * 3, none⟩ = some (.int .i64 xs[k].env) ∧ w.cell? ⟨g, o + k * 3 + 1, none⟩ = some (.int .i64 xs[k].id) ∧ w.cell? ⟨g, o + k * 3 + 2, none⟩ = some (.int .i64 xs[k].at_) := by
  cases hA : A with
  | none =>
    have := h.nil hA
    subst this
    simp at hk
  | some ad =>
    obtain ⟨hsp, hT⟩ := h.at_ ad hA
    obtain ⟨g, o, sp⟩ := ad
    have hsp' : sp = none := hsp
    subst hsp'
    have hc : ∀ j, j < 3 → ∀ v, (xs[k].cells)[j]? = some v → w.cell? ⟨g, o + (k * 3 + j), none⟩ = some v := fun j hj v hv => by
      have := hT (k * 3 + j) v (by rw [flat_get Tm.cells_len xs k j hk hj]; exact hv)
      rwa [Addr.add_lit] at this
    refine ⟨g, o, rfl, ?_, ?_, ?_⟩
    · exact hc 0 (by omega) _ rfl
    · have := hc 1 (by omega) _ rfl
      rwa [← Nat.add_assoc] at this
    · have := hc 2 (by omega) _ rfl
      rwa [← Nat.add_assoc] at this
set_option maxHeartbeats 1000000 in
theorem ahead_any (w : World) (a b : Tm) : Calls Try.prog 29 #[a.v, b.v] w fun e w' => e = .returned (.bool (decide (Lt a b))) ∧ Fr NoB w w' := by
  unfold Tm.v
  by_cases h1 : a.at_ = b.at_
  · by_cases h2 : a.env = b.env
    · have HR : Hid (decide (Lt a b) = decide (a.id < b.id)) := (show _ = _ by unfold Lt; simp [h1, h2])
      have t1 : (a.at_ != b.at_) = false := by rw [bne_eq_false_iff_eq]; exact h1
      have t2 : (a.env != b.env) = false := by rw [bne_eq_false_iff_eq]; exact h2
      clear h1 h2
      go_enter Try.func29, Try.ntmps29
      go_wp2
      go_ret
      exact ⟨by rw [HR.out]; rfl, ((Fr.refl _ w).alloc _).alloc _⟩
    · have HR : Hid (decide (Lt a b) = decide (a.env < b.env)) := (show _ = _ by unfold Lt; simp [h1, h2])
      have t1 : (a.at_ != b.at_) = false := by rw [bne_eq_false_iff_eq]; exact h1
      have t2 : (a.env != b.env) = true := by rw [bne_iff_ne]; exact h2
      clear h1 h2
      go_enter Try.func29, Try.ntmps29
      go_wp2
      go_ret
      exact ⟨by rw [HR.out]; rfl, ((Fr.refl _ w).alloc _).alloc _⟩
  · have HR : Hid (decide (Lt a b) = decide (a.at_ < b.at_)) := (show _ = _ by unfold Lt; simp [h1])
    have t1 : (a.at_ != b.at_) = true := by rw [bne_iff_ne]; exact h1
    clear h1
    go_enter Try.func29, Try.ntmps29
    go_wp2
    go_ret
    exact ⟨by rw [HR.out]; rfl, ((Fr.refl _ w).alloc _).alloc _⟩
theorem reach24 {n : Nat} (h : n ≤ 5000) : n * 24 ≤ 140737488355328 := by omega
def refSet (e i ticks : Int) : Int := if e < 0 ∨ i < 0 then 1 else if ticks < 1 ∨ ticks > 1073741824 then 2 else 0
theorem rSet_any (w : World) (e i ticks : Int) : Calls Try.prog 15 #[.int .i64 e, .int .i64 i, .int .i64 ticks] w fun e' w' => e' = .returned (.int .i64 (refSet e i ticks)) ∧ w = w' := by
  have hr : refSet e i ticks = if e < 0 ∨ i < 0 then 1 else if ticks < 1 ∨ ticks > 1073741824 then 2 else 0 := rfl
  have HR := hid hr
  clear hr
  by_cases he : e < 0
  · have he' : decide (e < 0) = true := by simp [he]
    have H1 := hid he
    clear he
    go_enter Try.func15, Try.ntmps15
    go_wp2
    go_ret
    exact ⟨by rw [HR.out, if_pos (.inl H1.out)]; rfl, rfl⟩
  have he' : decide (e < 0) = false := by simpa using he
  by_cases hi : i < 0
  · have hi' : decide (i < 0) = true := by simp [hi]
    have H1 := hid hi
    clear hi he
    go_enter Try.func15, Try.ntmps15
    go_wp2
    go_ret
    exact ⟨by rw [HR.out, if_pos (.inr H1.out)]; rfl, rfl⟩
  have hi' : decide (i < 0) = false := by simpa using hi
  have H0 : Hid (¬ (e < 0 ∨ i < 0)) := (show ¬ _ by omega)
  by_cases ht : ticks < 1
  · have ht' : decide (ticks < 1) = true := by simp [ht]
    have H1 := hid ht
    clear hi he ht
    go_enter Try.func15, Try.ntmps15
    go_wp2
    go_ret
    exact ⟨by rw [HR.out, if_neg H0.out, if_pos (.inl H1.out)]; rfl, rfl⟩
  have ht' : decide (ticks < 1) = false := by simpa using ht
  by_cases hu : ticks > 1073741824
  · have hu' : decide (ticks > 1073741824) = true := by simpa using hu
    have H1 := hid hu
    clear hi he ht hu
    go_enter Try.func15, Try.ntmps15
    go_wp2
    go_ret
    exact ⟨by rw [HR.out, if_neg H0.out, if_pos (.inr H1.out)]; rfl, rfl⟩
  have hu' : decide (ticks > 1073741824) = false := by simpa using hu
  have H1 : Hid (¬ (ticks < 1 ∨ ticks > 1073741824)) := (show ¬ _ by omega)
  clear hi he ht hu
  go_enter Try.func15, Try.ntmps15
  go_wp2
  go_ret
  exact ⟨by rw [HR.out, if_neg H0.out, if_neg H1.out]; rfl, rfl⟩
def refOut (e i : Int) (xs : List Tm) : List Tm := xs.filter fun x => x.env != e || (decide (i ≥ 0) && x.id != i)
set_option maxHeartbeats 4000000 in
theorem rOut_any (w : World) (A : Option Addr) (c : Nat) (xs : List Tm) (e i : Int) (h : XV w A c xs) (hl : xs.length ≤ 4096) :
    Calls Try.prog 17 #[.slice A xs.length c, .int .i64 e, .int .i64 i] w (RowTo (refOut e i xs) w) := by
  have HX := hid h
  clear h
  go_enter Try.func17, Try.ntmps17
  go_wp2
  go_loopw [7, 8] (fun v7 v8 wr => ∃ k : Nat, k ≤ xs.length ∧ v8 = .int .i64 k ∧ TRow wr w.heap.size v7 (refOut e i (xs.take k)) ∧ Hid (Fr NoB w wr)) (fun _ v8 _ => xs.length - (intOf v8).toNat)
  case atStart => exact ⟨0, Nat.zero_le _, rfl, Row.nil .., Fr.refl _ _⟩
  case round =>
    obtain ⟨k, hk, rfl, hr, HF⟩ := hrel
    have HRw := hid hr
    clear hr
    by_cases hkx : k < xs.length
    · obtain ⟨g, o, rfl, c0, c1, c2⟩ := HX.out.cells k hkx
      have hgl : g < w.heap.size := cell_lt c0
      have hnext : refOut e i (xs.take (k + 1)) = refOut e i (xs.take k) ++ (if (xs[k].env != e || (decide (i ≥ 0) && xs[k].id != i)) then [xs[k]] else []) := by
        rw [List.take_succ_eq_append_getElem hkx]
        unfold refOut
        rw [List.filter_append, List.filter_cons, List.filter_nil]
      have hfl : (refOut e i (xs.take k)).length ≤ 4095 := by
        have h1 := List.length_filter_le (fun x => x.env != e || (decide (i ≥ 0) && x.id != i)) (xs.take k)
        rw [List.length_take] at h1
        unfold refOut
        omega
      have HN := hid hnext
      have d0 := (World.cell?_of_block (HF.out.block g hgl (fun h => h))).trans c0
      have d1 := (World.cell?_of_block (HF.out.block g hgl (fun h => h))).trans c1
      have d2 := (World.cell?_of_block (HF.out.block g hgl (fun h => h))).trans c2
      clear hnext c0 c1 c2
      generalize refOut e i (xs.take k) = ls at *
      generalize xs[k] = x at *
      by_cases he : x.env = e
      · have t1 : (x.env != e) = false := by rw [bne_eq_false_iff_eq]; exact he
        by_cases hi : i ≥ 0
        · have t2 : decide (i ≥ 0) = true := by simp [hi]
          by_cases hid_ : x.id = i
          · have t3 : (x.id != i) = false := by rw [bne_eq_false_iff_eq]; exact hid_
            have hcd : refOut e i (xs.take (k + 1)) = ls := by rw [HN.out, t1, t2, t3]; simp
            have HCD := hid hcd
            clear hcd HN he hid_
            go_wp2
            go_roundw
            case rel => exact ⟨k + 1, by omega, by go_num, (by rw [HCD.out]; exact HRw.out), HF⟩
            case measure => simp [intOf]; omega
          · have t3 : (x.id != i) = true := by rw [bne_iff_ne]; exact hid_
            have hcd : refOut e i (xs.take (k + 1)) = ls ++ [x] := by rw [HN.out, t1, t2, t3]; rfl
            clear he hid_
            have HCD := hid hcd
            have HSZ := hid HF.out.size
            clear hcd HN
            go_wp2_with (at_builtin; go_must (refine row_app (f := Tm.cells) Tm.cells_len Tm.one w.heap.size rfl (.tmp 35) (.tmp 40) 26 33 Tm.zero 24 rfl Try.underlying26 infoTm rfl (by omega) (by omega) _ ls x rfl rfl HRw.out HSZ.out (by omega) ?_); intro v1 w1 hr1 hf1 hat)
            have hr2 : TRow w1 w.heap.size v1 (refOut e i (xs.take (k + 1))) := by rw [HCD.out]; exact hr1
            have hf2 : Hid (Fr NoB w w1) := Fr.own_lt HF.out hf1 HRw.out (Nat.le_refl _)
            go_wp2
            go_roundw
            case rel => exact ⟨k + 1, by omega, by go_num, hr2, hf2⟩
            case measure => simp [intOf]; omega
        · have t2 : decide (i ≥ 0) = false := by simpa using hi
          have hcd : refOut e i (xs.take (k + 1)) = ls := by rw [HN.out, t1, t2]; simp
          have HCD := hid hcd
          clear hcd HN he
          go_wp2
          go_roundw
          case rel => exact ⟨k + 1, by omega, by go_num, (by rw [HCD.out]; exact HRw.out), HF⟩
          case measure => simp [intOf]; omega
      · have t1 : (x.env != e) = true := by rw [bne_iff_ne]; exact he
        have hcd : refOut e i (xs.take (k + 1)) = ls ++ [x] := by rw [HN.out, t1]; rfl
        clear he
        have HCD := hid hcd
        have HSZ := hid HF.out.size
        clear hcd HN
        go_wp2_with (at_builtin; go_must (refine row_app (f := Tm.cells) Tm.cells_len Tm.one w.heap.size rfl (.tmp 35) (.tmp 40) 26 33 Tm.zero 24 rfl Try.underlying26 infoTm rfl (by omega) (by omega) _ ls x rfl rfl HRw.out HSZ.out (by omega) ?_); intro v1 w1 hr1 hf1 hat)
        have hr2 : TRow w1 w.heap.size v1 (refOut e i (xs.take (k + 1))) := by rw [HCD.out]; exact hr1
        have hf2 : Hid (Fr NoB w w1) := Fr.own_lt HF.out hf1 HRw.out (Nat.le_refl _)
        go_wp2
        go_roundw
        case rel => exact ⟨k + 1, by omega, by go_num, hr2, hf2⟩
        case measure => simp [intOf]; omega
    · obtain rfl : k = xs.length := by omega
      rw [List.take_length] at HRw
      go_wp2
      go_ret
      exact ⟨_, rfl, HRw.out, HF.out⟩
set_option maxHeartbeats 4000000 in
theorem rSame_any (w : World) (A B : Option Addr) (c d : Nat) (xs : List Tm) (h : XV w A c xs) (h2 : XV w B d xs) (hl : xs.length ≤ 4096) :
    Calls Try.prog 18 #[.slice A xs.length c, .slice B xs.length d] w fun e' w' => e' = .returned (.bool true) ∧ Fr NoB w w' := by
  have HX := hid h
  have HY := hid h2
  clear h h2
  go_enter Try.func18, Try.ntmps18
  go_wp2
  go_loopw [5] (fun v5 wr => ∃ k : Nat, k ≤ xs.length ∧ v5 = .int .i64 k ∧ Hid (Fr NoB w wr)) (fun v5 _ => xs.length - (intOf v5).toNat)
  case atStart => exact ⟨0, Nat.zero_le _, rfl, Fr.refl _ _⟩
  case round =>
    obtain ⟨k, hk, rfl, HF⟩ := hrel
    by_cases hkx : k < xs.length
    · obtain ⟨g, o, rfl, c0, c1, c2⟩ := HX.out.cells k hkx
      obtain ⟨g', o', rfl, b0, b1, b2⟩ := HY.out.cells k hkx
      have hgl : g < w.heap.size := cell_lt c0
      have hgl' : g' < w.heap.size := cell_lt b0
      have d0 := (World.cell?_of_block (HF.out.block g hgl (fun h => h))).trans c0
      have d1 := (World.cell?_of_block (HF.out.block g hgl (fun h => h))).trans c1
      have d2 := (World.cell?_of_block (HF.out.block g hgl (fun h => h))).trans c2
      have e0 := (World.cell?_of_block (HF.out.block g' hgl' (fun h => h))).trans b0
      have e1 := (World.cell?_of_block (HF.out.block g' hgl' (fun h => h))).trans b1
      have e2 := (World.cell?_of_block (HF.out.block g' hgl' (fun h => h))).trans b2
      clear c0 c1 c2 b0 b1 b2
      generalize xs[k] = x at *
      have i1 : (0 : Int) ≤ (k : Int) := by omega
      have i2 : (k : Int) < (xs.length : Int) := by omega
      go_wp2
      go_quiet (fail)
      go_wp2
      go_roundw
      case rel => exact ⟨k + 1, by omega, by go_num, HF.out.drewN _⟩
      case measure => simp [intOf]; omega
    · obtain rfl : k = xs.length := by omega
      go_wp2
      go_ret
      exact ⟨rfl, HF.out⟩
/-- The reference's way to put a timer in. -/
def refPut (t : Tm) : List Tm → List Tm
  | [] => [t]
  | x :: xs => if Lt t x then t :: x :: xs else x :: refPut t xs
theorem refPut_eq {t : Tm} : ∀ {xs : List Tm}, (∀ x ∈ xs, x.env ≠ t.env ∨ x.id ≠ t.id) → refPut t xs = putT t xs
  | [], _ => rfl
  | x :: xs, h => by
    have ih := refPut_eq (t := t) (xs := xs) (fun y hy => h y (List.mem_cons_of_mem _ hy))
    have hx := h x List.mem_cons_self
    by_cases hl : Lt t x
    · have h2 : ¬ Lt x t := fun h => Lt.irrefl t (hl.trans h)
      simp [refPut, hl, putT, h2]
    · have h2 : Lt x t := by unfold Lt at *; omega
      have e : putT t (x :: xs) = x :: putT t xs := by simp [putT, h2]
      rw [e, ← ih]
      simp [refPut, hl]
set_option maxHeartbeats 8000000 in
theorem rPut_any (w : World) (A : Option Addr) (c : Nat) (xs : List Tm) (t : Tm) (h : XV w A c xs) (hl : xs.length ≤ 4096) :
    Calls Try.prog 16 #[.slice A xs.length c, t.v] w (RowTo (refPut t xs) w) := by
  have HX := hid h
  clear h
  have htv : t.v = .agg #[.int .i64 t.env, .int .i64 t.id, .int .i64 t.at_] := rfl
  rw [htv]
  clear htv
  go_enter Try.func16, Try.ntmps16
  go_wp2
  go_loopw [5, 6, 7] (fun v5 v6 v7 wr => ∃ (k : Nat) (b : Bool) (ls : List Tm), k ≤ xs.length ∧ v7 = .int .i64 k ∧ v6 = .bool b ∧ ls.length ≤ k + b.toNat ∧ Hid (ls ++ (if b then xs.drop k else refPut t (xs.drop k)) = refPut t xs) ∧ Hid (TRow wr (w.heap.size + 1) v5 ls) ∧ Hid (Fr NoB (w.alloc (.cells t.cells.toArray 33)) wr) ∧ Hid (Blk wr w.heap.size 33 t.cells)) (fun _ _ v7 _ => xs.length - (intOf v7).toNat)
  case atStart => exact ⟨0, false, [], by omega, rfl, rfl, Nat.zero_le _, rfl, Row.nil .., Fr.refl _ _, Blk.new w 33 t.cells⟩
  case round =>
    obtain ⟨k, b, ls, hk, rfl, rfl, hls, HE, HRw, HF, HB⟩ := hrel
    by_cases hkx : k < xs.length
    · obtain ⟨g, o, rfl, c0, c1, c2⟩ := HX.out.cells k hkx
      have hgl : g < w.heap.size := cell_lt c0
      have HC : Hid (∀ W, Fr NoB wr W → W.cell? ⟨g, o + k * 3, none⟩ = some (.int .i64 xs[k].env) ∧ W.cell? ⟨g, o + k * 3 + 1, none⟩ = some (.int .i64 xs[k].id) ∧ W.cell? ⟨g, o + k * 3 + 2, none⟩ = some (.int .i64 xs[k].at_) ∧ W.cell? ⟨w.heap.size, 0, none⟩ = some (.int .i64 t.env) ∧ W.cell? ⟨w.heap.size, 1, none⟩ = some (.int .i64 t.id) ∧ W.cell? ⟨w.heap.size, 2, none⟩ = some (.int .i64 t.at_)) := fun W hW => by
        have hW2 : Fr NoB w W := (((Fr.refl NoB w).alloc _).trans HF.out).trans hW
        have hb := HB.out.fr hW (fun h => h)
        exact ⟨(World.cell?_of_block (hW2.block g hgl (fun h => h))).trans c0, (World.cell?_of_block (hW2.block g hgl (fun h => h))).trans c1, (World.cell?_of_block (hW2.block g hgl (fun h => h))).trans c2, hb.cell 0 rfl, hb.cell 1 rfl, hb.cell 2 rfl⟩
      clear c0 c1 c2
      rw [List.drop_eq_getElem_cons hkx] at HE
      generalize xs[k] = x at *
      cases b with
      | true =>
        have hls : ls.length ≤ k + 1 := hls
        have HE2 : Hid ((ls ++ [x]) ++ xs.drop (k + 1) = refPut t xs) := (show _ = _ by rw [← HE.out]; simp)
        clear HE
        go_wp2
        go_quiet (fail)
        obtain ⟨W, hW⟩ : ∃ W, W = wr.drewN nq := ⟨_, rfl⟩
        have HW : Hid (Fr NoB wr W) := hW ▸ (Fr.refl NoB wr).drewN nq
        rw [← hW]
        clear hW
        have HRw2 : Hid (TRow W (w.heap.size + 1) u5 ls) := Row.fr HRw.out HW.out (fun _ _ h => h)
        have HF2 := hid (HF.out.trans HW.out)
        have HB2 := hid (HB.out.fr HW.out (fun h => h))
        obtain ⟨d0, d1, d2, _, _, _⟩ := HC.out W HW.out
        clear HC HRw HF HB HW
        have HSZ : Hid (w.heap.size + 1 ≤ W.heap.size) := (by have h := HF2.out.size; rwa [World.size_alloc] at h)
        have hne4 : (ls.length + 1) * 24 ≤ 140737488355328 := by omega
        go_wp2_with (at_builtin; go_must (refine row_app (f := Tm.cells) Tm.cells_len Tm.one (w.heap.size + 1) rfl (.tmp 28) (.tmp 33) 26 33 Tm.zero 24 rfl Try.underlying26 infoTm rfl (by omega) (by omega) _ ls x rfl rfl HRw2.out HSZ.out hne4 ?_); intro v1 w1 hr1 hf1 hat)
        have hr2 : Hid (TRow w1 (w.heap.size + 1) v1 (ls ++ [x])) := hr1
        have hf2 : Hid (Fr NoB (w.alloc (.cells t.cells.toArray 33)) w1) := Fr.own_lt HF2.out hf1 HRw2.out (by rw [World.size_alloc]; exact Nat.le_refl _)
        have hb2 : Hid (Blk w1 w.heap.size 33 t.cells) := HB2.out.fr hf1 (fun h => by have := (Row.lt HRw2.out _ h).1; omega)
        clear hr1 hf1 hat
        have HE3 : Hid (ls ++ [x] ++ (if true = true then xs.drop (k + 1) else refPut t (xs.drop (k + 1))) = refPut t xs) := HE2.out
        go_roundw
        case rel => exact ⟨k + 1, true, ls ++ [x], by omega, by go_num, rfl, by rw [List.length_append, List.length_singleton]; show _ ≤ k + 1 + 1; omega, HE3, hr2, hf2, hb2⟩
        case measure => simp [intOf]; omega
      | false =>
        have hls : ls.length ≤ k := hls
        obtain ⟨d0, d1, d2, b0, b1, b2⟩ := HC.out wr (Fr.refl _ _)
        have hgl2 := cell_lt d0
        have hbl2 := cell_lt b0
        have i1 : (0 : Int) ≤ (k : Int) := by omega
        have i2 : (k : Int) < (xs.length : Int) := by omega
        have hah := ahead_any wr.drew t x
        unfold Tm.v at hah
        by_cases hlt : Lt t x
        · have HE2 : Hid ((ls ++ [t] ++ [x]) ++ xs.drop (k + 1) = refPut t xs) := (show _ = _ by rw [← HE.out]; simp [refPut, hlt])
          rw [show decide (Lt t x) = true by simp [hlt]] at hah
          have HA := hid hah
          clear hah hlt HE
          go_wp2
          refine wp_region_still_tail 8 (by kernel_rfl) (by kernel_rfl) ?_
          change wpStill _ _ (World.drew _) _ _ _
          simp only [List.take_succ_cons, List.take_zero, List.drop_succ_cons, List.drop_zero]
          iterate 8 still_step
          refine wpStill_nil ?_
          change wpList _ _ _ _ _ (World.drew _)
          go_wp2_with fail
          refine HA.out.mono ?_
          rintro e' W ⟨rfl, hf⟩
          have HW : Hid (Fr NoB wr W) := (Fr.refl NoB wr).drew.trans hf
          clear hf d0 d1 d2 b0 b1 b2
          have HRw2 : Hid (TRow W (w.heap.size + 1) u5 ls) := Row.fr HRw.out HW.out (fun _ _ h => h)
          have HF2 := hid (HF.out.trans HW.out)
          have HB2 := hid (HB.out.fr HW.out (fun h => h))
          obtain ⟨d0, d1, d2, b0, b1, b2⟩ := HC.out W HW.out
          have HSZ : Hid (w.heap.size + 1 ≤ W.heap.size) := (by have h := HF2.out.size; rwa [World.size_alloc] at h)
          have hne4 : (ls.length + 1) * 24 ≤ 140737488355328 := by omega
          clear HC HRw HF HB HW
          have h5 : ls.length + 1 + 1 ≤ 5000 := by omega
          have h6 : (ls ++ [t]).length + 1 ≤ 5000 := by rw [List.length_append, List.length_singleton]; exact h5
          have hne5 := hid (reach24 h6)
          clear h5 h6
          go_wp2_with first
            | ((with_reducible refine at_bi .append (d := some 27) ?_); go_must (refine row_app (f := Tm.cells) Tm.cells_len Tm.one (w.heap.size + 1) rfl (.tmp 24) (.tmp 26) 26 33 Tm.zero 24 rfl Try.underlying26 infoTm rfl (by omega) (by omega) _ ls t rfl rfl HRw2.out HSZ.out hne4 ?_; intro v1 w1 hr1 hf1 hat); go_must (have HR1 := hid hr1; have HF1 : Hid (Fr NoB (w.alloc (.cells t.cells.toArray 33)) w1) := Fr.own_lt HF2.out hf1 HRw2.out (by rw [World.size_alloc]; exact Nat.le_refl _); have HB1 : Hid (Blk w1 w.heap.size 33 t.cells) := HB2.out.fr hf1 (fun h => by have := (Row.lt HRw2.out _ h).1; omega); have HS1 : Hid (w.heap.size + 1 ≤ w1.heap.size) := (by have h := HF1.out.size; rwa [World.size_alloc] at h); have HFw : Hid (Fr NoB w w1) := ((Fr.refl NoB w).alloc _).trans HF1.out; obtain ⟨z0, z1, z2⟩ := (show w1.cell? ⟨g, o + k * 3, none⟩ = some (.int .i64 x.env) ∧ w1.cell? ⟨g, o + k * 3 + 1, none⟩ = some (.int .i64 x.id) ∧ w1.cell? ⟨g, o + k * 3 + 2, none⟩ = some (.int .i64 x.at_) from ⟨(World.cell?_of_block (hf1.block g (cell_lt d0) (fun h => by have := (Row.lt HRw2.out _ h).1; omega))).trans d0, (World.cell?_of_block (hf1.block g (cell_lt d0) (fun h => by have := (Row.lt HRw2.out _ h).1; omega))).trans d1, (World.cell?_of_block (hf1.block g (cell_lt d0) (fun h => by have := (Row.lt HRw2.out _ h).1; omega))).trans d2⟩); clear hr1 hf1 hat))
            | ((with_reducible refine at_bi .append (d := some 34) ?_); go_must (refine row_app (f := Tm.cells) Tm.cells_len Tm.one (w.heap.size + 1) rfl (.tmp 28) (.tmp 33) 26 33 Tm.zero 24 rfl Try.underlying26 infoTm rfl (by omega) (by omega) _ (ls ++ [t]) x rfl rfl HR1.out HS1.out hne5.out ?_; intro v2 w2 hr1 hf1 hat); go_must (have HR2 : Hid (TRow w2 (w.heap.size + 1) v2 (ls ++ [t] ++ [x])) := hr1; have HF3 : Hid (Fr NoB (w.alloc (.cells t.cells.toArray 33)) w2) := Fr.own_lt HF1.out hf1 HR1.out (by rw [World.size_alloc]; exact Nat.le_refl _); have HB3 : Hid (Blk w2 w.heap.size 33 t.cells) := HB1.out.fr hf1 (fun h => by have := (Row.lt HR1.out _ h).1; omega); clear hr1 hf1 hat))
          have HE3 : Hid (ls ++ [t] ++ [x] ++ (if true = true then xs.drop (k + 1) else refPut t (xs.drop (k + 1))) = refPut t xs) := HE2.out
          go_roundw
          case rel => exact ⟨k + 1, true, ls ++ [t] ++ [x], by omega, by go_num, rfl, by rw [List.length_append, List.length_append, List.length_singleton, List.length_singleton]; show _ ≤ k + 1 + 1; omega, HE3, HR2, HF3, HB3⟩
          case measure => simp [intOf]; omega
        · have HE2 : Hid ((ls ++ [x]) ++ refPut t (xs.drop (k + 1)) = refPut t xs) := (show _ = _ by rw [← HE.out]; simp [refPut, hlt])
          rw [show decide (Lt t x) = false by simp [hlt]] at hah
          have HA := hid hah
          clear hah hlt HE
          go_wp2
          refine wp_region_still_tail 8 (by kernel_rfl) (by kernel_rfl) ?_
          change wpStill _ _ (World.drew _) _ _ _
          simp only [List.take_succ_cons, List.take_zero, List.drop_succ_cons, List.drop_zero]
          iterate 8 still_step
          refine wpStill_nil ?_
          change wpList _ _ _ _ _ (World.drew _)
          go_wp2_with fail
          refine HA.out.mono ?_
          rintro e' W ⟨rfl, hf⟩
          have HW : Hid (Fr NoB wr W) := (Fr.refl NoB wr).drew.trans hf
          clear hf d0 d1 d2 b0 b1 b2
          have HRw2 : Hid (TRow W (w.heap.size + 1) u5 ls) := Row.fr HRw.out HW.out (fun _ _ h => h)
          have HF2 := hid (HF.out.trans HW.out)
          have HB2 := hid (HB.out.fr HW.out (fun h => h))
          obtain ⟨d0, d1, d2, b0, b1, b2⟩ := HC.out W HW.out
          clear HC HRw HF HB HW
          have HSZ : Hid (w.heap.size + 1 ≤ W.heap.size) := (by have h := HF2.out.size; rwa [World.size_alloc] at h)
          have hne4 : (ls.length + 1) * 24 ≤ 140737488355328 := by omega
          go_wp2_with (at_builtin; go_must (refine row_app (f := Tm.cells) Tm.cells_len Tm.one (w.heap.size + 1) rfl (.tmp 28) (.tmp 33) 26 33 Tm.zero 24 rfl Try.underlying26 infoTm rfl (by omega) (by omega) _ ls x rfl rfl HRw2.out HSZ.out hne4 ?_); intro v1 w1 hr1 hf1 hat)
          have hr2 : Hid (TRow w1 (w.heap.size + 1) v1 (ls ++ [x])) := hr1
          have hf2 : Hid (Fr NoB (w.alloc (.cells t.cells.toArray 33)) w1) := Fr.own_lt HF2.out hf1 HRw2.out (by rw [World.size_alloc]; exact Nat.le_refl _)
          have hb2 : Hid (Blk w1 w.heap.size 33 t.cells) := HB2.out.fr hf1 (fun h => by have := (Row.lt HRw2.out _ h).1; omega)
          clear hr1 hf1 hat
          have HE3 : Hid (ls ++ [x] ++ (if false = true then xs.drop (k + 1) else refPut t (xs.drop (k + 1))) = refPut t xs) := HE2.out
          go_roundw
          case rel => exact ⟨k + 1, false, ls ++ [x], by omega, by go_num, rfl, by rw [List.length_append, List.length_singleton]; show _ ≤ k + 1 + 0; omega, HE3, hr2, hf2, hb2⟩
          case measure => simp [intOf]; omega
    · obtain rfl : k = xs.length := by omega
      rw [List.drop_length] at HE
      cases b with
      | true =>
        have HE2 : Hid (ls = refPut t xs) := (show _ = _ by rw [← HE.out]; simp)
        clear HE
        go_wp2
        go_ret
        refine ⟨_, rfl, ?_, ((Fr.refl NoB w).alloc _).trans HF.out⟩
        rw [← HE2.out]
        exact Row.base_le HRw.out (by omega)
      | false =>
        have hls : ls.length ≤ xs.length := hls
        have HE2 : Hid (ls ++ [t] = refPut t xs) := (show _ = _ by rw [← HE.out]; simp [refPut])
        have b0 := HB.out.cell 0 rfl
        have b1 := HB.out.cell 1 rfl
        have b2 := HB.out.cell 2 rfl
        have HSZ : Hid (w.heap.size + 1 ≤ wr.heap.size) := (by have h := HF.out.size; rwa [World.size_alloc] at h)
        have hne4 : (ls.length + 1) * 24 ≤ 140737488355328 := by omega
        clear HE
        go_wp2_with (at_builtin; go_must (refine row_app (f := Tm.cells) Tm.cells_len Tm.one (w.heap.size + 1) rfl (.tmp 37) (.tmp 39) 26 33 Tm.zero 24 rfl Try.underlying26 infoTm rfl (by omega) (by omega) _ ls t rfl rfl HRw.out HSZ.out hne4 ?_); intro v1 w1 hr1 hf1 hat)
        go_ret
        refine ⟨_, rfl, ?_, ((Fr.refl NoB w).alloc _).trans (Fr.own_lt HF.out hf1 HRw.out (by rw [World.size_alloc]; exact Nat.le_refl _))⟩
        rw [← HE2.out]
        exact Row.base_le hr1 (by omega)
end Go.Proofs.Ytgjgmaeickhhfaa
