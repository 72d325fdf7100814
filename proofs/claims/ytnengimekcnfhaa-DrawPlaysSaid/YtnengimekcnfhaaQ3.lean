import Derived.Test.YtnengimekcnfhaaW2
import Derived.Test.YtnengimekcnfhaaE1
set_option linter.unusedSimpArgs false
set_option linter.unusedVariables false
set_option maxRecDepth 20000
namespace Go.Proofs.Ytnengimekcnfhaa
open Go.RowKit Go.Proofs.YtnengimekcnfhaaW.PrintWords
theorem r13far_any (w : World) (n : Int) : Calls Try.prog 66 #[.int .i64 n] w fun e w' => e = .returned (.bool (!decide (Near n))) ∧ w' = w := by
  cases h1 : decide (n < -1073741824)
  · cases h2 : decide (n > 1073741824)
    · have hr : decide (Near n) = true := decide_eq_true ⟨by have := of_decide_eq_false h1; omega, by have := of_decide_eq_false h2; omega⟩
      rw [hr]
      clear hr
      go_enter Try.func66, Try.ntmps66
      go_wp2
      go_ret
      exact ⟨rfl, rfl⟩
    · have hr : decide (Near n) = false := decide_eq_false (fun h => by have := of_decide_eq_true h2; have := h.2; omega)
      rw [hr]
      clear hr
      go_enter Try.func66, Try.ntmps66
      go_wp2
      go_ret
      exact ⟨rfl, rfl⟩
  · have hr : decide (Near n) = false := decide_eq_false (fun h => by have := of_decide_eq_true h1; have := h.1; omega)
    rw [hr]
    clear hr
    go_enter Try.func66, Try.ntmps66
    go_wp2
    go_ret
    exact ⟨rfl, rfl⟩
theorem r4row_any (w : World) (n fr m : Int) (hn : -1000 ≤ n ∧ n ≤ 1000) (hf : Near fr) : Calls Try.prog 78 #[.int .i64 n, .int .i64 fr, .int .i64 m] w fun e w' => e = .returned (.bool (decide (Within n fr m))) ∧ w' = w := by
  obtain ⟨n1, n2⟩ := hn
  obtain ⟨f1, f2⟩ := hf
  cases h1 : decide (1 ≤ m)
  · have hr : decide (Within n fr m) = false := decide_eq_false (fun h => by have := of_decide_eq_false h1; have := h.1; omega)
    rw [hr]
    clear hr
    go_enter Try.func78, Try.ntmps78
    go_wp2
    go_ret
    exact ⟨rfl, rfl⟩
  · cases h2 : decide (fr ≤ n)
    · have hr : decide (Within n fr m) = false := decide_eq_false (fun h => by have := of_decide_eq_false h2; have := h.2.1; omega)
      rw [hr]
      clear hr
      go_enter Try.func78, Try.ntmps78
      go_wp2
      go_ret
      exact ⟨rfl, rfl⟩
    · have hge := of_decide_eq_true h2
      have hm1 := of_decide_eq_true h1
      have hw : IntKind.i64.wrap (n - fr) = n - fr := IntWalk.i64_in _ (by omega)
      have hr : decide (Within n fr m) = decide (n - fr < m) := by
        apply decide_eq_decide.2
        constructor
        · exact fun h => h.2.2
        · exact fun h => ⟨by omega, hge, h⟩
      rw [hr]
      clear hr hge hm1
      cases h3 : decide (n - fr < m)
      all_goals
        go_enter Try.func78, Try.ntmps78
        go_wp2
        go_ret
        exact ⟨rfl, rfl⟩
theorem r4In_any (w : World) (r : Rc) (x y : Int) (hrx : Near r.x) (hry : Near r.y) (hx : -1000 ≤ x ∧ x ≤ 1000) (hy : -1000 ≤ y ∧ y ≤ 1000) :
    Calls Try.prog 69 #[r.v, .int .i64 x, .int .i64 y] w fun e w' => e = .returned (.bool (decide (r.has x y))) ∧ Fr NoB w w' := by
  have hf0 : Fr NoB w (w.alloc (.cells #[.int .i64 r.x, .int .i64 r.y, .int .i64 r.w, .int .i64 r.h] 23)) := (Fr.refl _ _).alloc _
  have hr : decide (r.has x y) = (decide (Within x r.x r.w) && decide (Within y r.y r.h)) := Bool.decide_and _ _
  rw [hr]
  clear hr
  have H1 := fun w9 => hid (r4row_any w9 x r.x r.w hx hrx)
  have H2 := fun w9 => hid (r4row_any w9 y r.y r.h hy hry)
  unfold Rc.v
  cases h1 : decide (Within x r.x r.w)
  · go_enter Try.func69, Try.ntmps69
    go_wp2_with fail
    refine (H1 _).out.mono ?_
    rintro e' w1 ⟨rfl, rfl⟩
    rw [h1]
    go_wp2
    go_ret
    exact ⟨rfl, hf0⟩
  · cases h2 : decide (Within y r.y r.h)
    all_goals
      go_enter Try.func69, Try.ntmps69
      go_wp2_with fail
      refine (H1 _).out.mono ?_
      rintro e' w1 ⟨rfl, rfl⟩
      rw [h1]
      go_wp2_with fail
      refine (H2 _).out.mono ?_
      rintro e' w1 ⟨rfl, rfl⟩
      rw [h2]
      go_wp2
      go_ret
      exact ⟨rfl, hf0⟩
set_option maxHeartbeats 8000000 in
theorem r12Owner_any (w : World) (v : Value) (xs : List Wn) (x y : Int) (hV : WnS w v xs) (hl : xs.length ≤ 4096) (hF : ∀ q ∈ xs, FitsIn 10 10 q.r) :
    Calls Try.prog 76 #[v, .int .i64 x, .int .i64 y] w fun e w' => e = .returned (.int .i64 (ownerOf xs x y)) ∧ Fr NoB w w' := by
  rcases hV with ⟨rfl, rfl⟩ | ⟨g, c, rest, rfl, hV, hxc, hcm⟩
  · go_enter Try.func76, Try.ntmps76
    go_wp2
    go_loopw [7] (fun v7 wr => v7 = .int .i64 0 ∧ Fr NoB w wr) (fun v7 _ => 0)
    case atStart => exact ⟨rfl, Fr.refl _ _⟩
    case round =>
      obtain ⟨rfl, hf⟩ := hrel
      go_wp2
      go_ret
      exact ⟨rfl, hf⟩
  · have HFI := hid hF
    clear hF
    go_enter Try.func76, Try.ntmps76
    go_wp2
    go_loopw [7] (fun v7 wr => ∃ k : Nat, k ≤ xs.length ∧ v7 = .int .i64 k ∧ Hid (∀ t ∈ xs.take k, ¬ (t.hid = false ∧ t.r.has x y)) ∧ Hid (Fr NoB w wr)) (fun v7 _ => xs.length - (intOf v7).toNat)
    case atStart => exact ⟨0, Nat.zero_le _, rfl, by intro t ht; simp at ht, Fr.refl _ _⟩
    case round =>
      obtain ⟨k, hk, rfl, HP, HF⟩ := hrel
      by_cases hkm : k < xs.length
      · have hVr := Vec.fr hV HF.out (fun h => h)
        obtain ⟨c0, c1, c2, c3, c4, c5, c6⟩ := WnV.cells hVr k hkm
        have hgl := WnV.lt hVr
        have HHit : Hid ((xs[k].hid = false ∧ xs[k].r.has x y) → ownerOf xs x y = xs[k].id) := hid fun h => ownerOf_hit hkm HP.out h
        have HMiss : Hid (¬ (xs[k].hid = false ∧ xs[k].r.has x y) → ∀ t ∈ xs.take (k + 1), ¬ (t.hid = false ∧ t.r.has x y)) := hid fun h t ht => by
          rw [List.take_succ_eq_append_getElem hkm] at ht
          rcases List.mem_append.1 ht with ht | ht
          · exact HP.out t ht
          · rw [List.mem_singleton.1 ht]
            exact h
        have hfit := HFI.out _ (List.getElem_mem hkm)
        generalize xs[k] = t at *
        obtain ⟨_, g2, g3, g4, g5, g6, g7⟩ : t.r.Right ∧ 0 < t.w ∧ 0 < t.h ∧ 0 ≤ t.x ∧ 0 ≤ t.y ∧ t.x + t.w ≤ 10 ∧ t.y + t.h ≤ 10 := hfit
        have w1 : IntKind.i64.wrap (t.x + t.w) = t.x + t.w := IntWalk.i64_in _ (by omega)
        have w2 : IntKind.i64.wrap (t.y + t.h) = t.y + t.h := IntWalk.i64_in _ (by omega)
        have hhas : t.r.has x y ↔ (t.x ≤ x ∧ x < t.x + t.w ∧ t.y ≤ y ∧ y < t.y + t.h) := by
          show ((0 < t.w ∧ t.x ≤ x ∧ x - t.x < t.w) ∧ (0 < t.h ∧ t.y ≤ y ∧ y - t.y < t.h)) ↔ _
          omega
        rw [hhas] at HHit HMiss
        have HG := hid (WnV.lt hVr)
        have HF1 := hid (HF.out.alloc (.cells #[.int .i64 t.x, .int .i64 t.y, .int .i64 t.w, .int .i64 t.h] 23))
        clear hhas g2 g3 g4 g5 g6 g7 hVr
        cases h0 : t.hid
        rotate_left
        · have HN := hid (HMiss.out (fun h => by rw [h0] at h; cases h.1))
          go_wp2
          go_roundw
          case rel => exact ⟨k + 1, by omega, by go_num, HN, HF1⟩
          case measure => simp [intOf]; omega
        cases h1 : decide (t.x ≤ x)
        · have HN := hid (HMiss.out (fun h => (of_decide_eq_false h1) h.2.1))
          go_wp2
          go_roundw
          case rel => exact ⟨k + 1, by omega, by go_num, HN, HF1⟩
          case measure => simp [intOf]; omega
        cases h2 : decide (x < t.x + t.w)
        · have HN := hid (HMiss.out (fun h => (of_decide_eq_false h2) h.2.2.1))
          go_wp2
          go_roundw
          case rel => exact ⟨k + 1, by omega, by go_num, HN, HF1⟩
          case measure => simp [intOf]; omega
        cases h3 : decide (t.y ≤ y)
        · have HN := hid (HMiss.out (fun h => (of_decide_eq_false h3) h.2.2.2.1))
          go_wp2
          go_roundw
          case rel => exact ⟨k + 1, by omega, by go_num, HN, HF1⟩
          case measure => simp [intOf]; omega
        cases h4 : decide (y < t.y + t.h)
        · have HN := hid (HMiss.out (fun h => (of_decide_eq_false h4) h.2.2.2.2))
          go_wp2
          go_roundw
          case rel => exact ⟨k + 1, by omega, by go_num, HN, HF1⟩
          case measure => simp [intOf]; omega
        have HN := hid (HHit.out ⟨h0, of_decide_eq_true h1, of_decide_eq_true h2, of_decide_eq_true h3, of_decide_eq_true h4⟩)
        go_wp2
        go_ret
        exact ⟨by rw [HN.out]; rfl, HF1.out⟩
      · obtain rfl : k = xs.length := by omega
        have HN : Hid (ownerOf xs x y = 0) := hid (ownerOf_none (by have := HP.out; rwa [List.take_length] at this))
        go_wp2
        go_ret
        exact ⟨by rw [HN.out]; rfl, HF.out⟩
end Go.Proofs.Ytnengimekcnfhaa
