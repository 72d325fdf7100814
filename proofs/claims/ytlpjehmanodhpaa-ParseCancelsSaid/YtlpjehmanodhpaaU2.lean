import Derived.Test.YtlpjehmanodhpaaU1
set_option linter.unusedSimpArgs false
set_option linter.unusedVariables false
namespace Go.Proofs.Ytlpjehmanodhpaa
open Go.RowKit Go.Proofs.YtlpjehmanodhpaaW.PrintWords
/-- Runes that a call hands back: nil, or a row that it made. -/
abbrev Runes (w w' : World) (v : Value) (l : List Int) : Prop := Kd.R (Kd.int .i32) 21 w' w.heap.size (fun _ => True) v l
theorem runes_nil (w w' : World) : Runes w w' (.slice none 0 0) [] := Kd.R_nil _ _ _ _ _
theorem runes_one {w w1 : World} (h : w.heap.size ≤ w1.heap.size) (x : Int) : Runes w (w1.alloc (.cells #[.int .i32 x] 21)) (.slice (some ⟨w1.heap.size, 0, none⟩) 1 1) [x] := by
  have h2 := World.ownsRow_lit (base := w.heap.size) (e := 21) (size := 1) w1 #[.int .i32 x] 1 h (by simp [maxLen]) (by simp)
  exact Kd.R_of_own (by simpa [encs] using h2) (fun _ _ => trivial)
theorem runes_at {w w1 : World} {g : Nat} (hg : w1.heap.size = g) (h : w.heap.size ≤ g) (x : Int) : Runes w (w1.alloc (.cells #[.int .i32 x] 21)) (.slice (some ⟨g, 0, none⟩) 1 1) [x] := by
  subst hg
  exact runes_one h x
theorem info_i32 : (Try.prog.info? 21).map (fun i => (i.zero, i.size, i.bytes)) = some (some (.int .i32 0), 1, 4) := by kernel_rfl
def beginD (d : Dec) (c : Int) : Dec := if c < 128 then d else firstD d c
def beginR (c : Int) : List Int := if c < 128 then [c] else if firstOk c then [] else [65533]
set_option maxHeartbeats 1000000 in
theorem begin_any (w : World) (b : Nat) (T : TypeId) (r : List Value) (d : Dec) (c : Int) (hc0 : 0 ≤ c) (hc1 : c ≤ 255) (hb : Blk w b T (d.cells ++ r)) :
    Calls Try.prog 45 #[.pointer (some ⟨b, 0, none⟩), .int .u8 c] w fun e w' => ∃ v, e = .returned v ∧ Runes w w' v (beginR c) ∧ Blk w' b T ((beginD d c).cells ++ r) ∧ Fr (At b) w w' := by
  by_cases hc : c < 128
  · go_enter Try.func45, Try.ntmps45
    go_wp2
    go_ret
    simp only [beginR, beginD, if_pos hc]
    exact ⟨_, rfl, runes_one (Nat.le_refl _) c, hb.alloc _, (Fr.refl _ _).alloc _⟩
  · cases ho : firstOk c
    all_goals
      have HO := hid ho
      clear ho
      go_enter Try.func45, Try.ntmps45
      go_wp2_with fail
      refine (first_any _ _ _ _ _ _ hb).mono ?_
      rintro e w1 ⟨rfl, hb1, hf⟩
      rw [HO.out]
      go_wp2
      go_ret
      have hc' := Int.not_lt.2 hc
      simp only [beginR, beginD, if_neg hc', HO.out, if_true, if_false, Bool.false_eq_true]
    · exact ⟨_, rfl, runes_one hf.size _, hb1.alloc _, hf.alloc _⟩
    · exact ⟨_, rfl, runes_nil _ _, hb1, hf⟩
set_option maxHeartbeats 1000000 in
theorem feed_zero (w : World) (b : Nat) (T : TypeId) (r : List Value) (d : Dec) (c : Int) (hc0 : 0 ≤ c) (hc1 : c ≤ 255) (hl : d.l = 0) (hb : Blk w b T (d.cells ++ r)) :
    Calls Try.prog 39 #[.pointer (some ⟨b, 0, none⟩), .int .u8 c] w fun e w' => ∃ v, e = .returned v ∧ Runes w w' v (beginR c) ∧ Blk w' b T ((beginD d c).cells ++ r) ∧ Fr (At b) w w' := by
  have h2 := hb.cell 2 rfl
  rw [hl] at h2
  go_enter Try.func39, Try.ntmps39
  go_wp2_with fail
  refine (begin_any _ _ _ _ _ _ hc0 hc1 hb).mono ?_
  rintro e w1 ⟨v, rfl, hv, hb1, hf⟩
  go_wp2
  go_ret
  exact ⟨v, rfl, hv, hb1, hf⟩
set_option maxHeartbeats 1000000 in
theorem feed_bad (w : World) (b : Nat) (T : TypeId) (r : List Value) (d : Dec) (c : Int) (hc0 : 0 ≤ c) (hc1 : c ≤ 255) (hl : d.l ≠ 0) (hn : c < d.n0 ∨ d.n1 < c) (hb : Blk w b T (d.cells ++ r)) :
    Calls Try.prog 39 #[.pointer (some ⟨b, 0, none⟩), .int .u8 c] w fun e w' => ∃ v, e = .returned v ∧ Runes w w' v (65533 :: beginR c) ∧ Blk w' b T ((beginD ⟨d.v, 0, 0, d.n0, d.n1⟩ c).cells ++ r) ∧ Fr (At b) w w' := by
  have h2 := hb.cell 2 rfl
  have h3 := hb.cell 3 rfl
  have h4 := hb.cell 4 rfl
  have h1 := hb.cell 1 rfl
  have f1 := hb.frozen 1
  have f2 := hb.frozen 2
  have hl' : (d.l == 0) = false := by simpa using hl
  have hn' : c < d.n0 ∨ (¬ c < d.n0 ∧ d.n1 < c) := by omega
  rcases hn' with hn' | ⟨hn', hn''⟩
  all_goals
    go_enter Try.func39, Try.ntmps39
    go_wp2_with fail
    refine (begin_any _ b T r ⟨d.v, 0, 0, d.n0, d.n1⟩ c hc0 hc1 (((Blk.set (Blk.set hb 2 _) 1 _).alloc _).eq rfl)).mono ?_
    rintro e w1 ⟨v, rfl, hv, hb1, hf⟩
    have hx := R_fr (runes_one (w := w) (w1 := (w.setCell ⟨b, 2, none⟩ (.int .i64 0)).setCell ⟨b, 1, none⟩ (.int .i64 0)) (by simp [World.setCell]) 65533) hf (fun k hk => by rw [hk]; exact hb.lt)
    simp only [sz_setCell] at hx
    have hsz : w.heap.size ≤ w1.heap.size := by have := hf.size; simp [World.setCell] at this; omega
    obtain ⟨A, cc, rfl, hcc, hC⟩ := Kd.R_reads hv
    have hlen : (beginR c).length ≤ 1 := by unfold beginR; split <;> (try split) <;> simp
    go_wp2_with (at_builtin; go_loud (refine Kd.R_append_row (Value.int .i32) 0 w.heap.size rfl (.tmp 35) (.tmp 38) 50 21 (.int .i32 0) 4 rfl Try.underlying50 info_i32 rfl (by decide) (.slice (some ⟨w.heap.size, 0, none⟩) 1 1) [65533] (beginR c) A _ cc (fun _ => True) rfl rfl (fun _ _ => trivial) hx hC (Below.refl _ _) hsz (by simp; omega) ?_); intro v1 w2 hv1 hb2 hg2 hat2)
    have hf2 := Fr.of_grown hg2
    have hrow : ∀ k, (Value.slice (some ⟨w.heap.size, 0, none⟩) 1 1).ownBlock = some k → k = w.heap.size := fun k hk => by simpa [Value.ownBlock] using hk.symm
    clear hg2 hat2 hb2
    go_wp2
    go_ret
    refine ⟨v1, rfl, hv1, hb1.fr hf2 (fun h => by have := hrow _ h; have := hb.lt; omega), ?_⟩
    refine Fr.then_ (w1 := w1) (Fr.trans ?_ hf) hf2 (fun k hk => .inr (by have := hrow k hk; omega))
    repeat (first | with_reducible exact Fr.refl _ _ | with_reducible refine Fr.setAt ?_ _ _ | with_reducible refine Fr.alloc ?_ _)
def wrap32 (x : Int) : Int := IntKind.i32.wrap x
set_option maxHeartbeats 1000000 in
theorem feed_go (w : World) (b : Nat) (T : TypeId) (r : List Value) (d : Dec) (c : Int) (hc0 : 0 ≤ c) (hc1 : c ≤ 255) (hl : 1 ≤ d.l) (hl3 : d.l ≤ 3) (hh0 : 0 ≤ d.h) (hh : d.h ≤ 3) (hv0 : 0 ≤ d.v) (hv : d.v < 33554432) (hn0 : d.n0 ≤ c) (hn1 : c ≤ d.n1) (hb : Blk w b T (d.cells ++ r))
    (m : Bool) (hm : m = true ↔ 1 < d.l) :
    Calls Try.prog 39 #[.pointer (some ⟨b, 0, none⟩), .int .u8 c] w fun e w' => ∃ v, e = .returned v ∧ Runes w w' v (bif m then [] else [d.v * 64 + c % 64]) ∧ Blk w' b T ((⟨d.v * 64 + c % 64, bif m then d.h + 1 else 0, d.l - 1, 128, 191⟩ : Dec).cells ++ r) ∧ Fr (At b) w w' := by
  have h0 := hb.cell 0 rfl
  have h1 := hb.cell 1 rfl
  have h2 := hb.cell 2 rfl
  have h3 := hb.cell 3 rfl
  have h4 := hb.cell 4 rfl
  have f0 := hb.frozen 0
  have f1 := hb.frozen 1
  have f2 := hb.frozen 2
  have f3 := hb.frozen 3
  have f4 := hb.frozen 4
  have hl' : (d.l == 0) = false := by simp; omega
  have hn0' : ¬ c < d.n0 := by omega
  have hn1' : ¬ d.n1 < c := by omega
  cases m
  · have hlt : d.l ≤ 1 := by simp at hm; exact hm
    clear hm
    go_enter Try.func39, Try.ntmps39
    go_wp2_with fail
    refine (anyByte_any _).mono ?_
    rintro e w1 ⟨rfl, hf⟩
    have hf' : Fr (At b) w w1 := Fr.then_ (S2 := NoB) (Fr.setAt (Fr.refl _ _) _ _) hf (fun _ h => h.elim)
    have hb1 := (hb.set 0 (.int .i32 (d.v * 64 + c % 64))).fr hf (fun h => h)
    clear h0 h1 h2 h3 h4 f0 f1 f2 f3 f4
    have h0 := hb1.cell 0 rfl
    have h1 := hb1.cell 1 rfl
    have h2 := hb1.cell 2 rfl
    have h3 := hb1.cell 3 rfl
    have h4 := hb1.cell 4 rfl
    have f0 := hb1.frozen 0
    have f1 := hb1.frozen 1
    have f2 := hb1.frozen 2
    have f3 := hb1.frozen 3
    have f4 := hb1.frozen 4
    clear hf hb
    go_wp2
    go_ret
    refine ⟨_, rfl, runes_at (by simp only [sz_setCell]) hf'.size _, ?_, ?_⟩
    · apply Blk.eq
      · repeat (first | with_reducible exact hb1 | with_reducible apply Blk.set | with_reducible apply Blk.alloc)
      · rfl
    · repeat (first | with_reducible exact hf' | with_reducible refine Fr.setAt ?_ _ _ | with_reducible refine Fr.alloc ?_ _)
  · have hlt : 1 < d.l := by simpa using hm
    clear hm
    go_enter Try.func39, Try.ntmps39
    go_wp2_with fail
    refine (anyByte_any _).mono ?_
    rintro e w1 ⟨rfl, hf⟩
    have hf' : Fr (At b) w w1 := Fr.then_ (S2 := NoB) (Fr.setAt (Fr.refl _ _) _ _) hf (fun _ h => h.elim)
    have hb1 := (hb.set 0 (.int .i32 (d.v * 64 + c % 64))).fr hf (fun h => h)
    clear h0 h1 h2 h3 h4 f0 f1 f2 f3 f4
    have h0 := hb1.cell 0 rfl
    have h1 := hb1.cell 1 rfl
    have h2 := hb1.cell 2 rfl
    have h3 := hb1.cell 3 rfl
    have h4 := hb1.cell 4 rfl
    have f0 := hb1.frozen 0
    have f1 := hb1.frozen 1
    have f2 := hb1.frozen 2
    have f3 := hb1.frozen 3
    have f4 := hb1.frozen 4
    clear hf hb
    go_wp2
    go_ret
    refine ⟨_, rfl, runes_nil _ _, ?_, ?_⟩
    · apply Blk.eq
      · repeat (first | with_reducible exact hb1 | with_reducible apply Blk.set | with_reducible apply Blk.alloc)
      · rfl
    · repeat (first | with_reducible exact hf' | with_reducible refine Fr.setAt ?_ _ _ | with_reducible refine Fr.alloc ?_ _)
set_option maxHeartbeats 1000000 in
theorem end_zero (w : World) (b : Nat) (T : TypeId) (r : List Value) (d : Dec) (hl : d.l = 0) (hb : Blk w b T (d.cells ++ r)) :
    Calls Try.prog 23 #[.pointer (some ⟨b, 0, none⟩)] w fun e w' => ∃ v, e = .returned v ∧ v = .slice none 0 0 ∧ w' = w := by
  have h2 := hb.cell 2 rfl
  rw [hl] at h2
  clear hl
  go_enter Try.func23, Try.ntmps23
  go_wp2
  go_ret
  exact ⟨_, rfl, rfl, rfl⟩
set_option maxHeartbeats 1000000 in
theorem end_some (w : World) (b : Nat) (T : TypeId) (r : List Value) (d : Dec) (hl : d.l ≠ 0) (hb : Blk w b T (d.cells ++ r)) :
    Calls Try.prog 23 #[.pointer (some ⟨b, 0, none⟩)] w fun e w' => ∃ v, e = .returned v ∧ Runes w w' v [65533] ∧ Blk w' b T ((⟨d.v, 0, 0, d.n0, d.n1⟩ : Dec).cells ++ r) ∧ Fr (At b) w w' := by
  have h1 := hb.cell 1 rfl
  have h2 := hb.cell 2 rfl
  have f1 := hb.frozen 1
  have f2 := hb.frozen 2
  have hl' : (d.l == 0) = false := by simpa using hl
  clear hl
  go_enter Try.func23, Try.ntmps23
  go_wp2
  go_ret
  refine ⟨_, rfl, runes_at (by simp only [sz_setCell]) (Nat.le_refl _) _, ?_, ?_⟩
  · apply Blk.eq
    · repeat (first | with_reducible exact hb | with_reducible apply Blk.set | with_reducible apply Blk.alloc)
    · rfl
  · repeat (first | with_reducible exact Fr.refl _ _ | with_reducible refine Fr.setAt ?_ _ _ | with_reducible refine Fr.alloc ?_ _)
set_option maxHeartbeats 1000000 in
theorem waits_any (w : World) (b : Nat) (T : TypeId) (r : List Value) (d : Dec) (hb : Blk w b T (d.cells ++ r)) :
    Calls Try.prog 26 #[.pointer (some ⟨b, 0, none⟩)] w fun e w' => e = .returned (.int .i64 d.h) ∧ w' = w := by
  have h2 := hb.cell 1 rfl
  go_enter Try.func26, Try.ntmps26
  go_wp2
  go_ret
  exact ⟨rfl, rfl⟩
end Go.Proofs.Ytlpjehmanodhpaa
