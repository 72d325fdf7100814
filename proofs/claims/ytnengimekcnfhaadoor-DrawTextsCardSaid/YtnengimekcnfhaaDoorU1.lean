import Derived.Test.YtnengimekcnfhaaDoorProg
import Derived.Test.YtnengimekcnfhaaDoorK2
import Derived.LoopTactic
set_option linter.unusedSimpArgs false
set_option linter.unusedVariables false
namespace Go.Proofs.YtnengimekcnfhaaDoor
open Go.RowKit Go.Proofs.YtnengimekcnfhaaDoorW.PrintWords
set_option maxHeartbeats 400000 in
theorem anyByte_any (w : World) : Calls Tryd.prog 45 #[] w fun e w' => e = .returned (.agg #[.int .u8 128, .int .u8 191]) ∧ Fr NoB w w' := by
  go_enter Tryd.func45, Tryd.ntmps45
  go_wp2
  exact bodyPost_ret (v := .agg #[.int .u8 128, .int .u8 191]) (by simp [results, Tryd.results45, go_sem]) rfl ⟨rfl, (Fr.refl _ _).alloc _⟩

/-- A decoder: what it has of a rune, how many bytes waited, how many lack, what the next may be. -/
structure Dec where
  v : Int
  h : Int
  l : Int
  n0 : Int
  n1 : Int
def Dec.cells (d : Dec) : List Value := [.int .i32 d.v, .int .i64 d.h, .int .i64 d.l, .int .u8 d.n0, .int .u8 d.n1]
def lo (c : Int) : Int := if c = 224 then 160 else if c = 240 then 144 else 128
def hi (c : Int) : Int := if c = 237 then 159 else if c = 244 then 143 else 191
def firstD (d : Dec) (c : Int) : Dec :=
  if 194 ≤ c ∧ c ≤ 223 then ⟨c % 32, 1, 1, lo c, hi c⟩
  else if 224 ≤ c ∧ c ≤ 239 then ⟨c % 16, 1, 2, lo c, hi c⟩
  else if 240 ≤ c ∧ c ≤ 244 then ⟨c % 8, 1, 3, lo c, hi c⟩
  else ⟨d.v, d.h, d.l, 128, 191⟩
def firstOk (c : Int) : Bool := decide (194 ≤ c ∧ c ≤ 244)
set_option maxHeartbeats 1000000 in
theorem first_any (w : World) (b : Nat) (T : TypeId) (r : List Value) (d : Dec) (c : Int) (hb : Blk w b T (d.cells ++ r)) :
    Calls Tryd.prog 52 #[.pointer (some ⟨b, 0, none⟩), .int .u8 c] w fun e w' => e = .returned (.bool (firstOk c)) ∧ Blk w' b T ((firstD d c).cells ++ r) ∧ Fr (At b) w w' := by
  go_enter Tryd.func52, Tryd.ntmps52
  go_wp2_with fail
  refine (anyByte_any _).mono ?_
  rintro e w1 ⟨rfl, hf⟩
  have hb1 := hb.fr hf (fun h => h)
  have h0 := hb1.cell 0 rfl
  have h1 := hb1.cell 1 rfl
  have h2 := hb1.cell 2 rfl
  have h3 := hb1.cell 3 rfl
  have h4 := hb1.cell 4 rfl
  have f0 := hb1.frozen 0
  have f1 := hb1.frozen 1
  have f2 := hb1.frozen 2
  have f3 := hb1.frozen 3
  have f4 := hb1.frozen 4
  have hf' := hf.mono (S2 := At b) (fun _ h => h.elim)
  clear hf hb
  go_wp2
  all_goals
    clear f0 f1 f2 f3 f4 h0 h1 h2 h3 h4
    go_ret
    simp only [beq_iff_eq, beq_eq_false_iff_ne, ne_eq] at *
    refine ⟨?_, ?_, ?_⟩
    · first | (rw [show firstOk c = true from decide_eq_true (by omega)]; rfl) | (rw [show firstOk c = false from decide_eq_false (by omega)]; rfl)
    · apply Blk.eq
      · repeat (first | with_reducible exact hb1 | with_reducible apply Blk.set)
      · simp only [firstD, lo, hi]
        repeat (first | (rw [if_pos (by omega)]) | (rw [if_neg (by omega)]))
        simp [Dec.cells]
    · repeat (first | with_reducible exact hf' | with_reducible refine Fr.setAt ?_ _ _)
end Go.Proofs.YtnengimekcnfhaaDoor
set_option linter.unusedSimpArgs false
set_option linter.unusedVariables false
namespace Go.Proofs.YtnengimekcnfhaaDoor
open Go.RowKit Go.Proofs.YtnengimekcnfhaaDoorW.PrintWords
/-- Runes that a call hands back: nil, or a row that it made. -/
abbrev Runes (w w' : World) (v : Value) (l : List Int) : Prop := Kd.R (Kd.int .i32) 21 w' w.heap.size (fun _ => True) v l
theorem runes_nil (w w' : World) : Runes w w' (.slice none 0 0) [] := Kd.R_nil _ _ _ _ _
theorem runes_one {w w1 : World} (h : w.heap.size ≤ w1.heap.size) (x : Int) : Runes w (w1.alloc (.cells #[.int .i32 x] 21)) (.slice (some ⟨w1.heap.size, 0, none⟩) 1 1) [x] := by
  have h2 := World.ownsRow_lit (base := w.heap.size) (e := 21) (size := 1) w1 #[.int .i32 x] 1 h (by simp [maxLen]) (by simp)
  exact Kd.R_of_own (by simpa [encs] using h2) (fun _ _ => trivial)
theorem runes_at {w w1 : World} {g : Nat} (hg : w1.heap.size = g) (h : w.heap.size ≤ g) (x : Int) : Runes w (w1.alloc (.cells #[.int .i32 x] 21)) (.slice (some ⟨g, 0, none⟩) 1 1) [x] := by
  subst hg
  exact runes_one h x
theorem info_i32 : (Tryd.prog.info? 21).map (fun i => (i.zero, i.size, i.bytes)) = some (some (.int .i32 0), 1, 4) := by kernel_rfl
def beginD (d : Dec) (c : Int) : Dec := if c < 128 then d else firstD d c
def beginR (c : Int) : List Int := if c < 128 then [c] else if firstOk c then [] else [65533]
set_option maxHeartbeats 1000000 in
theorem begin_any (w : World) (b : Nat) (T : TypeId) (r : List Value) (d : Dec) (c : Int) (hc0 : 0 ≤ c) (hc1 : c ≤ 255) (hb : Blk w b T (d.cells ++ r)) :
    Calls Tryd.prog 44 #[.pointer (some ⟨b, 0, none⟩), .int .u8 c] w fun e w' => ∃ v, e = .returned v ∧ Runes w w' v (beginR c) ∧ Blk w' b T ((beginD d c).cells ++ r) ∧ Fr (At b) w w' := by
  by_cases hc : c < 128
  · go_enter Tryd.func44, Tryd.ntmps44
    go_wp2
    go_ret
    simp only [beginR, beginD, if_pos hc]
    exact ⟨_, rfl, runes_one (Nat.le_refl _) c, hb.alloc _, (Fr.refl _ _).alloc _⟩
  · cases ho : firstOk c
    all_goals
      have HO := hid ho
      clear ho
      go_enter Tryd.func44, Tryd.ntmps44
      go_wp2_with fail
      refine (first_any _ _ _ _ _ _ hb).mono ?_
      rintro e w1 ⟨rfl, hb1, hf⟩
      rw [HO.out]
      go_wp2
      go_ret
      have hc' := Int.not_lt.2 hc
      simp only [beginR, beginD, if_neg hc', HO.out, if_true, if_false, Bool.false_eq_true]
    · exact ⟨_, rfl, runes_one hf.size _, hb1.alloc _, hf.alloc _⟩
    · exact ⟨_, rfl, runes_nil _ _, hb1, hf⟩
set_option maxHeartbeats 1000000 in
theorem feed_zero (w : World) (b : Nat) (T : TypeId) (r : List Value) (d : Dec) (c : Int) (hc0 : 0 ≤ c) (hc1 : c ≤ 255) (hl : d.l = 0) (hb : Blk w b T (d.cells ++ r)) :
    Calls Tryd.prog 28 #[.pointer (some ⟨b, 0, none⟩), .int .u8 c] w fun e w' => ∃ v, e = .returned v ∧ Runes w w' v (beginR c) ∧ Blk w' b T ((beginD d c).cells ++ r) ∧ Fr (At b) w w' := by
  have h2 := hb.cell 2 rfl
  rw [hl] at h2
  go_enter Tryd.func28, Tryd.ntmps28
  go_wp2_with fail
  refine (begin_any _ _ _ _ _ _ hc0 hc1 hb).mono ?_
  rintro e w1 ⟨v, rfl, hv, hb1, hf⟩
  go_wp2
  go_ret
  exact ⟨v, rfl, hv, hb1, hf⟩
set_option maxHeartbeats 1000000 in
theorem feed_bad (w : World) (b : Nat) (T : TypeId) (r : List Value) (d : Dec) (c : Int) (hc0 : 0 ≤ c) (hc1 : c ≤ 255) (hl : d.l ≠ 0) (hn : c < d.n0 ∨ d.n1 < c) (hb : Blk w b T (d.cells ++ r)) :
    Calls Tryd.prog 28 #[.pointer (some ⟨b, 0, none⟩), .int .u8 c] w fun e w' => ∃ v, e = .returned v ∧ Runes w w' v (65533 :: beginR c) ∧ Blk w' b T ((beginD ⟨d.v, 0, 0, d.n0, d.n1⟩ c).cells ++ r) ∧ Fr (At b) w w' := by
  have h2 := hb.cell 2 rfl
  have h3 := hb.cell 3 rfl
  have h4 := hb.cell 4 rfl
  have h1 := hb.cell 1 rfl
  have f1 := hb.frozen 1
  have f2 := hb.frozen 2
  have hl' : (d.l == 0) = false := by simpa using hl
  have hn' : c < d.n0 ∨ (¬ c < d.n0 ∧ d.n1 < c) := by omega
  rcases hn' with hn' | ⟨hn', hn''⟩
  all_goals
    go_enter Tryd.func28, Tryd.ntmps28
    go_wp2_with fail
    refine (begin_any _ b T r ⟨d.v, 0, 0, d.n0, d.n1⟩ c hc0 hc1 (((Blk.set (Blk.set hb 2 _) 1 _).alloc _).eq rfl)).mono ?_
    rintro e w1 ⟨v, rfl, hv, hb1, hf⟩
    have hx := R_fr (runes_one (w := w) (w1 := (w.setCell ⟨b, 2, none⟩ (.int .i64 0)).setCell ⟨b, 1, none⟩ (.int .i64 0)) (by simp [World.setCell]) 65533) hf (fun k hk => by rw [hk]; exact hb.lt)
    simp only [sz_setCell] at hx
    have hsz : w.heap.size ≤ w1.heap.size := by have := hf.size; simp [World.setCell] at this; omega
    obtain ⟨A, cc, rfl, hcc, hC⟩ := Kd.R_reads hv
    have hlen : (beginR c).length ≤ 1 := by unfold beginR; split <;> (try split) <;> simp
    go_wp2_with (at_builtin; go_loud (refine Kd.R_append_row (Value.int .i32) 0 w.heap.size rfl (.tmp 35) (.tmp 38) 46 21 (.int .i32 0) 4 rfl Tryd.underlying46 info_i32 rfl (by decide) (.slice (some ⟨w.heap.size, 0, none⟩) 1 1) [65533] (beginR c) A _ cc (fun _ => True) rfl rfl (fun _ _ => trivial) hx hC (Below.refl _ _) hsz (by simp; omega) ?_); intro v1 w2 hv1 hb2 hg2 hat2)
    have hf2 := Fr.of_grown hg2
    have hrow : ∀ k, (Value.slice (some ⟨w.heap.size, 0, none⟩) 1 1).ownBlock = some k → k = w.heap.size := fun k hk => by simpa [Value.ownBlock] using hk.symm
    clear hg2 hat2 hb2
    go_wp2
    go_ret
    refine ⟨v1, rfl, hv1, hb1.fr hf2 (fun h => by have := hrow _ h; have := hb.lt; omega), ?_⟩
    refine Fr.then_ (w1 := w1) (Fr.trans ?_ hf) hf2 (fun k hk => .inr (by have := hrow k hk; omega))
    repeat (first | with_reducible exact Fr.refl _ _ | with_reducible refine Fr.setAt ?_ _ _ | with_reducible refine Fr.alloc ?_ _)
def wrap32 (x : Int) : Int := IntKind.i32.wrap x
set_option maxHeartbeats 1000000 in
theorem feed_go (w : World) (b : Nat) (T : TypeId) (r : List Value) (d : Dec) (c : Int) (hc0 : 0 ≤ c) (hc1 : c ≤ 255) (hl : 1 ≤ d.l) (hl3 : d.l ≤ 3) (hh0 : 0 ≤ d.h) (hh : d.h ≤ 3) (hv0 : 0 ≤ d.v) (hv : d.v < 33554432) (hn0 : d.n0 ≤ c) (hn1 : c ≤ d.n1) (hb : Blk w b T (d.cells ++ r))
    (m : Bool) (hm : m = true ↔ 1 < d.l) :
    Calls Tryd.prog 28 #[.pointer (some ⟨b, 0, none⟩), .int .u8 c] w fun e w' => ∃ v, e = .returned v ∧ Runes w w' v (bif m then [] else [d.v * 64 + c % 64]) ∧ Blk w' b T ((⟨d.v * 64 + c % 64, bif m then d.h + 1 else 0, d.l - 1, 128, 191⟩ : Dec).cells ++ r) ∧ Fr (At b) w w' := by
  have h0 := hb.cell 0 rfl
  have h1 := hb.cell 1 rfl
  have h2 := hb.cell 2 rfl
  have h3 := hb.cell 3 rfl
  have h4 := hb.cell 4 rfl
  have f0 := hb.frozen 0
  have f1 := hb.frozen 1
  have f2 := hb.frozen 2
  have f3 := hb.frozen 3
  have f4 := hb.frozen 4
  have hl' : (d.l == 0) = false := by simp; omega
  have hn0' : ¬ c < d.n0 := by omega
  have hn1' : ¬ d.n1 < c := by omega
  cases m
  · have hlt : d.l ≤ 1 := by simp at hm; exact hm
    clear hm
    go_enter Tryd.func28, Tryd.ntmps28
    go_wp2_with fail
    refine (anyByte_any _).mono ?_
    rintro e w1 ⟨rfl, hf⟩
    have hf' : Fr (At b) w w1 := Fr.then_ (S2 := NoB) (Fr.setAt (Fr.refl _ _) _ _) hf (fun _ h => h.elim)
    have hb1 := (hb.set 0 (.int .i32 (d.v * 64 + c % 64))).fr hf (fun h => h)
    clear h0 h1 h2 h3 h4 f0 f1 f2 f3 f4
    have h0 := hb1.cell 0 rfl
    have h1 := hb1.cell 1 rfl
    have h2 := hb1.cell 2 rfl
    have h3 := hb1.cell 3 rfl
    have h4 := hb1.cell 4 rfl
    have f0 := hb1.frozen 0
    have f1 := hb1.frozen 1
    have f2 := hb1.frozen 2
    have f3 := hb1.frozen 3
    have f4 := hb1.frozen 4
    clear hf hb
    go_wp2
    go_ret
    refine ⟨_, rfl, runes_at (by simp only [sz_setCell]) hf'.size _, ?_, ?_⟩
    · apply Blk.eq
      · repeat (first | with_reducible exact hb1 | with_reducible apply Blk.set | with_reducible apply Blk.alloc)
      · rfl
    · repeat (first | with_reducible exact hf' | with_reducible refine Fr.setAt ?_ _ _ | with_reducible refine Fr.alloc ?_ _)
  · have hlt : 1 < d.l := by simpa using hm
    clear hm
    go_enter Tryd.func28, Tryd.ntmps28
    go_wp2_with fail
    refine (anyByte_any _).mono ?_
    rintro e w1 ⟨rfl, hf⟩
    have hf' : Fr (At b) w w1 := Fr.then_ (S2 := NoB) (Fr.setAt (Fr.refl _ _) _ _) hf (fun _ h => h.elim)
    have hb1 := (hb.set 0 (.int .i32 (d.v * 64 + c % 64))).fr hf (fun h => h)
    clear h0 h1 h2 h3 h4 f0 f1 f2 f3 f4
    have h0 := hb1.cell 0 rfl
    have h1 := hb1.cell 1 rfl
    have h2 := hb1.cell 2 rfl
    have h3 := hb1.cell 3 rfl
    have h4 := hb1.cell 4 rfl
    have f0 := hb1.frozen 0
    have f1 := hb1.frozen 1
    have f2 := hb1.frozen 2
    have f3 := hb1.frozen 3
    have f4 := hb1.frozen 4
    clear hf hb
    go_wp2
    go_ret
    refine ⟨_, rfl, runes_nil _ _, ?_, ?_⟩
    · apply Blk.eq
      · repeat (first | with_reducible exact hb1 | with_reducible apply Blk.set | with_reducible apply Blk.alloc)
      · rfl
    · repeat (first | with_reducible exact hf' | with_reducible refine Fr.setAt ?_ _ _ | with_reducible refine Fr.alloc ?_ _)
set_option maxHeartbeats 1000000 in
theorem end_zero (w : World) (b : Nat) (T : TypeId) (r : List Value) (d : Dec) (hl : d.l = 0) (hb : Blk w b T (d.cells ++ r)) :
    Calls Tryd.prog 29 #[.pointer (some ⟨b, 0, none⟩)] w fun e w' => ∃ v, e = .returned v ∧ v = .slice none 0 0 ∧ w' = w := by
  have h2 := hb.cell 2 rfl
  rw [hl] at h2
  clear hl
  go_enter Tryd.func29, Tryd.ntmps29
  go_wp2
  go_ret
  exact ⟨_, rfl, rfl, rfl⟩
set_option maxHeartbeats 1000000 in
theorem end_some (w : World) (b : Nat) (T : TypeId) (r : List Value) (d : Dec) (hl : d.l ≠ 0) (hb : Blk w b T (d.cells ++ r)) :
    Calls Tryd.prog 29 #[.pointer (some ⟨b, 0, none⟩)] w fun e w' => ∃ v, e = .returned v ∧ Runes w w' v [65533] ∧ Blk w' b T ((⟨d.v, 0, 0, d.n0, d.n1⟩ : Dec).cells ++ r) ∧ Fr (At b) w w' := by
  have h1 := hb.cell 1 rfl
  have h2 := hb.cell 2 rfl
  have f1 := hb.frozen 1
  have f2 := hb.frozen 2
  have hl' : (d.l == 0) = false := by simpa using hl
  clear hl
  go_enter Tryd.func29, Tryd.ntmps29
  go_wp2
  go_ret
  refine ⟨_, rfl, runes_at (by simp only [sz_setCell]) (Nat.le_refl _) _, ?_, ?_⟩
  · apply Blk.eq
    · repeat (first | with_reducible exact hb | with_reducible apply Blk.set | with_reducible apply Blk.alloc)
    · rfl
  · repeat (first | with_reducible exact Fr.refl _ _ | with_reducible refine Fr.setAt ?_ _ _ | with_reducible refine Fr.alloc ?_ _)
end Go.Proofs.YtnengimekcnfhaaDoor
set_option linter.unusedSimpArgs false
set_option linter.unusedVariables false
namespace Go.Proofs.YtnengimekcnfhaaDoor
open Go.RowKit Go.Proofs.YtnengimekcnfhaaDoorW.PrintWords
/-! What the decoder is, told by the bytes that wait. -/
def need (a : Int) : Int := if a < 224 then 2 else if a < 240 then 3 else 4
def lead (a : Int) : Int := if a < 224 then a % 32 else if a < 240 then a % 16 else a % 8
def val : List Int → Int
  | [] => 0
  | a :: t => t.foldl (fun v b => v * 64 + b % 64) (lead a)
/-- May c come behind a :: t? -/
def fits (a : Int) (t : List Int) (c : Int) : Bool := match t with
  | [] => decide (lo a ≤ c ∧ c ≤ hi a)
  | _ :: _ => decide (128 ≤ c ∧ c ≤ 191)
def pbegin (c : Int) : List Int := if firstOk c then [c] else []
def pstep (p : List Int) (c : Int) : List Int × List Int :=
  match p with
  | [] => (pbegin c, beginR c)
  | a :: t => if fits a t c then (if (t.length : Int) + 2 = need a then ([], [val (a :: t ++ [c])]) else (a :: t ++ [c], []))
    else (pbegin c, 65533 :: beginR c)
/-- The decoder d has the bytes p waiting. -/
def DecRep (d : Dec) (p : List Int) : Prop := match p with
  | [] => d.l = 0 ∧ d.h = 0
  | a :: t => 194 ≤ a ∧ a ≤ 244 ∧ (t.length : Int) + 1 < need a ∧ (∀ x ∈ t, 128 ≤ x ∧ x ≤ 191) ∧
      d.v = val (a :: t) ∧ d.h = (t.length : Int) + 1 ∧ d.l = need a - ((t.length : Int) + 1) ∧ (∀ c, fits a t c = decide (d.n0 ≤ c ∧ c ≤ d.n1))
theorem need_bd (a : Int) : 2 ≤ need a ∧ need a ≤ 4 := by unfold need; split <;> (try split) <;> omega
theorem val_snoc (a : Int) (t : List Int) (c : Int) : val (a :: t ++ [c]) = val (a :: t) * 64 + c % 64 := by simp [val]
theorem lead_bd (a : Int) : 0 ≤ lead a ∧ lead a < 32 := by unfold lead; split <;> (try split) <;> omega
theorem val_bd (a : Int) (t : List Int) (h : t.length ≤ 3) : 0 ≤ val (a :: t) ∧ val (a :: t) < 8388608 := by
  have := lead_bd a
  match t, h with
  | [], _ => simp [val]; omega
  | [x], _ => simp [val]; omega
  | [x, y], _ => simp [val]; omega
  | [x, y, z], _ => simp [val]; omega
theorem beginD_rep (d : Dec) (c : Int) (hl : d.l = 0) (hh : d.h = 0) : DecRep (beginD d c) (pbegin c) := by
  unfold beginD pbegin firstOk
  by_cases h0 : c < 128
  · rw [if_pos h0, if_neg (by simp; omega)]
    exact ⟨hl, hh⟩
  · rw [if_neg h0]
    unfold firstD
    by_cases h1 : 194 ≤ c ∧ c ≤ 223
    · rw [if_pos h1, if_pos (by simp; omega)]
      simp [DecRep, need, val, lead, fits]; omega
    · rw [if_neg h1]
      by_cases h2 : 224 ≤ c ∧ c ≤ 239
      · rw [if_pos h2, if_pos (by simp; omega)]
        simp [DecRep, need, val, lead, fits]; omega
      · rw [if_neg h2]
        by_cases h3 : 240 ≤ c ∧ c ≤ 244
        · rw [if_pos h3, if_pos (by simp; omega)]
          simp [DecRep, need, val, lead, fits]; omega
        · rw [if_neg h3, if_neg (by simp; omega)]
          exact ⟨hl, hh⟩
def DBlk (w : World) (b : Nat) (T : TypeId) (r : List Value) (p : List Int) : Prop := ∃ d : Dec, DecRep d p ∧ Blk w b T (d.cells ++ r)
theorem DBlk.move {w w1 : World} {b : Nat} {T : TypeId} {r : List Value} {p : List Int} (h : DBlk w b T r p) (e : w1.heap[b]? = w.heap[b]?) : DBlk w1 b T r p := by
  obtain ⟨d, hr, hb⟩ := h
  exact ⟨d, hr, e.trans hb⟩
theorem DBlk.lt {w : World} {b : Nat} {T : TypeId} {r : List Value} {p : List Int} (h : DBlk w b T r p) : b < w.heap.size := by
  obtain ⟨d, hr, hb⟩ := h
  exact hb.lt
theorem fits_rng {a : Int} {t : List Int} {c : Int} (h : fits a t c = true) : 128 ≤ c ∧ c ≤ 191 := by
  cases t with
  | nil =>
    have := of_decide_eq_true h
    unfold lo hi at this
    (repeat' split at this) <;> omega
  | cons x t => exact of_decide_eq_true h
theorem feed_any (w : World) (b : Nat) (T : TypeId) (r : List Value) (p : List Int) (c : Int) (hc0 : 0 ≤ c) (hc1 : c ≤ 255) (hd : DBlk w b T r p) :
    Calls Tryd.prog 28 #[.pointer (some ⟨b, 0, none⟩), .int .u8 c] w fun e w' => ∃ v, e = .returned v ∧ Runes w w' v (pstep p c).2 ∧ DBlk w' b T r (pstep p c).1 ∧ Fr (At b) w w' := by
  obtain ⟨d, hr, hb⟩ := hd
  cases p with
  | nil =>
    refine (feed_zero w b T r d c hc0 hc1 hr.1 hb).mono ?_
    rintro e w' ⟨v, rfl, hv, hb', hf⟩
    exact ⟨v, rfl, hv, ⟨_, beginD_rep d c hr.1 hr.2, hb'⟩, hf⟩
  | cons a t =>
    obtain ⟨h1, h2, h3, h4, h5, h6, h7, h8⟩ := hr
    have hn := need_bd a
    have hv := val_bd a t (by omega)
    by_cases hfit : fits a t c = true
    · have hfit' := hfit
      rw [h8 c] at hfit'
      have hfit2 := of_decide_eq_true hfit'
      refine (feed_go w b T r d c hc0 hc1 (by omega) (by omega) (by omega) (by omega) (by omega) (by omega) hfit2.1 hfit2.2 hb (decide (1 < d.l)) (by simp)).mono ?_
      rintro e w' ⟨v, rfl, hv, hb', hf⟩
      refine ⟨v, rfl, ?_, ⟨_, ?_, hb'⟩, hf⟩
      · simp only [pstep, if_pos hfit]
        by_cases hl : 1 < d.l
        · rw [if_neg (by omega)]; simpa [hl] using hv
        · rw [if_pos (by omega)]; rw [val_snoc, ← h5]; simpa [hl] using hv
      · simp only [pstep, if_pos hfit]
        by_cases hl : 1 < d.l
        · rw [if_neg (by omega)]
          simp only [decide_eq_true hl, cond_true]
          refine ⟨h1, h2, by simp; omega, ?_, ?_, by simp; omega, by simp; omega, ?_⟩
          · intro x hx
            rcases List.mem_append.1 hx with hx | hx
            · exact h4 x hx
            · obtain rfl : x = c := by simpa using hx
              exact fits_rng hfit
          · rw [h5]; exact (val_snoc a t c).symm
          · intro x; cases t <;> rfl
        · rw [if_pos (by omega)]
          simp only [decide_eq_false hl, cond_false]
          exact ⟨by simp; omega, rfl⟩
    · have hfit' : fits a t c = false := by simpa using hfit
      rw [h8 c] at hfit'
      have hfit2 := of_decide_eq_false hfit'
      refine (feed_bad w b T r d c hc0 hc1 (by omega) (by omega) hb).mono ?_
      rintro e w' ⟨v, rfl, hv, hb', hf⟩
      refine ⟨v, rfl, ?_, ⟨_, ?_, hb'⟩, hf⟩
      · simp only [pstep, if_neg hfit]; exact hv
      · simp only [pstep, if_neg hfit]; exact beginD_rep _ c rfl rfl
def pflush (p : List Int) : List Int := if p = [] then [] else [65533]
theorem end_any (w : World) (b : Nat) (T : TypeId) (r : List Value) (p : List Int) (hd : DBlk w b T r p) :
    Calls Tryd.prog 29 #[.pointer (some ⟨b, 0, none⟩)] w fun e w' => ∃ v, e = .returned v ∧ Runes w w' v (pflush p) ∧ DBlk w' b T r [] ∧ Fr (At b) w w' := by
  obtain ⟨d, hr, hb⟩ := hd
  cases p with
  | nil =>
    refine (end_zero w b T r d hr.1 hb).mono ?_
    rintro e w' ⟨v, rfl, rfl, rfl⟩
    exact ⟨_, rfl, runes_nil _ _, ⟨d, hr, hb⟩, Fr.refl _ _⟩
  | cons a t =>
    obtain ⟨h1, h2, h3, h4, h5, h6, h7, h8⟩ := hr
    refine (end_some w b T r d (by omega) hb).mono ?_
    rintro e w' ⟨v, rfl, hv, hb', hf⟩
    exact ⟨_, rfl, hv, ⟨_, ⟨rfl, rfl⟩, hb'⟩, hf⟩
end Go.Proofs.YtnengimekcnfhaaDoor
set_option linter.unusedSimpArgs false
set_option linter.unusedVariables false
namespace Go.Proofs.YtnengimekcnfhaaDoor
open Go.RowKit Go.Proofs.YtnengimekcnfhaaDoorW.PrintWords
/-- All bytes, from a state and what was told so far. -/
def prun : List Int × List Int → List Int → List Int × List Int
  | s, [] => s
  | s, c :: l => prun ((pstep s.1 c).1, s.2 ++ (pstep s.1 c).2) l
theorem prun_snoc (s : List Int × List Int) (l : List Int) (c : Int) : prun s (l ++ [c]) = ((pstep (prun s l).1 c).1, (prun s l).2 ++ (pstep (prun s l).1 c).2) := by
  induction l generalizing s with
  | nil => rfl
  | cons x l ih => exact ih _
def pall (l : List Int) : List Int := (prun ([], []) l).2 ++ pflush (prun ([], []) l).1
theorem beginR_len (c : Int) : (beginR c).length ≤ 1 := by unfold beginR; split <;> (try split) <;> simp
theorem pstep_len (p : List Int) (c : Int) : (pstep p c).2.length ≤ 2 := by
  have := beginR_len c
  cases p with
  | nil => show (beginR c).length ≤ 2; omega
  | cons a t =>
    simp only [pstep]
    split
    · split <;> simp
    · simp; omega
theorem prun_len (l : List Int) (k : Nat) : (prun ([], []) (l.take k)).2.length ≤ 2 * k := by
  induction k with
  | zero => simp [prun]
  | succ k ih =>
    rcases Nat.lt_or_ge k l.length with h | h
    · rw [List.take_succ_eq_append_getElem h, prun_snoc]
      have := pstep_len (prun ([], []) (l.take k)).1 l[k]
      simp only [List.length_append]; omega
    · rw [List.take_of_length_le (by omega)]; rw [List.take_of_length_le h] at ih; omega
theorem pflush_len (p : List Int) : (pflush p).length ≤ 1 := by unfold pflush; split <;> simp
set_option maxHeartbeats 1000000 in
theorem all_any (w : World) (A : Option Addr) (cap : Nat) (l : List Int) (hC : Kd.C (Kd.int .u8) w A l.length l) (hr : ∀ x ∈ l, 0 ≤ x ∧ x ≤ 255) (hl : l.length ≤ 1000000000000) :
    Calls Tryd.prog 13 #[.slice A l.length cap] w fun e w' => ∃ v, e = .returned v ∧ Runes w w' v (pall l) ∧ Fr NoB w w' := by
  go_enter Tryd.func13, Tryd.ntmps13
  go_wp2
  go_loopw [4, 9] (fun v4 v9 wr => ∃ k : Nat, k ≤ l.length ∧ v9 = .int .i64 k ∧ Aside0 (Kd.R (Kd.int .i32) 21 wr (w.heap.size + 1) (fun _ => True) v4 (prun ([], []) (l.take k)).2) ∧
      DBlk wr w.heap.size 72 [] (prun ([], []) (l.take k)).1 ∧ Fr NoB w wr) (fun _ v9 _ => l.length - (intOf v9).toNat)
  case atStart =>
    refine ⟨0, Nat.zero_le _, rfl, ⟨Kd.R_nil _ _ _ _ _⟩, ⟨⟨0, 0, 0, 0, 0⟩, ⟨rfl, rfl⟩, ?_⟩, (Fr.refl _ _).alloc _⟩
    exact Blk.new w 72 _
  case round =>
    obtain ⟨k, hk, rfl, ⟨hv⟩, hd, hf⟩ := hrel
    have hlen := prun_len l k
    have hsz := hf.size
    have hlt0 := hd.lt
    by_cases hlt : k < l.length
    · obtain ⟨ad, e, hcell⟩ := C_at (Kd.C_below hC hf.below0) k hlt
      cases e
      have hrk := hr _ (List.getElem_mem hlt)
      have HT := hid (List.take_succ_eq_append_getElem hlt)
      have hpl := pstep_len (prun ([], []) (l.take k)).1 l[k]
      generalize hs : prun ([], []) (l.take k) = s at *
      have HS := hid hs
      clear hs
      go_wp2_with fail
      refine (feed_any wr w.heap.size 72 [] s.1 _ hrk.1 hrk.2 hd).mono ?_
      rintro e w1 ⟨v, rfl, hv1, hd1, hf1⟩
      have hv2 := R_fr hv hf1 (fun k hk => by rw [hk]; omega)
      obtain ⟨A1, c1, rfl, hcc, hC1⟩ := Kd.R_reads hv1
      have hsz1 := hf1.size
      clear hv hd hcell hC
      go_wp2_with (at_builtin; refine Kd.R_append_row (Value.int .i32) 0 (w.heap.size + 1) rfl (.tmp 13) (.tmp 15) 46 21 (.int .i32 0) 4 rfl Tryd.underlying46 info_i32 rfl (by decide) u4 s.2 (pstep s.1 l[k]).2 A1 _ c1 (fun _ => True) rfl rfl (fun _ _ => trivial) hv2 hC1 (Below.refl _ _) (by omega) (by omega) ?_; intro v1 w2 hv3 hb2 hg2 hat2)
      go_roundw
      case rel =>
        have hs2 := prun_snoc ([], []) (l.take k) l[k]
        rw [← HT.out, HS.out] at hs2
        refine ⟨k + 1, by omega, by go_num, ⟨?_⟩, ?_, ?_⟩
        · rw [hs2]; exact hv3
        · rw [hs2]; exact hd1.move (hb2.block _ (by omega))
        · exact (hf.then_ hf1 (fun k hk => .inr (by rw [hk]; exact Nat.le_refl _))).then_ (Fr.of_grown hg2) (fun k hk => .inr (Nat.le_of_succ_le (Kd.R_base hv2 k hk)))
      case measure => simp [intOf]; omega
    · obtain rfl : k = l.length := by omega
      rw [List.take_length] at hv hd
      have hpf := pflush_len (prun ([], []) l).1
      rw [List.take_length] at hlen
      go_wp2_with fail
      refine (end_any wr w.heap.size 72 [] _ hd).mono ?_
      rintro e w1 ⟨v, rfl, hv1, hd1, hf1⟩
      have hv2 := R_fr hv hf1 (fun k hk => by rw [hk]; omega)
      obtain ⟨A1, c1, rfl, hcc, hC1⟩ := Kd.R_reads hv1
      have hsz1 := hf1.size
      clear hv hd hC
      go_wp2_with (at_builtin; refine Kd.R_append_row (Value.int .i32) 0 (w.heap.size + 1) rfl (.tmp 18) (.tmp 19) 46 21 (.int .i32 0) 4 rfl Tryd.underlying46 info_i32 rfl (by decide) u4 _ (pflush (prun ([], []) l).1) A1 _ c1 (fun _ => True) rfl rfl (fun _ _ => trivial) hv2 hC1 (Below.refl _ _) (by omega) (by omega) ?_; intro v1 w2 hv3 hb2 hg2 hat2)
      go_ret
      exact ⟨v1, rfl, Kd.R_lower hv3 (Nat.le_succ _), (hf.then_ hf1 (fun k hk => .inr (by rw [hk]; exact Nat.le_refl _))).then_ (Fr.of_grown hg2) (fun k hk => .inr (Nat.le_of_succ_le (Kd.R_base hv2 k hk)))⟩
end Go.Proofs.YtnengimekcnfhaaDoor
