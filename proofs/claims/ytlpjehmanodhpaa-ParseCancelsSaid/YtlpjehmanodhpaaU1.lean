import Derived.Test.YtlpjehmanodhpaaProg
import Derived.Test.YtlpjehmanodhpaaK2
set_option linter.unusedSimpArgs false
set_option linter.unusedVariables false
namespace Go.Proofs.Ytlpjehmanodhpaa
open Go.RowKit Go.Proofs.YtlpjehmanodhpaaW.PrintWords
set_option maxHeartbeats 400000 in
theorem anyByte_any (w : World) : Calls Try.prog 46 #[] w fun e w' => e = .returned (.agg #[.int .u8 128, .int .u8 191]) ∧ Fr NoB w w' := by
  go_enter Try.func46, Try.ntmps46
  go_wp2
  exact bodyPost_ret (v := .agg #[.int .u8 128, .int .u8 191]) (by simp [results, Try.results46, go_sem]) rfl ⟨rfl, (Fr.refl _ _).alloc _⟩

/-- A decoder: what it has of a rune, how many bytes waited, how many lack, what the next may be. -/
structure Dec where
  v : Int
  h : Int
  l : Int
  n0 : Int
  n1 : Int
def Dec.cells (d : Dec) : List Value := [.int .i32 d.v, .int .i64 d.h, .int .i64 d.l, .int .u8 d.n0, .int .u8 d.n1]
def lo (c : Int) : Int := if c = 224 then 160 else if c = 240 then 144 else 128
def hi (c : Int) : Int := if c = 237 then 159 else if c = 244 then 143 else 191
def firstD (d : Dec) (c : Int) : Dec :=
  if 194 ≤ c ∧ c ≤ 223 then ⟨c % 32, 1, 1, lo c, hi c⟩
  else if 224 ≤ c ∧ c ≤ 239 then ⟨c % 16, 1, 2, lo c, hi c⟩
  else if 240 ≤ c ∧ c ≤ 244 then ⟨c % 8, 1, 3, lo c, hi c⟩
  else ⟨d.v, d.h, d.l, 128, 191⟩
def firstOk (c : Int) : Bool := decide (194 ≤ c ∧ c ≤ 244)
set_option maxHeartbeats 1000000 in
theorem first_any (w : World) (b : Nat) (T : TypeId) (r : List Value) (d : Dec) (c : Int) (hb : Blk w b T (d.cells ++ r)) :
    Calls Try.prog 48 #[.pointer (some ⟨b, 0, none⟩), .int .u8 c] w fun e w' => e = .returned (.bool (firstOk c)) ∧ Blk w' b T ((firstD d c).cells ++ r) ∧ Fr (At b) w w' := by
  go_enter Try.func48, Try.ntmps48
  go_wp2_with fail
  refine (anyByte_any _).mono ?_
  rintro e w1 ⟨rfl, hf⟩
  have hb1 := hb.fr hf (fun h => h)
  have h0 := hb1.cell 0 rfl
  have h1 := hb1.cell 1 rfl
  have h2 := hb1.cell 2 rfl
  have h3 := hb1.cell 3 rfl
  have h4 := hb1.cell 4 rfl
  have f0 := hb1.frozen 0
  have f1 := hb1.frozen 1
  have f2 := hb1.frozen 2
  have f3 := hb1.frozen 3
  have f4 := hb1.frozen 4
  have hf' := hf.mono (S2 := At b) (fun _ h => h.elim)
  clear hf hb
  go_wp2
  all_goals
    clear f0 f1 f2 f3 f4 h0 h1 h2 h3 h4
    go_ret
    simp only [beq_iff_eq, beq_eq_false_iff_ne, ne_eq] at *
    refine ⟨?_, ?_, ?_⟩
    · first | (rw [show firstOk c = true from decide_eq_true (by omega)]; rfl) | (rw [show firstOk c = false from decide_eq_false (by omega)]; rfl)
    · apply Blk.eq
      · repeat (first | with_reducible exact hb1 | with_reducible apply Blk.set)
      · simp only [firstD, lo, hi]
        repeat (first | (rw [if_pos (by omega)]) | (rw [if_neg (by omega)]))
        simp [Dec.cells]
    · repeat (first | with_reducible exact hf' | with_reducible refine Fr.setAt ?_ _ _)
end Go.Proofs.Ytlpjehmanodhpaa
