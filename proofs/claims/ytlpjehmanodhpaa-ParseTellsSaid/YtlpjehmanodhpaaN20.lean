import Derived.Test.YtlpjehmanodhpaaN18
import Derived.Test.YtlpjehmanodhpaaK2
set_option linter.unusedSimpArgs false
set_option linter.unusedVariables false
namespace Go.Proofs.Ytlpjehmanodhpaa
open Go.RowKit Go.Proofs.YtlpjehmanodhpaaW.PrintWords
def awU : Sq := ⟨4, 0, 0, ByteArray.empty, [31, 4], 109, ByteArray.empty⟩
def awL : List Int := [27, 91, 51, 49, 59, 52, 109]
theorem aw_run : (run (Ab.zero, []) awL).2 = [awU] := by kernel_rfl
theorem Fa2.one {α β : Type} {R : α → β → Prop} {l : List α} {y : β} (h : Fa2 R l [y]) : ∃ x, l = [x] ∧ R x y := by
  cases h with
  | cons h1 h2 => cases h2; exact ⟨_, rfl, h1⟩
set_option maxHeartbeats 2000000 in
theorem awake_any (w : World) : Calls Try.prog 5 #[] w fun e w' => e = .returned (.bool true) ∧ Fr NoB w w' := by
  have hC0 := lit_C .u8 5 w awL (by decide)
  have hall := pall_any _ _ 7 awL hC0 (by decide) (by decide)
  rw [aw_run] at hall
  have HALL := hid hall
  have HF0 : Hid (Fr NoB w (w.alloc (.cells #[.int .u8 27, .int .u8 91, .int .u8 51, .int .u8 49, .int .u8 59, .int .u8 52, .int .u8 109] 5))) := (Fr.refl NoB w).alloc _
  clear hC0 hall
  go_enter Try.func5, Try.ntmps5
  go_wp2_with fail
  refine HALL.out.mono ?_
  rintro e' w1 ⟨v, outs, rfl, hr, ho, hf, _⟩
  obtain ⟨s, rfl, hs⟩ := Fa2.one ho
  obtain ⟨g, c, rfl, _, _⟩ := Row.ptr hr (by simp)
  have d0 := Row.cell hr SqV.len 0 (by simp) 0 (by omega) rfl
  have d1 := Row.cell hr SqV.len 0 (by simp) 1 (by omega) rfl
  have d2 := Row.cell hr SqV.len 0 (by simp) 2 (by omega) rfl
  have d3 := Row.cell hr SqV.len 0 (by simp) 3 (by omega) rfl
  have d4 := Row.cell hr SqV.len 0 (by simp) 4 (by omega) rfl
  have d5 := Row.cell hr SqV.len 0 (by simp) 5 (by omega) rfl
  have d6 := Row.cell hr SqV.len 0 (by simp) 6 (by omega) rfl
  simp only [List.getElem_cons_zero, Nat.zero_mul, Nat.zero_add] at d0 d1 d2 d3 d4 d5 d6
  have HS := hid hs
  have HF := hid (HF0.out.trans hf)
  clear hr ho hf hs
  go_wp2_with fail
  have hT : TellOk (w1.alloc (.cells #[.int .i64 31, .int .i64 4] 3)) ⟨4, 0, 0, ByteArray.empty, some ⟨w1.heap.size, 0, none⟩, 2, 2, 109, ByteArray.empty⟩ awU :=
    ⟨rfl, rfl, rfl, rfl, rfl, rfl, .inr ⟨w1.heap.size, [], rfl, rfl, ⟨Blk.new w1 3 _, rfl⟩, (show (2 : Nat) ≤ 2 from Nat.le_refl _), (show 2 ≤ maxLen by decide)⟩⟩
  refine (refSame_any _ s ⟨4, 0, 0, ByteArray.empty, some ⟨w1.heap.size, 0, none⟩, 2, 2, 109, ByteArray.empty⟩ awU (HS.out.fr ((Fr.refl NoB w1).alloc _) (fun _ _ h => h)) hT).mono ?_
  rintro e' w2 ⟨rfl, hf2⟩
  have HF2 := hid (((HF.out).alloc _).trans hf2)
  clear hf2 hT
  go_wp2
  go_ret
  exact ⟨rfl, HF2.out⟩
end Go.Proofs.Ytlpjehmanodhpaa

set_option linter.unusedSimpArgs false
set_option linter.unusedVariables false
namespace Go.Proofs.Ytlpjehmanodhpaa
open Go.RowKit Go.Proofs.YtlpjehmanodhpaaW.PrintWords
structure Good (u : Sq) : Prop where
  len : u.params.length ≤ 16
  inter : u.inter.size ≤ 2
  text : u.text.size ≤ 256
  rng : ∀ q ∈ u.params, -1 ≤ q ∧ q ≤ 9999
theorem good_pr (r : Int) : Good (prS r) := ⟨Nat.zero_le _, Nat.zero_le _, Nat.zero_le _, fun q hq => by cases hq⟩
theorem good_ex (r : Int) : Good (exS r) := ⟨Nat.zero_le _, Nat.zero_le _, Nat.zero_le _, fun q hq => by cases hq⟩
theorem good_os (t : ByteArray) (h : t.size ≤ 256) : Good (osS t) := ⟨Nat.zero_le _, Nat.zero_le _, h, fun q hq => by cases hq⟩
theorem good_map (l : List Int) : ∀ u ∈ l.map prS, Good u := fun u hu => by
  obtain ⟨r, _, rfl⟩ := List.mem_map.1 hu
  exact good_pr r
theorem ground_good (p : List Int) (c : Int) : ∀ u ∈ (groundA p c).2, Good u := by
  unfold groundA
  split
  · intro u hu
    rcases List.mem_append.1 hu with h | h
    · exact good_map _ u h
    · split at h
      · rw [List.mem_singleton.1 h]; exact good_ex c
      · cases h
  · exact good_map _
theorem feed_good {n : Nat} {a : Ab} (h : Inv n a) (c : Int) : ∀ u ∈ (a.feed c).2, Good u := by
  have hg := fun p => ground_good p c
  have ha : ∀ u ∈ (a.aside c).2, Good u := by
    unfold Ab.aside
    split
    · intro u hu; rw [List.mem_singleton.1 hu]; exact good_ex c
    · split
      · intro u hu; cases hu
      · exact hg _
  have he : ∀ (a' : Ab) (k : Int), a'.params.length ≤ 16 → a'.inter.size ≤ 2 → a'.text.size ≤ 256 → (∀ q ∈ a'.params, -1 ≤ q ∧ q ≤ 9999) → ∀ u ∈ (a'.end_ k c).2, Good u := fun a' k h1 h2 h3 h4 => by
    unfold Ab.end_
    split
    · intro u hu; cases hu
    · intro u hu; rw [List.mem_singleton.1 hu]; exact ⟨h1, h2, h3, h4⟩
  have hn : ∀ u ∈ ([] : List Sq), Good u := fun u hu => by cases hu
  unfold Ab.feed
  split
  · intro u hu
    rcases List.mem_append.1 hu with h5 | h5
    · split at h5
      · rw [List.mem_singleton.1 h5]; exact good_os _ h.text
      · cases h5
    · exact good_map _ u h5
  · split
    · exact hn
    · show ∀ u ∈ (a.core c).2.1, Good u
      unfold Ab.core
      split
      · exact hg _
      split
      · unfold Ab.esc Ab.inter_
        repeat' split
        all_goals first
          | exact ha
          | exact hn
          | skip
        exact he _ 3 (by rw [h.np (by omega)]; exact Nat.zero_le _) h.inter h.text h.rng
      split
      · unfold Ab.ctl Ab.inter_
        repeat' split
        all_goals first
          | exact ha
          | exact hn
          | skip
        exact he _ 4 (by rw [List.length_take]; omega) h.inter h.text (fun q hq => h.rng q (List.mem_of_mem_take hq))
      split
      · unfold Ab.txt
        repeat' split
        all_goals first
          | exact hn
          | (intro u hu; rw [List.mem_singleton.1 hu]; exact good_os _ h.text)
      · exact hn
theorem cancel_zero {n : Nat} {a : Ab} (h : Inv n a) (c : Int) (hc : c = 24 ∨ c = 26) : (a.feed c).1 = Ab.zero := by
  unfold Ab.feed
  rw [if_neg (by omega)]
  by_cases h0 : a.st = 0
  · rw [if_neg (fun h1 => h1.1 h0)]
    have hz := h.z h0
    have hcore : a.core c = ((a.ground c).1, (a.ground c).2, false) := by unfold Ab.core; rw [if_pos h0]
    show (stepA (a.core c)).1 = _
    rw [hcore, stepA_ok rfl]
    show { a with p := (groundA a.p c).1 } = _
    have hg : (groundA a.p c).1 = [] := by unfold groundA; rw [if_pos (.inl (by omega))]
    rw [hg, hz]
    rfl
  · rw [if_pos ⟨h0, hc⟩]
    show a.to 0 = _
    rw [to_eq h h0]
    rfl
end Go.Proofs.Ytlpjehmanodhpaa
