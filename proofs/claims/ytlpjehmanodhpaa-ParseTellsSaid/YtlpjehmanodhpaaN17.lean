import Derived.Test.YtlpjehmanodhpaaN15
import Derived.Test.YtlpjehmanodhpaaU5
set_option linter.unusedSimpArgs false
set_option linter.unusedVariables false
namespace Go.Proofs.Ytlpjehmanodhpaa
open Go.RowKit Go.Proofs.YtlpjehmanodhpaaW.PrintWords
theorem add_k (g k : Nat) : (⟨g, 0, none⟩ : Addr).add k = ⟨g, k, none⟩ := by unfold Addr.add; split <;> simp_all
/-- Parameters, as a row of numbers that is read. -/
def PC (w : World) (A : Option Addr) (ps : List Int) : Prop := ∀ k (h : k < ps.length), ∃ ad, A = some ad ∧ w.cell? (ad.add k) = some (.int .i64 ps[k])
theorem VP.pc {w : World} {q : SqV} {ps : List Int} (h : VP w q ps) : PC w q.pA ps := by
  intro k hk
  rcases h with ⟨_, _, _, rfl⟩ | ⟨g, rest, h1, h2, h3, h4, h5⟩
  · simp at hk
  · refine ⟨⟨g, 0, none⟩, h1, ?_⟩
    have h6 := h3.cell iC_len k hk 0 (by omega) (u := .int .i64 ps[k]) rfl
    rw [add_k]
    rw [Nat.mul_one, Nat.add_zero] at h6
    exact h6
theorem cell_to {S : Nat → Prop} {w w1 : World} {a : Addr} {v : Value} (h : w.cell? a = some v) (hf : Fr S w w1) (hs : ¬ S a.block) : w1.cell? a = some v :=
  (World.cell?_of_block (w' := w1) (hf.block a.block (cell_lt h) hs)).trans h
theorem PC.fr {w w1 : World} {A : Option Addr} {ps : List Int} (h : PC w A ps) (hf : Fr NoB w w1) : PC w1 A ps := fun k hk => by
  obtain ⟨ad, hA, hc⟩ := h k hk
  exact ⟨ad, hA, cell_to hc hf (fun h => h)⟩
set_option maxHeartbeats 2000000 in
theorem refSame_any (w : World) (s t : SqV) (u : Sq) (hs : TellOk w s u) (ht : TellOk w t u) :
    Calls Try.prog 12 #[s.v, t.v] w fun e w' => e = .returned (.bool true) ∧ Fr NoB w w' := by
  obtain ⟨n1, nle, nmx⟩ := hs.ps.cap
  have hmax : s.pn ≤ 9223372036854775807 := by rw [n1]; exact Nat.le_trans nle nmx
  clear nle nmx
  obtain ⟨m1, _, _⟩ := ht.ps.cap
  have HS := hid hs.ps.pc
  have HT := hid ht.ps.pc
  obtain ⟨h1, h2, h3, h4, h5, h6, _⟩ := hs
  obtain ⟨g1, g2, g3, g4, g5, g6, _⟩ := ht
  obtain ⟨k, r, pr, i, pA, pn, pc, f, tx⟩ := s
  obtain ⟨k', r', pr', i', pB, pn', pd, f', tx'⟩ := t
  obtain ⟨uk, ur, up, ui, ups, uf, ut⟩ := u
  simp only at hmax h1 h2 h3 h4 h5 h6 g1 g2 g3 g4 g5 g6 n1 m1 HS HT
  obtain ⟨n, hn⟩ : ∃ n, n = ups.length := ⟨_, rfl⟩
  rw [← hn] at n1 m1
  subst h1 h2 h3 h4 h5 h6 n1 m1
  subst g1 g2 g3 g4 g5 g6
  have HN := hid hn
  clear hn
  unfold SqV.v
  simp only
  have hd : Fr NoB w ((w.alloc (.cells #[.int .i64 k', .int .i32 r', .int .u8 pr', .string i', .slice pA pn' pc, .int .u8 f', .string tx'] 30)).alloc (.cells #[.int .i64 k', .int .i32 r', .int .u8 pr', .string i', .slice pB pn' pd, .int .u8 f', .string tx'] 30)) := ((Fr.refl NoB w).alloc _).alloc _
  have HD := hid hd
  clear hd
  go_enter Try.func12, Try.ntmps12
  go_wp2
  go_loopw [5] (fun v5 wr => ∃ (k : Nat), k ≤ pn' ∧ v5 = .int .i64 k ∧ Hid (Fr NoB ((w.alloc (.cells #[.int .i64 k', .int .i32 r', .int .u8 pr', .string i', .slice pA pn' pc, .int .u8 f', .string tx'] 30)).alloc (.cells #[.int .i64 k', .int .i32 r', .int .u8 pr', .string i', .slice pB pn' pd, .int .u8 f', .string tx'] 30)) wr)) (fun v5 _ => pn' - (intOf v5).toNat)
  case atStart => exact ⟨0, Nat.zero_le _, rfl, Fr.refl _ _⟩
  case round =>
    obtain ⟨j, hj, rfl, HW⟩ := hrel
    have b1 := (Blk.new w 30 [.int .i64 k', .int .i32 r', .int .u8 pr', .string i', .slice pA pn' pc, .int .u8 f', .string tx']).alloc (.cells #[.int .i64 k', .int .i32 r', .int .u8 pr', .string i', .slice pB pn' pd, .int .u8 f', .string tx'] 30)
    have b2 := Blk.new (w.alloc (.cells #[.int .i64 k', .int .i32 r', .int .u8 pr', .string i', .slice pA pn' pc, .int .u8 f', .string tx'] 30)) 30 [.int .i64 k', .int .i32 r', .int .u8 pr', .string i', .slice pB pn' pd, .int .u8 f', .string tx']
    rw [World.size_alloc] at b2
    have d1 := Blk.cell (Blk.fr b1 HW.out (fun h => h)) 4 rfl
    have d2 := Blk.cell (Blk.fr b2 HW.out (fun h => h)) 4 rfl
    by_cases hlt : j < pn'
    · obtain ⟨ad, e, h0⟩ := (HS.out.fr (HD.out.trans HW.out)) j (by rw [← HN.out]; exact hlt)
      obtain ⟨bd, e', h1⟩ := (HT.out.fr (HD.out.trans HW.out)) j (by rw [← HN.out]; exact hlt)
      generalize ups[j]'(by rw [← HN.out]; exact hlt) = y at *
      subst e e'
      clear b1 b2
      go_wp2
      go_quiet (fail)
      go_wp2
      go_roundw
      case rel => exact ⟨j + 1, by omega, by go_num, HW.out.drewN _⟩
      case measure => simp [intOf]; omega
    · obtain rfl : j = pn' := by omega
      clear b1 b2
      go_wp2
      go_ret
      exact ⟨rfl, HD.out.trans HW.out⟩
end Go.Proofs.Ytlpjehmanodhpaa
