import Derived.Test.YtokgcgmhfpohoaaC1
import Derived.StillTailTactics
set_option linter.unusedSimpArgs false
set_option linter.unusedVariables false
namespace Go.Proofs.Ytokgcgmhfpohoaa
open Go.RowKit Go.Proofs.YtokgcgmhfpohoaaW.PrintWords
/-- A name holds: slot s is used, of that generation. -/
def Nm (l : List Slot) (s g : Int) : Prop := ∃ (k : Nat) (h : k < l.length), s = k ∧ l[k].used = true ∧ l[k].gen = g
set_option maxHeartbeats 2000000 in
theorem find_yes (w : World) (b g : Nat) (q : Int) (l : List Slot) (k : Nat) (hk : k < l.length) (gen : Int) (hu : l[k].used = true) (hg : l[k].gen = gen) (ht : Tab w b g q l) (hl : l.length ≤ 4096) :
    Calls Try.prog 41 #[.pointer (some ⟨b, 0, none⟩), .agg #[.int .i64 k, .int .i64 gen]] w fun e w' => e = .returned (.tuple #[.pointer (some ⟨g, k * 7, none⟩), .int .i64 0]) ∧ Fr NoB w w' := by
  have ht1 : ∀ o, Tab (w.alloc o) b g q l := fun o => ht.fr0 ((Fr.refl _ _).alloc o)
  have h0 := fun o => (ht1 o).head.cell 0 rfl
  have hc := fun o => slots_at (ht1 o).row k hk
  have hc0 := fun o => (hc o).1
  have hc6 := fun o => (hc o).2.2.2.2.2.2
  simp only [hu] at hc6
  simp only [hg] at hc0
  clear hc hu hg ht1
  have hk' : (k : Int) < l.length := by omega
  go_enter Try.func41, Try.ntmps41
  go_wp2
  repeat (go_quiet (fail); try go_wp2)
  go_ret2
  exact ⟨rfl, by repeat (first | with_reducible exact Fr.refl _ _ | with_reducible refine Fr.alloc ?_ _ | with_reducible refine Fr.drewN ?_ _)⟩
set_option maxHeartbeats 2000000 in
theorem find_no (w : World) (b g : Nat) (q : Int) (l : List Slot) (s gen : Int) (hn : ¬ Nm l s gen) (ht : Tab w b g q l) (hl : l.length ≤ 4096) :
    Calls Try.prog 41 #[.pointer (some ⟨b, 0, none⟩), .agg #[.int .i64 s, .int .i64 gen]] w fun e w' => e = .returned (.tuple #[.pointer none, .int .i64 9]) ∧ Fr NoB w w' := by
  have ht1 : ∀ o, Tab (w.alloc o) b g q l := fun o => ht.fr0 ((Fr.refl _ _).alloc o)
  have h0 := fun o => (ht1 o).head.cell 0 rfl
  rcases (show s < 0 ∨ (0 ≤ s ∧ (l.length : Int) ≤ s) ∨ (0 ≤ s ∧ s < l.length) from by omega) with h | ⟨h, h'⟩ | ⟨h, h'⟩
  · have hd : decide (s < 0) = true := by simpa using h
    go_enter Try.func41, Try.ntmps41
    go_wp2
    repeat (go_quiet (fail); try go_wp2)
    go_ret2
    exact ⟨rfl, by repeat (first | with_reducible exact Fr.refl _ _ | with_reducible refine Fr.alloc ?_ _ | with_reducible refine Fr.drewN ?_ _)⟩
  · have hd : decide (s < 0) = false := by simpa using h
    have hd2 : decide ((l.length : Int) ≤ s) = true := by simpa using h'
    go_enter Try.func41, Try.ntmps41
    go_wp2
    repeat (go_quiet (fail); try go_wp2)
    go_ret2
    exact ⟨rfl, by repeat (first | with_reducible exact Fr.refl _ _ | with_reducible refine Fr.alloc ?_ _ | with_reducible refine Fr.drewN ?_ _)⟩
  · obtain ⟨k, rfl⟩ := Int.eq_ofNat_of_zero_le h
    have hk : k < l.length := by omega
    have hc := fun o => slots_at (ht1 o).row k hk
    have hc0 := fun o => (hc o).1
    have hc6 := fun o => (hc o).2.2.2.2.2.2
    have hx : ¬ (l[k].used = true ∧ l[k].gen = gen) := fun hh => hn ⟨k, hk, rfl, hh.1, hh.2⟩
    generalize l[k] = x at *
    have hd : decide ((k : Int) < 0) = false := by simp
    clear hc ht1 hn
    cases hu : x.used
    · simp only [hu] at hc6
      clear hx hu
      go_enter Try.func41, Try.ntmps41
      go_wp2
      repeat (go_quiet (fail); try go_wp2)
      go_ret2
      exact ⟨rfl, by repeat (first | with_reducible exact Fr.refl _ _ | with_reducible refine Fr.alloc ?_ _ | with_reducible refine Fr.drewN ?_ _)⟩
    · simp only [hu] at hc6
      have hg : (x.gen != gen) = true := by simp; exact fun hh => hx ⟨hu, hh⟩
      clear hx hu
      go_enter Try.func41, Try.ntmps41
      go_wp2
      repeat (go_quiet (fail); try go_wp2)
      go_ret2
      exact ⟨rfl, by repeat (first | with_reducible exact Fr.refl _ _ | with_reducible refine Fr.alloc ?_ _ | with_reducible refine Fr.drewN ?_ _)⟩
/-- Has r all bits of q? -/
def hasR (r q : Int) : Prop := bits BinOp.and .i64 r q = q
set_option maxHeartbeats 2000000 in
theorem own_ok (w : World) (b g : Nat) (q : Int) (l : List Slot) (env rights : Int) (k : Nat) (hk : k < l.length) (gen : Int) (hu : l[k].used = true) (hg : l[k].gen = gen) (he : l[k].env = env) (hr : hasR l[k].rights rights) (ht : Tab w b g q l) (hl : l.length ≤ 4096) :
    Calls Try.prog 30 #[.pointer (some ⟨b, 0, none⟩), .int .i64 env, .agg #[.int .i64 k, .int .i64 gen], .int .i64 rights] w fun e w' => e = .returned (.tuple #[.pointer (some ⟨g, k * 7, none⟩), .int .i64 0]) ∧ Fr NoB w w' := by
  go_enter Try.func30, Try.ntmps30
  go_wp2_with fail
  refine (find_yes _ b g q l k hk gen hu hg (ht.fr0 ((Fr.refl _ _).alloc _)) hl).mono ?_
  rintro e w1 ⟨rfl, hf⟩
  have hF := ((Fr.refl NoB w).alloc _).trans hf
  obtain ⟨c0, c1, c2, c3, c4, c5, c6⟩ := slots_at (ht.fr0 hF).row k hk
  rw [he] at c1
  have hb : (bits BinOp.and .i64 l[k].rights rights != rights) = false := by simpa [hasR] using hr
  clear c0 c2 c3 c5 c6 he hu hg hr
  generalize l[k].rights = x at *
  go_wp2
  go_ret2
  exact ⟨rfl, hF⟩
set_option maxHeartbeats 2000000 in
theorem own_perm (w : World) (b g : Nat) (q : Int) (l : List Slot) (env rights : Int) (k : Nat) (hk : k < l.length) (gen : Int) (hu : l[k].used = true) (hg : l[k].gen = gen) (hx : ¬ (l[k].env = env ∧ hasR l[k].rights rights)) (ht : Tab w b g q l) (hl : l.length ≤ 4096) :
    Calls Try.prog 30 #[.pointer (some ⟨b, 0, none⟩), .int .i64 env, .agg #[.int .i64 k, .int .i64 gen], .int .i64 rights] w fun e w' => e = .returned (.tuple #[.pointer none, .int .i64 8]) ∧ Fr NoB w w' := by
  go_enter Try.func30, Try.ntmps30
  go_wp2_with fail
  refine (find_yes _ b g q l k hk gen hu hg (ht.fr0 ((Fr.refl _ _).alloc _)) hl).mono ?_
  rintro e w1 ⟨rfl, hf⟩
  have hF := ((Fr.refl NoB w).alloc _).trans hf
  obtain ⟨c0, c1, c2, c3, c4, c5, c6⟩ := slots_at (ht.fr0 hF).row k hk
  clear c0 c2 c3 c5 c6 hu hg
  generalize l[k] = x at *
  by_cases he : x.env = env
  · rw [he] at c1
    have hb : (bits BinOp.and .i64 x.rights rights != rights) = true := by simp; exact fun hh => hx ⟨he, hh⟩
    clear hx he
    go_wp2
    go_ret2
    exact ⟨rfl, hF⟩
  · have hb : (x.env != env) = true := by simpa using he
    clear hx he
    go_wp2
    go_ret2
    exact ⟨rfl, hF⟩
set_option maxHeartbeats 2000000 in
theorem own_stale (w : World) (b g : Nat) (q : Int) (l : List Slot) (env rights s gen : Int) (hn : ¬ Nm l s gen) (ht : Tab w b g q l) (hl : l.length ≤ 4096) :
    Calls Try.prog 30 #[.pointer (some ⟨b, 0, none⟩), .int .i64 env, .agg #[.int .i64 s, .int .i64 gen], .int .i64 rights] w fun e w' => e = .returned (.tuple #[.pointer none, .int .i64 9]) ∧ Fr NoB w w' := by
  go_enter Try.func30, Try.ntmps30
  go_wp2_with fail
  refine (find_no _ b g q l s gen hn (ht.fr0 ((Fr.refl _ _).alloc _)) hl).mono ?_
  rintro e w1 ⟨rfl, hf⟩
  have hF := ((Fr.refl NoB w).alloc _).trans hf
  go_wp2
  go_ret2
  exact ⟨rfl, hF⟩
end Go.Proofs.Ytokgcgmhfpohoaa
