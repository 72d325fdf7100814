import Derived.Test.YtgjgmaeickhhfaaL1
import Derived.Test.YtgjgmaeickhhfaaK10
import Derived.Deep.LoopGhost
set_option linter.unusedSimpArgs false
set_option linter.unusedVariables false
namespace Go.Proofs.Ytgjgmaeickhhfaa
open Go.RowKit Go.Proofs.YtgjgmaeickhhfaaW.PrintWords
/-- The timers at block g, with room for more. -/
def TV (w : World) (g : Nat) (xs : List Tm) (rest : List Value) (c : Nat) : Prop := Vec Tm.cells 3 w g 33 xs rest c
theorem TV.cells {w : World} {g : Nat} {xs : List Tm} {rest : List Value} {c : Nat} (h : TV w g xs rest c) (k : Nat) (hk : k < xs.length) :
    w.cell? ⟨g, k * 3, none⟩ = some (.int .i64 xs[k].env) ∧ w.cell? ⟨g, k * 3 + 1, none⟩ = some (.int .i64 xs[k].id) ∧ w.cell? ⟨g, k * 3 + 2, none⟩ = some (.int .i64 xs[k].at_) :=
  ⟨Vec.cell h Tm.cells_len k hk 0 (by omega) rfl, Vec.cell h Tm.cells_len k hk 1 (by omega) rfl, Vec.cell h Tm.cells_len k hk 2 (by omega) rfl⟩
/-- A slice of timers: nil, or the timers at a block of its own. -/
def SV (w : World) (v : Value) (xs : List Tm) : Prop :=
  (v = .slice none 0 0 ∧ xs = []) ∨ ∃ g c rest, v = .slice (some ⟨g, 0, none⟩) xs.length c ∧ TV w g xs rest c ∧ xs.length ≤ c ∧ c ≤ maxLen
theorem SV.fr {S : Nat → Prop} {w w1 : World} {v : Value} {xs : List Tm} (h : SV w v xs) (hf : Fr S w w1) (hs : ∀ k, OwnB v k → ¬ S k) : SV w1 v xs := by
  rcases h with h | ⟨g, c, rest, rfl, h1, h2, h3⟩
  · exact .inl h
  · exact .inr ⟨g, c, rest, rfl, Vec.fr h1 hf (hs g rfl), h2, h3⟩
/-- What a function value answers, in whatever world that comes of w by writes to S. -/
def Pred (fn : Nat) (lb : Array Value) (p : Tm → Bool) (S : Nat → Prop) (w : World) : Prop :=
  (∀ args w, (callFunc fn args).run Try.prog w = .ok (.enter fn args) w) ∧ ∀ (W : World) (x : Tm), Fr S w W → Calls Try.prog fn (#[x.v] ++ lb) W fun e w' => e = .returned (.bool (p x)) ∧ Fr NoB W w'
theorem Pred.fr {fn : Nat} {lb : Array Value} {p : Tm → Bool} {S : Nat → Prop} {w w1 : World} (h : Pred fn lb p S w) (hf : Fr S w w1) : Pred fn lb p S w1 := ⟨h.1, fun W x hW => h.2 W x (hf.trans hW)⟩
theorem Pred.mono {fn : Nat} {lb : Array Value} {p : Tm → Bool} {S S2 : Nat → Prop} {w : World} (h : Pred fn lb p S w) (hs : ∀ k, S2 k → S k) : Pred fn lb p S2 w := ⟨h.1, fun W x hW => h.2 W x (hW.mono hs)⟩
def ixI (p : Tm → Bool) (xs : List Tm) : Int := if xs.any p then (xs.findIdx p : Int) else -1
theorem ixI_hit {p : Tm → Bool} {xs : List Tm} {k : Nat} (hk : k < xs.length) (h0 : (xs.take k).any p = false) (h : p xs[k] = true) : ixI p xs = k := by
  have h1 : xs.any p = true := List.any_eq_true.2 ⟨_, List.getElem_mem hk, h⟩
  have h2 : xs.findIdx p = k := by
    rw [List.findIdx_eq hk]
    refine ⟨h, fun j hj => ?_⟩
    have h3 := List.any_eq_false.1 h0 xs[j] (by
      rw [List.mem_take_iff_getElem]
      exact ⟨j, by omega, rfl⟩)
    simpa using h3
  unfold ixI
  rw [if_pos h1, h2]
theorem ixI_none {p : Tm → Bool} {xs : List Tm} (h0 : xs.any p = false) : ixI p xs = -1 := by
  unfold ixI
  rw [h0]
  rfl
set_option maxHeartbeats 2000000 in
theorem ix_any (w : World) (v : Value) (fn : Nat) (lb : Array Value) (p : Tm → Bool) (S : Nat → Prop) (xs : List Tm) (hV : SV w v xs) (hP : Pred fn lb p S w) (hl : xs.length ≤ 4096) :
    Calls Try.prog 30 #[v, .func (.func fn) #[] lb] w fun e' w' => e' = .returned (.int .i64 (ixI p xs)) ∧ Fr NoB w w' := by
  obtain ⟨eg, hP⟩ := hP
  rcases hV with ⟨rfl, rfl⟩ | ⟨g, c, rest, rfl, hV, hxc, hcm⟩
  · go_enter Try.func30, Try.ntmps30
    go_wp2
    go_loopw [8] (fun v8 wr => v8 = .int .i64 0 ∧ Fr NoB w wr) (fun v8 _ => 0)
    case atStart => exact ⟨rfl, Fr.refl _ _⟩
    case round =>
      obtain ⟨rfl, hf⟩ := hrel
      go_wp2
      go_ret
      exact ⟨rfl, hf⟩
  · go_enter Try.func30, Try.ntmps30
    go_wp2
    go_loopw [8] (fun v8 wr => ∃ k : Nat, k ≤ xs.length ∧ v8 = .int .i64 k ∧ (xs.take k).any p = false ∧ Fr NoB w wr) (fun v8 _ => xs.length - (intOf v8).toNat)
    case atStart => exact ⟨0, Nat.zero_le _, rfl, rfl, Fr.refl _ _⟩
    case round =>
      obtain ⟨k, hk, rfl, hp0, hf⟩ := hrel
      by_cases hkm : k < xs.length
      · obtain ⟨c0, c1, c2⟩ := TV.cells (Vec.fr hV hf (fun h => h)) k hkm
        have hhit := ixI_hit (p := p) hkm hp0
        have hmiss : (xs.take (k + 1)).any p = p xs[k] := by rw [List.take_succ_eq_append_getElem hkm, List.any_append, hp0]; simp
        have hcall := hP wr xs[k] (hf.mono (fun _ h => h.elim))
        have HPd := hid hP
        clear hP
        unfold Tm.v at hcall
        generalize xs[k] = x at *
        have HP := hid hp0
        have HH := hid hhit
        have HM := hid hmiss
        have HC := hid hcall
        clear hp0 hhit hmiss hcall
        go_wp2_with fail
        refine (HC.out).mono ?_
        rintro e' w1 ⟨rfl, hf1⟩
        cases hx : p x
        · have HX := hid hx
          clear hx
          go_wp2
          go_roundw
          case rel => exact ⟨k + 1, by omega, by go_num, HM.out.trans HX.out, hf.trans hf1⟩
          case measure => simp [intOf]; omega
        · have HX := hid hx
          clear hx
          go_wp2
          go_ret
          exact ⟨by rw [HH.out HX.out]; rfl, hf.trans hf1⟩
      · obtain rfl : k = xs.length := by omega
        rw [List.take_length] at hp0
        have HP := hid (ixI_none hp0)
        clear hp0
        go_wp2
        go_ret
        exact ⟨by rw [HP.out]; rfl, hf⟩
theorem ixI_nonneg (p : Tm → Bool) (xs : List Tm) : decide (0 ≤ ixI p xs) = xs.any p := by
  unfold ixI
  cases h : xs.any p <;> simp <;> omega
theorem cf_any (w : World) (v : Value) (fn : Nat) (lb : Array Value) (p : Tm → Bool) (S : Nat → Prop) (xs : List Tm) (hV : SV w v xs) (hP : Pred fn lb p S w) (hl : xs.length ≤ 4096) :
    Calls Try.prog 20 #[v, .func (.func fn) #[] lb] w fun e' w' => e' = .returned (.bool (xs.any p)) ∧ Fr NoB w w' := by
  have HI := hid (ixI_nonneg p xs)
  have HV := hid hV
  have HP := hid hP
  clear hV hP
  go_enter Try.func20, Try.ntmps20
  go_wp2_with (go_at_call 30; refine (ix_any w v fn lb p S xs HV.out HP.out hl).mono ?_; rintro e' w1 ⟨rfl, hf1⟩)
  go_ret
  exact ⟨by rw [← HI.out]; rfl, hf1⟩
end Go.Proofs.Ytgjgmaeickhhfaa
