import Derived.Test.YteaoafipjaffpaaS8
set_option linter.unusedSimpArgs false
set_option linter.unusedVariables false
namespace Go.Proofs.Yteaoafipjaffpaa
open Go.RowKit Go.Proofs.YteaoafipjaffpaaW.PrintWords
attribute [local go_sem] st_float
/-- The row at A reads as the whole numbers l. -/
structure IV (w : World) (A : Option Addr) (l : List Nat) : Prop where
  at_ : ∀ k (h : k < l.length), ∃ ad, A = some ad ∧ ad.block < w.heap.size ∧ w.cell? (ad.add k) = some (.int .i64 l[k])
theorem IV.fr {S : Nat → Prop} {w w' : World} {A : Option Addr} {l : List Nat} (h : IV w A l) (hf : Fr S w w') (hs : ∀ ad, A = some ad → ¬ S ad.block) : IV w' A l := by
  refine ⟨fun k hk => ?_⟩
  obtain ⟨ad, h1, h2, h3⟩ := h.at_ k hk
  refine ⟨ad, h1, Nat.lt_of_lt_of_le h2 hf.size, ?_⟩
  rw [← h3]
  exact World.cell?_of_block (by rw [block_add']; exact hf.block _ h2 (hs ad h1))
theorem IV.fr0 {w w' : World} {A : Option Addr} {l : List Nat} (h : IV w A l) (hf : Fr NoB w w') : IV w' A l := h.fr hf (fun _ _ h => h)
theorem add_at (b k : Nat) : (Addr.mk b 0 none).add k = ⟨b, k, none⟩ := by
  unfold Addr.add
  split
  · rename_i h; subst h; rfl
  · simp
theorem IV.of_blk {w : World} {b : Nat} {T : TypeId} {l : List Nat} (h : Blk w b T (l.flatMap iw)) : IV w (some ⟨b, 0, none⟩) l :=
  ⟨fun k hk => ⟨_, rfl, h.lt, by rw [add_at]; exact h.cell k (iw_get l k hk)⟩⟩
theorem IV.nil (w : World) (A : Option Addr) : IV w A [] := ⟨fun k hk => by simp at hk⟩
set_option maxHeartbeats 2000000 in
theorem rSame_any (w : World) (A B : Option Addr) (c d n m : Nat) (x y : List Nat) (hx : IV w A x) (hy : IV w B y) (hn : x.length = n) (hm : y.length = m) (hl : x.length ≤ 4096) (hl2 : y.length ≤ 4096) :
    Calls Try.prog 12 #[.slice A n c, .slice B m d] w fun e w' => e = .returned (.bool (decide (x = y))) ∧ Fr NoB w w' := by
  by_cases hnm : n = m
  · have hne : ((n : Int) != (m : Int)) = false := by simp [hnm]
    go_enter Try.func12, Try.ntmps12
    go_wp2
    go_loopw [5] (fun v5 wr => ∃ k : Nat, k ≤ n ∧ v5 = .int .i64 k ∧ x.take k = y.take k ∧ Fr NoB w wr) (fun v5 _ => n - (intOf v5).toNat)
    case atStart => exact ⟨0, Nat.zero_le _, rfl, rfl, Fr.refl _ _⟩
    case round =>
      obtain ⟨k, hk, rfl, he, hf⟩ := hrel
      by_cases hkn : k < n
      · obtain ⟨ad, rfl, hlt, hc⟩ := (hx.fr0 hf).at_ k (by omega)
        obtain ⟨ad2, rfl, hlt2, hc2⟩ := (hy.fr0 hf).at_ k (by omega)
        have hs : x[k]'(by omega) = y[k]'(by omega) → x.take (k + 1) = y.take (k + 1) := by
          intro h
          rw [List.take_succ_eq_append_getElem (by omega), List.take_succ_eq_append_getElem (by omega), he, h]
        have hd : ¬ x[k]'(by omega) = y[k]'(by omega) → ¬ x = y := by
          intro h h2
          subst h2
          exact h rfl
        have HS := hid hs
        have HD := hid hd
        have HE := hid he
        clear hs hd he
        generalize x[k]'(by omega) = p at *
        generalize y[k]'(by omega) = q at *
        have i1 : (0 : Int) ≤ (k : Int) := by omega
        have i2 : (k : Int) < (n : Int) := by omega
        have i3 : (k : Int) < (m : Int) := by omega
        by_cases hpq : p = q
        · have hpq' : ((p : Int) != (q : Int)) = false := by simp [hpq]
          have HPQ := hid hpq
          clear hpq
          go_wp2
          repeat (go_quiet (fail); try go_wp2)
          go_roundw
          case rel => exact ⟨k + 1, by omega, by go_num, HS.out HPQ.out, hf.drewN _⟩
          case measure => simp [intOf]; omega
        · have hpq' : ((p : Int) != (q : Int)) = true := by simp; omega
          have HPQ := hid hpq
          clear hpq
          go_wp2
          repeat (go_quiet (fail); try go_wp2)
          go_ret
          have hxy := HD.out HPQ.out
          exact ⟨by rw [decide_eq_false hxy]; rfl, hf.drewN _⟩
      · obtain rfl : k = n := by omega
        rw [List.take_of_length_le (by omega), List.take_of_length_le (by omega)] at he
        have HE := hid he
        clear he
        go_wp2
        go_ret
        exact ⟨by rw [decide_eq_true HE.out]; rfl, hf⟩
  · have hne : ((n : Int) != (m : Int)) = true := by simp; omega
    have hxy : ¬ x = y := by intro h; subst h; omega
    have HXY := hid hxy
    clear hxy hnm
    go_enter Try.func12, Try.ntmps12
    go_wp2
    go_ret
    exact ⟨by rw [decide_eq_false HXY.out]; rfl, Fr.refl _ _⟩
theorem try1 : FT.sharesL 10 [4607182418800017408, 4611686018427387904, 9221120237041090561] = [3, 7, 0] := by kernel_rfl
theorem try2 : FT.sharesL 9 [9218868437227405312, 4617315517961601024] = [9, 0] := by kernel_rfl
theorem try3 : FT.orderS 18442240474082181120 0 = -1 := by kernel_rfl
theorem shares_const (w : World) (n m : Nat) (l r : List Nat) (cs : Array Value) (hcs : cs = (l.flatMap fw).toArray) (hl : l.length = m) (h1 : 1 ≤ m) (h2 : m ≤ 64) (hn : n ≤ 512) (hW : FT.Ws l) (hr : FT.sharesL n l = r) (a : Nat) (ha : w.heap.size = a) (c : Nat) (k : Int) (hk : k = n) :
    Calls Try.prog 13 #[.int .i64 k, .slice (some ⟨a, 0, none⟩) m c] (w.alloc (.cells cs 26)) fun e w' => (∃ b, e = .returned (.slice (some ⟨b, 0, none⟩) m m) ∧ Blk w' b 3 (r.flatMap iw)) ∧ Fr NoB w w' := by
  subst hcs
  subst hl
  subst hr
  subst ha
  subst hk
  refine (Shares_any _ _ c l n (FV.of_blk (Blk.new w 26 (l.flatMap fw))) hW h1 h2 hn).mono ?_
  rintro e w1 ⟨⟨b, rfl, hb, hB⟩, hf⟩
  exact ⟨⟨b, rfl, hB⟩, ((Fr.refl NoB w).alloc _).trans hf⟩
theorem same_const (w : World) (b m : Nat) (r : List Nat) (cs : Array Value) (hcs : cs = (r.flatMap iw).toArray) (hl : r.length = m) (h2 : m ≤ 64) (hB : Blk w b 3 (r.flatMap iw)) (a : Nat) (ha : w.heap.size = a) (c d : Nat) :
    Calls Try.prog 12 #[.slice (some ⟨b, 0, none⟩) m c, .slice (some ⟨a, 0, none⟩) m d] (w.alloc (.cells cs 3)) fun e w' => e = .returned (.bool true) ∧ Fr NoB w w' := by
  subst hcs
  subst ha
  refine (rSame_any _ _ _ c d m m r r (IV.of_blk (hB.alloc _)) (IV.of_blk (Blk.new w 3 (r.flatMap iw))) hl hl (by omega) (by omega)).mono ?_
  rintro e w1 ⟨rfl, hf⟩
  exact ⟨by simp, ((Fr.refl NoB w).alloc _).trans hf⟩
set_option maxHeartbeats 2000000 in
theorem awake_any (w : World) : Calls Try.prog 8 #[] w fun e w' => e = .returned (.bool true) ∧ Fr NoB w w' := by
  go_enter Try.func8, Try.ntmps8
  go_wp2_with (go_at_call 20; refine (NaN_any _).mono ?_; rintro e w1 ⟨rfl, rfl⟩)
  refine (shares_const w 10 3 [4607182418800017408, 4611686018427387904, 9221120237041090561] [3, 7, 0] _ rfl rfl (by omega) (by omega) (by omega) (by intro b hb; simp at hb; omega) try1 _ rfl _ _ rfl).mono ?_
  rintro e w1 ⟨⟨b, rfl, hB⟩, hf⟩
  go_wp2_with fail
  refine (same_const w1 b 3 [3, 7, 0] _ rfl rfl (by omega) hB _ rfl _ _).mono ?_
  rintro e w2 ⟨rfl, hf2⟩
  go_wp2_with (go_at_call 21; refine (Inf_pos w2).mono ?_; rintro e w3 ⟨rfl, rfl⟩)
  refine (shares_const w2 9 2 [9218868437227405312, 4617315517961601024] [9, 0] _ rfl rfl (by omega) (by omega) (by omega) (by intro b hb; simp at hb; omega) try2 _ rfl _ _ rfl).mono ?_
  rintro e w3 ⟨⟨b2, rfl, hB2⟩, hf3⟩
  go_wp2_with fail
  refine (same_const w3 b2 2 [9, 0] _ rfl rfl (by omega) hB2 _ rfl _ _).mono ?_
  rintro e w4 ⟨rfl, hf4⟩
  go_wp2_with first | (go_at_call 21; refine (Inf_neg w4).mono ?_; rintro e w5 ⟨rfl, rfl⟩) | (go_at_call 16; refine (Order_any _ _ (by omega) (by omega) w4).mono ?_; rw [try3]; rintro e w5 ⟨rfl, rfl⟩)
  go_ret
  exact ⟨rfl, hf.trans (hf2.trans (hf3.trans hf4))⟩
end Go.Proofs.Yteaoafipjaffpaa
