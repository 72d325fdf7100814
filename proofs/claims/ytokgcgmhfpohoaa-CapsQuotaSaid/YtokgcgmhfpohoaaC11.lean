import Derived.Test.YtokgcgmhfpohoaaC10
import Derived.Test.YtokgcgmhfpohoaaK6
set_option linter.unusedSimpArgs false
set_option linter.unusedVariables false
namespace Go.Proofs.Ytokgcgmhfpohoaa
open Go.RowKit Go.Proofs.YtokgcgmhfpohoaaW.PrintWords
theorem New_any (w : World) (i : Int) (n : Nat) (q : Int) (hi : i = n) (h0 : 1 ≤ n) (h1 : n ≤ 4096) (hq : 1 ≤ q) :
    Calls Try.prog 8 #[.int .i64 i, .int .i64 q] w fun e w' => ∃ b g, e = .returned (.pointer (some ⟨b, 0, none⟩)) ∧ Tab w' b g q (fresh n) ∧ Fr NoB w w' ∧ w.heap.size ≤ g ∧ w.heap.size ≤ b := by
  subst hi
  refine (New_ok w n q h0 h1 hq).mono ?_
  rintro e w' ⟨rfl, h2, h3⟩
  exact ⟨_, _, rfl, h2, h3, Nat.le_refl _, by omega⟩
theorem Fr.fresh {w w1 w2 : World} {g : Nat} (h : Fr NoB w w1) (k : Fr (At g) w1 w2) (hg : w.heap.size ≤ g) : Fr NoB w w2 := h.then_ k (fun j hj => .inr (by have : j = g := hj; omega))
theorem box2 (w : World) (u v x y : Value) (T : TypeId) : ∃ W, W = ((w.alloc (.cells #[u, v] T)).setCell ⟨w.heap.size, 0, none⟩ x).setCell ⟨w.heap.size, 1, none⟩ y ∧ Blk W w.heap.size T [x, y] ∧ Fr NoB w W :=
  ⟨_, rfl, ((Blk.new w T [u, v]).set 0 x).set 1 y, Fr.setCell (Fr.setCell ((Fr.refl _ _).alloc _) (.inr (Nat.le_refl _)) _) (.inr (Nat.le_refl _)) _⟩
theorem share_one : shareT 4 (chain 4 1 5 7 []) 0 0 1 1 1 = ⟨chain 4 1 5 7 [1], 1, 1, 0⟩ := by kernel_rfl
set_option maxRecDepth 100000 in
set_option maxHeartbeats 4000000 in
theorem awake_any (w : World) : Calls Try.prog 7 #[] w fun e w' => e = .returned (.bool true) ∧ Fr NoB w w' := by
  go_enter Try.func7, Try.ntmps7
  go_wp2_with fail
  refine (New_any w 4 4 4 rfl (by omega) (by omega) (by omega)).mono ?_
  rintro e w1 ⟨b, g, rfl, ht1, hf1, hg, hb⟩
  have hm := Mint_any w1 b g 4 (fresh 4) 0 1 5 7 ht1 (by simp [fresh])
  rw [mint_chain (by omega) (by omega) (by omega) (by omega) (by omega) (by decide)] at hm
  go_wp2_with fail
  refine hm.mono ?_
  clear hm
  rintro e w2 ⟨rfl, ht2, hf2⟩
  unfold Res.val
  dsimp only at ht2 ⊢
  have hF2 : Fr NoB w w2 := hf1.fresh hf2 hg
  have hA := Blk.new w2 27 [.int .i64 0, .int .i64 1]
  have hs := Share_any (w2.alloc (.cells #[.int .i64 0, .int .i64 1] 27)) b g 4 (chain 4 1 5 7 []) 0 0 1 1 1 (ht2.fr0 ((Fr.refl _ _).alloc _)) (by rw [chain_len]; omega)
  rw [share_one] at hs
  have HG : Hid (g < w2.heap.size) := ht2.lt.2
  go_wp2_with fail
  refine hs.mono ?_
  clear hs
  rintro e w3 ⟨rfl, ht3, hf3⟩
  unfold Res.val
  dsimp only at ht3 ⊢
  have hA3 := hA.fr hf3 (fun h => by have h : w2.heap.size = g := h; have := HG.out; omega)
  have hF3 : Fr NoB w w3 := Fr.fresh (hF2.alloc _) hf3 hg
  have a0 := (Blk.alloc hA3 (.cells #[.int .i64 1, .int .i64 1] 27)).cell 0 rfl
  have a1 := (Blk.alloc hA3 (.cells #[.int .i64 1, .int .i64 1] 27)).cell 1 rfl
  have HG3 : Hid (g < w3.heap.size) := ht3.lt.2
  have hB := Blk.new w3 27 [.int .i64 1, .int .i64 1]
  go_wp2_with fail
  refine (Revoke_ok _ b g 4 (chain 4 1 5 7 [1]) 0 0 1 0 ⟨1, 0, 1, 5, 7, -1, true⟩ (ht3.fr0 ((Fr.refl _ _).alloc _)) (by rw [chain_len]; omega) chain_gok rfl (by kernel_rfl) (by kernel_rfl)).mono ?_
  rintro e w4 ⟨l4, n, hft, hn, rfl, ht4, hf4⟩
  obtain ⟨hr1, hr2, hr3⟩ := revoke_chain (by simp) hft
  rw [hr1] at hn
  simp only [List.length_singleton] at hn
  have hl4 : l4.length ≤ 4096 := by rw [hft.len, chain_len]; omega
  have hc4 : checkT l4 1 1 1 1 1 = (0, 9) := by
    have h := hr2 1 (by omega) (by simp)
    unfold checkT
    have e1 : findS l4 1 1 = none := h
    rw [e1]
  subst hn
  have hB4 := hB.fr hf4 (fun h => by have h : w3.heap.size = g := h; have := HG3.out; omega)
  have b0 := hB4.cell 0 rfl
  have b1 := hB4.cell 1 rfl
  have hF4 : Fr NoB w w4 := Fr.fresh (hF3.alloc _) hf4 hg
  have hk := Check_any w4 b g 4 l4 1 1 1 1 1 ht4 hl4
  rw [hc4] at hk
  clear a0 a1 hr1 hr2 hr3 hft hc4
  go_wp2_with fail
  refine hk.mono ?_
  clear hk
  rintro e w5 ⟨rfl, hf5⟩
  dsimp only
  go_wp2
  go_ret
  exact ⟨rfl, hF4.trans hf5⟩
end Go.Proofs.Ytokgcgmhfpohoaa
