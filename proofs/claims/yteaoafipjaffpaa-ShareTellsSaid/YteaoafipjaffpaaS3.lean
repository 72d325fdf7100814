import Derived.Test.YteaoafipjaffpaaS2
import Derived.Test.YteaoafipjaffpaaF4
import Derived.Test.YteaoafipjaffpaaK5
set_option linter.unusedSimpArgs false
set_option linter.unusedVariables false
namespace Go.Proofs.Yteaoafipjaffpaa
open Go.RowKit Go.Proofs.YteaoafipjaffpaaW.PrintWords
theorem st_float (P : Program) (w : World) (a : Addr) (m : Mode) (k : FloatKind) (b : Nat) : (store a (.float k b) m).run P w = stored P w a (.float k b) m := run_store P w a _ m rfl
attribute [local go_sem] st_float
/-- The row at A reads as the words l. -/
structure FV (w : World) (A : Option Addr) (l : List Nat) : Prop where
  at_ : ∀ k (h : k < l.length), ∃ ad, A = some ad ∧ ad.block < w.heap.size ∧ w.cell? (ad.add k) = some (.float .f64 l[k])
theorem block_add' (a : Addr) (i : Nat) : (a.add i).block = a.block := by unfold Addr.add; split <;> rfl
theorem FV.fr {S : Nat → Prop} {w w' : World} {A : Option Addr} {l : List Nat} (h : FV w A l) (hf : Fr S w w') (hs : ∀ ad, A = some ad → ¬ S ad.block) : FV w' A l := by
  refine ⟨fun k hk => ?_⟩
  obtain ⟨ad, h1, h2, h3⟩ := h.at_ k hk
  refine ⟨ad, h1, Nat.lt_of_lt_of_le h2 hf.size, ?_⟩
  rw [← h3]
  exact World.cell?_of_block (by rw [block_add']; exact hf.block _ h2 (hs ad h1))
theorem FV.fr0 {w w' : World} {A : Option Addr} {l : List Nat} (h : FV w A l) (hf : Fr NoB w w') : FV w' A l := h.fr hf (fun _ _ h => h)
def fw (x : Nat) : List Value := [.float .f64 x]
theorem fw_len (x : Nat) : (fw x).length = 1 := rfl
theorem fw_get (l : List Nat) (k : Nat) (h : k < l.length) : (l.flatMap fw)[k]? = some (.float .f64 l[k]) := by
  have := flat_get fw_len l k 0 h (by omega)
  rw [Nat.mul_one, Nat.add_zero] at this
  rw [this]; rfl
theorem fw_set (l : List Nat) (k : Nat) (h : k < l.length) (x : Nat) : (l.flatMap fw).set k (.float .f64 x) = (l.set k x).flatMap fw := by
  have := flat_set fw_len l k 0 h (by omega) (.float .f64 x) x rfl
  rw [Nat.mul_one, Nat.add_zero] at this
  exact this
theorem FV.of_blk {w : World} {b : Nat} {T : TypeId} {l : List Nat} (h : Blk w b T (l.flatMap fw)) : FV w (some ⟨b, 0, none⟩) l := by
  refine ⟨fun k hk => ⟨_, rfl, h.lt, ?_⟩⟩
  have e : (Addr.mk b 0 none).add k = ⟨b, k, none⟩ := by
    unfold Addr.add
    split
    · rename_i h; subst h; rfl
    · simp
  rw [e]
  exact h.cell k (fw_get l k hk)
theorem info_f64 : (Try.prog.info? 26).map (fun i => (i.zero, i.size, i.bytes)) = some (some (.float .f64 0), 1, 8) := by kernel_rfl
theorem make_f64 (m : Nat) (hm : m ≤ 4096) (w : World) : (Instr.makeSlice 22 (.int .i64 m) (.int .i64 m)).run Try.prog w = .ok (.slice (some ⟨w.heap.size, 0, none⟩) m m) (w.alloc (.cells ((List.replicate m 0).flatMap fw).toArray 26)) :=
  run_make_flat fw_len (by omega) 22 26 0 (.float .f64 0) 8 Try.underlying22 info_f64 rfl m (by omega) (by omega) w
/-- A row that is filled with f, up to k. -/
def fillL (f : Nat → Nat) (w : List Nat) (k : Nat) : List Nat := (w.take k).map f ++ List.replicate (w.length - k) 0
theorem fillL_len (f : Nat → Nat) (w : List Nat) (k : Nat) (h : k ≤ w.length) : (fillL f w k).length = w.length := by simp [fillL]; omega
theorem fillL_zero (f : Nat → Nat) (w : List Nat) : fillL f w 0 = List.replicate w.length 0 := by simp [fillL]
theorem fillL_all (f : Nat → Nat) (w : List Nat) : fillL f w w.length = w.map f := by simp [fillL]
theorem fillL_set (f : Nat → Nat) (w : List Nat) (k : Nat) (h : k < w.length) : (fillL f w k).set k (f w[k]) = fillL f w (k + 1) := by
  unfold fillL
  have e : (List.map f (w.take k)).length = k := by simp; omega
  rw [List.set_append_right _ _ (by omega), e, Nat.sub_self, List.take_succ_eq_append_getElem h, List.map_append, List.append_assoc, show w.length - k = w.length - (k + 1) + 1 by omega, List.replicate_succ]
  rfl
theorem fillL_skip (f : Nat → Nat) (w : List Nat) (k : Nat) (h : k < w.length) (h0 : f w[k] = 0) : fillL f w k = fillL f w (k + 1) := by
  rw [← fillL_set f w k h, h0]
  apply List.ext_getElem?
  intro i
  rw [List.getElem?_set]
  split
  · rename_i hi
    subst hi
    rw [if_pos (by rw [fillL_len f w k (by omega)]; exact h)]
    unfold fillL
    rw [List.getElem?_append_right (by rw [List.length_map, List.length_take]; omega), List.getElem?_replicate, List.length_map, List.length_take, Nat.min_eq_left (by omega), Nat.sub_self, if_pos (by omega)]
  · rfl
/-- A function that a call hands in, and that is asked of each word. -/
def Asks (f : FuncId) (p : Nat → Bool) : Prop := ∀ b w, Calls Try.prog f #[.float .f64 b] w fun e w' => e = .returned (.bool (p b)) ∧ w = w'
set_option maxHeartbeats 2000000 in
theorem ix_any (w : World) (A : Option Addr) (c : Nat) (l : List Nat) (hV : FV w A l) (hl : l.length ≤ 4096) :
    Calls Try.prog 37 #[.slice A l.length c, .func (.func 23) #[] #[]] w fun e w' => (∃ k : Int, e = .returned (.int .i64 k) ∧ decide (k ≥ 0) = l.any FT.isI) ∧ Fr NoB w w' := by
  go_enter Try.func37, Try.ntmps37
  go_wp2
  go_loopw [8] (fun v8 wr => ∃ k : Nat, k ≤ l.length ∧ v8 = .int .i64 k ∧ (l.take k).any FT.isI = false ∧ Fr NoB w wr) (fun v8 _ => l.length - (intOf v8).toNat)
  case atStart => exact ⟨0, Nat.zero_le _, rfl, rfl, Fr.refl _ _⟩
  case round =>
    obtain ⟨k, hk, rfl, hp0, hf⟩ := hrel
    by_cases hkm : k < l.length
    · obtain ⟨ad, rfl, hlt, hc⟩ := (hV.fr0 hf).at_ k hkm
      have hs : (l.take (k + 1)).any FT.isI = FT.isI l[k] := by rw [List.take_succ_eq_append_getElem hkm, List.any_append, hp0]; simp
      have hm : FT.isI l[k] = true → l.any FT.isI = true := fun h => List.any_eq_true.2 ⟨_, List.getElem_mem hkm, h⟩
      generalize l[k] = x at *
      have HS := hid hs
      have HM := hid hm
      have HP := hid hp0
      clear hs hm hp0
      go_wp2_with fail
      refine (isInf_any x wr).mono ?_
      rintro e w1 ⟨rfl, rfl⟩
      cases hx : FT.isI x
      · have HX := hid hx
        clear hx
        go_wp2
        go_roundw
        case rel => exact ⟨k + 1, by omega, by go_num, HS.out.trans HX.out, hf⟩
        case measure => simp [intOf]; omega
      · have HX := hid hx
        clear hx
        go_wp2
        go_ret
        exact ⟨⟨k, rfl, by rw [HM.out HX.out]; simp⟩, hf⟩
    · obtain rfl : k = l.length := by omega
      rw [List.take_length] at hp0
      have HP := hid hp0
      clear hp0
      go_wp2
      go_ret
      exact ⟨⟨-1, rfl, by rw [HP.out]; rfl⟩, hf⟩
theorem cf_any (w : World) (A : Option Addr) (c : Nat) (l : List Nat) (hV : FV w A l) (hl : l.length ≤ 4096) :
    Calls Try.prog 22 #[.slice A l.length c, .func (.func 23) #[] #[]] w fun e w' => e = .returned (.bool (l.any FT.isI)) ∧ Fr NoB w w' := by
  go_enter Try.func22, Try.ntmps22
  go_wp2_with (go_at_call 37; refine (ix_any w A c l hV hl).mono ?_; rintro e w1 ⟨⟨k, rfl, hk⟩, hf⟩)
  go_ret
  exact ⟨rfl, hf⟩
set_option maxHeartbeats 2000000 in
theorem ones_any (f : FuncId) (hff : f = 23 ∨ f = 25) (p : Nat → Bool) (hp : Asks f p) (w : World) (A : Option Addr) (c : Nat) (l : List Nat) (hV : FV w A l) (hl : l.length ≤ 4096) :
    Calls Try.prog 24 #[.slice A l.length c, .func (.func f) #[] #[]] w fun e w' => e = .returned (.slice (some ⟨w.heap.size, 0, none⟩) l.length l.length) ∧ Blk w' w.heap.size 26 ((FT.onesL p l).flatMap fw) ∧ Fr NoB w w' := by
  rcases hff with rfl | rfl
  all_goals
    have hmk := make_f64 l.length hl
    generalize hb : w.heap.size = b at *
    have hq : ∀ x, (fun b => if p b then FT.ONE else 0) x = if p x then FT.ONE else 0 := fun _ => rfl
    have hend : FT.onesL p l = fillL (fun b => if p b then FT.ONE else 0) l l.length := (fillL_all _ l).symm
    have HEND := hid hend
    clear hend
    go_enter Try.func24, Try.ntmps24
    go_wp2
    go_loopw [6, 7, 13] (fun v6 v7 v13 wr => ∃ k : Nat, k ≤ l.length ∧ v13 = .int .i64 k ∧ (∃ x, v6 = x) ∧ (∃ x, v7 = x) ∧ Blk wr b 26 ((fillL (fun b => if p b then FT.ONE else 0) l k).flatMap fw) ∧ Fr NoB w wr) (fun _ _ v13 _ => l.length - (intOf v13).toNat)
    case atStart =>
      refine ⟨0, Nat.zero_le _, rfl, ⟨_, rfl⟩, ⟨_, rfl⟩, ?_, (Fr.refl _ _).alloc _⟩
      rw [fillL_zero, ← hb]
      exact Blk.new _ _ _
    case round =>
      obtain ⟨k, hk, rfl, ⟨v6, rfl⟩, ⟨v7, rfl⟩, hB, hf⟩ := hrel
      by_cases hkm : k < l.length
      · obtain ⟨ad, rfl, hlt, hc⟩ := (hV.fr0 hf).at_ k hkm
        have hset := fillL_set (fun b => if p b then FT.ONE else 0) l k hkm
        have hskip := fillL_skip (fun b => if p b then FT.ONE else 0) l k hkm
        have hlen := fillL_len (fun b => if p b then FT.ONE else 0) l k hk
        generalize l[k] = x at *
        generalize h2 : fillL (fun b => if p b then FT.ONE else 0) l (k + 1) = l2 at *
        generalize fillL (fun b => if p b then FT.ONE else 0) l k = l1 at *
        have HSET := hid hset
        have HSKIP := hid hskip
        have HB := hid hb
        have H2 := hid h2
        clear hset hskip hb h2
        have hcell := hB.cell k (fw_get l1 k (by omega))
        have hfz := hB.frozen k
        have hwset := (hB.set k (.float .f64 FT.ONE)).eq (fw_set l1 k (by omega) FT.ONE)
        have HB1 := hid hB
        clear hB
        go_wp2_with fail
        refine (hp x wr).mono ?_
        rintro e w1 ⟨rfl, rfl⟩
        cases hx : p x
        · have HX := hid hx
          clear hx
          go_wp2
          go_roundw
          case rel => exact ⟨k + 1, by omega, by go_num, ⟨_, rfl⟩, ⟨_, rfl⟩, by rw [H2.out, ← HSKIP.out (by rw [HX.out]; rfl)]; exact HB1.out, hf⟩
          case measure => simp [intOf]; omega
        · have HX := hid hx
          clear hx
          go_wp2
          go_roundw
          case rel => exact ⟨k + 1, by omega, by go_num, ⟨_, rfl⟩, ⟨_, rfl⟩, by rw [H2.out, ← HSET.out, HX.out]; exact hwset, hf.setCell (.inr (by simp [HB.out])) _⟩
          case measure => simp [intOf]; omega
      · obtain rfl : k = l.length := by omega
        go_wp2
        go_ret
        exact ⟨rfl, by rw [HEND.out]; exact hB, hf⟩
end Go.Proofs.Yteaoafipjaffpaa
