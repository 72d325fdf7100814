import Derived.Test.YtokgcgmhfpohoaaC6
import Derived.Test.YtokgcgmhfpohoaaC7
set_option linter.unusedSimpArgs false
set_option linter.unusedVariables false
namespace Go.Proofs.Ytokgcgmhfpohoaa
open Go.RowKit Go.Proofs.YtokgcgmhfpohoaaW.PrintWords
theorem cntU_mono : ∀ (l l' : List Slot) (hl : l'.length = l.length) (h : ∀ k (hk : k < l.length), (l'[k]'(by rw [hl]; exact hk)).used = true → l[k].used = true), cntU l' ≤ cntU l := by
  intro l
  induction l with
  | nil => intro l' hl _; obtain rfl := List.length_eq_zero_iff.1 (show l'.length = 0 from hl); exact Nat.le_refl _
  | cons x l ih =>
    intro l' hl h
    cases l' with
    | nil => simp at hl
    | cons y l' =>
      have h1 := ih l' (by simpa using hl) (fun k hk hu => h (k + 1) (by simpa using hk) hu)
      have h0 := h 0 (by simp)
      simp only [List.getElem_cons_zero] at h0
      simp only [cntU, List.countP_cons] at *
      cases hy : y.used
      · simp; omega
      · rw [h0 hy]; simp; omega
theorem FreeTo.cnt {D : Nat → Prop} {l l' : List Slot} (h : FreeTo D l l') : cntU l' ≤ cntU l := cntU_mono l l' h.len (fun k hk hu => by
  by_cases hD : D k
  · rw [h.yes k hk hD] at hu; cases hu
  · rw [h.no k hk hD] at hu; exact hu)
def PB (N : Nat) : Prop := ∀ (w : World) (b g : Nat) (q : Int) (l : List Slot) (i : Nat), Tab w b g q l → l.length ≤ 4096 → GenOk l → cntU l ≤ N →
  Calls Try.prog 31 #[.pointer (some ⟨b, 0, none⟩), .int .i64 i] w fun e w' => ∃ (l' : List Slot) (n : Int), FreeTo (Reach l i) l l' ∧ n = (cntU l : Int) - cntU l' ∧ e = .returned (.int .i64 n) ∧ Tab w' b g q l' ∧ Fr (At g) w w'
def QF (N : Nat) : Prop := ∀ (w : World) (b g : Nat) (q : Int) (l : List Slot) (i : Nat) (hi : i < l.length), Tab w b g q l → l.length ≤ 4096 → GenOk l → cntU l ≤ N → l[i].used = true →
  Calls Try.prog 32 #[.pointer (some ⟨b, 0, none⟩), .int .i64 i] w fun e w' => ∃ (l' : List Slot) (n : Int), FreeTo (fun k => k = i ∨ Reach l i k) l l' ∧ n = (cntU l : Int) - cntU l' ∧ e = .returned (.int .i64 n) ∧ Tab w' b g q l' ∧ Fr (At g) w w'
set_option maxRecDepth 100000 in
set_option maxHeartbeats 4000000 in
theorem below_of {N : Nat} (hQ : QF N) : PB N := by
  intro w b g q l i ht hl hgo hN
  have h0 := ht.head.cell 0 rfl
  go_enter Try.func31, Try.ntmps31
  go_wp2
  go_loopw [5, 12] (fun v5 v12 wr => ∃ (k : Nat) (n : Int) (lk : List Slot), k ≤ l.length ∧ v12 = .int .i64 k ∧ v5 = .int .i64 n ∧ Hid (n = (cntU l : Int) - cntU lk) ∧ FreeTo (Gone l i k) l lk ∧ Tab wr b g q lk ∧ Fr (At g) w wr) (fun _ v12 _ => l.length - (intOf v12).toNat)
  case atStart => exact ⟨0, 0, l, Nat.zero_le _, rfl, rfl, hid (by omega), FreeTo.refl l (fun j _ => gone_zero l i j), ht, Fr.refl _ _⟩
  case round =>
    obtain ⟨k, n, lk, hk, rfl, rfl, HN, hft, htk, hf⟩ := hrel
    clear h0
    have hle := hft.cnt
    have hcl := cntU_le_len l
    have hn0 : 0 ≤ n := by have := HN.out; omega
    have hn1 : n ≤ 4096 := by have := HN.out; omega
    have HL : Hid (lk.length = l.length) := hft.len
    by_cases hlt : k < l.length
    · have hlk : k < lk.length := by rw [HL.out]; exact hlt
      have hlk' : (k : Int) < lk.length := by omega
      have h0 := htk.head.cell 0 rfl
      obtain ⟨c0, c1, c2, c3, c4, c5, c6⟩ := slots_at htk.row k hlk
      cases hu : lk[k].used
      · have HC : Hid (¬ child lk i k) := hid (fun h => absurd h.2.1 (by rw [hu]; simp))
        rw [hu] at c6
        clear hu c0 c1 c2 c3 c4
        generalize lk[k].of = o at *
        clear hle hcl
        go_wp2
        go_roundw
        case rel => exact ⟨k + 1, n, lk, by omega, by go_num, rfl, HN, gone_skip hft HC.out, htk, hf⟩
        case measure => simp [intOf]; omega
      · by_cases ho : lk[k].of = i
        · have HC : Hid (child lk i k) := ⟨hlk, hu, ho⟩
          have HU := hid hu
          rw [hu] at c6
          rw [ho] at c5
          clear hu ho c0 c1 c2 c3 c4
          have hi' : ((i : Int) == i) = true := by simp
          go_wp2_with fail
          refine (hQ _ b g q lk k hlk htk (by rw [HL.out]; exact hl) (hgo.free hft) (Nat.le_trans hle hN) HU.out).mono ?_
          rintro e w1 ⟨l2, m, hf2, hm, rfl, ht2, hfr2⟩
          have hle2 := hf2.cnt
          have hm0 : 0 ≤ m := by omega
          have hm1 : n + m ≤ 4096 := by have := HN.out; omega
          have HM := hid hm
          clear hm hle2 hle hcl
          go_wp2
          go_roundw
          case rel => exact ⟨k + 1, n + m, l2, by omega, by go_num, by go_num, hid (by have := HN.out; have := HM.out; omega), gone_take hft HC.out hf2, ht2, hf.trans hfr2⟩
          case measure => simp [intOf]; omega
        · have HC : Hid (¬ child lk i k) := hid (fun h => ho h.2.2)
          have ho' : (lk[k].of == (i : Int)) = false := by simpa using ho
          rw [hu] at c6
          clear hu ho c0 c1 c2 c3 c4
          generalize lk[k].of = o at *
          clear hle hcl
          go_wp2
          go_roundw
          case rel => exact ⟨k + 1, n, lk, by omega, by go_num, rfl, HN, gone_skip hft HC.out, htk, hf⟩
          case measure => simp [intOf]; omega
    · obtain rfl : k = l.length := by omega
      go_wp2
      go_ret
      exact ⟨lk, n, hft.congr (fun j _ => gone_all l i j), HN.out, rfl, htk, hf⟩
set_option maxRecDepth 100000 in
set_option maxHeartbeats 4000000 in
theorem free_of {N : Nat} (hP : PB N) : QF (N + 1) := by
  intro w b g q l i hi ht hl hgo hN hu
  have h0 := ht.head.cell 0 rfl
  obtain ⟨c0, c1, c2, c3, c4, c5, c6⟩ := slots_at ht.row i hi
  have f6 := ht.row.frozen (i * 7 + 6)
  have hg := hgo i hi hu
  have hi' : (i : Int) < l.length := by omega
  have ht1 : Tab (w.setCell ⟨g, i * 7 + 6, none⟩ (.bool false)) b g q (l.set i (unuse l[i])) :=
    ⟨by rw [List.length_set]; exact ht.head.other ht.ne _, Blk.eq (ht.row.set _ _) (slot_set i 6 hi (by omega) (.bool false) (unuse l[i]) rfl), ht.ne⟩
  have hgo1 : GenOk (l.set i (unuse l[i])) := hgo.set i _ rfl
  have hc1 := cntU_set l i hi (unuse l[i])
  rw [hu, show (unuse l[i]).used = false from rfl] at hc1
  simp only [if_true, if_neg Bool.false_ne_true] at hc1
  have HC1 := hid hc1
  have hb : b ≠ g := ht.ne
  have HF := hid (fun l2 => free_of_below (l := l) (l2 := l2) hi)
  have hl1 : (l.set i (unuse l[i])).length ≤ 4096 := by rw [List.length_set]; exact hl
  have HL1 : Hid ((l.set i (unuse l[i])).length = l.length) := by rw [List.length_set]; exact hid rfl
  have HU := hid hu
  clear hc1 hu
  go_enter Try.func32, Try.ntmps32
  go_wp2_with fail
  refine (hP _ b g q (l.set i (unuse l[i])) i ht1 hl1 hgo1 (by have := HC1.out; omega)).mono ?_
  rintro e w1 ⟨l2, n, hf2, hn, rfl, ht2, hfr2⟩
  have HL2 : Hid (l2.length = l.length) := hf2.len.trans HL1.out
  have hi2 : i < l2.length := by rw [HL2.out]; exact hi
  have hi2' : (i : Int) < l2.length := by omega
  have hle2 := hf2.cnt
  have hcl := cntU_le_len l
  have hn0 : 0 ≤ n := by omega
  have hn1 : n ≤ 4096 := by have := HC1.out; omega
  have HN := hid hn
  have hc2 := cntU_set l2 i hi2 (freed l[i])
  have hu2 : (l2[i]'hi2).used = false := by
    have h1 : i < (l.set i (unuse l[i])).length := by rw [HL1.out]; exact hi
    by_cases hD : Reach (l.set i (unuse l[i])) i i
    · exact absurd rfl (reach_unuse_ne l i hi i hD)
    · rw [hf2.no i h1 hD, List.getElem_set_self]; rfl
  rw [hu2, show (freed l[i]).used = false from rfl] at hc2
  simp only [if_neg Bool.false_ne_true, Nat.add_zero] at hc2
  have HC2 := hid hc2
  have HF2 := HF.out _ hf2
  clear hc2 hu2 hn hle2 hcl c0 c1 c2 c3 c4 c5 c6 f6 h0 ht1
  have h0 := ht2.head.cell 0 rfl
  obtain ⟨c0, c1, c2, c3, c4, c5, c6⟩ := slots_at ht2.row i hi2
  have f0 := ht2.row.frozen (i * 7)
  have f1 := ht2.row.frozen (i * 7 + 1)
  have f2 := ht2.row.frozen (i * 7 + 2)
  have f3 := ht2.row.frozen (i * 7 + 3)
  have f4 := ht2.row.frozen (i * 7 + 4)
  have f5 := ht2.row.frozen (i * 7 + 5)
  have f6 := ht2.row.frozen (i * 7 + 6)
  have ht3 := ht2.put i hi2 ⟨l[i].gen + 1, 0, 0, 0, 0, -1, false⟩
  have hf3 := put7_fr w1 g (i * 7) ⟨l[i].gen + 1, 0, 0, 0, 0, -1, false⟩
  have HF3 : FreeTo (fun k => k = i ∨ Reach l i k) l (l2.set i ⟨l[i].gen + 1, 0, 0, 0, 0, -1, false⟩) := HF2
  have HC3 : Hid (cntU (l2.set i ⟨l[i].gen + 1, 0, 0, 0, 0, -1, false⟩) = cntU l2) := HC2
  clear HF2 HC2 HF
  unfold put7 at ht3 hf3
  dsimp only at ht3 hf3
  go_wp2
  refine bodyPost_ret (v := .int .i64 (n + 1)) (by simp [results, Try.results32, go_sem]) rfl ⟨_, n + 1, HF3, ?_, rfl, ht3, ?_⟩
  · have := HC1.out; have := HC3.out; have := HN.out; omega
  · exact (Fr.setAt (Fr.refl _ _) _ _).trans (hfr2.trans hf3)
theorem free_all : ∀ N, PB N ∧ QF N := by
  intro N
  induction N with
  | zero =>
    have hQ : QF 0 := by
      intro w b g q l i hi ht hl hgo hN hu
      have := cntU_pos hi hu
      omega
    exact ⟨below_of hQ, hQ⟩
  | succ N ih =>
    have hQ := free_of ih.1
    exact ⟨below_of hQ, hQ⟩
theorem below_any (w : World) (b g : Nat) (q : Int) (l : List Slot) (i : Nat) (ht : Tab w b g q l) (hl : l.length ≤ 4096) (hg : GenOk l) :
    Calls Try.prog 31 #[.pointer (some ⟨b, 0, none⟩), .int .i64 i] w fun e w' => ∃ (l' : List Slot) (n : Int), FreeTo (Reach l i) l l' ∧ n = (cntU l : Int) - cntU l' ∧ e = .returned (.int .i64 n) ∧ Tab w' b g q l' ∧ Fr (At g) w w' := (free_all _).1 w b g q l i ht hl hg (Nat.le_refl _)
theorem free_any (w : World) (b g : Nat) (q : Int) (l : List Slot) (i : Nat) (hi : i < l.length) (ht : Tab w b g q l) (hl : l.length ≤ 4096) (hg : GenOk l) (hu : l[i].used = true) :
    Calls Try.prog 32 #[.pointer (some ⟨b, 0, none⟩), .int .i64 i] w fun e w' => ∃ (l' : List Slot) (n : Int), FreeTo (fun k => k = i ∨ Reach l i k) l l' ∧ n = (cntU l : Int) - cntU l' ∧ e = .returned (.int .i64 n) ∧ Tab w' b g q l' ∧ Fr (At g) w w' := (free_all _).2 w b g q l i hi ht hl hg (Nat.le_refl _) hu
end Go.Proofs.Ytokgcgmhfpohoaa
