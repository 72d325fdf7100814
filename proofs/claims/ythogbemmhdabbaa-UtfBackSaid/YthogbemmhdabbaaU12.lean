import Derived.Test.YthogbemmhdabbaaU10
import Derived.Test.YthogbemmhdabbaaPUtfPutsx1
set_option linter.unusedSimpArgs false
set_option linter.unusedVariables false
namespace Go.Proofs.Ythogbemmhdabbaa
open Go.RowKit Go.Proofs.YthogbemmhdabbaaW.PrintWords
def validR (r : Int) : Bool := decide ((0 ≤ r ∧ r < 55296) ∨ (57344 ≤ r ∧ r ≤ 1114111))
def runeOf (r : Int) : Int := if validR r = true then r else 65533
def formL (c : Int) : List Int :=
  if c < 128 then [c] else if c < 2048 then [192 + c / 64, 128 + c % 64]
  else if c < 65536 then [224 + c / 4096, 128 + c / 64 % 64, 128 + c % 64]
  else [240 + c / 262144, 128 + c / 4096 % 64, 128 + c / 64 % 64, 128 + c % 64]
def putL (r : Int) : List Int := formL (runeOf r)
theorem runeOf_bd (r : Int) : 0 ≤ runeOf r ∧ runeOf r ≤ 1114111 ∧ ¬ (55296 ≤ runeOf r ∧ runeOf r ≤ 57343) := by
  unfold runeOf
  split
  · rename_i h; have := of_decide_eq_true h; omega
  · omega
theorem byte_of (n : Nat) (h : n < 256) : ((UInt8.ofNat n).toNat : Int) = n := by
  simp [UInt8.toNat_ofNat']; omega
theorem encode_bytes (r : Int) : bytesOf (Utf8.encode r) = putL r := by
  have hv : Utf8.valid r = validR r := by
    unfold Utf8.valid validR
    rw [Bool.eq_iff_iff]
    simp
    try omega
  have hb := runeOf_bd r
  unfold Utf8.encode putL
  have hc : ((if Utf8.valid r then r.toNat else Utf8.runeError : Nat) : Int) = runeOf r := by
    rw [hv]
    unfold runeOf
    split
    · rename_i h; have := of_decide_eq_true h; omega
    · rfl
  generalize (if Utf8.valid r then r.toNat else Utf8.runeError : Nat) = c at *
  rw [← hc] at hb ⊢
  unfold formL
  dsimp only
  by_cases h1 : c < 128
  · rw [if_pos h1, if_pos (show (c : Int) < 128 from by omega)]
    simp only [bytesOf, List.map_cons, List.map_nil]
    rw [byte_of c (by omega)]
  · rw [if_neg h1, if_neg (show ¬ ((c : Int) < 128) from by omega)]
    by_cases h2 : c < 2048
    · rw [if_pos h2, if_pos (show (c : Int) < 2048 from by omega)]
      simp only [bytesOf, List.map_cons, List.map_nil]
      rw [byte_of _ (by omega), byte_of _ (by omega)]
      simp
    · rw [if_neg h2, if_neg (show ¬ ((c : Int) < 2048) from by omega)]
      by_cases h3 : c < 65536
      · rw [if_pos h3, if_pos (show (c : Int) < 65536 from by omega)]
        simp only [bytesOf, List.map_cons, List.map_nil]
        rw [byte_of _ (by omega), byte_of _ (by omega), byte_of _ (by omega)]
        simp
      · rw [if_neg h3, if_neg (show ¬ ((c : Int) < 65536) from by omega)]
        simp only [bytesOf, List.map_cons, List.map_nil]
        rw [byte_of _ (by omega), byte_of _ (by omega), byte_of _ (by omega), byte_of _ (by omega)]
        simp
theorem bytes_C (w : World) (s : ByteArray) (cap e : Nat) (fz : Nat × Nat) (hs : s.size ≤ 9223372036854775807) : Kd.C (Kd.int .u8) (w.alloc (.cells (bytesRow s cap) e fz)) (some ⟨w.heap.size, 0, none⟩) (bytesOf s).length (bytesOf s) := by
  have hl : (bytesOf s).length = s.data.size := by simp [bytesOf]
  refine Kd.C_of_reads (d := (0 : Int)) (h1 := fun _ => rfl) ⟨rfl, by rw [hl]; exact hs, fun _ => ⟨_, rfl, fun j hj => ?_⟩⟩
  rw [hl] at hj
  have h1 : (w.alloc (.cells (bytesRow s cap) e fz)).cell? ⟨w.heap.size, j, none⟩ = some (.int .u8 (s.data[j].toNat : Int)) := by
    have h2 : (w.alloc (.cells (bytesRow s cap) e fz)).heap[w.heap.size]? = some (.cells (bytesRow s cap) e fz) := by
      show (w.heap.push _)[_]? = _
      rw [Array.getElem?_push, if_pos rfl]
    simp only [World.cell?, h2]
    simpa using bytesRow_at s cap j hj
  rw [show (⟨w.heap.size, 0, none⟩ : Addr).add j = ⟨w.heap.size, j, none⟩ from by cases j <;> simp [Addr.add]]
  rw [h1]
  simp [bytesOf, List.getD_eq_getElem?_getD, hj, Array.getElem?_eq_getElem hj]
theorem putL_len (r : Int) : 1 ≤ (putL r).length ∧ (putL r).length ≤ 4 := by
  unfold putL formL
  (repeat' split) <;> simp
theorem putL_bytes (r : Int) : ∀ x ∈ putL r, 0 ≤ x ∧ x ≤ 255 := by
  have := runeOf_bd r
  unfold putL formL
  generalize runeOf r = c at *
  intro x hx
  split at hx
  · simp at hx; omega
  · split at hx
    · simp at hx; omega
    · split at hx
      · simp at hx; omega
      · simp at hx; omega
set_option maxHeartbeats 1000000 in
theorem put_any (w : World) (r : Int) :
    Calls Try.prog 16 #[.int .i32 r] w fun e w' => ∃ (A : Option Addr) (c : Nat), e = .returned (.slice A (putL r).length c) ∧ (putL r).length ≤ c ∧ Kd.C (Kd.int .u8) w' A (putL r).length (putL r) ∧ Fr NoB w w' := by
  have hrun := run_bytes_of_string (P := Try.prog) w 9 22 5 (Utf8.encode r) Try.underlying9 Try.underlying22 Try.underlying5
  have hsz : (Utf8.encode r).size = (putL r).length := by
    have := congrArg List.length (encode_bytes r)
    simpa [bytesOf] using this
  have hlen := putL_len r
  have hcap : (Utf8.encode r).size ≤ grownCap w (Utf8.encode r).size 0 5 := by unfold grownCap; simp [Question.cut]
  have hC := bytes_C w.drew (Utf8.encode r) (grownCap w (Utf8.encode r).size 0 5) 5 ((bytesRow (Utf8.encode r) (grownCap w (Utf8.encode r).size 0 5)).size, (bytesRow (Utf8.encode r) (grownCap w (Utf8.encode r).size 0 5)).size + 1) (by omega)
  rw [encode_bytes] at hC
  generalize grownCap w (Utf8.encode r).size 0 5 = cap at *
  rw [hsz] at hrun hcap
  clear hsz
  generalize (.cells (bytesRow (Utf8.encode r) cap) 5 ((bytesRow (Utf8.encode r) cap).size, (bytesRow (Utf8.encode r) cap).size + 1) : Obj) = ob at *
  go_enter Try.func16, Try.ntmps16
  go_wp2
  go_ret
  exact ⟨_, _, rfl, hcap, hC, ((Fr.refl _ _).drew).alloc _⟩
/-! What a rune's bytes are read as. -/
theorem put_run (r : Int) (o : List Int) : prun ([], o) (putL r) = ([], o ++ [runeOf r]) := by
  have hb := runeOf_bd r
  unfold putL
  generalize runeOf r = c at *
  unfold formL
  by_cases h1 : c < 128
  · rw [if_pos h1]
    have hk : firstOk c = false := decide_eq_false (by omega)
    simp only [prun, pstep, pbegin, beginR, if_pos h1, hk, Bool.false_eq_true, if_false]
  · rw [if_neg h1]
    have hstep : ∀ (a : Int) (t : List Int) (x : Int), fits a t x = true → pstep (a :: t) x = if (t.length : Int) + 2 = need a then ([], [val (a :: t ++ [x])]) else (a :: t ++ [x], []) := fun a t x h => by simp [pstep, h]
    have hfirst : ∀ a : Int, 194 ≤ a → a ≤ 244 → pstep [] a = ([a], []) := fun a h h' => by
      have hk : firstOk a = true := decide_eq_true ⟨h, h'⟩
      simp only [pstep, pbegin, beginR, hk, if_true, if_neg (show ¬ a < 128 from by omega)]
    by_cases h2 : c < 2048
    · rw [if_pos h2]
      have hf : fits (192 + c / 64) [] (128 + c % 64) = true := by
        simp only [fits, lo, hi]
        apply decide_eq_true
        (repeat' split) <;> omega
      have hn : need (192 + c / 64) = 2 := by unfold need; rw [if_pos (by omega)]
      simp only [prun, hfirst (192 + c / 64) (by omega) (by omega), hstep _ _ _ hf, hn, List.length_nil]
      rw [if_pos (by rfl)]
      have hv : val [192 + c / 64, 128 + c % 64] = c := by
        simp only [val, List.foldl_cons, List.foldl_nil, lead]
        rw [if_pos (by omega)]
        omega
      simp only [List.cons_append, List.nil_append, List.append_nil]
      rw [hv]
    · rw [if_neg h2]
      by_cases h3 : c < 65536
      · rw [if_pos h3]
        have hf : fits (224 + c / 4096) [] (128 + c / 64 % 64) = true := by
          simp only [fits, lo, hi]
          apply decide_eq_true
          (repeat' split) <;> omega
        have hf2 : fits (224 + c / 4096) [128 + c / 64 % 64] (128 + c % 64) = true := decide_eq_true (by omega)
        have hn : need (224 + c / 4096) = 3 := by unfold need; rw [if_neg (by omega), if_pos (by omega)]
        simp only [prun, hfirst (224 + c / 4096) (by omega) (by omega), hstep _ _ _ hf, hn, List.length_nil]
        rw [if_neg (by decide)]
        simp only [List.cons_append, List.nil_append, hstep _ _ _ hf2, hn, List.length_singleton]
        rw [if_pos (by rfl)]
        have hv : val [224 + c / 4096, 128 + c / 64 % 64, 128 + c % 64] = c := by
          simp only [val, List.foldl_cons, List.foldl_nil, lead]
          rw [if_neg (by omega), if_pos (by omega)]
          omega
        simp only [List.append_nil]
        rw [hv]
      · rw [if_neg h3]
        have hf : fits (240 + c / 262144) [] (128 + c / 4096 % 64) = true := by
          simp only [fits, lo, hi]
          apply decide_eq_true
          (repeat' split) <;> omega
        have hf2 : fits (240 + c / 262144) [128 + c / 4096 % 64] (128 + c / 64 % 64) = true := decide_eq_true (by omega)
        have hf3 : fits (240 + c / 262144) [128 + c / 4096 % 64, 128 + c / 64 % 64] (128 + c % 64) = true := decide_eq_true (by omega)
        have hn : need (240 + c / 262144) = 4 := by unfold need; rw [if_neg (by omega), if_neg (by omega)]
        simp only [prun, hfirst (240 + c / 262144) (by omega) (by omega), hstep _ _ _ hf, hn, List.length_nil]
        rw [if_neg (by decide)]
        simp only [List.cons_append, List.nil_append, hstep _ _ _ hf2, hn, List.length_singleton]
        rw [if_neg (by decide)]
        simp only [List.cons_append, List.nil_append, hstep _ _ _ hf3, hn, List.length_cons, List.length_nil]
        rw [if_pos (by rfl)]
        have hv : val [240 + c / 262144, 128 + c / 4096 % 64, 128 + c / 64 % 64, 128 + c % 64] = c := by
          simp only [val, List.foldl_cons, List.foldl_nil, lead]
          rw [if_neg (by omega), if_neg (by omega)]
          omega
        simp only [List.append_nil]
        rw [hv]
theorem pall_put (r : Int) : pall (putL r) = [runeOf r] := by
  unfold pall
  rw [put_run]
  rfl
theorem form_f (c : Int) (h0 : 128 ≤ c) (h1 : c ≤ 1114111) : PUtfPuts.betonyref02_Form.f c = some (formL c) := by
  have hw : ∀ x : Int, 0 ≤ x → x ≤ 2000000 → wrap64 x = x := fun x a b => by unfold wrap64; omega
  have d1 : Int.tdiv c 64 = c / 64 := Int.tdiv_eq_ediv_of_nonneg (by omega)
  have d2 : Int.tdiv c 4096 = c / 4096 := Int.tdiv_eq_ediv_of_nonneg (by omega)
  have d3 : Int.tdiv c 262144 = c / 262144 := Int.tdiv_eq_ediv_of_nonneg (by omega)
  have m0 : Int.tmod c 64 = c % 64 := Int.tmod_eq_emod_of_nonneg (by omega)
  have m1 : Int.tmod (c / 64) 64 = c / 64 % 64 := Int.tmod_eq_emod_of_nonneg (by omega)
  have m2 : Int.tmod (c / 4096) 64 = c / 4096 % 64 := Int.tmod_eq_emod_of_nonneg (by omega)
  unfold PUtfPuts.betonyref02_Form.f formL
  rw [if_neg (show ¬ c < 128 from by omega)]
  rw [d1, d2, d3, m0, hw (c / 64) (by omega) (by omega), hw (c / 4096) (by omega) (by omega), hw (c / 262144) (by omega) (by omega), m1, m2]
  rw [hw (192 + c / 64) (by omega) (by omega), hw (128 + c % 64) (by omega) (by omega), hw (224 + c / 4096) (by omega) (by omega), hw (128 + c / 64 % 64) (by omega) (by omega), hw (240 + c / 262144) (by omega) (by omega), hw (128 + c / 4096 % 64) (by omega) (by omega)]
  rw [show (128 + c % 64) % 256 = 128 + c % 64 from by omega, show (128 + c / 64 % 64) % 256 = 128 + c / 64 % 64 from by omega, show (128 + c / 4096 % 64) % 256 = 128 + c / 4096 % 64 from by omega]
  by_cases h2 : c < 2048
  · rw [if_pos h2, if_pos h2, show (192 + c / 64) % 256 = 192 + c / 64 from by omega]
  · rw [if_neg h2, if_neg h2]
    by_cases h3 : c < 65536
    · rw [if_pos h3, if_pos h3, show (224 + c / 4096) % 256 = 224 + c / 4096 from by omega]
    · rw [if_neg h3, if_neg h3, show (240 + c / 262144) % 256 = 240 + c / 262144 from by omega]
theorem refPut_f (r : Int) : PUtfPuts.betonyref02_Put.f 1 r = some (putL r) := by
  unfold PUtfPuts.betonyref02_Put.f putL runeOf
  by_cases h1 : r < 0
  · have hv : validR r = false := decide_eq_false (by omega)
    rw [if_neg (by omega)]
    simp only [PUtfPuts.betonyref02_Put.j0, hv]
    rw [if_neg (by simp), if_pos h1]
    rfl
  · rw [if_pos (by omega)]
    by_cases h2 : r < 128
    · have hv : validR r = true := decide_eq_true (by omega)
      simp only [PUtfPuts.betonyref02_Put.j0, hv, decide_eq_true h2, if_true]
      unfold formL
      rw [if_pos h2, show r % 256 = r from by omega]
    · simp only [PUtfPuts.betonyref02_Put.j0, decide_eq_false h2]
      rw [if_neg (by simp), if_neg h1]
      by_cases h3 : r > 1114111
      · have hv : validR r = false := decide_eq_false (by omega)
        rw [if_pos h3, hv]; rfl
      · rw [if_neg h3]
        by_cases h4 : r ≥ 55296
        · rw [if_pos h4]
          by_cases h5 : r ≤ 57343
          · have hv : validR r = false := decide_eq_false (by omega)
            rw [if_pos h5, hv]; rfl
          · have hv : validR r = true := decide_eq_true (by omega)
            rw [if_neg h5, hv, form_f r (by omega) (by omega)]; rfl
        · have hv : validR r = true := decide_eq_true (by omega)
          rw [if_neg h4, hv, form_f r (by omega) (by omega)]; rfl
set_option maxHeartbeats 1000000 in
theorem same1_any (w : World) (A B : Option Addr) (ca cb : Nat) (l : List Int) (n : Nat) (hn : l.length = n) (hA : Kd.C (Kd.int .u8) w A n l) (hB : Kd.C (Kd.int .u8) w B n l) :
    Calls Try.prog 17 #[.slice A n ca, .slice B n cb] w fun e w' => e = .returned (.bool true) ∧ ∃ m, w' = w.drewN m := by
  have hmax := Kd.C_max hA
  have HN := hid hn
  clear hn
  go_enter Try.func17, Try.ntmps17
  go_wp2
  go_loopw [5] (fun v5 wr => ∃ (k : Nat), k ≤ n ∧ v5 = .int .i64 k ∧ Drawn0 w wr) (fun v5 _ => n - (intOf v5).toNat)
  case atStart => exact ⟨0, Nat.zero_le _, rfl, Drawn0.refl _⟩
  case round =>
    obtain ⟨k, hk, rfl, hd⟩ := hrel
    by_cases hlt : k < n
    · obtain ⟨ad, e, h0⟩ := C_at (Kd.C_below hA hd.below) k (by rw [HN.out]; exact hlt)
      obtain ⟨bd, e', h1⟩ := C_at (Kd.C_below hB hd.below) k (by rw [HN.out]; exact hlt)
      subst e e'
      generalize l[k]'(by rw [HN.out]; exact hlt) = x at *
      clear hA hB
      go_wp2
      go_quiet (fail)
      go_wp2
      go_roundw
      case rel => exact ⟨k + 1, by omega, by go_num, hd.step _⟩
      case measure => simp [intOf]; omega
    · obtain rfl : k = n := by omega
      clear hA hB
      go_wp2
      go_ret
      obtain ⟨m, hm⟩ := hd.out
      exact ⟨rfl, m, hm⟩
theorem lawPuts_ok (r : Int) : runeOf r = r ∨ (runeOf r ≠ r ∧ runeOf r = 65533 ∧ (putL r).length = 3) := by
  by_cases h : runeOf r = r
  · exact .inl h
  · refine .inr ⟨h, ?_⟩
    have : runeOf r = 65533 := by
      unfold runeOf at *
      split at h
      · exact absurd rfl h
      · rename_i hv; rw [if_neg hv]
    exact ⟨this, by unfold putL; rw [this]; rfl⟩
set_option maxHeartbeats 2000000 in
theorem utfPuts_walk (r : Int) (w : World) (hw : (Lit.int .i32 r).wf = true) :
    Calls Try.prog 6 #[.int .i32 r] w fun e w' => e = .returned (.bool true) ∧ Below w.heap.size w w' := by
  have hpl := putL_len r
  have hpb := putL_bytes r
  have hbd := runeOf_bd r
  have hwr : -2147483648 ≤ r ∧ r ≤ 2147483647 := by
    simp [Lit.wf, IntKind.min, IntKind.max, IntKind.signed, IntKind.bits] at hw
    omega
  obtain ⟨m0, hm0⟩ : ∃ m0, m0 = (putL r).length := ⟨_, rfl⟩
  have HM := hid hm0
  have HOK := hid (lawPuts_ok r)
  generalize hx : runeOf r = x at *
  have HX := hid hx
  clear hx hm0
  · go_enter Try.func6, Try.ntmps6
    go_wp2_with fail
    refine (put_any _ r).mono ?_
    rintro e w1 ⟨A, c, rfl, hc, hC, hf⟩
    go_wp2_with fail
    refine (all_any _ A c (putL r) hC hpb (by omega)).mono ?_
    rintro e w2 ⟨v, rfl, hv, hf2⟩
    rw [pall_put, HX.out] at hv
    obtain ⟨A2, c2, rfl, hcc, hC2⟩ := Kd.R_reads hv
    obtain ⟨ad, e, hc20⟩ := C_at hC2 0 (by simp)
    subst e
    clear hc20
    go_wp2_with fail
    refine (PUtfPuts.betonyref02_Put.calls 1 r (putL r) _ (refPut_f r)).mono ?_
    rintro e w3 ⟨v3, rfl, hv3, hb3⟩
    obtain ⟨A3, c3, rfl, hcc3, hC3⟩ := Kd.R_reads hv3
    go_wp2_with fail
    refine (same1_any _ _ _ _ _ (putL r) _ rfl (Kd.C_below (Kd.C_below hC hf2.below0) hb3) hC3).mono ?_
    rintro e w4 ⟨rfl, m, rfl⟩
    have hC4 := Kd.C_drewN (Kd.C_below hC2 hb3) m
    have h0 := C_zero hC4
    have hF := (((hf.trans hf2).trans (Fr.of_below hb3 NoB)).drewN m)
    clear hC hC2 hC3 hC4 hv hv3
    rcases HOK.out with ho | ⟨hne, ho, hl3⟩
    · have hq : (x == r) = true := by simpa using ho
      clear ho
      go_wp2_with fail
      refine (awake_any _).mono ?_
      rintro e w5 ⟨rfl, hf5⟩
      go_wp2
      go_ret
      exact ⟨rfl, (hF.trans hf5).below0⟩
    · have hq : (x == r) = false := by simpa using hne
      have hq2 : (x == 65533) = true := by simpa using ho
      have hq3 : (((putL r).length : Int) == 3) = true := by simp; omega
      clear ho hne hl3
      go_wp2_with fail
      refine (awake_any _).mono ?_
      rintro e w5 ⟨rfl, hf5⟩
      go_wp2
      go_ret
      exact ⟨rfl, (hF.trans hf5).below0⟩
end Go.Proofs.Ythogbemmhdabbaa
