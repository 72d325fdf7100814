import Derived.Test.YtokgcgmhfpohoaaC4
set_option linter.unusedSimpArgs false
set_option linter.unusedVariables false
namespace Go.Proofs.Ytokgcgmhfpohoaa
open Go.RowKit Go.Proofs.YtokgcgmhfpohoaaW.PrintWords
/-- What a table comes to: its slots, a name's slot and generation, an error's number. -/
structure Res where
  l : List Slot
  s : Int
  g : Int
  e : Int
def addT (q : Int) (l : List Slot) (x : Slot) : Res :=
  if q ≤ cntEnv x.env l then ⟨l, 0, 0, 10⟩
  else match l.findIdx? (fun s => !s.used) with
    | none => ⟨l, 0, 0, 3⟩
    | some k => ⟨l.set k ⟨(l[k]?.map Slot.gen).getD 0, x.env, x.kind, x.obj, x.rights, x.of, true⟩, k, (l[k]?.map Slot.gen).getD 0, 0⟩
def Res.val (r : Res) : Value := .tuple #[.agg #[.int .i64 r.s, .int .i64 r.g], .int .i64 r.e]
theorem addT_len (q : Int) (l : List Slot) (x : Slot) : (addT q l x).l.length = l.length := by
  unfold addT
  split
  · rfl
  · split <;> simp
theorem Fr.at0 {w w1 : World} {g : Nat} (h : Fr NoB w w1) : Fr (At g) w w1 := h.mono (fun _ h => h.elim)
theorem add_any (w : World) (b g : Nat) (q : Int) (l : List Slot) (x : Slot) (ht : Tab w b g q l) (hl : l.length ≤ 4096) :
    Calls Try.prog 29 #[.pointer (some ⟨b, 0, none⟩), .agg #[.int .i64 x.gen, .int .i64 x.env, .int .i64 x.kind, .int .i64 x.obj, .int .i64 x.rights, .int .i64 x.of, .bool x.used]] w fun e w' => e = .returned (addT q l x).val ∧ Tab w' b g q (addT q l x).l ∧ Fr (At g) w w' := by
  unfold addT
  by_cases hq : q ≤ cntEnv x.env l
  · rw [if_pos hq]
    refine (add_limit w b g q l x ht hl hq).mono ?_
    rintro e w' ⟨rfl, hf⟩
    exact ⟨rfl, ht.fr0 hf, hf.at0⟩
  · rw [if_neg hq]
    cases hi : l.findIdx? (fun s => !s.used) with
    | none =>
      rw [List.findIdx?_eq_none_iff] at hi
      refine (add_full w b g q l x ht hl hq (fun j h => by simpa using hi _ (List.getElem_mem h))).mono ?_
      rintro e w' ⟨rfl, hf⟩
      exact ⟨rfl, ht.fr0 hf, hf.at0⟩
    | some k =>
      rw [List.findIdx?_eq_some_iff_getElem] at hi
      obtain ⟨hk, hu, hlt⟩ := hi
      refine (add_ok w b g q l x ht hl hq k hk (by simpa using hu) (fun j h => by simpa using hlt j h)).mono ?_
      rintro e w' ⟨rfl, ht', hf⟩
      have e1 : (l[k]?.map Slot.gen).getD 0 = l[k].gen := by simp [hk]
      simp only [e1]
      exact ⟨rfl, ht', hf⟩
def okR (r : Int) : Bool := decide (1 ≤ r ∧ r ≤ 7)
set_option maxHeartbeats 1000000 in
theorem isR_any (w : World) (r : Int) : Calls Try.prog 28 #[.int .i64 r] w fun e w' => e = .returned (.bool (okR r)) ∧ w' = w := by
  rcases (show r < 1 ∨ (¬ r < 1 ∧ r ≤ 7) ∨ (¬ r < 1 ∧ 7 < r) from by omega) with h | ⟨h, h'⟩ | ⟨h, h'⟩
  all_goals
    go_enter Try.func28, Try.ntmps28
    go_wp2
    go_ret
    refine ⟨?_, rfl⟩
    first | (rw [show okR r = true from decide_eq_true (by omega)]; rfl) | (rw [show okR r = false from decide_eq_false (by omega)]; rfl) | (rw [show okR r = decide (r ≤ 7) from decide_eq_decide.2 (by omega)]; rfl)
def mintT (q : Int) (l : List Slot) (env kind obj rights : Int) : Res :=
  if env < 0 ∨ obj < 0 ∨ kind < 1 ∨ 3 < kind ∨ okR rights = false then ⟨l, 0, 0, 1⟩ else addT q l ⟨0, env, kind, obj, rights, -1, false⟩
set_option maxRecDepth 100000 in
set_option maxHeartbeats 4000000 in
theorem Mint_any (w : World) (b g : Nat) (q : Int) (l : List Slot) (env kind obj rights : Int) (ht : Tab w b g q l) (hl : l.length ≤ 4096) :
    Calls Try.prog 9 #[.pointer (some ⟨b, 0, none⟩), .int .i64 env, .int .i64 kind, .int .i64 obj, .int .i64 rights] w fun e w' => e = .returned (mintT q l env kind obj rights).val ∧ Tab w' b g q (mintT q l env kind obj rights).l ∧ Fr (At g) w w' := by
  by_cases hbad : env < 0 ∨ obj < 0 ∨ kind < 1 ∨ 3 < kind ∨ okR rights = false
  · have HM : Hid (mintT q l env kind obj rights = ⟨l, 0, 0, 1⟩) := if_pos hbad
    have hb' : env < 0 ∨ (¬ env < 0 ∧ obj < 0) ∨ (¬ env < 0 ∧ ¬ obj < 0 ∧ kind < 1) ∨ (¬ env < 0 ∧ ¬ obj < 0 ∧ ¬ kind < 1 ∧ 3 < kind) ∨ (¬ env < 0 ∧ ¬ obj < 0 ∧ ¬ kind < 1 ∧ ¬ 3 < kind ∧ okR rights = false) := by
      rcases hbad with h | h | h | h | h
      · exact .inl h
      · by_cases h1 : env < 0
        · exact .inl h1
        · exact .inr (.inl ⟨h1, h⟩)
      · omega
      · omega
      · by_cases h1 : env < 0
        · exact .inl h1
        · by_cases h2 : obj < 0
          · exact .inr (.inl ⟨h1, h2⟩)
          · by_cases h3 : kind < 1
            · exact .inr (.inr (.inl ⟨h1, h2, h3⟩))
            · by_cases h4 : 3 < kind
              · exact .inr (.inr (.inr (.inl ⟨h1, h2, h3, h4⟩)))
              · exact .inr (.inr (.inr (.inr ⟨h1, h2, h3, h4, h⟩)))
    clear hbad
    have hltb := ht.lt
    have fin : Tab ((w.alloc (.cells #[.int .i64 0, .int .i64 0] 27))) b g q l := ht.fr0 ((Fr.refl _ _).alloc _)
    rcases hb' with h1 | ⟨h1, h2⟩ | ⟨h1, h2, h3⟩ | ⟨h1, h2, h3, h4⟩ | ⟨h1, h2, h3, h4, h5⟩
    case inr.inr.inr.inr =>
      have H5 := hid h5
      clear h5
      go_enter Try.func9, Try.ntmps9
      go_wp2_with fail
      refine (isR_any _ rights).mono ?_
      rintro e w' ⟨rfl, rfl⟩
      rw [H5.out]
      go_wp2
      refine bodyPost_ret (v := .tuple #[.agg #[.int .i64 0, .int .i64 0], .int .i64 1]) (by simp [results, Try.results9, go_sem]) rfl ⟨by rw [HM.out]; rfl, ?_, ?_⟩
      · rw [HM.out]; exact fin
      · exact (Fr.refl _ _).alloc _
    all_goals
      go_enter Try.func9, Try.ntmps9
      go_wp2
      refine bodyPost_ret (v := .tuple #[.agg #[.int .i64 0, .int .i64 0], .int .i64 1]) (by simp [results, Try.results9, go_sem]) rfl ⟨by rw [HM.out]; rfl, ?_, ?_⟩
      · rw [HM.out]; exact fin
      · exact (Fr.refl _ _).alloc _
  · have HM : Hid (mintT q l env kind obj rights = addT q l ⟨0, env, kind, obj, rights, -1, false⟩) := if_neg hbad
    have h1 : ¬ env < 0 := fun h => hbad (.inl h)
    have h2 : ¬ obj < 0 := fun h => hbad (.inr (.inl h))
    have h3 : ¬ kind < 1 := fun h => hbad (.inr (.inr (.inl h)))
    have h4 : ¬ 3 < kind := fun h => hbad (.inr (.inr (.inr (.inl h))))
    have h5 : okR rights = true := by cases h : okR rights; exact absurd (.inr (.inr (.inr (.inr h)))) hbad; rfl
    have H5 := hid h5
    clear hbad h5
    generalize mintT q l env kind obj rights = r at *
    go_enter Try.func9, Try.ntmps9
    go_wp2_with fail
    refine (isR_any _ rights).mono ?_
    rintro e w' ⟨rfl, rfl⟩
    rw [H5.out]
    have hltb := ht.lt
    have hnb := Blk.new w 27 [.int .i64 0, .int .i64 0]
    go_wp2_with fail
    refine (add_any _ b g q l ⟨0, env, kind, obj, rights, -1, false⟩ (ht.fr0 ((Fr.refl _ _).alloc _)) hl).mono ?_
    rw [← HM.out]
    rintro e w2 ⟨rfl, ht2, hf2⟩
    have hb2 := hnb.fr hf2 (fun h => by have h : w.heap.size = g := h; omega)
    have r0 := hb2.cell 0 rfl
    have r1 := hb2.cell 1 rfl
    have s0 := hb2.frozen 0
    have s1 := hb2.frozen 1
    unfold Res.val
    go_wp2
    refine bodyPost_ret (v := .tuple #[.agg #[.int .i64 r.s, .int .i64 r.g], .int .i64 r.e]) (by simp [results, Try.results9, go_sem, r0, r1]) rfl ⟨rfl, ?_, ?_⟩
    · refine Tab.other (Tab.other ht2 ?_ ?_ _) ?_ ?_ _ <;> (simp only []; omega)
    · refine Fr.setCell (Fr.setCell (Fr.trans ((Fr.refl _ _).alloc _) hf2) (.inr ?_) _) (.inr ?_) _ <;> simp
/-- The slot that a name names. -/
def findS (l : List Slot) (s g : Int) : Option Slot := if 0 ≤ s then (l[s.toNat]?).filter fun x => x.used && decide (x.gen = g) else none
theorem findS_some {l : List Slot} {s g : Int} {x : Slot} (h : findS l s g = some x) : ∃ (k : Nat) (hk : k < l.length), s = k ∧ l[k] = x ∧ x.used = true ∧ x.gen = g := by
  unfold findS at h
  split at h
  · rename_i h0
    obtain ⟨k, rfl⟩ := Int.eq_ofNat_of_zero_le h0
    rw [Int.toNat_natCast, Option.filter_eq_some_iff] at h
    obtain ⟨h1, h2⟩ := h
    obtain ⟨hk, h3⟩ := List.getElem?_eq_some_iff.1 h1
    simp at h2
    exact ⟨k, hk, rfl, h3, h2.1, h2.2⟩
  · cases h
theorem findS_none {l : List Slot} {s g : Int} (h : findS l s g = none) : ¬ Nm l s g := by
  rintro ⟨k, hk, rfl, h1, h2⟩
  unfold findS at h
  rw [if_pos (by omega), Int.toNat_natCast, List.getElem?_eq_getElem hk] at h
  simp [h1, h2] at h
def hasB (r q : Int) : Bool := decide (bits BinOp.and .i64 r q = q)
def shareT (q : Int) (l : List Slot) (env s g who rights : Int) : Res :=
  match findS l s g with
  | none => ⟨l, 0, 0, 9⟩
  | some x => if (decide (x.env = env) && hasB x.rights 2) = false then ⟨l, 0, 0, 8⟩
    else if who < 0 ∨ okR rights = false then ⟨l, 0, 0, 1⟩
    else if hasB x.rights rights = false then ⟨l, 0, 0, 8⟩
    else addT q l ⟨0, who, x.kind, x.obj, rights, s, false⟩
def checkT (l : List Slot) (env s g kind rights : Int) : Int × Int :=
  match findS l s g with
  | none => (0, 9)
  | some x => if (decide (x.env = env) && hasB x.rights 0) = false then (0, 8)
    else if x.kind ≠ kind then (0, 11)
    else if hasB x.rights rights = false then (0, 8)
    else (x.obj, 0)
theorem hasB_iff {r q : Int} : hasB r q = true ↔ hasR r q := by simp [hasB, hasR]
/-- What 'own' answers: the slot's place, or an error. -/
theorem own_all (w : World) (b g : Nat) (q : Int) (l : List Slot) (env rights s gen : Int) (ht : Tab w b g q l) (hl : l.length ≤ 4096) (r : Option (Nat × Slot) × Int)
    (hr : r = match findS l s gen with
      | none => (none, 9)
      | some x => if (decide (x.env = env) && hasB x.rights rights) = false then (none, 8) else (some (s.toNat, x), 0)) :
    Calls Try.prog 30 #[.pointer (some ⟨b, 0, none⟩), .int .i64 env, .agg #[.int .i64 s, .int .i64 gen], .int .i64 rights] w fun e w' => e = .returned (.tuple #[.pointer (r.1.map fun p => ⟨g, p.1 * 7, none⟩), .int .i64 r.2]) ∧ Fr NoB w w' := by
  cases hf : findS l s gen with
  | none =>
    rw [hf] at hr
    subst hr
    exact own_stale w b g q l env rights s gen (findS_none hf) ht hl
  | some x =>
    rw [hf] at hr
    obtain ⟨k, hk, rfl, hx, hu, hg⟩ := findS_some hf
    subst hx
    dsimp only at hr
    by_cases hb : (decide (l[k].env = env) && hasB l[k].rights rights) = false
    · rw [if_pos hb] at hr
      subst hr
      refine own_perm w b g q l env rights k hk gen hu hg (fun h => ?_) ht hl
      rw [decide_eq_true h.1, hasB_iff.2 h.2] at hb
      cases hb
    · rw [if_neg hb] at hr
      subst hr
      simp only [Bool.not_eq_false, Bool.and_eq_true, decide_eq_true_eq] at hb
      simpa using own_ok w b g q l env rights k hk gen hu hg hb.1 (hasB_iff.1 hb.2) ht hl
set_option maxRecDepth 100000 in
set_option maxHeartbeats 4000000 in
theorem Check_any (w : World) (b g : Nat) (q : Int) (l : List Slot) (env s gen kind rights : Int) (ht : Tab w b g q l) (hl : l.length ≤ 4096) :
    Calls Try.prog 11 #[.pointer (some ⟨b, 0, none⟩), .int .i64 env, .agg #[.int .i64 s, .int .i64 gen], .int .i64 kind, .int .i64 rights] w fun e w' => e = .returned (.tuple #[.int .i64 (checkT l env s gen kind rights).1, .int .i64 (checkT l env s gen kind rights).2]) ∧ Fr NoB w w' := by
  have ht1 := ht.fr0 ((Fr.refl _ _).alloc (.cells #[.int .i64 s, .int .i64 gen] 27))
  cases hf : findS l s gen with
  | none =>
    have HC : Hid (checkT l env s gen kind rights = (0, 9)) := by show _ = _; unfold checkT; rw [hf]
    go_enter Try.func11, Try.ntmps11
    go_wp2_with fail
    refine (own_all _ b g q l env 0 s gen ht1 hl (none, 9) (by rw [hf])).mono ?_
    rintro e w1 ⟨rfl, hf1⟩
    simp only [Option.map_none]
    go_wp2
    go_ret2
    exact ⟨by rw [HC.out]; rfl, Fr.trans ((Fr.refl _ _).alloc _) hf1⟩
  | some x =>
    obtain ⟨k, hk, rfl, hx, hu, hg⟩ := findS_some hf
    by_cases hb : (decide (x.env = env) && hasB x.rights 0) = false
    · have HC : Hid (checkT l env k gen kind rights = (0, 8)) := by show _ = _; unfold checkT; rw [hf]; simp only [if_pos hb]
      go_enter Try.func11, Try.ntmps11
      go_wp2_with fail
      refine (own_all _ b g q l env 0 k gen ht1 hl (none, 8) (by rw [hf]; simp only [if_pos hb])).mono ?_
      rintro e w1 ⟨rfl, hf1⟩
      simp only [Option.map_none]
      go_wp2
      go_ret2
      exact ⟨by rw [HC.out]; rfl, Fr.trans ((Fr.refl _ _).alloc _) hf1⟩
    · have HC : Hid (checkT l env k gen kind rights = if x.kind ≠ kind then (0, 11) else if hasB x.rights rights = false then (0, 8) else (x.obj, 0)) := by show _ = _; unfold checkT; rw [hf]; simp only [if_neg hb]
      have HO : Hid (((some (k, x), 0) : Option (Nat × Slot) × Int) = match findS l k gen with | none => (none, 9) | some x => if (decide (x.env = env) && hasB x.rights 0) = false then (none, 8) else (some ((k : Int).toNat, x), 0)) := by show _ = _; rw [hf]; simp only [if_neg hb, Int.toNat_natCast]
      clear hf hb
      by_cases hk1 : x.kind = kind
      · by_cases hr : hasB x.rights rights = true
        · have hq : (bits BinOp.and .i64 x.rights rights != rights) = false := by simpa [hasB] using hr
          have HX := hid hx
          have HC2 : Hid (checkT l env k gen kind rights = (x.obj, 0)) := by show _ = _; rw [HC.out, if_neg (by simpa using hk1), if_neg (by simp [hr])]
          have hkk : (x.kind != kind) = false := by simpa using hk1
          clear hk1 hr hx
          go_enter Try.func11, Try.ntmps11
          go_wp2_with fail
          refine (own_all _ b g q l env 0 k gen ht1 hl (some (k, x), 0) HO.out).mono ?_
          rintro e w1 ⟨rfl, hf1⟩
          obtain ⟨c0, c1, c2, c3, c4, c5, c6⟩ := slots_at (ht1.fr0 hf1).row k hk
          simp only [HX.out] at c0 c1 c2 c3 c4 c5 c6
          simp only [Option.map_some]
          go_wp2
          go_ret2
          exact ⟨by rw [HC2.out]; rfl, Fr.trans ((Fr.refl _ _).alloc _) hf1⟩
        · have hq : (bits BinOp.and .i64 x.rights rights != rights) = true := by simpa [hasB] using hr
          have HX := hid hx
          have HC2 : Hid (checkT l env k gen kind rights = (0, 8)) := by show _ = _; rw [HC.out, if_neg (by simpa using hk1), if_pos (by simpa using hr)]
          have hkk : (x.kind != kind) = false := by simpa using hk1
          clear hk1 hr hx
          go_enter Try.func11, Try.ntmps11
          go_wp2_with fail
          refine (own_all _ b g q l env 0 k gen ht1 hl (some (k, x), 0) HO.out).mono ?_
          rintro e w1 ⟨rfl, hf1⟩
          obtain ⟨c0, c1, c2, c3, c4, c5, c6⟩ := slots_at (ht1.fr0 hf1).row k hk
          simp only [HX.out] at c0 c1 c2 c3 c4 c5 c6
          simp only [Option.map_some]
          go_wp2
          go_ret2
          exact ⟨by rw [HC2.out]; rfl, Fr.trans ((Fr.refl _ _).alloc _) hf1⟩
      · have HX := hid hx
        have HC2 : Hid (checkT l env k gen kind rights = (0, 11)) := by show _ = _; rw [HC.out, if_pos hk1]
        have hkk : (x.kind != kind) = true := by simpa using hk1
        clear hk1 hx
        go_enter Try.func11, Try.ntmps11
        go_wp2_with fail
        refine (own_all _ b g q l env 0 k gen ht1 hl (some (k, x), 0) HO.out).mono ?_
        rintro e w1 ⟨rfl, hf1⟩
        obtain ⟨c0, c1, c2, c3, c4, c5, c6⟩ := slots_at (ht1.fr0 hf1).row k hk
        simp only [HX.out] at c0 c1 c2 c3 c4 c5 c6
        simp only [Option.map_some]
        go_wp2
        go_ret2
        exact ⟨by rw [HC2.out]; rfl, Fr.trans ((Fr.refl _ _).alloc _) hf1⟩
end Go.Proofs.Ytokgcgmhfpohoaa
