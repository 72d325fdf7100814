import Derived.Test.YtgjgmaeickhhfaaL9
set_option linter.unusedSimpArgs false
set_option linter.unusedVariables false
namespace Go.Proofs.Ytgjgmaeickhhfaa
open Go.RowKit Go.Proofs.YtgjgmaeickhhfaaW.PrintWords
/-- A method's end that answers timers of its own. -/
def CkRow (b : Nat) (v : Value) (ys : List Tm) (now : Int) (xs : List Tm) (w : World) (e : Ending) (w' : World) : Prop :=
  ∃ r v', e = .returned r ∧ TRow w' w.heap.size r ys ∧ Ck w' b now v' xs ∧ Fr (CkB b v) w w' ∧ (∀ k, OwnB v' k → OwnB v k ∨ w.heap.size ≤ k) ∧ ∀ k, OwnB r k → ¬ CkB b v' k
theorem SV.ta {w : World} {v : Value} {xs : List Tm} (h : SV w v xs) {A : Option Addr} {c : Nat} (e : v = .slice A xs.length c) (ad : Addr) (hA : A = some ad) (i : Nat) : TA w ad (xs.take i) := by
  rcases h with ⟨h1, rfl⟩ | ⟨g, c', rest, h1, h2, _⟩
  · intro j u hj
    simp at hj
  · rw [h1] at e
    injection e with e1 e2 e3
    rw [hA] at e1
    obtain rfl := Option.some.inj e1
    have := Vec.src h2 Tm.cells_len 0 (Nat.zero_le _) (xs.take i) (List.take_prefix _ _)
    rwa [Nat.zero_mul] at this
theorem SV.nil {w : World} {v : Value} {xs : List Tm} (h : SV w v xs) {c : Nat} (e : v = .slice none xs.length c) : xs = [] ∧ c = 0 := by
  rcases h with ⟨h1, rfl⟩ | ⟨g, c', rest, h1, h2, _⟩
  · rw [h1] at e
    injection e with e1 e2 e3
    exact ⟨rfl, e3.symm⟩
  · rw [h1] at e
    injection e with e1 e2 e3
    cases e1
theorem SV.cap {w : World} {v : Value} {xs : List Tm} (h : SV w v xs) {A : Option Addr} {c : Nat} (e : v = .slice A xs.length c) : xs.length ≤ c ∧ c ≤ maxLen := by
  rcases h with ⟨h1, rfl⟩ | ⟨g, c', rest, h1, h2, h3, h4⟩
  · rw [h1] at e
    injection e with e1 e2 e3
    subst e3
    exact ⟨Nat.le_refl _, Nat.zero_le _⟩
  · rw [h1] at e
    injection e with e1 e2 e3
    exact ⟨e3 ▸ h3, e3 ▸ h4⟩
theorem cut_hi (A : Option Addr) (n c k : Nat) (hk : k ≤ c) (W : World) : (Instr.slice 26 (.slice A n c) none (some (.int .i64 k)) none).run Try.prog W = .ok (.slice A k c) W := by
  have he : Try.prog.elem 26 = 33 := by simp [Program.elem, Try.underlying26]
  rw [run_slice_h W 26 A n c (by rw [he]; exact Try.underlying26) .i64 k (by omega) (by omega), he, sizeTm]
  have e : A.map (fun x => x.add 0) = A := by cases A <;> simp [Addr.add]
  simp [sliced, Result.andThen, e]
theorem All_any (w : World) (b : Nat) (now : Int) (v : Value) (xs : List Tm) (h : Ck w b now v xs) (hl : xs.length ≤ 4096) :
    Calls Try.prog 9 #[.pointer (some ⟨b, 0, none⟩)] w (RowTo xs w) := by
  have h1 := h.blk.cell 1 rfl
  have HC := hid h
  obtain ⟨A, c, rfl⟩ := h.sv.shape
  have hcl := clone_any w A xs.length c xs (fun hA => by
    subst hA
    obtain ⟨h2, h3⟩ := h.sv.nil rfl
    subst h2
    exact ⟨rfl, rfl, h3⟩) (fun ad hA => by
    have := h.sv.ta rfl ad hA xs.length
    rwa [List.take_length] at this) rfl hl
  have HCL := hid hcl
  clear h hcl
  go_enter Try.func9, Try.ntmps9
  go_wp2_with fail
  refine HCL.out.mono ?_
  rintro e' w1 ⟨r, rfl, h2, h3⟩
  have H2 := hid h2
  go_wp2
  go_ret
  exact ⟨r, rfl, H2.out, h3⟩
theorem Row.base_le {α : Type} {f : α → List Value} {sz : Nat} {e : TypeId} {w : World} {base base' : Nat} {v : Value} {xs : List α} (h : Row f sz e w base v xs) (hb : base' ≤ base) : Row f sz e w base' v xs := by
  obtain ⟨h0, h1 | ⟨g, c, cur, h1, h2, h3⟩⟩ := h
  · exact ⟨h0, .inl h1⟩
  · exact ⟨h0, .inr ⟨g, c, cur, h1, Nat.le_trans hb h2, h3⟩⟩
def dueP (now : Int) (t : Tm) : Bool := decide (t.at_ ≤ now)
set_option maxHeartbeats 8000000 in
theorem Tick_any (w : World) (b : Nat) (now : Int) (v : Value) (xs : List Tm) (h : Ck w b now v xs) (hl : xs.length ≤ 4096) (h0 : 0 ≤ now) (h9 : now ≤ 1073741824) :
    Calls Try.prog 10 #[.pointer (some ⟨b, 0, none⟩)] w (CkRow b v (xs.takeWhile (dueP (now + 1))) (now + 1) (xs.dropWhile (dueP (now + 1))) w) := by
  have HC := hid h
  have c0 := h.blk.cell 0 rfl
  have f0 := h.blk.frozen 0
  have hlt := h.blk.lt
  have hC1 : Ck (w.setCell ⟨b, 0, none⟩ (.int .i64 (now + 1))) b (now + 1) v xs := ⟨h.blk.set 0 (.int .i64 (now + 1)), h.sv.fr ((Fr.refl (At b) w).setAt 0 _) (fun k hk he => by have he' : k = b := he; subst he'; exact h.ne hk)⟩
  have HC1 := hid hC1
  have hF1 : Fr (CkB b v) w (w.setCell ⟨b, 0, none⟩ (.int .i64 (now + 1))) := (Fr.refl _ w).setCell (p := ⟨b, 0, none⟩) (.inl (.inl rfl)) _
  have HF1 := hid hF1
  have HTL : Hid ((xs.takeWhile (dueP (now + 1))).length ≤ xs.length) := (List.takeWhile_prefix _).length_le
  have HTT := hid (tw_take (dueP (now + 1)) xs)
  have HTD := hid (tw_drop (dueP (now + 1)) xs)
  have HTP : Hid (∀ k (hk : k < xs.length), k < (xs.takeWhile (dueP (now + 1))).length → xs[k].at_ ≤ now + 1) := fun k hk h => by
    have h1 : (xs.takeWhile (dueP (now + 1)))[k] = xs[k] := (List.takeWhile_prefix _).getElem h
    have h3 := List.all_eq_true.1 (List.all_takeWhile (p := dueP (now + 1)) (l := xs)) _ (List.getElem_mem h)
    rw [h1] at h3
    simpa [dueP] using h3
  have HTN : Hid (∀ (hk : (xs.takeWhile (dueP (now + 1))).length < xs.length), ¬ xs[(xs.takeWhile (dueP (now + 1))).length].at_ ≤ now + 1) := fun hk => by
    have h2 : ∀ (ys : List Tm) (hk : (ys.takeWhile (dueP (now + 1))).length < ys.length), dueP (now + 1) ys[(ys.takeWhile (dueP (now + 1))).length] = false := by
      intro ys
      induction ys with
      | nil => intro hk; simp at hk
      | cons y ys ih =>
        intro hk
        cases hy : dueP (now + 1) y
        · simp [List.takeWhile_cons, hy]
        · simp only [List.takeWhile_cons, hy, if_true, List.length_cons, List.getElem_cons_succ]
          exact ih (by simpa [List.takeWhile_cons, hy] using hk)
    simpa [dueP] using h2 xs hk
  generalize (xs.takeWhile (dueP (now + 1))).length = m at HTL HTT HTD HTP HTN
  rw [← HTT.out, ← HTD.out]
  generalize hTl : xs.take m = tl at HTT ⊢
  generalize hDl : xs.drop m = dl at HTD ⊢
  have HTl := hid hTl
  have HDl := hid hDl
  obtain ⟨A, c, rfl⟩ := h.sv.shape
  clear h hC1 hF1 hTl hDl
  go_enter Try.func10, Try.ntmps10
  go_wp2
  generalize hw1 : w.setCell ⟨b, 0, none⟩ (.int .i64 (now + 1)) = w1 at HC1 HF1 ⊢
  clear hw1 c0 f0 HC
  go_loopw [3] (fun v3 wr => ∃ k : Nat, k ≤ m ∧ v3 = .int .i64 k ∧ Fr NoB w1 wr) (fun v3 _ => m - (intOf v3).toNat)
  case atStart => exact ⟨0, Nat.zero_le _, rfl, Fr.refl _ _⟩
  case round =>
    obtain ⟨k, hk, rfl, hf⟩ := hrel
    have hCr : Ck wr b (now + 1) (.slice A xs.length c) xs := HC1.out.fr hf (fun h => h) (fun _ _ h => h)
    have HCr := hid hCr
    have HFr := hid hf
    have c0 := hCr.blk.cell 0 rfl
    have c1 := hCr.blk.cell 1 rfl
    have hltr := hCr.blk.lt
    have hml : m ≤ xs.length := HTL.out
    obtain ⟨hcap, hcap2⟩ := hCr.sv.cap rfl
    unfold maxLen at hcap2
    have hcut := cut_hi A xs.length c k (by omega)
    have hcl : ∀ nq, Calls Try.prog 25 #[.slice A m c] (wr.drewN nq) (RowTo tl (wr.drewN nq)) := fun nq => by
      rw [← HTl.out]
      have hq : Ck (wr.drewN nq) b (now + 1) (.slice A xs.length c) xs := hCr.fr ((Fr.refl NoB wr).drewN nq) (fun h => h) (fun _ _ h => h)
      exact clone_any _ A m c (xs.take m) (fun hA => by
        subst hA
        obtain ⟨h2, h3⟩ := hq.sv.nil rfl
        subst h2
        exact ⟨by simp, by simpa using hml, h3⟩) (fun ad hA => hq.sv.ta rfl ad hA m) (by show _ = _; rw [List.length_take]; omega) (by rw [List.length_take]; omega)
    have HCL := hid hcl
    clear hcl
    by_cases hkm : k < m
    · obtain ⟨g, rest, rfl, hV⟩ : ∃ g rest, A = some ⟨g, 0, none⟩ ∧ TV wr g xs rest c := by
        rcases hCr.sv with ⟨h1, rfl⟩ | ⟨g, c', rest, h1, h2, _⟩
        · simp at hml; omega
        · injection h1 with e1 e2 e3
          subst e3
          exact ⟨g, rest, e1, h2⟩
      have hkx : k < xs.length := by omega
      obtain ⟨_, _, d2⟩ := TV.cells hV k hkx
      have htm := HTP.out k hkx hkm
      generalize xs[k].at_ = a at d2 htm
      have hd1 : decide ((k : Int) < (xs.length : Int)) = true := by simp; omega
      have hd2 : decide (a ≤ now + 1) = true := by simp [htm]
      have i1 : (0 : Int) ≤ (k : Int) := by omega
      have i2 : (k : Int) < (xs.length : Int) := by omega
      clear hCr hV htm hf
      go_wp2
      go_quiet (fail)
      go_wp2
      go_roundw
      case rel => exact ⟨k + 1, by omega, by go_num, HFr.out.drewN _⟩
      case measure => simp [intOf]; omega
    · obtain rfl : k = m := by omega
      by_cases hkx : k < xs.length
      · obtain ⟨g, rest, rfl, hV⟩ : ∃ g rest, A = some ⟨g, 0, none⟩ ∧ TV wr g xs rest c := by
          rcases hCr.sv with ⟨h1, rfl⟩ | ⟨g, c', rest, h1, h2, _⟩
          · simp at hkx
          · injection h1 with e1 e2 e3
            subst e3
            exact ⟨g, rest, e1, h2⟩
        obtain ⟨_, _, d2⟩ := TV.cells hV k hkx
        have htm := HTN.out hkx
        generalize xs[k].at_ = a at d2 htm
        have hd1 : decide ((k : Int) < (xs.length : Int)) = true := by simp; omega
        have hd2 : decide (a ≤ now + 1) = false := by simpa using htm
        have i1 : (0 : Int) ≤ (k : Int) := by omega
        have i2 : (k : Int) < (xs.length : Int) := by omega
        clear hCr hV htm hf
        go_wp2
        go_quiet (fail)
        go_wp2_with fail
        refine (HCL.out _).mono ?_
        rintro e' w2 ⟨r, rfl, hr, hf2⟩
        have HR := hid hr
        have HF2 := hid (((Fr.refl NoB wr).drewN nq).trans hf2)
        have HC2 := hid (HCr.out.fr HF2.out (fun h => h) (fun _ _ h => h))
        have HLT : Hid (b < (wr.drewN nq).heap.size) := hltr
        have HLV := hid (HCr.out.sv.lt)
        have HQ : Hid ((wr.drewN nq).heap.size = wr.heap.size) := rfl
        have HSZ : Hid (w.heap.size ≤ (wr.drewN nq).heap.size) := Nat.le_trans HF1.out.size HFr.out.size
        have HSZ2 := hid hf2.size
        clear hr hf2
        have c3 := HC2.out.blk.cell 1 rfl
        have hlt2 := HC2.out.blk.lt
        go_wp2_with fail
        have hdel := del_any w2 _ xs _ HC2.out.sv HTL.out hl
        rw [HDl.out] at hdel
        refine hdel.mono ?_
        clear hdel
        rintro e' w3 ⟨v3, rfl, hV3, hf3, ho3⟩
        obtain ⟨A3, c4, rfl⟩ := hV3.shape
        have hB3 := HC2.out.blk.fr hf3 HC2.out.ne
        have p1 := hB3.cell 1 rfl
        have p2 := hB3.frozen 1
        have HB3 := hid hB3
        have HV3 := hid hV3
        have HF3 := hid hf3
        have HO3 := hid ho3
        have hlt3 := hB3.lt
        clear hB3 hV3 hf3 ho3
        go_wp2
        go_ret
        have hrl : ∀ k', OwnB r k' → (wr.drewN nq).heap.size ≤ k' ∧ k' < w2.heap.size := fun k' hk' => Row.lt HR.out k' hk'
        refine ⟨r, _, rfl, ?_, Ck.store HB3.out HV3.out, ?_, ?_, ?_⟩
        · refine Row.base_le (base := (wr.drewN nq).heap.size) ?_ HSZ.out
          refine Row.fr (Row.fr HR.out HF3.out (fun k' hk' hv => by have := hrl k' hk'; have := HLV.out k' hv; have := HQ.out; omega)) ((Fr.refl (At b) w3).setAt 1 _) (fun k' hk' he => by
            have he' : k' = b := he
            have := hrl k' hk'
            have := HLT.out
            omega)
        · refine ((((HF1.out.then_ HFr.out (fun _ h => h.elim)).then_ HF2.out (fun _ h => h.elim)).then_ HF3.out (fun _ h => .inl (.inr h))).setCell (p := ⟨b, 1, none⟩) (.inl (.inl rfl)) _)
        · intro k' hk'
          have := HSZ.out
          have := HSZ2.out
          exact (HO3.out k' hk').imp id (fun h => by omega)
        · intro k' hk' hc
          have h1 := hrl k' hk'
          have h2 := HLT.out
          rcases hc with hc | hc
          · omega
          · rcases HO3.out k' hc with h3 | h3
            · have := HLV.out k' h3
              have := HQ.out
              omega
            · omega
      · have hd1 : decide ((k : Int) < (xs.length : Int)) = false := by simp; omega
        obtain rfl : k = xs.length := by omega
        clear hCr hf
        go_wp2
        go_quiet (fail)
        go_wp2_with fail
        refine (HCL.out _).mono ?_
        rintro e' w2 ⟨r, rfl, hr, hf2⟩
        have HR := hid hr
        have HF2 := hid (((Fr.refl NoB wr).drewN nq).trans hf2)
        have HC2 := hid (HCr.out.fr HF2.out (fun h => h) (fun _ _ h => h))
        have HLT : Hid (b < (wr.drewN nq).heap.size) := hltr
        have HLV := hid (HCr.out.sv.lt)
        have HQ : Hid ((wr.drewN nq).heap.size = wr.heap.size) := rfl
        have HSZ : Hid (w.heap.size ≤ (wr.drewN nq).heap.size) := Nat.le_trans HF1.out.size HFr.out.size
        have HSZ2 := hid hf2.size
        clear hr hf2
        have c3 := HC2.out.blk.cell 1 rfl
        have hlt2 := HC2.out.blk.lt
        go_wp2_with fail
        have hdel := del_any w2 _ xs _ HC2.out.sv HTL.out hl
        rw [HDl.out] at hdel
        refine hdel.mono ?_
        clear hdel
        rintro e' w3 ⟨v3, rfl, hV3, hf3, ho3⟩
        obtain ⟨A3, c4, rfl⟩ := hV3.shape
        have hB3 := HC2.out.blk.fr hf3 HC2.out.ne
        have p1 := hB3.cell 1 rfl
        have p2 := hB3.frozen 1
        have HB3 := hid hB3
        have HV3 := hid hV3
        have HF3 := hid hf3
        have HO3 := hid ho3
        have hlt3 := hB3.lt
        clear hB3 hV3 hf3 ho3
        go_wp2
        go_ret
        have hrl : ∀ k', OwnB r k' → (wr.drewN nq).heap.size ≤ k' ∧ k' < w2.heap.size := fun k' hk' => Row.lt HR.out k' hk'
        refine ⟨r, _, rfl, ?_, Ck.store HB3.out HV3.out, ?_, ?_, ?_⟩
        · refine Row.base_le (base := (wr.drewN nq).heap.size) ?_ HSZ.out
          refine Row.fr (Row.fr HR.out HF3.out (fun k' hk' hv => by have := hrl k' hk'; have := HLV.out k' hv; have := HQ.out; omega)) ((Fr.refl (At b) w3).setAt 1 _) (fun k' hk' he => by
            have he' : k' = b := he
            have := hrl k' hk'
            have := HLT.out
            omega)
        · refine ((((HF1.out.then_ HFr.out (fun _ h => h.elim)).then_ HF2.out (fun _ h => h.elim)).then_ HF3.out (fun _ h => .inl (.inr h))).setCell (p := ⟨b, 1, none⟩) (.inl (.inl rfl)) _)
        · intro k' hk'
          have := HSZ.out
          have := HSZ2.out
          exact (HO3.out k' hk').imp id (fun h => by omega)
        · intro k' hk' hc
          have h1 := hrl k' hk'
          have h2 := HLT.out
          rcases hc with hc | hc
          · omega
          · rcases HO3.out k' hc with h3 | h3
            · have := HLV.out k' h3
              have := HQ.out
              omega
            · omega
end Go.Proofs.Ytgjgmaeickhhfaa
