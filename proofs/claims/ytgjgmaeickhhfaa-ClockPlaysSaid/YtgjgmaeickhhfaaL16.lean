import Derived.Test.YtgjgmaeickhhfaaL15
set_option linter.unusedSimpArgs false
set_option linter.unusedVariables false
namespace Go.Proofs.Ytgjgmaeickhhfaa
open Go.RowKit Go.Proofs.YtgjgmaeickhhfaaW.PrintWords
/-- A clock beside blocks of others. -/
def PS (w0 w : World) (b : Nat) (now : Int) (ks : List Tm) (D : Nat → Prop) : Prop := ∃ v, Ck w b now v ks ∧ Own w0.heap.size b v ∧ Fr NoB w0 w ∧ ∀ k, D k → k < w.heap.size ∧ ¬ CkB b v k
def KD (D : Nat → Prop) (w w' : World) : Prop := ∀ k, D k → w'.heap[k]? = w.heap[k]?
theorem KD.refl (D : Nat → Prop) (w : World) : KD D w w := fun _ _ => rfl
theorem KD.trans {D : Nat → Prop} {w w1 w2 : World} (h : KD D w w1) (k : KD D w1 w2) : KD D w w2 := fun i hi => (k i hi).trans (h i hi)
theorem KD.mono {D E : Nat → Prop} {w w1 : World} (h : KD D w w1) (he : ∀ k, E k → D k) : KD E w w1 := fun i hi => h i (he i hi)
/-- The block of an address. -/
def DA (A : Option Addr) : Nat → Prop := fun k => ∃ ad, A = some ad ∧ k = ad.block
theorem TA.keep {D : Nat → Prop} {w w1 : World} {ad : Addr} {xs : List Tm} (h : TA w ad xs) (hk : KD D w w1) (hd : D ad.block) : TA w1 ad xs := fun j u hj => by
  have e : (ad.add j).block = ad.block := by unfold Addr.add; split <;> rfl
  rw [← h j u hj]
  exact World.cell?_of_block (by rw [e]; exact hk _ hd)
theorem XV.keep {D : Nat → Prop} {w w1 : World} {A : Option Addr} {c : Nat} {xs : List Tm} (h : XV w A c xs) (hk : KD D w w1) (hd : ∀ k, DA A k → D k) : XV w1 A c xs :=
  ⟨h.cap, h.nil, fun ad hA => ⟨(h.at_ ad hA).1, (h.at_ ad hA).2.keep hk (hd _ ⟨ad, hA, rfl⟩)⟩⟩
theorem XV.none_ (w : World) : XV w none 0 [] := ⟨Nat.le_refl _, fun _ => rfl, fun ad h => by cases h⟩
theorem XV.of_row {w : World} {base : Nat} {A : Option Addr} {c : Nat} {xs : List Tm} (h : TRow w base (.slice A xs.length c) xs) : XV w A c xs := by
  have hs := SV.of_row h
  refine ⟨(hs.cap rfl).1, fun hA => by subst hA; exact (hs.nil rfl).1, fun ad hA => ⟨?_, ?_⟩⟩
  · rcases hs with ⟨h1, _⟩ | ⟨g, c', rest, h1, _⟩
    · injection h1 with e1 e2 e3
      rw [hA] at e1
      cases e1
    · injection h1 with e1 e2 e3
      rw [hA] at e1
      obtain rfl := Option.some.inj e1
      rfl
  · have := hs.ta rfl ad hA xs.length
    rwa [List.take_length] at this
theorem XV.frNo {w w1 : World} {A : Option Addr} {c : Nat} {xs : List Tm} (h : XV w A c xs) (hf : Fr NoB w w1) : XV w1 A c xs :=
  ⟨h.cap, h.nil, fun ad hA => ⟨(h.at_ ad hA).1, (h.at_ ad hA).2.fr hf (fun h => h)⟩⟩
section
variable {w0 w w1 : World} {b : Nat} {now now' : Int} {ks ks' : List Tm} {D : Nat → Prop}
theorem PS.noB (h : PS w0 w b now ks D) (hf : Fr NoB w w1) : PS w0 w1 b now ks D ∧ KD D w w1 := by
  obtain ⟨v, h1, h2, h3, h4⟩ := h
  exact ⟨⟨v, h1.fr hf (fun h => h) (fun _ _ h => h), h2, h3.trans hf, fun k hk => ⟨Nat.lt_of_lt_of_le (h4 k hk).1 hf.size, (h4 k hk).2⟩⟩, fun k hk => hf.block k (h4 k hk).1 (fun h => h)⟩
theorem PS.sub {E : Nat → Prop} (h : PS w0 w b now ks D) (he : ∀ k, E k → D k) : PS w0 w b now ks E := by
  obtain ⟨v, h1, h2, h3, h4⟩ := h
  exact ⟨v, h1, h2, h3, fun k hk => h4 k (he k hk)⟩
theorem PS.lt (h : PS w0 w b now ks D) {k : Nat} (hk : D k) : k < w.heap.size := by
  obtain ⟨v, _, _, _, h4⟩ := h
  exact (h4 k hk).1
/-- A new block beside. -/
theorem PS.add {E : Nat → Prop} (h : PS w0 w b now ks D) (hf : Fr NoB w w1) (he : ∀ k, E k → w.heap.size ≤ k ∧ k < w1.heap.size) : PS w0 w1 b now ks (fun k => D k ∨ E k) ∧ KD D w w1 := by
  obtain ⟨⟨v, h1, h2, h3, h4⟩, hk⟩ := h.noB hf
  obtain ⟨v', g1, g2, g3, g4⟩ := h
  refine ⟨⟨v', g1.fr hf (fun h => h) (fun _ _ h => h), g2, g3.trans hf, fun k hk => ?_⟩, hk⟩
  rcases hk with hk | hk
  · exact ⟨Nat.lt_of_lt_of_le (g4 k hk).1 hf.size, (g4 k hk).2⟩
  · refine ⟨(he k hk).2, fun hc => ?_⟩
    have h5 := (he k hk).1
    rcases hc with hc | hc
    · have := g1.blk.lt; omega
    · have := g1.sv.lt k hc; omega
theorem PS.call {f : FuncId} {args : Array Value} {r : Value} (h : PS w0 w b now ks D) (hc : ∀ v, Ck w b now v ks → Calls Try.prog f args w (CkTo b v r now' ks' w)) :
    Calls Try.prog f args w fun e w' => e = .returned r ∧ PS w0 w' b now' ks' D ∧ KD D w w' := by
  obtain ⟨v, h1, h2, h3, h4⟩ := h
  refine (hc v h1).mono fun e w' h => ?_
  obtain ⟨he, v', h5, h6, h7⟩ := h
  refine ⟨he, ⟨v', h5, h2.next h3.size h7, h2.fr h3 (Nat.le_refl _) h6, fun k hk => ⟨Nat.lt_of_lt_of_le (h4 k hk).1 h6.size, fun hc => ?_⟩⟩, fun k hk => h6.block k (h4 k hk).1 (h4 k hk).2⟩
  rcases hc with hc | hc
  · exact (h4 k hk).2 (.inl hc)
  · rcases h7 k hc with h8 | h8
    · exact (h4 k hk).2 (.inr h8)
    · have := (h4 k hk).1
      omega
/-- A call that answers timers to be read. -/
def XTo (w0 : World) (b : Nat) (now : Int) (ks ys : List Tm) (D : Nat → Prop) (w : World) (e : Ending) (w' : World) : Prop :=
  ∃ A c, e = .returned (.slice A ys.length c) ∧ XV w' A c ys ∧ PS w0 w' b now ks (fun k => D k ∨ DA A k) ∧ KD D w w'
theorem PS.row {ys : List Tm} {e : Ending} (h : PS w0 w b now ks D) (hr : RowTo ys w e w1) : XTo w0 b now ks ys D w e w1 := by
  obtain ⟨r, he, h1, h2⟩ := hr
  obtain ⟨A, c, rfl, _⟩ := Row.shape h1
  obtain ⟨h3, h4⟩ := h.add (E := DA A) h2 (fun k hk => by
    obtain ⟨ad, hA, rfl⟩ := hk
    have hb : OwnB (.slice A ys.length c) ad.block := by
      rcases SV.of_row h1 with ⟨q1, _⟩ | ⟨g, c', rest, q1, _⟩
      · injection q1 with e1 e2 e3
        rw [hA] at e1
        cases e1
      · injection q1 with e1 e2 e3
        rw [hA] at e1
        obtain rfl := Option.some.inj e1
        rw [hA]
        rfl
    exact Row.lt h1 _ hb)
  exact ⟨A, c, he, XV.of_row h1, h3, h4⟩
theorem pTick (h : PS w0 w b now ks D) (hl : ks.length ≤ 4096) (h0 : 0 ≤ now) (h9 : now ≤ 1073741824) :
    Calls Try.prog 10 #[.pointer (some ⟨b, 0, none⟩)] w (XTo w0 b (now + 1) (ks.dropWhile (dueP (now + 1))) (ks.takeWhile (dueP (now + 1))) D w) := by
  obtain ⟨v, h1, h2, h3, h4⟩ := h
  refine (Tick_any w b now v ks h1 hl h0 h9).mono fun e w' h => ?_
  obtain ⟨r, v', he, hr, h5, h6, h7, h8⟩ := h
  obtain ⟨A, c, rfl, _⟩ := Row.shape hr
  have hkd : KD D w w' := fun k hk => h6.block k (h4 k hk).1 (h4 k hk).2
  refine ⟨A, c, he, XV.of_row hr, ⟨v', h5, h2.next h3.size h7, h2.fr h3 (Nat.le_refl _) h6, fun k hk => ?_⟩, hkd⟩
  rcases hk with hk | hk
  · refine ⟨Nat.lt_of_lt_of_le (h4 k hk).1 h6.size, fun hc => ?_⟩
    rcases hc with hc | hc
    · exact (h4 k hk).2 (.inl hc)
    · rcases h7 k hc with h9 | h9
      · exact (h4 k hk).2 (.inr h9)
      · have := (h4 k hk).1
        omega
  · obtain ⟨ad, hA, rfl⟩ := hk
    have hb : OwnB (.slice A (ks.takeWhile (dueP (now + 1))).length c) ad.block := by
      rcases SV.of_row hr with ⟨q1, _⟩ | ⟨g, c', rest, q1, _⟩
      · injection q1 with e1 e2 e3
        rw [hA] at e1
        cases e1
      · injection q1 with e1 e2 e3
        rw [hA] at e1
        obtain rfl := Option.some.inj e1
        rw [hA]
        rfl
    exact ⟨(Row.lt hr _ hb).2, h8 _ hb⟩
theorem pAll (h : PS w0 w b now ks D) (hl : ks.length ≤ 4096) : Calls Try.prog 9 #[.pointer (some ⟨b, 0, none⟩)] w (XTo w0 b now ks ks D w) := by
  obtain ⟨v, h1, h2, h3, h4⟩ := id h
  exact (All_any w b now v ks h1 hl).mono fun e w' hr => h.row hr
theorem pNow (h : PS w0 w b now ks D) : Calls Try.prog 14 #[.pointer (some ⟨b, 0, none⟩)] w fun e w' => e = .returned (.int .i64 now) ∧ w = w' := by
  obtain ⟨v, h1, h2, h3, h4⟩ := h
  exact Now_any w b now v ks h1
theorem pSet (e i ticks : Int) (h : PS w0 w b now ks D) (hl : ks.length ≤ 1024) (hs : Sorted ks) (h0 : 0 ≤ now) (h9 : now ≤ 1073741824) :
    Calls Try.prog 8 #[.pointer (some ⟨b, 0, none⟩), .int .i64 e, .int .i64 i, .int .i64 ticks] w fun e' w' => e' = .returned (.int .i64 (setE ks e i ticks)) ∧ PS w0 w' b now (setL now ks e i ticks) D ∧ KD D w w' :=
  h.call (fun v hv => Set_any w b now v ks e i ticks hv hl hs h0 h9)
theorem pKill (e : Int) (h : PS w0 w b now ks D) (hl : ks.length ≤ 4096) :
    Calls Try.prog 12 #[.pointer (some ⟨b, 0, none⟩), .int .i64 e] w fun e' w' => e' = .returned (.int .i64 (missI (fun t => t.env == e) ks)) ∧ PS w0 w' b now (ks.filter fun x => !(x.env == e)) D ∧ KD D w w' :=
  h.call (fun v hv => Kill_any w b now v ks e hv hl)
theorem pCancel (e i : Int) (h : PS w0 w b now ks D) (hl : ks.length ≤ 4096) :
    Calls Try.prog 13 #[.pointer (some ⟨b, 0, none⟩), .int .i64 e, .int .i64 i] w fun e' w' => e' = .returned (.bool (decide (0 < missI (isIt e i) ks))) ∧ PS w0 w' b now (outT e i ks) D ∧ KD D w w' :=
  h.call (fun v hv => Cancel_any w b now v ks e i hv hl)
theorem pOut {A : Option Addr} {c : Nat} {xs : List Tm} (e i : Int) (h : PS w0 w b now ks D) (hx : XV w A c xs) (hl : xs.length ≤ 4096) :
    Calls Try.prog 17 #[.slice A xs.length c, .int .i64 e, .int .i64 i] w (XTo w0 b now ks (refOut e i xs) D w) :=
  (rOut_any w A c xs e i hx hl).mono fun e w' hr => h.row hr
theorem pPut {A : Option Addr} {c : Nat} {xs : List Tm} (t : Tm) (h : PS w0 w b now ks D) (hx : XV w A c xs) (hl : xs.length ≤ 4096) :
    Calls Try.prog 16 #[.slice A xs.length c, t.v] w (XTo w0 b now ks (refPut t xs) D w) :=
  (rPut_any w A c xs t hx hl).mono fun e w' hr => h.row hr
end
theorem tw_stop (p : Tm → Bool) : ∀ (ys : List Tm) (hk : (ys.takeWhile p).length < ys.length), p ys[(ys.takeWhile p).length] = false
  | [], hk => by simp at hk
  | y :: ys, hk => by
    cases hy : p y
    · simp [List.takeWhile_cons, hy]
    · simp only [List.takeWhile_cons, hy, if_true, List.length_cons, List.getElem_cons_succ]
      exact tw_stop p ys (by simpa [List.takeWhile_cons, hy] using hk)
/-- What is said of the timers in play. -/
structure Good (n : Nat) (xs : List Tm) : Prop where
  sorted : Sorted xs
  len : xs.length ≤ n
  ids : ∀ x ∈ xs, 0 ≤ x.id
theorem Good.zero : Good 0 [] := ⟨List.Pairwise.nil, Nat.le_refl _, fun x hx => by simp at hx⟩
theorem Good.sub {n m : Nat} {xs ys : List Tm} (h : Good n xs) (hs : ys.Sublist xs) (hm : n ≤ m) : Good m ys :=
  ⟨h.sorted.sublist hs, Nat.le_trans (Nat.le_trans hs.length_le h.len) hm, fun x hx => h.ids x (hs.subset hx)⟩
theorem Good.set {n : Nat} {xs : List Tm} (h : Good n xs) (now e i ticks : Int) : Good (n + 1) (setL now xs e i ticks) := by
  unfold setL
  split
  · rename_i h0
    have hi : ¬ i < 0 := fun hi => by unfold setE at h0; rw [if_pos (.inr hi)] at h0; omega
    have hlo : (outT e i xs).length ≤ n := Nat.le_trans (List.length_filter_le _ _) h.len
    refine ⟨putT_sorted (filter_sorted _ h.sorted) (fun x hx => outT_ne hx), by rw [putT_len]; omega, fun x hx => ?_⟩
    rcases mem_putT.1 hx with rfl | hx
    · show 0 ≤ i; omega
    · exact h.ids x (List.mem_filter.1 hx).1
  · exact h.sub (List.Sublist.refl _) (by omega)
theorem refSet_eq {n : Nat} {xs : List Tm} (h : Good n xs) (hn : n ≤ 100) (e i ticks : Int) : setE xs e i ticks = refSet e i ticks := by
  have := h.len
  unfold setE refSet
  split
  · rfl
  · split
    · rfl
    · rw [if_neg (by omega)]
theorem refOut_id {e i : Int} {xs : List Tm} (hi : 0 ≤ i) : refOut e i xs = outT e i xs := by
  unfold refOut outT isIt
  congr 1
  funext x
  have : decide (i ≥ 0) = true := by simp [hi]
  rw [this]
  cases h1 : x.env == e <;> cases h2 : x.id == i <;> simp [bne, h1, h2]
theorem refOut_all {e : Int} {xs : List Tm} : refOut e (-1) xs = xs.filter fun x => !(x.env == e) := by
  unfold refOut
  congr 1
  funext x
  simp [bne]
theorem outT_neg {n : Nat} {e i : Int} {xs : List Tm} (h : Good n xs) (hi : i < 0) : outT e i xs = xs := by
  unfold outT
  rw [List.filter_eq_self]
  intro x hx
  have := h.ids x hx
  simp [isIt]
  omega
theorem setL_ok {now : Int} {xs : List Tm} {e i ticks : Int} (h : refSet e i ticks = 0) (hq : setE xs e i ticks = refSet e i ticks) : 0 ≤ i ∧ setL now xs e i ticks = refPut ⟨e, i, now + ticks⟩ (outT e i xs) := by
  have hi : 0 ≤ i := by
    by_cases hi : i < 0
    · unfold refSet at h
      rw [if_pos (.inr hi)] at h
      omega
    · omega
  refine ⟨hi, ?_⟩
  unfold setL
  rw [hq, h, if_pos rfl, refPut_eq (fun x hx => outT_ne hx)]
theorem setL_no {now : Int} {xs : List Tm} {e i ticks : Int} (h : refSet e i ticks ≠ 0) (hq : setE xs e i ticks = refSet e i ticks) : setL now xs e i ticks = xs := by
  unfold setL
  rw [hq, if_neg h]
theorem miss_len (p : Tm → Bool) (xs : List Tm) : decide (0 < missI p xs) = ((((xs.filter fun x => !p x).length : Nat) : Int) != (xs.length : Int)) := by
  have := List.length_filter_le (fun x => !p x) xs
  unfold missI
  cases h : ((((xs.filter fun x => !p x).length : Nat) : Int) != (xs.length : Int))
  · rw [bne_eq_false_iff_eq] at h
    rw [decide_eq_false_iff_not]; omega
  · rw [bne_iff_ne] at h
    rw [decide_eq_true_iff]; omega
end Go.Proofs.Ytgjgmaeickhhfaa
