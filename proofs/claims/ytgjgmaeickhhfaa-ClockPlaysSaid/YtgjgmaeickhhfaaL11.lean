import Derived.Test.YtgjgmaeickhhfaaL10
set_option linter.unusedSimpArgs false
set_option linter.unusedVariables false
namespace Go.Proofs.Ytgjgmaeickhhfaa
open Go.RowKit Go.Proofs.YtgjgmaeickhhfaaW.PrintWords
theorem Set_any (w : World) (b : Nat) (now : Int) (v : Value) (xs : List Tm) (e i ticks : Int) (h : Ck w b now v xs) (hl : xs.length ≤ 1024) (hs : Sorted xs) (h0 : 0 ≤ now) (h9 : now ≤ 1073741824) :
    Calls Try.prog 8 #[.pointer (some ⟨b, 0, none⟩), .int .i64 e, .int .i64 i, .int .i64 ticks] w (CkTo b v (.int .i64 (setE xs e i ticks)) now (setL now xs e i ticks) w) := by
  by_cases hok : setE xs e i ticks = 0
  · unfold setL
    rw [hok, if_pos rfl]
    exact Set_ok w b now v xs e i ticks h hl hs h0 h9 hok
  · unfold setL
    rw [if_neg hok]
    exact Set_no w b now v xs e i ticks h hl hok
theorem setL_sorted {now : Int} {xs : List Tm} {e i ticks : Int} (hs : Sorted xs) : Sorted (setL now xs e i ticks) := by
  unfold setL
  split
  · exact putT_sorted (filter_sorted _ hs) (fun x hx => outT_ne hx)
  · exact hs
/-- What a clock owns lies from n on. -/
def Own (n b : Nat) (v : Value) : Prop := n ≤ b ∧ ∀ k, OwnB v k → n ≤ k
theorem Own.fr {n b : Nat} {v : Value} {w w1 w2 : World} (h : Own n b v) (hf : Fr NoB w w1) (hn : w.heap.size ≤ n) (h2 : Fr (CkB b v) w1 w2) : Fr NoB w w2 :=
  hf.then_ h2 (fun k hk => .inr (by
    rcases hk with rfl | hk
    · exact Nat.le_trans hn h.1
    · exact Nat.le_trans hn (h.2 k hk)))
theorem Own.next {n b : Nat} {v v' : Value} {w : World} (h : Own n b v) (hw : n ≤ w.heap.size) (h2 : ∀ k, OwnB v' k → OwnB v k ∨ w.heap.size ≤ k) : Own n b v' :=
  ⟨h.1, fun k hk => (h2 k hk).elim (h.2 k) (fun h3 => Nat.le_trans hw h3)⟩
/-- A clock of the call's own, from a world w0 on. -/
def Clk (w0 w : World) (b : Nat) (now : Int) (xs : List Tm) : Prop := ∃ v, Ck w b now v xs ∧ Own w0.heap.size b v ∧ Fr NoB w0 w
theorem Clk.new (w0 : World) {w : World} (h : Ck w w0.heap.size 0 (.slice none 0 0) [] ∧ Fr NoB w0 w) : Clk w0 w w0.heap.size 0 [] := ⟨_, h.1, ⟨Nat.le_refl _, fun k hk => by cases hk⟩, h.2⟩
def ClkTo (w0 : World) (b : Nat) (r : Value) (now : Int) (xs : List Tm) (e : Ending) (w' : World) : Prop := e = .returned r ∧ Clk w0 w' b now xs
theorem Clk.step {w0 w : World} {b : Nat} {now now' : Int} {xs xs' : List Tm} {f : FuncId} {args : Array Value} {r : Value} (h : Clk w0 w b now xs) (hc : ∀ v, Ck w b now v xs → Calls Try.prog f args w (CkTo b v r now' xs' w)) : Calls Try.prog f args w (ClkTo w0 b r now' xs') := by
  obtain ⟨v, h1, h2, h3⟩ := h
  refine (hc v h1).mono fun e w' h => ?_
  obtain ⟨he, v', h4, h5, h6⟩ := h
  exact ⟨he, v', h4, h2.next h3.size h6, h2.fr h3 (Nat.le_refl _) h5⟩
theorem cSet (w0 w : World) (b : Nat) (now : Int) (xs : List Tm) (e i ticks : Int) (h : Clk w0 w b now xs) (hl : xs.length ≤ 1024) (hs : Sorted xs) (h0 : 0 ≤ now) (h9 : now ≤ 1073741824) :
    Calls Try.prog 8 #[.pointer (some ⟨b, 0, none⟩), .int .i64 e, .int .i64 i, .int .i64 ticks] w (ClkTo w0 b (.int .i64 (setE xs e i ticks)) now (setL now xs e i ticks)) :=
  h.step (fun v hv => Set_any w b now v xs e i ticks hv hl hs h0 h9)
theorem cKill (w0 w : World) (b : Nat) (now : Int) (xs : List Tm) (e : Int) (h : Clk w0 w b now xs) (hl : xs.length ≤ 4096) :
    Calls Try.prog 12 #[.pointer (some ⟨b, 0, none⟩), .int .i64 e] w (ClkTo w0 b (.int .i64 (missI (fun t => t.env == e) xs)) now (xs.filter fun x => !(x.env == e))) :=
  h.step (fun v hv => Kill_any w b now v xs e hv hl)
theorem cCancel (w0 w : World) (b : Nat) (now : Int) (xs : List Tm) (e i : Int) (h : Clk w0 w b now xs) (hl : xs.length ≤ 4096) :
    Calls Try.prog 13 #[.pointer (some ⟨b, 0, none⟩), .int .i64 e, .int .i64 i] w (ClkTo w0 b (.bool (decide (0 < missI (isIt e i) xs))) now (outT e i xs)) :=
  h.step (fun v hv => Cancel_any w b now v xs e i hv hl)
/-- The end of a call that answers timers in memory of their own, and what became of the clock. -/
def ClkRow (w0 w : World) (b : Nat) (ys : List Tm) (now : Int) (xs : List Tm) (e : Ending) (w' : World) : Prop := ∃ A c, e = .returned (.slice A ys.length c) ∧ TRow w' w.heap.size (.slice A ys.length c) ys ∧ Clk w0 w' b now xs
theorem cTick (w0 w : World) (b : Nat) (now : Int) (xs : List Tm) (h : Clk w0 w b now xs) (hl : xs.length ≤ 4096) (h0 : 0 ≤ now) (h9 : now ≤ 1073741824) :
    Calls Try.prog 10 #[.pointer (some ⟨b, 0, none⟩)] w (ClkRow w0 w b (xs.takeWhile (dueP (now + 1))) (now + 1) (xs.dropWhile (dueP (now + 1)))) := by
  obtain ⟨v, h1, h2, h3⟩ := h
  refine (Tick_any w b now v xs h1 hl h0 h9).mono fun e w' h => ?_
  obtain ⟨r, v', he, hr, h4, h5, h6, _⟩ := h
  obtain ⟨A, c, rfl, _⟩ := Row.shape hr
  exact ⟨A, c, he, hr, v', h4, h2.next h3.size h6, h2.fr h3 (Nat.le_refl _) h5⟩
theorem cAll (w0 w : World) (b : Nat) (now : Int) (xs : List Tm) (h : Clk w0 w b now xs) (hl : xs.length ≤ 4096) :
    Calls Try.prog 9 #[.pointer (some ⟨b, 0, none⟩)] w (ClkRow w0 w b xs now xs) := by
  obtain ⟨v, h1, h2, h3⟩ := h
  refine (All_any w b now v xs h1 hl).mono fun e w' h => ?_
  obtain ⟨r, he, hr, h4⟩ := h
  obtain ⟨A, c, rfl, _⟩ := Row.shape hr
  exact ⟨A, c, he, hr, v, h1.fr h4 (fun h => h) (fun _ _ h => h), h2, h3.trans h4⟩
theorem cNow (w0 w : World) (b : Nat) (now : Int) (xs : List Tm) (h : Clk w0 w b now xs) : Calls Try.prog 14 #[.pointer (some ⟨b, 0, none⟩)] w fun e w' => e = .returned (.int .i64 now) ∧ w = w' := by
  obtain ⟨v, h1, h2, h3⟩ := h
  exact Now_any w b now v xs h1
theorem cNew (w : World) : Calls Try.prog 7 #[] w (ClkTo w w.heap.size (.pointer (some ⟨w.heap.size, 0, none⟩)) 0 []) := (New_any w).mono fun _ _ h => ⟨h.1, Clk.new w h.2⟩
theorem Clk.drewN {w0 w : World} {b : Nat} {now : Int} {xs : List Tm} (h : Clk w0 w b now xs) (n : Nat) : Clk w0 (w.drewN n) b now xs := by
  obtain ⟨v, h1, h2, h3⟩ := h
  exact ⟨v, h1.fr ((Fr.refl NoB w).drewN n) (fun h => h) (fun _ _ h => h), h2, h3.drewN n⟩
set_option maxHeartbeats 2000000 in
theorem awake_any (w : World) : Calls Try.prog 11 #[] w fun e w' => e = .returned (.bool true) ∧ Fr NoB w w' := by
  have e1 : setE [] 1 2 2 = 0 := rfl
  have e2 : setL 0 [] 1 2 2 = [⟨1, 2, 2⟩] := rfl
  have e3 : List.takeWhile (dueP (0 + 1)) [Tm.mk 1 2 2] = [] := rfl
  have e4 : List.dropWhile (dueP (0 + 1)) [Tm.mk 1 2 2] = [⟨1, 2, 2⟩] := rfl
  have e5 : List.takeWhile (dueP (0 + 1 + 1)) [Tm.mk 1 2 2] = [⟨1, 2, 2⟩] := rfl
  have e6 : List.dropWhile (dueP (0 + 1 + 1)) [Tm.mk 1 2 2] = [] := rfl
  have c1 : ∀ w1, Clk w w1 w.heap.size 0 [] → _ := fun w1 h => cSet w w1 w.heap.size 0 [] 1 2 2 h (by simp) List.Pairwise.nil (by omega) (by omega)
  have c2 : ∀ w1, Clk w w1 w.heap.size 0 [⟨1, 2, 2⟩] → _ := fun w1 h => cTick w w1 w.heap.size 0 [⟨1, 2, 2⟩] h (by simp) (by omega) (by omega)
  have c3 : ∀ w1, Clk w w1 w.heap.size (0 + 1) [⟨1, 2, 2⟩] → _ := fun w1 h => cTick w w1 w.heap.size (0 + 1) [⟨1, 2, 2⟩] h (by simp) (by omega) (by omega)
  rw [e1, e2] at c1
  rw [e3, e4] at c2
  rw [e5, e6] at c3
  have C1 := hid c1
  have C2 := hid c2
  have C3 := hid c3
  clear c1 c2 c3 e1 e2 e3 e4 e5 e6
  go_enter Try.func11, Try.ntmps11
  go_wp2_with fail
  refine (cNew w).mono ?_
  rintro e' w1 ⟨rfl, k1⟩
  go_wp2_with fail
  refine (C1.out w1 k1).mono ?_
  rintro e' w2 ⟨rfl, k2⟩
  go_wp2_with fail
  refine (C2.out w2 k2).mono ?_
  rintro e' w3 ⟨A3, c3, rfl, r3, k3⟩
  go_wp2_with fail
  refine (C3.out w3 k3).mono ?_
  rintro e' w4 ⟨A4, c4, rfl, r4, k4⟩
  obtain ⟨g4, c4', hv4, _, _⟩ := Row.ptr r4 (by simp)
  injection hv4 with e1 e2 e3
  subst e1
  clear e2 e3
  have d0 := Row.cell r4 Tm.cells_len 0 (by simp) 0 (by omega) rfl
  have d1 := Row.cell r4 Tm.cells_len 0 (by simp) 1 (by omega) rfl
  have d2 := Row.cell r4 Tm.cells_len 0 (by simp) 2 (by omega) rfl
  have K4 := hid k4
  clear k1 k2 k3 k4 r3 r4
  go_wp2_with fail
  refine (cNow w w4 _ _ _ K4.out).mono ?_
  rintro e' w5 ⟨rfl, rfl⟩
  go_wp2
  go_ret
  obtain ⟨v, _, _, hf⟩ := K4.out
  exact ⟨rfl, hf⟩
end Go.Proofs.Ytgjgmaeickhhfaa
