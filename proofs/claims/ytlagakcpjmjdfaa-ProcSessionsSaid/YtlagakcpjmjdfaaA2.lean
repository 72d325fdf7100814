import Derived.Test.YtlagakcpjmjdfaaA1
set_option linter.unusedSimpArgs false
set_option linter.unusedVariables false
set_option maxRecDepth 20000
namespace Go.Proofs.Ytlagakcpjmjdfaa
open Go.RowKit Go.Proofs.YtlagakcpjmjdfaaW.PrintWords
def inGrp (g s : Int) (p : Pr) : Bool := p.grp == g && (s == 0 || p.ses == s)
def hasG (l : List Pr) (g s : Int) : Bool := l.any (inGrp g s)
theorem ret1 {a b : Bool} (h : a = b) : Ending.returned (.bool b) = .returned (.bool a) := by rw [h]
theorem pHas1_any (w : World) (a b c : Nat) (p : Pr) (g s : Int) (h : Blk w a 51 p.cells) (hb : w.cell? ⟨b, 0, none⟩ = some (.int .i64 g)) (hc : w.cell? ⟨c, 0, none⟩ = some (.int .i64 s)) :
    Calls Try.prog 51 #[.pointer (some ⟨a, 0, none⟩), .pointer (some ⟨b, 0, none⟩), .pointer (some ⟨c, 0, none⟩)] w fun e w' => e = .returned (.bool (inGrp g s p)) ∧ Fr NoB w w' := by
  have c0 := h.cell 2 rfl
  have c1 := h.cell 3 rfl
  clear h
  cases h1 : (p.grp == g)
  · have hr : inGrp g s p = false := by unfold inGrp; rw [h1]; rfl
    have HR := hid hr
    clear hr
    go_enter Try.func51, Try.ntmps51
    go_wp2
    go_quiet (fail)
    go_wp2
    go_ret
    exact ⟨ret1 HR.out, (Fr.refl _ w).drewN _⟩
  · cases h2 : (s == 0)
    · cases h3 : (p.ses == s)
      · have hr : inGrp g s p = false := by unfold inGrp; rw [h1, h2, h3]; rfl
        have HR := hid hr
        clear hr
        go_enter Try.func51, Try.ntmps51
        go_wp2
        go_quiet (fail)
        go_wp2
        go_ret
        exact ⟨ret1 HR.out, (Fr.refl _ w).drewN _⟩
      · have hr : inGrp g s p = true := by unfold inGrp; rw [h1, h2, h3]; rfl
        have HR := hid hr
        clear hr
        go_enter Try.func51, Try.ntmps51
        go_wp2
        go_quiet (fail)
        go_wp2
        go_ret
        exact ⟨ret1 HR.out, (Fr.refl _ w).drewN _⟩
    · have hr : inGrp g s p = true := by unfold inGrp; rw [h1, h2]; rfl
      have HR := hid hr
      clear hr
      go_enter Try.func51, Try.ntmps51
      go_wp2
      go_quiet (fail)
      go_wp2
      go_ret
      exact ⟨ret1 HR.out, (Fr.refl _ w).drewN _⟩
theorem pSome_any (w : World) (tb mb mn : Nat) (v : Value) (bs : List Nat) (l : List Pr) (nx : Int) (f : Int → Int) (fn : Nat) (lb : Array Value) (q : Pr → Bool) (h : PT w tb v bs l nx mb mn f) (hl : l.length ≤ 4096) (hP : PredP fn lb q bs l w) :
    Calls Try.prog 46 #[.pointer (some ⟨tb, 0, none⟩), .func (.func fn) #[] lb] w fun e w' => e = .returned (.bool (l.any q)) ∧ Fr NoB w w' := by
  have HC := hid (pcf_any w v fn lb q bs l h.row h.len hP hl)
  have c0 := h.blk.cell 0 rfl
  clear h hP
  go_enter Try.func46, Try.ntmps46
  go_wp2_with fail
  refine HC.out.mono ?_
  rintro e' w1 ⟨rfl, hf1⟩
  have HF1 := hid hf1
  clear hf1
  go_wp2
  go_ret
  exact ⟨rfl, HF1.out⟩
theorem pHas_any (w : World) (tb mb mn : Nat) (v : Value) (bs : List Nat) (l : List Pr) (nx : Int) (f : Int → Int) (g s : Int) (h : PT w tb v bs l nx mb mn f) (hl : l.length ≤ 4096) :
    Calls Try.prog 29 #[.pointer (some ⟨tb, 0, none⟩), .int .i64 g, .int .i64 s] w fun e w' => e = .returned (.bool (hasG l g s)) ∧ Fr NoB w w' := by
  have hf0 : Fr NoB w ((w.alloc (.cells #[.int .i64 g] 3)).alloc (.cells #[.int .i64 s] 3)) := ((Fr.refl _ _).alloc _).alloc _
  have hb1 := (Blk.new w 3 [.int .i64 g]).alloc (.cells #[.int .i64 s] 3)
  have hb2 := Blk.new (w.alloc (.cells #[.int .i64 g] 3)) 3 [.int .i64 s]
  rw [World.size_alloc] at hb2
  have h1 := h.frd hf0
  have HS := hid (pSome_any _ tb mb mn v bs l nx f 51 #[.pointer (some ⟨w.heap.size, 0, none⟩), .pointer (some ⟨w.heap.size + 1, 0, none⟩)] (inGrp g s) h1 hl ⟨fun args w => by kernel_rfl, fun W hW k a b => pHas1_any W bs[k] w.heap.size (w.heap.size + 1) l[k] g s ((h1.prc k a b).fr hW (fun h => h)) ((hb1.fr hW (fun h => h)).cell 0 rfl) ((hb2.fr hW (fun h => h)).cell 0 rfl)⟩)
  have HF0 := hid hf0
  clear h h1 hf0 hb1 hb2
  go_enter Try.func29, Try.ntmps29
  go_wp2_with fail
  refine HS.out.mono ?_
  rintro e' w1 ⟨rfl, hf1⟩
  have HF1 := hid (HF0.out.trans hf1)
  clear hf1
  go_wp2
  go_ret
  exact ⟨rfl, HF1.out⟩
def onTty (t : Int) (p : Pr) : Bool := t != 0 && p.tty == t
theorem pSes1_any (w : World) (a b : Nat) (p : Pr) (t : Int) (h : Blk w a 51 p.cells) (hb : w.cell? ⟨b, 0, none⟩ = some (.int .i64 t)) :
    Calls Try.prog 52 #[.pointer (some ⟨a, 0, none⟩), .pointer (some ⟨b, 0, none⟩)] w fun e w' => e = .returned (.bool (onTty t p)) ∧ Fr NoB w w' := by
  have c0 := h.cell 4 rfl
  clear h
  cases h1 : (t != 0)
  · have hr : onTty t p = false := by unfold onTty; rw [h1]; rfl
    have HR := hid hr
    clear hr
    go_enter Try.func52, Try.ntmps52
    go_wp2
    go_quiet (fail)
    go_wp2
    go_ret
    exact ⟨ret1 HR.out, (Fr.refl _ w).drewN _⟩
  · have hr : onTty t p = (p.tty == t) := by unfold onTty; rw [h1]; rfl
    have HR := hid hr
    clear hr
    go_enter Try.func52, Try.ntmps52
    go_wp2
    go_quiet (fail)
    go_wp2
    go_ret
    exact ⟨ret1 HR.out, (Fr.refl _ w).drewN _⟩
theorem cellK {S : Nat → Prop} {w w1 : World} {b j : Nat} {u : Value} (hc : w.cell? ⟨b, j, none⟩ = some u) (hf : Fr S w w1) (hs : ¬ S b := by exact fun h => h) : w1.cell? ⟨b, j, none⟩ = some u := by
  have hb : b < w.heap.size := by
    unfold World.cell? at hc
    exact Decidable.byContradiction fun hn => by
      rw [Array.getElem?_eq_none (by simpa using hn)] at hc
      simp at hc
  rw [World.cell?_of_block (w' := w1) (hf.block _ hb hs)]
  exact hc
/-- The session of a terminal. -/
def sesOf (l : List Pr) (t : Int) : Int := match l.find? (onTty t) with | some p => p.ses | none => 0
theorem sesOf_at (l : List Pr) (t : Int) (h : l.findIdx (onTty t) < l.length) : sesOf l t = (l[l.findIdx (onTty t)]).ses := by
  unfold sesOf
  have e : l.find? (onTty t) = some (l[l.findIdx (onTty t)]) := by rw [List.find?_eq_some_iff_getElem]; exact ⟨List.findIdx_getElem, _, h, rfl, fun j hj => by simpa using List.not_of_lt_findIdx hj⟩
  rw [e]
theorem sesOf_none (l : List Pr) (t : Int) (h : l.any (onTty t) = false) : sesOf l t = 0 := by
  unfold sesOf
  rw [show l.find? (onTty t) = none by rw [List.find?_eq_none]; simpa using h]
theorem pSes_any (w : World) (tb mb mn : Nat) (v : Value) (bs : List Nat) (l : List Pr) (nx : Int) (f : Int → Int) (t : Int) (h : PT w tb v bs l nx mb mn f) (hl : l.length ≤ 4096) :
    Calls Try.prog 30 #[.pointer (some ⟨tb, 0, none⟩), .int .i64 t] w fun e w' => e = .returned (.int .i64 (sesOf l t)) ∧ Fr NoB w w' := by
  have hf0 : Fr NoB w (w.alloc (.cells #[.int .i64 t] 3)) := (Fr.refl _ _).alloc _
  have hbx := Blk.new w 3 [.int .i64 t]
  have h1 := h.frd hf0
  have hix := pix_any _ v 52 #[.pointer (some ⟨w.heap.size, 0, none⟩)] (onTty t) bs l h1.row h1.len ⟨fun args w => by kernel_rfl, fun W hW k a b => pSes1_any W bs[k] w.heap.size l[k] t ((h1.prc k a b).fr hW (fun h => h)) ((hbx.fr hW (fun h => h)).cell 0 rfl)⟩ hl
  have c0 := h1.blk.cell 0 rfl
  have HIX := hid hix
  have HF0 := hid hf0
  have HT := hid h1
  have hlen := h.len
  have HL := hid hlen
  obtain ⟨A, c, hv, hc⟩ := h1.row.shape
  subst hv
  clear h h1 hix hf0 hbx hlen
  cases hq : l.any (onTty t)
  · have HR : Hid (ixP (onTty t) l = -1) := hid (ixP_none hq)
    have HP : Hid (sesOf l t = 0) := hid (sesOf_none l t hq)
    clear hq
    rw [HP.out]
    rw [HR.out] at HIX
    go_enter Try.func30, Try.ntmps30
    go_wp2_with fail
    refine HIX.out.mono ?_
    rintro e' w1 ⟨rfl, hf1⟩
    have HF1 := hid (HF0.out.trans hf1)
    clear hf1
    go_wp2
    go_ret
    exact ⟨rfl, HF1.out⟩
  · have hi : l.findIdx (onTty t) < l.length := List.findIdx_lt_length_of_exists (by simpa using hq)
    have HR : Hid (ixP (onTty t) l = (l.findIdx (onTty t) : Nat)) := hid (by unfold ixP; rw [if_pos hq])
    have HP := hid (sesOf_at l t hi)
    clear hq
    rw [HP.out]
    rw [HR.out] at HIX
    generalize l.findIdx (onTty t) = i at *
    have hib : i < bs.length := by have := HL.out; omega
    rcases HT.out.row with ⟨h0, h00⟩ | ⟨g, cc, rest, h0, hV, h2, h3⟩
    · rw [h00] at hib; simp at hib
    · obtain rfl : A = some ⟨g, 0, none⟩ := by injection h0
      have HV := hid hV
      have HPB := hid (HT.out.prc i hib hi)
      clear h0 hV
      generalize l[i] = p at *
      go_enter Try.func30, Try.ntmps30
      go_wp2_with fail
      refine HIX.out.mono ?_
      rintro e' w1 ⟨rfl, hf1⟩
      have c1 := (HT.out.blk.fr hf1 (fun h => h)).cell 0 rfl
      have c2 := PV.cell (Vec.fr HV.out hf1 (fun h => h)) i hib
      have c3 := (HPB.out.fr hf1 (fun h => h)).cell 3 rfl
      have HF1 := hid (HF0.out.trans hf1)
      clear hf1
      generalize bs[i] = a at *
      go_wp2
      go_ret
      exact ⟨rfl, HF1.out⟩
theorem pFront_any (w : World) (tb mb mn : Nat) (v : Value) (bs : List Nat) (l : List Pr) (nx : Int) (f : Int → Int) (t : Int) (h : PT w tb v bs l nx mb mn f) (ht : J64 t) :
    Calls Try.prog 26 #[.pointer (some ⟨tb, 0, none⟩), .int .i64 t] w fun e w' => e = .returned (.int .i64 (f t)) ∧ w = w' := by
  have c2 := h.blk.cell 2 rfl
  have hlk := h.map.look t ht
  clear h
  go_enter Try.func26, Try.ntmps26
  go_wp2
  go_ret
  exact ⟨rfl, rfl⟩
/-- Is a process one that keeps its group from being an orphan? -/
def keeps (l : List Pr) (g : Int) (p : Pr) : Bool := p.grp == g && (match l.find? (isPid p.par) with | some q => q.grp != g && q.ses == p.ses | none => false)
def orphG (l : List Pr) (g : Int) : Bool := hasG l g 0 && !l.any (keeps l g)
theorem find_at (l : List Pr) (q : Pr → Bool) (h : l.findIdx q < l.length) : l.find? q = some (l[l.findIdx q]) := by
  rw [List.find?_eq_some_iff_getElem]; exact ⟨List.findIdx_getElem, _, h, rfl, fun j hj => by simpa using List.not_of_lt_findIdx hj⟩
/-- What find gives: none, or a process at its block. -/
theorem PtrTo.cases (bs : List Nat) (q : Pr → Bool) (l : List Pr) (hb : bs.length = l.length) : (PtrTo bs q l = .pointer none ∧ l.find? q = none ∧ l.any q = false) ∨ ∃ (i : Nat) (h1 : i < bs.length) (h2 : i < l.length), PtrTo bs q l = .pointer (some ⟨bs[i], 0, none⟩) ∧ l.find? q = some l[i] ∧ q l[i] = true ∧ l.findIdx q = i := by
  cases hq : l.any q
  · refine .inl ⟨by unfold PtrTo; rw [hq]; rfl, ?_, rfl⟩
    rw [List.find?_eq_none]
    simpa using hq
  · have hi : l.findIdx q < l.length := List.findIdx_lt_length_of_exists (by simpa using hq)
    have hib : l.findIdx q < bs.length := by omega
    refine .inr ⟨l.findIdx q, hib, hi, ?_, find_at l q hi, List.findIdx_getElem, rfl⟩
    unfold PtrTo
    rw [if_pos hq, List.getD_eq_getElem?_getD, List.getElem?_eq_getElem hib]
    rfl
end Go.Proofs.Ytlagakcpjmjdfaa
