import Derived.Test.YtlagakcpjmjdfaaA3
set_option linter.unusedSimpArgs false
set_option linter.unusedVariables false
set_option maxRecDepth 20000
namespace Go.Proofs.Ytlagakcpjmjdfaa
open Go.RowKit Go.Proofs.YtlagakcpjmjdfaaW.PrintWords
theorem nodup_inj {bs : List Nat} (h : bs.Nodup) (i j : Nat) (hi : i < bs.length) (hj : j < bs.length) (e : bs[i] = bs[j]) : i = j := by
  have h1 := List.pairwise_iff_getElem.1 h
  rcases Nat.lt_trichotomy i j with h2 | h2 | h2
  · exact absurd e (h1 i j hi hj h2)
  · exact h2
  · exact absurd e.symm (h1 j i hj hi h2)
/-- Tables, as lists and functions. -/
structure Tb where
  l : List Pr
  nx : Int
  f : Int → Int
def PTB (tb : Nat) (v : Value) (bs : List Nat) (mb : Nat) : Nat → Prop := fun k => k = tb ∨ OwnB v k ∨ k ∈ bs ∨ k = mb
/-- A table's memory is within S. -/
def Tab (w : World) (tb : Nat) (S : Nat → Prop) (t : Tb) (n : Nat) : Prop := ∃ v bs mb mn, PT w tb v bs t.l t.nx mb mn t.f ∧ (∀ k, PTB tb v bs mb k → S k) ∧ mn ≤ n
theorem Tab.frd {w w1 : World} {tb n : Nat} {S : Nat → Prop} {t : Tb} (h : Tab w tb S t n) (hf : Fr NoB w w1) : Tab w1 tb S t n := by
  obtain ⟨v, bs, mb, mn, h1, h2, h3⟩ := h
  exact ⟨v, bs, mb, mn, h1.frd hf, h2, h3⟩
def TabTo (w : World) (tb : Nat) (S : Nat → Prop) (t : Tb) (n : Nat) (w' : World) : Prop := ∃ S', Tab w' tb S' t n ∧ Fr S w w' ∧ ∀ k, S' k → S k ∨ w.heap.size ≤ k
theorem Tab.still {w w1 : World} {tb n : Nat} {S : Nat → Prop} {t : Tb} (h : Tab w tb S t n) (hf : Fr NoB w w1) : TabTo w tb S t n w1 := ⟨S, h.frd hf, hf.mono (fun _ h => h.elim), fun _ h => .inl h⟩
theorem TabTo.of {w w1 : World} {tb n mb mn : Nat} {S : Nat → Prop} {t : Tb} {v : Value} {bs : List Nat} (h : PT w1 tb v bs t.l t.nx mb mn t.f) (hmn : mn ≤ n) (hf : Fr S w w1) (hs : ∀ k, PTB tb v bs mb k → S k ∨ w.heap.size ≤ k) : TabTo w tb S t n w1 :=
  ⟨_, ⟨v, bs, mb, mn, h, fun _ h => h, hmn⟩, hf, hs⟩
section
variable {w w1 : World} {tb mb mn : Nat} {v : Value} {bs : List Nat} {l : List Pr} {nx : Int} {f : Int → Int}
theorem PT.apart (h : PT w tb v bs l nx mb mn f) (i : Nat) (hi : i < bs.length) : tb ≠ bs[i] ∧ ¬ OwnB v bs[i] ∧ mb ≠ bs[i] := by
  have hb := h.prc i hi (by have := h.len; omega)
  refine ⟨fun e => ?_, h.row.not_blk hb (by decide), h.map.not_blk hb⟩
  have h1 := h.blk
  rw [e] at h1
  unfold Blk at h1 hb
  rw [hb] at h1
  injection h1 with h1
  injection h1 with _ h1
  exact absurd h1 (by decide)
theorem PT.put (h : PT w tb v bs l nx mb mn f) (i : Nat) (hi : i < bs.length) (q : Pr) (hf : Fr (At bs[i]) w w1) (hb : Blk w1 bs[i] 51 q.cells) : PT w1 tb v bs (l.set i q) nx mb mn f := by
  obtain ⟨a1, a2, a3⟩ := h.apart i hi
  refine ⟨h.blk.fr hf (fun e => a1 e), h.row.fr hf (fun k hk e => a2 (by have e' : k = bs[i] := e; rw [← e']; exact hk)), by rw [List.length_set]; exact h.len, fun k h1 h2 => ?_, h.nd, h.map.fr hf (fun e => a3 e)⟩
  by_cases e : k = i
  · subst e
    rw [List.getElem_set_self]
    exact hb
  · rw [List.getElem_set_ne (fun e' => e e'.symm)]
    rw [List.length_set] at h2
    exact (h.prc k h1 h2).fr hf (fun e' => e (nodup_inj h.nd k i h1 hi e'))
theorem PT.putTo (h : PT w tb v bs l nx mb mn f) (i : Nat) (hi : i < bs.length) (q : Pr) (hf : Fr (At bs[i]) w w1) (hb : Blk w1 bs[i] 51 q.cells) {S : Nat → Prop} (hS : ∀ k, PTB tb v bs mb k → S k) {n : Nat} (hn : mn ≤ n) : TabTo w tb S ⟨l.set i q, nx, f⟩ n w1 :=
  TabTo.of (h.put i hi q hf hb) hn (hf.mono (fun k e => hS k (.inr (.inr (.inl (by have e' : k = bs[i] := e; rw [e']; exact List.getElem_mem hi)))))) (fun k hk => .inl (hS k hk))
end
theorem TabTo.from {w0 w w1 : World} {tb n : Nat} {S : Nat → Prop} {t : Tb} (h : TabTo w tb S t n w1) (hf : Fr NoB w0 w) : TabTo w0 tb S t n w1 := by
  obtain ⟨S', h1, h2, h3⟩ := h
  exact ⟨S', h1, (hf.mono (fun _ h => h.elim)).trans h2, fun k hk => (h3 k hk).imp id (Nat.le_trans hf.size)⟩
def deafT (t : Tb) (pid : Int) (d : Bool) : Tb × Int := match t.l.find? (isPid pid) with
  | none => (t, 5)
  | some p => (⟨t.l.set (t.l.findIdx (isPid pid)) { p with deaf := d }, t.nx, t.f⟩, 0)
def ErrTo (w : World) (tb : Nat) (S : Nat → Prop) (n : Nat) (r : Tb × Int) (e : Ending) (w' : World) : Prop := e = .returned (.int .i64 r.2) ∧ TabTo w tb S r.1 n w'
/-- The process with a number: none, or one at a block of its own, that may be written to. -/
theorem Tab.find {w : World} {tb n : Nat} {S : Nat → Prop} {t : Tb} (h : Tab w tb S t n) (hl : t.l.length ≤ 4096) (pid : Int) :
    (t.l.find? (isPid pid) = none ∧ ∀ W, Fr NoB w W → Calls Try.prog 28 #[.pointer (some ⟨tb, 0, none⟩), .int .i64 pid] W fun e w' => e = .returned (.pointer none) ∧ Fr NoB W w') ∨
    ∃ (i a : Nat) (p : Pr), t.l.find? (isPid pid) = some p ∧ t.l.findIdx (isPid pid) = i ∧ p.pid = pid ∧
      (∀ W, Fr NoB w W → Calls Try.prog 28 #[.pointer (some ⟨tb, 0, none⟩), .int .i64 pid] W fun e w' => e = .returned (.pointer (some ⟨a, 0, none⟩)) ∧ Fr NoB W w') ∧
      (∀ W, Fr NoB w W → Blk W a 51 p.cells) ∧ (∀ W w2 q, Fr NoB w W → Fr (At a) W w2 → Blk w2 a 51 q.cells → TabTo w tb S ⟨t.l.set i q, t.nx, t.f⟩ n w2) := by
  obtain ⟨v, bs, mb, mn, hT, hS, hn⟩ := h
  rcases PtrTo.cases bs (isPid pid) t.l hT.len with ⟨hp, hq, _⟩ | ⟨i, hi1, hi2, hp, hq, hpq, hix⟩
  · exact .inl ⟨hq, fun W hW => by rw [← hp]; exact pFind_any W tb mb mn v bs t.l t.nx t.f pid (hT.frd hW) hl⟩
  · exact .inr ⟨i, bs[i], t.l[i], hq, hix, by simpa [isPid] using hpq, fun W hW => by rw [← hp]; exact pFind_any W tb mb mn v bs t.l t.nx t.f pid (hT.frd hW) hl, fun W hW => (hT.prc i hi1 hi2).fr hW (fun h => h), fun W w2 q hW hf hb => ((hT.frd hW).putTo i hi1 q hf hb hS hn).from hW⟩
set_option maxHeartbeats 1000000 in
theorem pDeaf_any (w : World) (tb n : Nat) (S : Nat → Prop) (t : Tb) (pid : Int) (d : Bool) (h : Tab w tb S t n) (hl : t.l.length ≤ 4096) :
    Calls Try.prog 12 #[.pointer (some ⟨tb, 0, none⟩), .int .i64 pid, .bool d] w (ErrTo w tb S n (deafT t pid d)) := by
  have H0 := hid h
  rcases h.find hl pid with ⟨hq, hF⟩ | ⟨i, a, p, hq, hix, _, hF, hB, hP⟩
  · have hr : deafT t pid d = (t, 5) := by unfold deafT; rw [hq]
    rw [hr]
    have HF := hid hF
    clear hr hq hF h
    go_enter Try.func12, Try.ntmps12
    go_wp2_with fail
    refine (HF.out _ (Fr.refl _ _)).mono ?_
    rintro e' w1 ⟨rfl, hf1⟩
    have HF1 := hid hf1
    clear hf1
    go_wp2
    go_ret
    exact ⟨rfl, H0.out.still HF1.out⟩
  · have hr : deafT t pid d = (⟨t.l.set i { p with deaf := d }, t.nx, t.f⟩, 0) := by unfold deafT; rw [hq, hix]
    rw [hr]
    have HF := hid hF
    have HB := hid hB
    have HP := hid hP
    clear hr hq hix hF hB hP h
    go_enter Try.func12, Try.ntmps12
    go_wp2_with fail
    refine (HF.out _ (Fr.refl _ _)).mono ?_
    rintro e' w1 ⟨rfl, hf1⟩
    have hB1 := HB.out _ hf1
    have c5 := hB1.cell 5 rfl
    have f5 := hB1.frozen 5
    have lt5 := hB1.lt
    have HTo := hid (HP.out w1 _ { p with deaf := d } hf1 ((Fr.refl (At a) w1).setAt 5 (.bool d)) (hB1.set 5 (.bool d)))
    clear hB1 hf1
    go_wp2
    go_ret
    exact ⟨rfl, HTo.out⟩
/-! Setsid. -/
def sidT (t : Tb) (pid : Int) : Tb × Int := match t.l.find? (isPid pid) with
  | none => (t, 5)
  | some p => if hasG t.l pid 0 then (t, 8) else (⟨t.l.set (t.l.findIdx (isPid pid)) { p with grp := pid, ses := pid, tty := 0 }, t.nx, t.f⟩, 0)
theorem Tab.has {w : World} {tb n : Nat} {S : Nat → Prop} {t : Tb} (h : Tab w tb S t n) (hl : t.l.length ≤ 4096) (g s : Int) : ∀ W, Fr NoB w W → Calls Try.prog 29 #[.pointer (some ⟨tb, 0, none⟩), .int .i64 g, .int .i64 s] W fun e w' => e = .returned (.bool (hasG t.l g s)) ∧ Fr NoB W w' := by
  obtain ⟨v, bs, mb, mn, hT, hS, hn⟩ := h
  exact fun W hW => pHas_any W tb mb mn v bs t.l t.nx t.f g s (hT.frd hW) hl
set_option maxHeartbeats 1000000 in
theorem pSid_any (w : World) (tb n : Nat) (S : Nat → Prop) (t : Tb) (pid : Int) (h : Tab w tb S t n) (hl : t.l.length ≤ 4096) :
    Calls Try.prog 9 #[.pointer (some ⟨tb, 0, none⟩), .int .i64 pid] w (ErrTo w tb S n (sidT t pid)) := by
  have H0 := hid h
  have hH := h.has hl pid 0
  rcases h.find hl pid with ⟨hq, hF⟩ | ⟨i, a, p, hq, hix, _, hF, hB, hP⟩
  · have hr : sidT t pid = (t, 5) := by unfold sidT; rw [hq]
    rw [hr]
    have HF := hid hF
    clear hr hq hF h hH
    go_enter Try.func9, Try.ntmps9
    go_wp2_with fail
    refine (HF.out _ (Fr.refl _ _)).mono ?_
    rintro e' w1 ⟨rfl, hf1⟩
    have HF1 := hid hf1
    clear hf1
    go_wp2
    go_ret
    exact ⟨rfl, H0.out.still HF1.out⟩
  · have hr : sidT t pid = if hasG t.l pid 0 then (t, 8) else (⟨t.l.set i { p with grp := pid, ses := pid, tty := 0 }, t.nx, t.f⟩, 0) := by unfold sidT; rw [hq, hix]
    rw [hr]
    have HF := hid hF
    have HB := hid hB
    have HP := hid hP
    clear hr hq hix hF hB hP h
    cases hh : hasG t.l pid 0
    · simp only [hh] at hH
      have HH := hid hH
      clear hH hh
      rw [if_neg (by decide)]
      go_enter Try.func9, Try.ntmps9
      go_wp2_with fail
      refine (HF.out _ (Fr.refl _ _)).mono ?_
      rintro e' w1 ⟨rfl, hf1⟩
      have HF1 := hid hf1
      clear hf1
      go_wp2_with fail
      refine (HH.out _ HF1.out).mono ?_
      rintro e' w2 ⟨rfl, hf2⟩
      have hf2 := HF1.out.trans hf2
      have hB1 := HB.out _ hf2
      have c2 := hB1.cell 2 rfl
      have c3 := hB1.cell 3 rfl
      have c4 := hB1.cell 4 rfl
      have f2 := hB1.frozen 2
      have f3 := hB1.frozen 3
      have f4 := hB1.frozen 4
      have lt5 := hB1.lt
      have HTo := hid (HP.out w2 _ { p with grp := pid, ses := pid, tty := 0 } hf2 ((((Fr.refl (At a) w2).setAt 2 (.int .i64 pid)).setAt 3 (.int .i64 pid)).setAt 4 (.int .i64 0)) (((hB1.set 2 (.int .i64 pid)).set 3 (.int .i64 pid)).set 4 (.int .i64 0)))
      clear hB1 hf2
      go_wp2
      go_ret
      exact ⟨rfl, HTo.out⟩
    · simp only [hh] at hH
      have HH := hid hH
      clear hH hh
      rw [if_pos rfl]
      go_enter Try.func9, Try.ntmps9
      go_wp2_with fail
      refine (HF.out _ (Fr.refl _ _)).mono ?_
      rintro e' w1 ⟨rfl, hf1⟩
      have HF1 := hid hf1
      clear hf1
      go_wp2_with fail
      refine (HH.out _ HF1.out).mono ?_
      rintro e' w2 ⟨rfl, hf2⟩
      have HF2 := hid (HF1.out.trans hf2)
      clear hf2
      go_wp2
      go_ret
      exact ⟨rfl, H0.out.still HF2.out⟩
end Go.Proofs.Ytlagakcpjmjdfaa
