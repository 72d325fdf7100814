import Derived.Test.YtlagakcpjmjdfaaO2
import Derived.Test.YtlagakcpjmjdfaaB8
import Derived.Test.YtlagakcpjmjdfaaB9
import Derived.Test.YtlagakcpjmjdfaaB10
import Derived.Test.YtlagakcpjmjdfaaB11
import Derived.Deep.DeepCutAuto
set_option linter.unusedSimpArgs false
set_option linter.unusedVariables false
set_option maxRecDepth 20000
namespace Go.Proofs.Ytlagakcpjmjdfaa
open Go.RowKit Go.Proofs.YtlagakcpjmjdfaaW.PrintWords
def AcT.cells (a : AcT) : List Value := [.int .i64 a.d, .int .i64 a.pid, .int .i64 a.who, .int .i64 a.grp, .int .i64 a.tty, .bool a.deaf]
def AcT.v (a : AcT) : Value := .agg #[.int .i64 a.d, .int .i64 a.pid, .int .i64 a.who, .int .i64 a.grp, .int .i64 a.tty, .bool a.deaf]
/-- A table of the program's (t), and one of the document's (x), that have nothing in common. -/
structure DX (w0 W : World) (tb : Nat) (S : Nat → Prop) (t : Tb) (n : Nat) (v fv : Value) (x : Tb) (F : List Int) : Prop where
  tab : Tab W tb S t n
  low : ∀ k, S k → w0.heap.size ≤ k
  hi : ∀ k, S k → k < W.heap.size
  rt : RT W v fv x F
  nv : ∀ k, OwnB v k → ¬ S k
  nf : ∀ k, OwnB fv k → ¬ S k
  fr : Fr NoB w0 W
theorem Tab.tight {W : World} {tb n : Nat} {S : Nat → Prop} {t : Tb} (h : Tab W tb S t n) : ∃ S', Tab W tb S' t n ∧ (∀ k, S' k → S k) ∧ ∀ k, S' k → k < W.heap.size := by
  obtain ⟨v, bs, mb, mn, h1, h2, h3⟩ := h
  refine ⟨PTB tb v bs mb, ⟨v, bs, mb, mn, h1, fun _ h => h, h3⟩, h2, fun k hk => ?_⟩
  rcases hk with rfl | hk | hk | rfl
  · exact h1.blk.lt
  · exact h1.row.lt k hk
  · obtain ⟨j, hj, rfl⟩ := List.getElem_of_mem hk
    exact (h1.prc j hj (by have := h1.len; omega)).lt
  · exact h1.map.lt
theorem Row.ltw {α : Type} {f : α → List Value} {sz : Nat} {e : TypeId} {w : World} {base : Nat} {v : Value} {xs : List α} (h : Row f sz e w base v xs) (k : Nat) (hk : OwnB v k) : k < w.heap.size := (Row.lt h k hk).2
section
variable {w0 W W' : World} {tb n n' : Nat} {S : Nat → Prop} {t t' x x' : Tb} {v fv v' fv' : Value} {F F' : List Int}
/-- The program's table is another one. -/
theorem DX.prog (h : DX w0 W tb S t n v fv x F) (ht : TabTo W tb S t' n' W') : ∃ S', DX w0 W' tb S' t' n' v fv x F ∧ Fr S W W' ∧ ∀ k, S' k → S k ∨ W.heap.size ≤ k := by
  obtain ⟨S1, h1, h2, h3⟩ := ht
  obtain ⟨S2, g1, g2, g3⟩ := h1.tight
  refine ⟨S2, ⟨g1, fun k hk => ?_, g3, h.rt.fr h2 h.nv h.nf, fun k hk hs => ?_, fun k hk hs => ?_, h.fr.then_ h2 (fun k hk => .inr (h.low k hk))⟩, h2, fun k hk => h3 k (g2 k hk)⟩
  · rcases h3 k (g2 k hk) with h4 | h4
    · exact h.low k h4
    · exact Nat.le_trans h.fr.size h4
  · rcases h3 k (g2 k hs) with h4 | h4
    · exact h.nv k hk h4
    · have := Row.ltw h.rt.l k hk
      omega
  · rcases h3 k (g2 k hs) with h4 | h4
    · exact h.nf k hk h4
    · have := Row.ltw h.rt.f k hk
      omega
/-- The document's table is another one. -/
theorem DX.ref (h : DX w0 W tb S t n v fv x F) (hf : Fr NoB W W') (hr : RT W' v' fv' x' F') (hv : ∀ k, OwnB v' k → OwnB v k ∨ W.heap.size ≤ k) (hfv : ∀ k, OwnB fv' k → OwnB fv k ∨ W.heap.size ≤ k) : DX w0 W' tb S t n v' fv' x' F' := by
  refine ⟨h.tab.frd hf, h.low, fun k hk => Nat.lt_of_lt_of_le (h.hi k hk) hf.size, hr, fun k hk hs => ?_, fun k hk hs => ?_, h.fr.trans hf⟩
  · rcases hv k hk with h4 | h4
    · exact h.nv k h4 hs
    · have := h.hi k hs
      omega
  · rcases hfv k hk with h4 | h4
    · exact h.nf k h4 hs
    · have := h.hi k hs
      omega
theorem DX.frd (h : DX w0 W tb S t n v fv x F) (hf : Fr NoB W W') : DX w0 W' tb S t n v fv x F :=
  h.ref hf (h.rt.frd hf) (fun _ h => .inl h) (fun _ h => .inl h)
/-- A block of another kind is written to. -/
theorem DX.at_ {b : Nat} {T : TypeId} {l : List Value} (h : DX w0 W tb S t n v fv x F) (hb : Blk W b T l) (h1 : 51 ≠ T) (h2 : 3 ≠ T) (h3 : ¬ S b) (h4 : w0.heap.size ≤ b) (hf : Fr (At b) W W') : DX w0 W' tb S t n v fv x F := by
  have hab : ∀ k, At b k → k = b := fun k e => e
  refine ⟨?_, h.low, fun k hk => Nat.lt_of_lt_of_le (h.hi k hk) hf.size, h.rt.fr hf (fun k hk e => Row.not_blk h.rt.l hb h1 (by rw [← hab k e]; exact hk)) (fun k hk e => Row.not_blk h.rt.f hb h2 (by rw [← hab k e]; exact hk)), h.nv, h.nf, h.fr.then_ hf (fun k e => .inr (by rw [hab k e]; exact h4))⟩
  obtain ⟨pv, bs, mb, mn, g1, g2, g3⟩ := h.tab
  exact ⟨pv, bs, mb, mn, g1.fr hf (fun e => h3 (by rw [← hab _ e]; exact g2 _ (.inl rfl))) (fun k hk e => h3 (by rw [← hab _ e]; exact g2 _ (.inr (.inl hk)))) (fun b' hb' e => h3 (by rw [← hab _ e]; exact g2 _ (.inr (.inr (.inl hb'))))) (fun e => h3 (by rw [← hab _ e]; exact g2 _ (.inr (.inr (.inr rfl))))), g2, g3⟩
end
/-- Within Do: its three boxes besides. -/
structure DO (w0 w : World) (S0 : Nat → Prop) (a : AcT) (W : World) (tb : Nat) (S : Nat → Prop) (t : Tb) (n : Nat) (v fv : Value) (x : Tb) (F : List Int) : Prop where
  dx : DX w0 W tb S t n v fv x F
  xb : Blk W w.heap.size 43 [v, .int .i64 x.nx, fv]
  ab : Blk W (w.heap.size + 1) 48 a.cells
  zb : Blk W (w.heap.size + 1 + 1) 43 [.slice none 0 0, .int .i64 0, .slice none 0 0]
  sb : ∀ k, S k → k < w.heap.size ∨ w.heap.size + 1 + 1 < k
  ss : ∀ k, S k → S0 k ∨ w.heap.size ≤ k
  fs : Fr S0 w W
section
variable {w0 w W W' : World} {a : AcT} {tb n n' : Nat} {S S0 : Nat → Prop} {t t' x x' : Tb} {v fv v' fv' : Value} {F F' : List Int}
theorem DO.frd (h : DO w0 w S0 a W tb S t n v fv x F) (hf : Fr NoB W W') : DO w0 w S0 a W' tb S t n v fv x F :=
  ⟨h.dx.frd hf, h.xb.fr hf (fun h => h), h.ab.fr hf (fun h => h), h.zb.fr hf (fun h => h), h.sb, h.ss, h.fs.trans (hf.mono (fun _ h => h.elim))⟩
theorem DO.prog (h : DO w0 w S0 a W tb S t n v fv x F) (ht : TabTo W tb S t' n' W') : ∃ S', DO w0 w S0 a W' tb S' t' n' v fv x F := by
  obtain ⟨S', h1, h2, h3⟩ := h.dx.prog ht
  refine ⟨S', h1, h.xb.fr h2 (fun e => ?_), h.ab.fr h2 (fun e => ?_), h.zb.fr h2 (fun e => ?_), fun k hk => ?_, fun k hk => ?_, h.fs.then_ h2 h.ss⟩
  · have := h.sb _ e; omega
  · have := h.sb _ e; omega
  · have := h.sb _ e; omega
  · rcases h3 k hk with h4 | h4
    · exact h.sb k h4
    · have := h.zb.lt
      omega
  · rcases h3 k hk with h4 | h4
    · exact h.ss k h4
    · exact .inr (Nat.le_trans h.fs.size h4)
/-- The document's answer is stored in its box. -/
theorem DO.store (h : DO w0 w S0 a W tb S t n v fv x F) (hw : w0.heap.size ≤ w.heap.size) (hf : Fr NoB W W') (hr : RT W' v' fv' x' F') (hv : ∀ k, OwnB v' k → OwnB v k ∨ W.heap.size ≤ k) (hfv : ∀ k, OwnB fv' k → OwnB fv k ∨ W.heap.size ≤ k) :
    DO w0 w S0 a (((W'.setCell ⟨w.heap.size, 0, none⟩ v').setCell ⟨w.heap.size, 1, none⟩ (.int .i64 x'.nx)).setCell ⟨w.heap.size, 2, none⟩ fv') tb S t n v' fv' x' F' := by
  have h1 := h.dx.ref hf hr hv hfv
  have hb := h.xb.fr hf (fun h => h)
  have hfa : Fr (At w.heap.size) W' (((W'.setCell ⟨w.heap.size, 0, none⟩ v').setCell ⟨w.heap.size, 1, none⟩ (.int .i64 x'.nx)).setCell ⟨w.heap.size, 2, none⟩ fv') := (((Fr.refl _ _).setAt 0 _).setAt 1 _).setAt 2 _
  refine ⟨h1.at_ hb (by decide) (by decide) (fun e => by have := h.sb _ e; omega) hw hfa, ((hb.set 0 v').set 1 (.int .i64 x'.nx)).set 2 fv', (h.ab.fr hf (fun h => h)).fr hfa (fun e => by have e' : w.heap.size + 1 = w.heap.size := e; omega), (h.zb.fr hf (fun h => h)).fr hfa (fun e => by have e' : w.heap.size + 1 + 1 = w.heap.size := e; omega), h.sb, h.ss, (h.fs.trans (hf.mono (fun _ h => h.elim))).then_ hfa (fun k e => .inr (by have e' : k = w.heap.size := e; omega))⟩
end
theorem DO.store0 {w0 w W W' : World} {a : AcT} {tb n : Nat} {S S0 : Nat → Prop} {t x x' : Tb} {v fv v' : Value} {F : List Int} (h : DO w0 w S0 a W tb S t n v fv x F) (hw : w0.heap.size ≤ w.heap.size) (hf : Fr NoB W W') (hr : RT W' v' fv x' F) (hv : ∀ k, OwnB v' k → W.heap.size ≤ k) (hx : x'.nx = x.nx := by rfl) :
    DO w0 w S0 a (W'.setCell ⟨w.heap.size, 0, none⟩ v') tb S t n v' fv x' F := by
  have h1 := h.dx.ref hf hr (fun k hk => .inr (hv k hk)) (fun k hk => .inl hk)
  have hb := h.xb.fr hf (fun h => h)
  have hfa : Fr (At w.heap.size) W' (W'.setCell ⟨w.heap.size, 0, none⟩ v') := (Fr.refl _ _).setAt 0 _
  refine ⟨h1.at_ hb (by decide) (by decide) (fun e => by have := h.sb _ e; omega) hw hfa, ?_, (h.ab.fr hf (fun h => h)).fr hfa (fun e => by have e' : w.heap.size + 1 = w.heap.size := e; omega), (h.zb.fr hf (fun h => h)).fr hfa (fun e => by have e' : w.heap.size + 1 + 1 = w.heap.size := e; omega), h.sb, h.ss, (h.fs.trans (hf.mono (fun _ h => h.elim))).then_ hfa (fun k e => .inr (by have e' : k = w.heap.size := e; omega))⟩
  rw [hx]
  exact hb.set 0 v'
/-- What the switch leaves. -/
def DoneR (w0 w : World) (S0 : Nat → Prop) (a : AcT) (tb n : Nat) (t' : Tb) (s8 s9 s10 s11 s12 s13 : Value) (W : World) : Prop :=
  ∃ (S : Nat → Prop) (v fv : Value) (F : List Int) (er nu : Int) (xs : List (Int × Int)), s10 = .int .i64 er ∧ s11 = .int .i64 er ∧ s12 = .int .i64 nu ∧ s13 = .int .i64 nu ∧ xs.length ≤ 100000 ∧ SgR W 0 s8 xs ∧ SgR W 0 s9 xs ∧ DO w0 w S0 a W tb S t' (n + 1) v fv t' F
def DoTo (w0 w : World) (S0 : Nat → Prop) (tb n : Nat) (t' : Tb) (e : Ending) (W : World) : Prop := ∃ (S : Nat → Prop) (v fv : Value) (F : List Int), e = .returned (.tuple #[rtv v t'.nx fv, .bool true]) ∧ DX w0 W tb S t' (n + 1) v fv t' F ∧ Fr S0 w W ∧ (∀ k, S k → S0 k ∨ w.heap.size ≤ k)
theorem newO_sum (was : Int → Bool) (l : List Pr) : ∀ L : List Int, (L.flatMap (newO was l)).length ≤ 2 * L.length
  | [] => Nat.zero_le _
  | a :: L => by
    have := newO_len was l a
    have := newO_sum was l L
    rw [List.flatMap_cons, List.length_append, List.length_cons]
    omega
theorem exitT_len (t : Tb) (pid : Int) (h : t.l.length ≤ 400) : (exitT t pid).2.length ≤ 100000 := by
  have hg : ((t.l.eraseIdx (t.l.findIdx (isPid pid))).map (parF pid)).length ≤ 400 := by
    rw [List.length_map]
    exact Nat.le_trans (List.length_eraseIdx_le ..) h
  unfold exitT
  split
  · exact Nat.zero_le _
  split
  · show ((if _ then _ else _ : List (Int × Int)) ++ _).length ≤ _
    rw [List.length_append]
    have h1 := newO_sum (wasF t.l) (giveL pid 0 ((t.l.eraseIdx (t.l.findIdx (isPid pid))).map (parF pid))) (grps (giveL pid 0 ((t.l.eraseIdx (t.l.findIdx (isPid pid))).map (parF pid))))
    have h2 := grps_len (giveL pid 0 ((t.l.eraseIdx (t.l.findIdx (isPid pid))).map (parF pid)))
    rw [giveL_len] at h2
    split
    · rw [List.length_singleton]; omega
    · rw [List.length_nil]; omega
  · show ([] ++ _ : List (Int × Int)).length ≤ _
    rw [List.nil_append]
    have h1 := newO_sum (wasF t.l) ((t.l.eraseIdx (t.l.findIdx (isPid pid))).map (parF pid)) (grps ((t.l.eraseIdx (t.l.findIdx (isPid pid))).map (parF pid)))
    have h2 := grps_len ((t.l.eraseIdx (t.l.findIdx (isPid pid))).map (parF pid))
    omega
theorem DO.up {w0 w W : World} {a : AcT} {tb n : Nat} {S S0 : Nat → Prop} {t x : Tb} {v fv : Value} {F : List Int} (h : DO w0 w S0 a W tb S t n v fv x F) : DO w0 w S0 a W tb S t (n + 1) v fv x F := by
  obtain ⟨pv, bs, mb, mn, g1, g2, g3⟩ := h.dx.tab
  exact ⟨⟨⟨pv, bs, mb, mn, g1, g2, Nat.le_succ_of_le g3⟩, h.dx.low, h.dx.hi, h.dx.rt, h.dx.nv, h.dx.nf, h.dx.fr⟩, h.xb, h.ab, h.zb, h.sb, h.ss, h.fs⟩
set_option maxHeartbeats 8000000 in
theorem lDo_any (w0 w : World) (a : AcT) (tb n : Nat) (S : Nat → Prop) (t : Tb) (v fv : Value) (F : List Int) (h : DX w0 w tb S t n v fv t F) (hi : Inv t) (hl : t.l.length ≤ 150) (hnx : t.nx ≤ 1000) (hn : n ≤ 500) (hj1 : J64 a.grp) (hj2 : J64 a.tty) :
    Calls Try.prog 17 #[.pointer (some ⟨tb, 0, none⟩), rtv v t.nx fv, a.v] w (DoTo w0 w S tb n (stepT t a)) := by
  obtain ⟨A, c, hv, hc⟩ := h.rt.l.shape
  obtain ⟨A2, c2, hfv, _⟩ := h.rt.f.shape
  have HH : Hid (DO w0 w S a (((w.alloc (.cells #[.slice A t.l.length c, .int .i64 t.nx, .slice A2 F.length c2] 43)).alloc (.cells #[.int .i64 a.d, .int .i64 a.pid, .int .i64 a.who, .int .i64 a.grp, .int .i64 a.tty, .bool a.deaf] 48)).alloc (.cells #[.slice none 0 0, .int .i64 0, .slice none 0 0] 43)) tb S t n (.slice A t.l.length c) (.slice A2 F.length c2) t F) := hid (by
    subst hv hfv
    have hf : Fr NoB w (((w.alloc (.cells #[.slice A t.l.length c, .int .i64 t.nx, .slice A2 F.length c2] 43)).alloc (.cells #[.int .i64 a.d, .int .i64 a.pid, .int .i64 a.who, .int .i64 a.grp, .int .i64 a.tty, .bool a.deaf] 48)).alloc (.cells #[.slice none 0 0, .int .i64 0, .slice none 0 0] 43)) := (((Fr.refl _ _).alloc _).alloc _).alloc _
    refine ⟨h.frd hf, ((Blk.new w 43 _).alloc _).alloc _, ?_, ?_, fun k hk => .inl (h.hi k hk), fun k hk => .inl hk, hf.mono (fun _ h => h.elim)⟩
    · have := (Blk.new (w.alloc (.cells #[.slice A t.l.length c, .int .i64 t.nx, .slice A2 F.length c2] 43)) 48 a.cells).alloc (.cells #[.slice none 0 0, .int .i64 0, .slice none 0 0] 43)
      rw [World.size_alloc] at this
      exact this
    · have := Blk.new ((w.alloc (.cells #[.slice A t.l.length c, .int .i64 t.nx, .slice A2 F.length c2] 43)).alloc (.cells #[.int .i64 a.d, .int .i64 a.pid, .int .i64 a.who, .int .i64 a.grp, .int .i64 a.tty, .bool a.deaf] 48)) 43 [.slice none 0 0, .int .i64 0, .slice none 0 0]
      simp only [World.size_alloc] at this
      exact this)
  have hw0 := hid h.fr.size
  have HI := hid hi
  have HL := hid hl
  have HNX := hid hnx
  have HJ1 := hid hj1
  have HJ2 := hid hj2
  have HN := hid hn
  subst hv hfv
  clear h hi hl hnx hj1 hj2 hn
  unfold rtv AcT.v
  go_enter Try.func17, Try.ntmps17
  go_upto_block 0 with (fail)
  generalize hw1 : World.alloc (World.alloc (World.alloc w _) _) _ = w1 at HH ⊢
  clear hw1
  go_cut [8, 9, 10, 11, 12, 13] (fun s8 s9 s10 s11 s12 s13 wx => DoneR w0 w S a tb n (stepT t a) s8 s9 s10 s11 s12 s13 wx)
  case first =>
    have hx := (HH.out).xb
    have b0 := hx.cell 0 rfl
    have b1 := hx.cell 1 rfl
    have b2 := hx.cell 2 rfl
    have bl := hx.lt
    have y0 := hx.frozen 0
    have y1 := hx.frozen 1
    have y2 := hx.frozen 2
    have ha := (HH.out).ab
    have a0 := ha.cell 0 rfl
    have a1 := ha.cell 1 rfl
    have a2 := ha.cell 2 rfl
    have a3 := ha.cell 3 rfl
    have a4 := ha.cell 4 rfl
    have a5 := ha.cell 5 rfl
    have al := ha.lt
    clear hx ha
    have hsz : (([] : List (Int × Int))).length ≤ 100000 := by decide
    by_cases d0 : a.d = 0
    · have hr : stepT t a = (forkT t a.pid).1 := by unfold stepT; rw [if_pos d0]
      have e0 : (a.d == 0) = true := by simpa using d0
      clear d0
      have hp := pFork_any _ tb n S t a.pid HH.out.dx.tab (by have := HL.out; omega) (by have := HI.out.nx; omega) (by have := HNX.out; omega)
      have hq := fun W v fv F h => rFork_any W v fv t F a.pid h (by have := HL.out; omega) (by have := HI.out.nx; omega) (by have := HNX.out; omega)
      generalize forkT t a.pid = r at hr hp hq
      obtain ⟨t', nu, er⟩ := r
      have HR := hid hr
      have HP := hid hp
      have HQ := hid hq
      clear hr hp hq
      go_wp2_with fail
      refine HP.out.mono ?_
      rintro e' w2 ⟨rfl, ht⟩
      obtain ⟨S2, hd2⟩ := HH.out.prog (ht.up (Nat.le_succ n))
      have H2 := hid hd2
      clear ht hd2 b0 b1 b2 a0 a1 a2 a3 a4 a5 bl al y0 y1 y2
      have hx := (H2.out).xb
      have b0 := hx.cell 0 rfl
      have b1 := hx.cell 1 rfl
      have b2 := hx.cell 2 rfl
      have bl := hx.lt
      have y0 := hx.frozen 0
      have y1 := hx.frozen 1
      have y2 := hx.frozen 2
      have ha := (H2.out).ab
      have a0 := ha.cell 0 rfl
      have a1 := ha.cell 1 rfl
      have a2 := ha.cell 2 rfl
      have a3 := ha.cell 3 rfl
      have a4 := ha.cell 4 rfl
      have a5 := ha.cell 5 rfl
      have al := ha.lt
      clear hx ha
      go_wp2_with fail
      refine (HQ.out _ _ _ _ H2.out.dx.rt).mono ?_
      rintro e' w3 ⟨v3, fv3, F3, rfl, hrt, hf, hov, hofv⟩
      obtain ⟨A3, c3, hv3, _⟩ := hrt.l.shape
      obtain ⟨A4, c4, hfv3, _⟩ := hrt.f.shape
      subst hv3 hfv3
      have H3 := hid (H2.out.store hw0.out hf hrt hov hofv)
      have hx := H2.out.xb.fr hf (fun h => h)
      clear b0 b1 b2 a0 a1 a2 a3 a4 a5 bl al y0 y1 y2
      have b0 := hx.cell 0 rfl
      have b1 := hx.cell 1 rfl
      have b2 := hx.cell 2 rfl
      have bl := hx.lt
      have y0 := hx.frozen 0
      have y1 := hx.frozen 1
      have y2 := hx.frozen 2
      unfold rtv
      clear hx hrt hf hov hofv
      go_wp2
      go_meet
      rw [HR.out]
      exact ⟨S2, _, _, F3, er, nu, [], rfl, rfl, rfl, rfl, hsz, Row.nil _ _ _ _ _, Row.nil _ _ _ _ _, H3.out⟩
    have e0 : (a.d == 0) = false := by simpa using d0
    by_cases d1 : a.d = 1
    · have hr : stepT t a = (sidT t a.pid).1 := by unfold stepT; rw [if_neg d0, if_pos d1]
      have e1 : (a.d == 1) = true := by simpa using d1
      clear d0 d1
      have hp := pSid_any _ tb n S t a.pid HH.out.dx.tab (by have := HL.out; omega)
      have hq := fun W v fv F h => rSid_any W v fv t F a.pid h (by have := HL.out; omega)
      generalize sidT t a.pid = r at hr hp hq
      obtain ⟨t', er⟩ := r
      have HR := hid hr
      have HP := hid hp
      have HQ := hid hq
      clear hr hp hq
      go_wp2_with fail
      refine HP.out.mono ?_
      rintro e' w2 hp
      obtain ⟨rfl, ht⟩ := (hp.up (Nat.le_succ n))
      obtain ⟨S2, hd2⟩ := HH.out.prog (ht.up (Nat.le_refl _))
      have H2 := hid hd2
      clear ht hd2 b0 b1 b2 a0 a1 a2 a3 a4 a5 bl al y0 y1 y2
      have hx := (H2.out).xb
      have b0 := hx.cell 0 rfl
      have b1 := hx.cell 1 rfl
      have b2 := hx.cell 2 rfl
      have bl := hx.lt
      have y0 := hx.frozen 0
      have y1 := hx.frozen 1
      have y2 := hx.frozen 2
      have ha := (H2.out).ab
      have a0 := ha.cell 0 rfl
      have a1 := ha.cell 1 rfl
      have a2 := ha.cell 2 rfl
      have a3 := ha.cell 3 rfl
      have a4 := ha.cell 4 rfl
      have a5 := ha.cell 5 rfl
      have al := ha.lt
      clear hx ha
      go_wp2_with fail
      refine (HQ.out _ _ _ _ H2.out.dx.rt).mono ?_
      rintro e' w3 ⟨v3, fv3, F3, rfl, hrt, hf, hov, hofv⟩
      obtain ⟨A3, c3, hv3, _⟩ := hrt.l.shape
      obtain ⟨A4, c4, hfv3, _⟩ := hrt.f.shape
      subst hv3 hfv3
      have H3 := hid (H2.out.store hw0.out hf hrt hov hofv)
      have hx := H2.out.xb.fr hf (fun h => h)
      clear b0 b1 b2 a0 a1 a2 a3 a4 a5 bl al y0 y1 y2
      have b0 := hx.cell 0 rfl
      have b1 := hx.cell 1 rfl
      have b2 := hx.cell 2 rfl
      have bl := hx.lt
      have y0 := hx.frozen 0
      have y1 := hx.frozen 1
      have y2 := hx.frozen 2
      unfold rtv
      clear hx hrt hf hov hofv
      go_wp2
      go_meet
      rw [HR.out]
      exact ⟨S2, _, _, F3, er, 0, [], rfl, rfl, rfl, rfl, hsz, Row.nil _ _ _ _ _, Row.nil _ _ _ _ _, H3.out⟩
    have e1 : (a.d == 1) = false := by simpa using d1
    by_cases d2 : a.d = 2
    · have hr : stepT t a = (pgidT t a.pid a.who a.grp).1 := by unfold stepT; rw [if_neg d0, if_neg d1, if_pos d2]
      have e2 : (a.d == 2) = true := by simpa using d2
      clear d0 d1 d2
      have hp := pPgid_any _ tb n S t a.pid a.who a.grp HH.out.dx.tab (by have := HL.out; omega)
      have hq := fun W v fv F h => rPgid_any W v fv t F a.pid a.who a.grp h (by have := HL.out; omega)
      generalize pgidT t a.pid a.who a.grp = r at hr hp hq
      obtain ⟨t', er⟩ := r
      have HR := hid hr
      have HP := hid hp
      have HQ := hid hq
      clear hr hp hq
      go_wp2_with fail
      refine HP.out.mono ?_
      rintro e' w2 hp
      obtain ⟨rfl, ht⟩ := (hp.up (Nat.le_succ n))
      obtain ⟨S2, hd2⟩ := HH.out.prog (ht.up (Nat.le_refl _))
      have H2 := hid hd2
      clear ht hd2 b0 b1 b2 a0 a1 a2 a3 a4 a5 bl al y0 y1 y2
      have hx := (H2.out).xb
      have b0 := hx.cell 0 rfl
      have b1 := hx.cell 1 rfl
      have b2 := hx.cell 2 rfl
      have bl := hx.lt
      have y0 := hx.frozen 0
      have y1 := hx.frozen 1
      have y2 := hx.frozen 2
      have ha := (H2.out).ab
      have a0 := ha.cell 0 rfl
      have a1 := ha.cell 1 rfl
      have a2 := ha.cell 2 rfl
      have a3 := ha.cell 3 rfl
      have a4 := ha.cell 4 rfl
      have a5 := ha.cell 5 rfl
      have al := ha.lt
      clear hx ha
      go_wp2_with fail
      refine (HQ.out _ _ _ _ H2.out.dx.rt).mono ?_
      rintro e' w3 ⟨v3, fv3, F3, rfl, hrt, hf, hov, hofv⟩
      obtain ⟨A3, c3, hv3, _⟩ := hrt.l.shape
      obtain ⟨A4, c4, hfv3, _⟩ := hrt.f.shape
      subst hv3 hfv3
      have H3 := hid (H2.out.store hw0.out hf hrt hov hofv)
      have hx := H2.out.xb.fr hf (fun h => h)
      clear b0 b1 b2 a0 a1 a2 a3 a4 a5 bl al y0 y1 y2
      have b0 := hx.cell 0 rfl
      have b1 := hx.cell 1 rfl
      have b2 := hx.cell 2 rfl
      have bl := hx.lt
      have y0 := hx.frozen 0
      have y1 := hx.frozen 1
      have y2 := hx.frozen 2
      unfold rtv
      clear hx hrt hf hov hofv
      go_wp2
      go_meet
      rw [HR.out]
      exact ⟨S2, _, _, F3, er, 0, [], rfl, rfl, rfl, rfl, hsz, Row.nil _ _ _ _ _, Row.nil _ _ _ _ _, H3.out⟩
    have e2 : (a.d == 2) = false := by simpa using d2
    by_cases d3 : a.d = 3
    · have hr : stepT t a = (attT t a.pid a.tty).1 := by unfold stepT; rw [if_neg d0, if_neg d1, if_neg d2, if_pos d3]
      have e3 : (a.d == 3) = true := by simpa using d3
      clear d0 d1 d2 d3
      have hp := pAtt_any _ tb n S t a.pid a.tty HH.out.dx.tab (by have := HL.out; omega) (fun p hp => j64_of _ (by have := HI.out.grp p hp; have := HNX.out; omega)) (by have := HN.out; omega)
      have hq := fun W v fv F h => rAtt_any W v fv t F a.pid a.tty h (by have := HL.out; omega)
      generalize attT t a.pid a.tty = r at hr hp hq
      obtain ⟨t', er⟩ := r
      have HR := hid hr
      have HP := hid hp
      have HQ := hid hq
      clear hr hp hq
      go_wp2_with fail
      refine HP.out.mono ?_
      rintro e' w2 hp
      obtain ⟨rfl, ht⟩ := hp
      obtain ⟨S2, hd2⟩ := HH.out.prog (ht.up (Nat.le_refl _))
      have H2 := hid hd2
      clear ht hd2 b0 b1 b2 a0 a1 a2 a3 a4 a5 bl al y0 y1 y2
      have hx := (H2.out).xb
      have b0 := hx.cell 0 rfl
      have b1 := hx.cell 1 rfl
      have b2 := hx.cell 2 rfl
      have bl := hx.lt
      have y0 := hx.frozen 0
      have y1 := hx.frozen 1
      have y2 := hx.frozen 2
      have ha := (H2.out).ab
      have a0 := ha.cell 0 rfl
      have a1 := ha.cell 1 rfl
      have a2 := ha.cell 2 rfl
      have a3 := ha.cell 3 rfl
      have a4 := ha.cell 4 rfl
      have a5 := ha.cell 5 rfl
      have al := ha.lt
      clear hx ha
      go_wp2_with fail
      refine (HQ.out _ _ _ _ H2.out.dx.rt).mono ?_
      rintro e' w3 ⟨v3, fv3, F3, rfl, hrt, hf, hov, hofv⟩
      obtain ⟨A3, c3, hv3, _⟩ := hrt.l.shape
      obtain ⟨A4, c4, hfv3, _⟩ := hrt.f.shape
      subst hv3 hfv3
      have H3 := hid (H2.out.store hw0.out hf hrt hov hofv)
      have hx := H2.out.xb.fr hf (fun h => h)
      clear b0 b1 b2 a0 a1 a2 a3 a4 a5 bl al y0 y1 y2
      have b0 := hx.cell 0 rfl
      have b1 := hx.cell 1 rfl
      have b2 := hx.cell 2 rfl
      have bl := hx.lt
      have y0 := hx.frozen 0
      have y1 := hx.frozen 1
      have y2 := hx.frozen 2
      unfold rtv
      clear hx hrt hf hov hofv
      go_wp2
      go_meet
      rw [HR.out]
      exact ⟨S2, _, _, F3, er, 0, [], rfl, rfl, rfl, rfl, hsz, Row.nil _ _ _ _ _, Row.nil _ _ _ _ _, H3.out⟩
    have e3 : (a.d == 3) = false := by simpa using d3
    by_cases d4 : a.d = 4
    · have hr : stepT t a = (fgT t a.pid a.tty a.grp).1 := by unfold stepT; rw [if_neg d0, if_neg d1, if_neg d2, if_neg d3, if_pos d4]
      have e4 : (a.d == 4) = true := by simpa using d4
      clear d0 d1 d2 d3 d4
      have hp := pFg_any _ tb n S t a.pid a.tty a.grp HH.out.dx.tab (by have := HL.out; omega) HJ2.out HJ1.out (by have := HN.out; omega)
      have hq := fun W v fv F h => rFg_any W v fv t F a.pid a.tty a.grp h (by have := HL.out; omega) HI.out.tty
      generalize fgT t a.pid a.tty a.grp = r at hr hp hq
      obtain ⟨t', er⟩ := r
      have HR := hid hr
      have HP := hid hp
      have HQ := hid hq
      clear hr hp hq
      go_wp2_with fail
      refine HP.out.mono ?_
      rintro e' w2 hp
      obtain ⟨rfl, ht⟩ := hp
      obtain ⟨S2, hd2⟩ := HH.out.prog (ht.up (Nat.le_refl _))
      have H2 := hid hd2
      clear ht hd2 b0 b1 b2 a0 a1 a2 a3 a4 a5 bl al y0 y1 y2
      have hx := (H2.out).xb
      have b0 := hx.cell 0 rfl
      have b1 := hx.cell 1 rfl
      have b2 := hx.cell 2 rfl
      have bl := hx.lt
      have y0 := hx.frozen 0
      have y1 := hx.frozen 1
      have y2 := hx.frozen 2
      have ha := (H2.out).ab
      have a0 := ha.cell 0 rfl
      have a1 := ha.cell 1 rfl
      have a2 := ha.cell 2 rfl
      have a3 := ha.cell 3 rfl
      have a4 := ha.cell 4 rfl
      have a5 := ha.cell 5 rfl
      have al := ha.lt
      clear hx ha
      go_wp2_with fail
      refine (HQ.out _ _ _ _ H2.out.dx.rt).mono ?_
      rintro e' w3 ⟨v3, fv3, F3, rfl, hrt, hf, hov, hofv⟩
      obtain ⟨A3, c3, hv3, _⟩ := hrt.l.shape
      obtain ⟨A4, c4, hfv3, _⟩ := hrt.f.shape
      subst hv3 hfv3
      have H3 := hid (H2.out.store hw0.out hf hrt hov hofv)
      have hx := H2.out.xb.fr hf (fun h => h)
      clear b0 b1 b2 a0 a1 a2 a3 a4 a5 bl al y0 y1 y2
      have b0 := hx.cell 0 rfl
      have b1 := hx.cell 1 rfl
      have b2 := hx.cell 2 rfl
      have bl := hx.lt
      have y0 := hx.frozen 0
      have y1 := hx.frozen 1
      have y2 := hx.frozen 2
      unfold rtv
      clear hx hrt hf hov hofv
      go_wp2
      go_meet
      rw [HR.out]
      exact ⟨S2, _, _, F3, er, 0, [], rfl, rfl, rfl, rfl, hsz, Row.nil _ _ _ _ _, Row.nil _ _ _ _ _, H3.out⟩
    have e4 : (a.d == 4) = false := by simpa using d4
    by_cases d5 : a.d = 5
    · have hr : stepT t a = (deafT t a.pid a.deaf).1 := by unfold stepT; rw [if_neg d0, if_neg d1, if_neg d2, if_neg d3, if_neg d4, if_pos d5]
      have e5 : (a.d == 5) = true := by simpa using d5
      clear d0 d1 d2 d3 d4 d5
      have hp := pDeaf_any _ tb n S t a.pid a.deaf HH.out.dx.tab (by have := HL.out; omega)
      have hq := fun W v fv F h => rAt_any W v fv t.nx t F a.pid h (by have := HL.out; omega)
      rcases at_cases t.l a.pid with ⟨h1, h2⟩ | ⟨i, hi, h1, h2, h3⟩
      · have hd : deafT t a.pid a.deaf = (t, 5) := by unfold deafT; rw [h2]
        rw [hd] at hr hp
        rw [h1] at hq
        have HR := hid hr
        have HP := hid hp
        have HQ := hid hq
        clear hr hp hq hd h1 h2
        go_wp2_with fail
        refine HP.out.mono ?_
        rintro e' w2 ⟨rfl, ht⟩
        obtain ⟨S2, hd2⟩ := HH.out.prog (ht.up (Nat.le_succ n))
        have H2 := hid hd2
        clear ht hd2 b0 b1 b2 a0 a1 a2 a3 a4 a5 bl al y0 y1 y2
        have hx := (H2.out).xb
        have b0 := hx.cell 0 rfl
        have b1 := hx.cell 1 rfl
        have b2 := hx.cell 2 rfl
        have bl := hx.lt
        have y0 := hx.frozen 0
        have y1 := hx.frozen 1
        have y2 := hx.frozen 2
        have ha := (H2.out).ab
        have a0 := ha.cell 0 rfl
        have a1 := ha.cell 1 rfl
        have a2 := ha.cell 2 rfl
        have a3 := ha.cell 3 rfl
        have a4 := ha.cell 4 rfl
        have a5 := ha.cell 5 rfl
        have al := ha.lt
        clear hx ha
        unfold rtv at HQ
        go_wp2_with fail
        refine (HQ.out _ _ _ _ H2.out.dx.rt).mono ?_
        rintro e' w3 ⟨rfl, hf⟩
        have H3 := hid (H2.out.frd hf)
        clear hf b0 b1 b2 a0 a1 a2 a3 a4 a5 bl al y0 y1 y2
        have hx := (H3.out).xb
        have b0 := hx.cell 0 rfl
        have b1 := hx.cell 1 rfl
        have b2 := hx.cell 2 rfl
        have bl := hx.lt
        have y0 := hx.frozen 0
        have y1 := hx.frozen 1
        have y2 := hx.frozen 2
        have ha := (H3.out).ab
        have a0 := ha.cell 0 rfl
        have a1 := ha.cell 1 rfl
        have a2 := ha.cell 2 rfl
        have a3 := ha.cell 3 rfl
        have a4 := ha.cell 4 rfl
        have a5 := ha.cell 5 rfl
        have al := ha.lt
        clear hx ha
        go_wp2
        go_meet
        rw [HR.out]
        exact ⟨S2, _, _, F, 5, 0, [], rfl, rfl, rfl, rfl, hsz, Row.nil _ _ _ _ _, Row.nil _ _ _ _ _, H3.out⟩
      · have hd : deafT t a.pid a.deaf = (⟨t.l.set i { t.l[i] with deaf := a.deaf }, t.nx, t.f⟩, 0) := by unfold deafT; rw [h2, h3]
        rw [hd] at hr hp
        rw [h1] at hq
        have HR := hid hr
        have HP := hid hp
        have HQ := hid hq
        clear hr hp hq hd h1 h2 h3
        go_wp2_with fail
        refine HP.out.mono ?_
        rintro e' w2 ⟨rfl, ht⟩
        obtain ⟨S2, hd2⟩ := HH.out.prog (ht.up (Nat.le_succ n))
        have H2 := hid hd2
        clear ht hd2 b0 b1 b2 a0 a1 a2 a3 a4 a5 bl al y0 y1 y2
        have hx := (H2.out).xb
        have b0 := hx.cell 0 rfl
        have b1 := hx.cell 1 rfl
        have b2 := hx.cell 2 rfl
        have bl := hx.lt
        have y0 := hx.frozen 0
        have y1 := hx.frozen 1
        have y2 := hx.frozen 2
        have ha := (H2.out).ab
        have a0 := ha.cell 0 rfl
        have a1 := ha.cell 1 rfl
        have a2 := ha.cell 2 rfl
        have a3 := ha.cell 3 rfl
        have a4 := ha.cell 4 rfl
        have a5 := ha.cell 5 rfl
        have al := ha.lt
        clear hx ha
        unfold rtv at HQ
        go_wp2_with fail
        refine (HQ.out _ _ _ _ H2.out.dx.rt).mono ?_
        rintro e' w3 ⟨rfl, hf⟩
        have H3 := hid (H2.out.frd hf)
        clear hf b0 b1 b2 a0 a1 a2 a3 a4 a5 bl al y0 y1 y2
        have hx := (H3.out).xb
        have b0 := hx.cell 0 rfl
        have b1 := hx.cell 1 rfl
        have b2 := hx.cell 2 rfl
        have bl := hx.lt
        have y0 := hx.frozen 0
        have y1 := hx.frozen 1
        have y2 := hx.frozen 2
        have ha := (H3.out).ab
        have a0 := ha.cell 0 rfl
        have a1 := ha.cell 1 rfl
        have a2 := ha.cell 2 rfl
        have a3 := ha.cell 3 rfl
        have a4 := ha.cell 4 rfl
        have a5 := ha.cell 5 rfl
        have al := ha.lt
        clear hx ha
        obtain ⟨g, c9, h9, _⟩ := PrR.at_ H3.out.dx.rt.l i hi
        obtain rfl : A = some ⟨g, 0, none⟩ := by injection h9
        clear h9
        have hL0 : 0 < t.l.length := by omega
        have HM : Hid (t.l.length = t.l.length) := show Hid (t.l.length = t.l.length) from rfl
        have HL48 := hid (le48 (([] : List Pr).length + t.l.length) (by simp; have := HL.out; omega))
        have HFal := hid ((Fr.refl NoB w3).alloc (.cells #[] 51))
        go_upto_region 25 with (at_builtin; go_must (refine row_apps (f := Pr.cells) Pr.len Pr.one w3.heap.size rfl (.tmp 121) (.tmp 123) 40 51 Pr.zero 48 rfl Try.underlying40 infoPr rfl (by omega) (by omega) (.slice (some ⟨w3.heap.size, 0, none⟩) 0 0) [] t.l ⟨g, 0, none⟩ t.l.length c rfl rfl (hid rfl) (Row.src (H3.out.dx.rt.l.fr HFal.out (fun _ _ h => h)) hL0) (row_empty (Blk.new w3 51 []) (Nat.le_refl _)) HFal.out.size HL48.out ?_); intro v7 w7 hr7 hf7 hat7; rw [List.nil_append] at hr7; obtain ⟨g7, c7, rest7, rfl, hV7, hb7, hc7, hm7⟩ := Vec.of_row hr7 hL0; have HV7 := hid hV7; have HG7 := hid hb7; have HC7 := hid hc7; have HM7 := hid hm7; have HF7 := hid (HFal.out.then_ hf7 (fun k e => .inr (by have e' : w3.heap.size = k := Option.some.inj e; omega))); have H7 := hid (H3.out.frd HF7.out); have s5 := Vec.cell hV7 Pr.len i hi 5 (by decide) rfl; have x5 := hV7.blk.frozen (i * 6 + 5); have xl := hV7.blk.lt; clear hr7 hf7 hat7 hV7 hb7 hc7 hm7)
        clear b0 b1 b2 a0 a1 a2 a3 a4 a5 bl al y0 y1 y2
        have hx := (H7.out).xb
        have b0 := hx.cell 0 rfl
        have b1 := hx.cell 1 rfl
        have b2 := hx.cell 2 rfl
        have bl := hx.lt
        have y0 := hx.frozen 0
        have y1 := hx.frozen 1
        have y2 := hx.frozen 2
        have ha := (H7.out).ab
        have a0 := ha.cell 0 rfl
        have a1 := ha.cell 1 rfl
        have a2 := ha.cell 2 rfl
        have a3 := ha.cell 3 rfl
        have a4 := ha.cell 4 rfl
        have a5 := ha.cell 5 rfl
        have al := ha.lt
        clear hx ha
        have hgb : g7 ≠ w.heap.size := fun e => (by decide : 51 ≠ 43) (by
          have h1 := HV7.out.blk
          have h2 := H7.out.xb
          rw [e] at h1
          unfold Blk at h1 h2
          rw [h1] at h2
          injection h2 with h2
          injection h2 with _ h2)
        go_wp2
        have hf8 : Fr NoB w3 (w7.setCell ⟨g7, i * 6 + 5, none⟩ (.bool a.deaf)) := HF7.out.then_ ((Fr.refl (At g7) w7).setAt _ _) (fun k e => .inr (by have e' : k = g7 := e; have := HG7.out; omega))
        have hV8 := Vec.set1p HV7.out Pr.len i 5 hi (by decide) (.bool a.deaf) { t.l[i] with deaf := a.deaf } rfl
        have hr8 := Vec.row hV8 Pr.len HG7.out (by rw [List.length_set]; exact HC7.out) HM7.out
        have hst := H3.out.store0 hw0.out hf8 (H3.out.dx.rt.up hr8 hf8 t.nx) hr8.ge
        rw [List.length_set] at hst
        go_meet
        rw [HR.out]
        exact ⟨S2, _, _, F, 0, 0, [], rfl, rfl, rfl, rfl, hsz, Row.nil _ _ _ _ _, Row.nil _ _ _ _ _, hst⟩
    have e5 : (a.d == 5) = false := by simpa using d5
    by_cases d6 : a.d = 6
    · have hr : stepT t a = (exitT t a.pid).1 := by unfold stepT; rw [if_neg d0, if_neg d1, if_neg d2, if_neg d3, if_neg d4, if_neg d5, if_pos d6]
      have e6 : (a.d == 6) = true := by simpa using d6
      clear d0 d1 d2 d3 d4 d5 d6
      have hlx := exitT_len t a.pid (by have := HL.out; omega)
      have hp := pExit_any _ tb n S t a.pid HH.out.dx.tab (by have := HL.out; omega) (fun p hp => ⟨j64_of _ (by have := HI.out.grp p hp; have := HNX.out; omega), j64_of _ (by have := HI.out.tty p hp; omega)⟩)
      have hq := fun W v fv F h => rExit_any W v fv t F a.pid (t.nx - 1).toNat h (by have := HL.out; omega) (by have := HI.out.nx; omega) (by have := HNX.out; omega) HI.out.tty
      rw [HI.out.exitR] at hq
      generalize exitT t a.pid = r at hr hp hq hlx
      obtain ⟨t', xs⟩ := r
      have HR := hid hr
      have HP := hid hp
      have HQ := hid hq
      have HLX := hid hlx
      clear hr hp hq hlx
      go_wp2_with fail
      refine HP.out.mono ?_
      rintro e' w2 ⟨sv, rfl, hs1, ht⟩
      have HS1 := hid (Row.lower hs1 (Nat.zero_le _))
      clear hs1
      obtain ⟨S2, hd2⟩ := HH.out.prog (ht.up (Nat.le_succ n))
      have H2 := hid hd2
      clear ht hd2 b0 b1 b2 a0 a1 a2 a3 a4 a5 bl al y0 y1 y2
      have hx := (H2.out).xb
      have b0 := hx.cell 0 rfl
      have b1 := hx.cell 1 rfl
      have b2 := hx.cell 2 rfl
      have bl := hx.lt
      have y0 := hx.frozen 0
      have y1 := hx.frozen 1
      have y2 := hx.frozen 2
      have ha := (H2.out).ab
      have a0 := ha.cell 0 rfl
      have a1 := ha.cell 1 rfl
      have a2 := ha.cell 2 rfl
      have a3 := ha.cell 3 rfl
      have a4 := ha.cell 4 rfl
      have a5 := ha.cell 5 rfl
      have al := ha.lt
      clear hx ha
      go_wp2_with fail
      refine (HQ.out _ _ _ _ H2.out.dx.rt).mono ?_
      rintro e' w3 ⟨v3, fv3, F3, sv2, rfl, hrt, hs2, hf, hov, hofv⟩
      have HS2 := hid (Row.lower hs2 (Nat.zero_le _))
      have HS1' := hid (Row.fr HS1.out hf (fun _ _ h => h))
      have HXB := hid (H2.out.xb.fr hf (fun h => h))
      clear hs2
      obtain ⟨A3, c3, hv3, _⟩ := hrt.l.shape
      obtain ⟨A4, c4, hfv3, _⟩ := hrt.f.shape
      subst hv3 hfv3
      have H3 := hid (H2.out.store hw0.out hf hrt hov hofv)
      have hx := H2.out.xb.fr hf (fun h => h)
      clear b0 b1 b2 a0 a1 a2 a3 a4 a5 bl al y0 y1 y2
      have b0 := hx.cell 0 rfl
      have b1 := hx.cell 1 rfl
      have b2 := hx.cell 2 rfl
      have bl := hx.lt
      have y0 := hx.frozen 0
      have y1 := hx.frozen 1
      have y2 := hx.frozen 2
      unfold rtv
      clear hx hrt hf hov hofv
      go_wp2
      go_meet
      rw [HR.out]
      exact ⟨S2, _, _, F3, 0, 0, xs, rfl, rfl, rfl, rfl, HLX.out, Row.fr HS1'.out ((((Fr.refl (At w.heap.size) _).setAt 0 _).setAt 1 _).setAt 2 _) (fun k hk e => Row.not_blk HS1'.out HXB.out (by decide) (by have e' : k = w.heap.size := e; rw [← e']; exact hk)), Row.fr HS2.out ((((Fr.refl (At w.heap.size) _).setAt 0 _).setAt 1 _).setAt 2 _) (fun k hk e => Row.not_blk HS2.out HXB.out (by decide) (by have e' : k = w.heap.size := e; rw [← e']; exact hk)), H3.out⟩
    have e6 : (a.d == 6) = false := by simpa using d6
    by_cases d7 : a.d = 7
    · have hr : stepT t a = (hangT t a.tty).1 := by unfold stepT; rw [if_neg d0, if_neg d1, if_neg d2, if_neg d3, if_neg d4, if_neg d5, if_neg d6, if_pos d7]
      have e7 : (a.d == 7) = true := by simpa using d7
      clear d0 d1 d2 d3 d4 d5 d6 d7
      have hlx : (hangT t a.tty).2.length ≤ 100000 := by
        unfold hangT
        split
        · exact Nat.zero_le _
        · show (if _ then _ else _ : List (Int × Int)).length ≤ _
          split
          · show (2 : Nat) ≤ _; omega
          · exact Nat.zero_le _
      have hp := pHang_any _ tb n S t a.tty HH.out.dx.tab (by have := HL.out; omega) HJ2.out
      have hq := fun W v fv F h => rHang_any W v fv t F a.tty h (by have := HL.out; omega) (HI.out.front a.tty) HI.out.tty
      generalize hangT t a.tty = r at hr hp hq hlx
      obtain ⟨t', xs⟩ := r
      have HR := hid hr
      have HP := hid hp
      have HQ := hid hq
      have HLX := hid hlx
      clear hr hp hq hlx
      go_wp2_with fail
      refine HP.out.mono ?_
      rintro e' w2 ⟨sv, rfl, hs1, ht⟩
      have HS1 := hid (Row.lower hs1 (Nat.zero_le _))
      clear hs1
      obtain ⟨S2, hd2⟩ := HH.out.prog (ht.up (Nat.le_succ n))
      have H2 := hid hd2
      clear ht hd2 b0 b1 b2 a0 a1 a2 a3 a4 a5 bl al y0 y1 y2
      have hx := (H2.out).xb
      have b0 := hx.cell 0 rfl
      have b1 := hx.cell 1 rfl
      have b2 := hx.cell 2 rfl
      have bl := hx.lt
      have y0 := hx.frozen 0
      have y1 := hx.frozen 1
      have y2 := hx.frozen 2
      have ha := (H2.out).ab
      have a0 := ha.cell 0 rfl
      have a1 := ha.cell 1 rfl
      have a2 := ha.cell 2 rfl
      have a3 := ha.cell 3 rfl
      have a4 := ha.cell 4 rfl
      have a5 := ha.cell 5 rfl
      have al := ha.lt
      clear hx ha
      go_wp2_with fail
      refine (HQ.out _ _ _ _ H2.out.dx.rt).mono ?_
      rintro e' w3 ⟨v3, fv3, F3, sv2, rfl, hrt, hs2, hf, hov, hofv⟩
      have HS2 := hid (Row.lower hs2 (Nat.zero_le _))
      have HS1' := hid (Row.fr HS1.out hf (fun _ _ h => h))
      have HXB := hid (H2.out.xb.fr hf (fun h => h))
      clear hs2
      obtain ⟨A3, c3, hv3, _⟩ := hrt.l.shape
      obtain ⟨A4, c4, hfv3, _⟩ := hrt.f.shape
      subst hv3 hfv3
      have H3 := hid (H2.out.store hw0.out hf hrt hov hofv)
      have hx := H2.out.xb.fr hf (fun h => h)
      clear b0 b1 b2 a0 a1 a2 a3 a4 a5 bl al y0 y1 y2
      have b0 := hx.cell 0 rfl
      have b1 := hx.cell 1 rfl
      have b2 := hx.cell 2 rfl
      have bl := hx.lt
      have y0 := hx.frozen 0
      have y1 := hx.frozen 1
      have y2 := hx.frozen 2
      unfold rtv
      clear hx hrt hf hov hofv
      go_wp2
      go_meet
      rw [HR.out]
      exact ⟨S2, _, _, F3, 0, 0, xs, rfl, rfl, rfl, rfl, HLX.out, Row.fr HS1'.out ((((Fr.refl (At w.heap.size) _).setAt 0 _).setAt 1 _).setAt 2 _) (fun k hk e => Row.not_blk HS1'.out HXB.out (by decide) (by have e' : k = w.heap.size := e; rw [← e']; exact hk)), Row.fr HS2.out ((((Fr.refl (At w.heap.size) _).setAt 0 _).setAt 1 _).setAt 2 _) (fun k hk e => Row.not_blk HS2.out HXB.out (by decide) (by have e' : k = w.heap.size := e; rw [← e']; exact hk)), H3.out⟩
    have e7 : (a.d == 7) = false := by simpa using d7
    have hr : stepT t a = t := by unfold stepT; rw [if_neg d0, if_neg d1, if_neg d2, if_neg d3, if_neg d4, if_neg d5, if_neg d6, if_neg d7]
    clear d0 d1 d2 d3 d4 d5 d6 d7
    have HR := hid hr
    clear hr
    go_wp2
    go_meet
    rw [HR.out]
    exact ⟨S, _, _, F, 0, 0, [], rfl, rfl, rfl, rfl, hsz, Row.nil _ _ _ _ _, Row.nil _ _ _ _ _, HH.out.up⟩
  case rest =>
    obtain ⟨S3, v3, fv3, F3, er, nu, xs, rfl, rfl, rfl, rfl, hxs, hs1, hs2, hdo⟩ := hcut
    have H3 := hid hdo
    have HXS := hid hxs
    have HS1 := hid hs1
    have HS2 := hid hs2
    have HSz := hid (step_size t a)
    obtain ⟨A3, c3, hv3, _⟩ := hdo.dx.rt.l.shape
    obtain ⟨A4, c4, hfv3, _⟩ := hdo.dx.rt.f.shape
    subst hv3 hfv3
    have ee1 : (er == er) = true := beq_self_eq_true er
    have ee2 : (nu == nu) = true := beq_self_eq_true nu
    clear hxs hs1 hs2 hdo
    have HSq : Hid (∀ W, Fr (At (w.heap.size + 1 + 1)) wc W → W.cell? ⟨w.heap.size, 0, none⟩ = some (.slice A3 (stepT t a).l.length c3) ∧ W.cell? ⟨w.heap.size, 1, none⟩ = some (.int .i64 (stepT t a).nx) ∧ W.cell? ⟨w.heap.size, 2, none⟩ = some (.slice A4 F3.length c4)) := hid fun W hW => by
      have a2 := H3.out.xb.fr hW (fun e => by have e' : w.heap.size = w.heap.size + 1 + 1 := e; omega)
      exact ⟨a2.cell 0 rfl, a2.cell 1 rfl, a2.cell 2 rfl⟩
    have HFE := hid (Fr.drew (Fr.refl NoB wc))
    have hz := H3.out.zb
    have y0 := hz.frozen 0
    clear hz y0
    go_wp2_with fail
    go_region_held3 (fun W : World => W.cell? ⟨w.heap.size, 0, none⟩ = some (.slice A3 (stepT t a).l.length c3) ∧ W.cell? ⟨w.heap.size, 1, none⟩ = some (.int .i64 (stepT t a).nx) ∧ W.cell? ⟨w.heap.size, 2, none⟩ = some (.slice A4 F3.length c4)) (first | (have hx9 := HFC.out; first | exact HSq.out _ (hx9.mono (fun _ h => h.elim)) | exact HSq.out _ ((((hx9.mono (fun _ h => h.elim)).setAt 0 _).setAt 1 _).setAt 2 _)) | exact HSq.out _ (HFB.out.mono (fun _ h => h.elim)) | exact HSq.out _ (HFA.out.mono (fun _ h => h.elim)) | exact HSq.out _ (HFE.out.mono (fun _ h => h.elim)) | fail) (first | (have hx9 := HFB.out; clear hx9; go_at_call 45; refine (rSameA_any _ _ _ _ _ _ HRow.out (H3.out.dx.rt.frd HFB.out).l (by have := HSz.out.1; have := HL.out; omega)).mono ?_; rintro e' w7 ⟨rfl, hf7⟩; have HFC := hid (HFB.out.trans hf7); have hz := H3.out.zb.fr HFC.out (fun h => h); have z0 := hz.cell 0 rfl; have z1 := hz.cell 1 rfl; have z2 := hz.cell 2 rfl; have y0 := hz.frozen 0; have y1 := hz.frozen 1; have y2 := hz.frozen 2; have yl := hz.lt; clear hz hf7) | (have hx9 := HFA.out; clear hx9; go_at_call 18; refine (pAll_any _ tb _ S3 _ (H3.out.dx.tab.frd HFA.out) (by have := HSz.out.1; have := HL.out; omega)).mono ?_; rintro e' w6 ⟨av, rfl, hrow, hf6⟩; have HFB := hid (HFA.out.trans hf6); have HRow := hid hrow; clear hrow hf6) | (go_at_call 23; refine (rSame_any _ _ _ 0 0 xs (Row.fr HS1.out HFE.out (fun _ _ h => h)) (Row.fr HS2.out HFE.out (fun _ _ h => h)) HXS.out).mono ?_; rintro e' w5 ⟨rfl, hf5⟩; have HFA := hid (HFE.out.trans hf5); clear hf5) | fail)
    go_wp2
    refine bodyPost_ret (v := .tuple #[rtv (.slice A3 (stepT t a).l.length c3) (stepT t a).nx (.slice A4 F3.length c4), .bool true]) (by simp [results, Try.results17, go_sem, z0, z1, z2, rtv]) rfl ⟨S3, _, _, F3, rfl, (H3.out.dx.frd HFC.out).at_ (H3.out.zb.fr HFC.out (fun h => h)) (by decide) (by decide) (fun e => by have := H3.out.sb _ e; omega) (Nat.le_trans hw0.out (by omega)) ((((Fr.refl (At (w.heap.size + 1 + 1)) w7).setAt 0 _).setAt 1 _).setAt 2 _), (H3.out.fs.trans (HFC.out.mono (fun _ h => h.elim))).then_ ((((Fr.refl (At (w.heap.size + 1 + 1)) w7).setAt 0 _).setAt 1 _).setAt 2 _) (fun k e => .inr (by have e' : k = w.heap.size + 1 + 1 := e; omega)), H3.out.ss⟩
end Go.Proofs.Ytlagakcpjmjdfaa
