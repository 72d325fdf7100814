import Derived.Test.YtlagakcpjmjdfaaB14
set_option linter.unusedSimpArgs false
set_option linter.unusedVariables false
set_option maxRecDepth 20000
namespace Go.Proofs.Ytlagakcpjmjdfaa
open Go.RowKit Go.Proofs.YtlagakcpjmjdfaaW.PrintWords Go.ChangeShapes Go.WideShapes
theorem AcT.cells_len (a : AcT) : a.cells.length = 6 := rfl
/-- Acts that came in. -/
def AV (w : World) (A : Option Addr) (l : List AcT) : Prop := (∀ k (hk : k < l.length), ∃ ad : Addr, A = some ad ∧ ad.block < w.heap.size ∧ ∀ j v, (l[k].cells)[j]? = some v → w.cell? (ad.add (k * 6 + j)) = some v) ∧ ∀ a ∈ l, J64 a.grp ∧ J64 a.tty
theorem add_block (a : Addr) (i : Nat) : (a.add i).block = a.block := by unfold Addr.add; split <;> rfl
theorem AV.cells {w w1 : World} {A : Option Addr} {l : List AcT} (h : AV w A l) (hf : Fr NoB w w1) (k : Nat) (hk : k < l.length) : ∃ ad : Addr, A = some ad ∧ ad.block < w.heap.size ∧ w1.cell? (ad.add (k * 6)) = some (.int .i64 l[k].d) ∧ w1.cell? ⟨(ad.add (k * 6)).block, (ad.add (k * 6)).off + 1, none⟩ = some (.int .i64 l[k].pid) ∧ w1.cell? ⟨(ad.add (k * 6)).block, (ad.add (k * 6)).off + 2, none⟩ = some (.int .i64 l[k].who) ∧ w1.cell? ⟨(ad.add (k * 6)).block, (ad.add (k * 6)).off + 3, none⟩ = some (.int .i64 l[k].grp) ∧ w1.cell? ⟨(ad.add (k * 6)).block, (ad.add (k * 6)).off + 4, none⟩ = some (.int .i64 l[k].tty) ∧ w1.cell? ⟨(ad.add (k * 6)).block, (ad.add (k * 6)).off + 5, none⟩ = some (.bool l[k].deaf) := by
  obtain ⟨ad, hA, hg, hc⟩ := h.1 k hk
  have hm : ∀ j v, (l[k].cells)[j]? = some v → w1.cell? (ad.add (k * 6 + j)) = some v := fun j v hj => (World.cell?_of_block (by rw [add_block]; exact hf.block ad.block hg (fun h => h))).trans (hc j v hj)
  refine ⟨ad, hA, hg, hm 0 _ rfl, ?_, ?_, ?_, ?_, ?_⟩
  · have := hm 1 _ rfl
    rwa [← Addr.add_add] at this
  · have := hm 2 _ rfl
    rwa [← Addr.add_add] at this
  · have := hm 3 _ rfl
    rwa [← Addr.add_add] at this
  · have := hm 4 _ rfl
    rwa [← Addr.add_add] at this
  · have := hm 5 _ rfl
    rwa [← Addr.add_add] at this
theorem i64_J {n : Int} (h : (Lit.int .i64 n).wf = true) : J64 n := by
  unfold J64
  simp [Lit.wf, IntKind.wrap] at h
  have e1 : IntKind.i64.min = -9223372036854775808 := by decide
  have e2 : IntKind.i64.max = 9223372036854775807 := by decide
  omega
theorem flatAct : FlatT Try.prog 48 [.int .i64, .int .i64, .int .i64, .int .i64, .int .i64, .bool] :=
  FlatT.of_struct [[.int .i64], [.int .i64], [.int .i64], [.int .i64], [.int .i64], [.bool]] Try.underlying48 (by kernel_rfl) (fun i ls h => by
    match i, h with
    | 0, h => obtain rfl := Option.some.inj h; exact ⟨_, rfl, FlatT.of_int Try.underlying3, rfl, by kernel_rfl⟩
    | 1, h => obtain rfl := Option.some.inj h; exact ⟨_, rfl, FlatT.of_int Try.underlying3, rfl, by kernel_rfl⟩
    | 2, h => obtain rfl := Option.some.inj h; exact ⟨_, rfl, FlatT.of_int Try.underlying3, rfl, by kernel_rfl⟩
    | 3, h => obtain rfl := Option.some.inj h; exact ⟨_, rfl, FlatT.of_int Try.underlying3, rfl, by kernel_rfl⟩
    | 4, h => obtain rfl := Option.some.inj h; exact ⟨_, rfl, FlatT.of_int Try.underlying3, rfl, by kernel_rfl⟩
    | 5, h => obtain rfl := Option.some.inj h; exact ⟨_, rfl, FlatT.of_bool Try.underlying4, rfl, by kernel_rfl⟩
    | i + 6, h => simp at h)
theorem open_av {H : Type} {enc : TypeId × Value → H} {w : World} {base : Nat} {spare : Nat → Bool} {held : Bool} {a : Option Addr} {len cap : Nat} {d : DataW H} {ps : List MemPlace}
    (h : DataW.Trod enc Try.prog w base spare held 39 (.slice a len cap) d ps) : ∃ l : List AcT, len = l.length ∧ AV w a l ∧ l.length ≤ cap := by
  obtain ⟨fuel, hf⟩ := h
  rcases open_rows (cl := AcT.cells) (sz := 6) (ok := fun a => J64 a.grp ∧ J64 a.tty) AcT.cells_len (fun fuel cs y hy => by
    obtain ⟨h1, h2⟩ := flatAct H enc w base spare held fuel cs y hy
    match cs, h1 with
    | [v0, v1, v2, v3, v4, v5], _ =>
      obtain ⟨n0, rfl, _⟩ := h2 0 _ v0 rfl rfl
      obtain ⟨n1, rfl, _⟩ := h2 1 _ v1 rfl rfl
      obtain ⟨n2, rfl, _⟩ := h2 2 _ v2 rfl rfl
      obtain ⟨n3, rfl, w3⟩ := h2 3 _ v3 rfl rfl
      obtain ⟨n4, rfl, w4⟩ := h2 4 _ v4 rfl rfl
      obtain ⟨b5, rfl⟩ := h2 5 _ v5 rfl rfl
      exact ⟨⟨n0, n1, n2, n3, n4, b5⟩, rfl, i64_J w3, i64_J w4⟩) Try.underlying39 (by kernel_rfl) hf with hcs | ⟨x, l, c, zs, hcs, hz, hlc, hcell, hok⟩
  · simp [Value.cells] at hcs
    obtain ⟨rfl, rfl, rfl⟩ := hcs
    exact ⟨[], rfl, ⟨fun k hk => by simp at hk, fun a ha => by simp at ha⟩, Nat.le_refl _⟩
  · simp [Value.cells] at hcs
    obtain ⟨rfl, rfl, rfl⟩ := hcs
    refine ⟨zs, hz.symm, ⟨fun k hk => ?_, hok⟩, by rw [hz]; exact hlc⟩
    refine ⟨x, rfl, ?_, fun j v hv => hcell k hk j v hv⟩
    have h1 := cell_lt (hcell k hk 0 _ rfl)
    rwa [add_block] at h1
/-- Both tables behind k acts; the document's lies in a box, too. -/
structure LS (w W : World) (tb xb k : Nat) (S : Nat → Prop) (t : Tb) (n : Nat) (v fv : Value) (F : List Int) : Prop where
  dx : DX w W tb S t n v fv t F
  bx : Blk W xb 43 [v, .int .i64 t.nx, fv]
  xs : ¬ S xb
  xl : w.heap.size ≤ xb
  inv : Inv t
  len : t.l.length ≤ 1 + k
  nx : t.nx ≤ 2 + k
  nn : n ≤ k
section
variable {w W W' : World} {tb xb k n : Nat} {S : Nat → Prop} {t : Tb} {v fv : Value} {F : List Int}
theorem LS.frd (h : LS w W tb xb k S t n v fv F) (hf : Fr NoB W W') : LS w W' tb xb k S t n v fv F :=
  ⟨h.dx.frd hf, h.bx.fr hf (fun h => h), h.xs, h.xl, h.inv, h.len, h.nx, h.nn⟩
/-- At the beginning. -/
theorem LS.new {w1 w2 : World} {S1 : Nat → Prop} (h1 : Tab w1 tb S1 newT 0) (hf1 : Fr NoB w w1) (hs : ∀ k, S1 k → w.heap.size ≤ k) (hr : RT w2 v fv newT F) (hf2 : Fr NoB w1 w2) (hv : ∀ k, OwnB v k → w1.heap.size ≤ k) (hfv : ∀ k, OwnB fv k → w1.heap.size ≤ k) :
    ∃ S, LS w (w2.alloc (.cells #[v, .int .i64 2, fv] 43)) tb w2.heap.size 0 S newT 0 v fv F := by
  obtain ⟨S, g1, g2, g3⟩ := h1.tight
  have hf3 : Fr NoB w2 (w2.alloc (.cells #[v, .int .i64 2, fv] 43)) := (Fr.refl _ _).alloc _
  refine ⟨S, ⟨(g1.frd hf2).frd hf3, fun k hk => hs k (g2 k hk), fun k hk => ?_, hr.frd hf3, fun k hk hs => ?_, fun k hk hs => ?_, (hf1.trans hf2).trans hf3⟩, Blk.new w2 43 _, fun e => ?_, Nat.le_trans hf1.size hf2.size, inv_new, by decide, by decide, Nat.le_refl _⟩
  · have := g3 k hk; have := hf2.size; have := hf3.size; omega
  · have := hv k hk; have := g3 k hs; omega
  · have := hfv k hk; have := g3 k hs; omega
  · have := g3 _ e; have := hf2.size; omega
/-- Behind one act, and its answer in the box. -/
theorem LS.next {a : AcT} {S' : Nat → Prop} {v' fv' : Value} {F' : List Int} {w1 : World} (h : LS w W tb xb k S t n v fv F) (h0 : Fr NoB W w1) (hd : DX w W' tb S' (stepT t a) (n + 1) v' fv' (stepT t a) F') (hf : Fr S w1 W') (hs : ∀ k, S' k → S k ∨ w1.heap.size ≤ k) :
    LS w (((W'.setCell ⟨xb, 0, none⟩ v').setCell ⟨xb, 1, none⟩ (.int .i64 (stepT t a).nx)).setCell ⟨xb, 2, none⟩ fv') tb xb (k + 1) S' (stepT t a) (n + 1) v' fv' F' := by
  have hb := (h.bx.fr h0 (fun h => h)).fr hf h.xs
  have hx : ¬ S' xb := fun e => by
    rcases hs _ e with e | e
    · exact h.xs e
    · have := (h.bx.fr h0 (fun h => h)).lt; omega
  have hfa : Fr (At xb) W' (((W'.setCell ⟨xb, 0, none⟩ v').setCell ⟨xb, 1, none⟩ (.int .i64 (stepT t a).nx)).setCell ⟨xb, 2, none⟩ fv') := (((Fr.refl _ _).setAt 0 _).setAt 1 _).setAt 2 _
  obtain ⟨s1, s2⟩ := step_size t a
  refine ⟨hd.at_ hb (by decide) (by decide) hx h.xl hfa, ((hb.set 0 v').set 1 (.int .i64 (stepT t a).nx)).set 2 fv', hx, h.xl, h.inv.step a, ?_, ?_, by have := h.nn; omega⟩
  · have := h.len; omega
  · have := h.nx; omega
end
end Go.Proofs.Ytlagakcpjmjdfaa
