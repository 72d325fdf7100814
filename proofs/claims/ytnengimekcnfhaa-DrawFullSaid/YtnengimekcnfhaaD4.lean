import Derived.Test.YtnengimekcnfhaaD3
set_option linter.unusedSimpArgs false
set_option linter.unusedVariables false
set_option maxRecDepth 20000
namespace Go.Proofs.Ytnengimekcnfhaa
open Go.RowKit Go.Shelf Go.Proofs.YtnengimekcnfhaaW.PrintWords
attribute [local go_sem] Oper.semAt_some
/-- Cells that are read at an address. -/
def CA (w : World) (A : Option Addr) (l : List Cl) : Prop := ∀ k (h : k < l.length), ∃ ad, A = some ad ∧ w.cell? (ad.add (k * 4)) = some (.int .i32 l[k].r) ∧ w.cell? (ad.add (k * 4 + 1)) = some (.int .i64 l[k].fg) ∧ w.cell? (ad.add (k * 4 + 2)) = some (.int .i64 l[k].bg) ∧ w.cell? (ad.add (k * 4 + 3)) = some (.int .i64 l[k].fl)
theorem CA.fr {S : Nat → Prop} {w w1 : World} {A : Option Addr} {l : List Cl} (h : CA w A l) (hf : Fr S w w1) (hs : ∀ ad, A = some ad → 0 < l.length → ¬ S ad.block) : CA w1 A l := fun k hk => by
  obtain ⟨ad, e, h1, h2, h3, h4⟩ := h k hk
  have hb : ∀ j, (ad.add j).block = ad.block := fun j => by unfold Addr.add; split <;> rfl
  have hn := hs ad e (by omega)
  have mv : ∀ j u, w.cell? (ad.add j) = some u → w1.cell? (ad.add j) = some u := fun j u hc => by
    rw [World.cell?_of_block (w' := w1) (hf.block _ (cell_lt hc) (by rw [hb]; exact hn))]
    exact hc
  exact ⟨ad, e, mv _ _ h1, mv _ _ h2, mv _ _ h3, mv _ _ h4⟩
theorem noncell {w : World} {b r : Nat} {T : TypeId} {l : List Value} {o : Obj} (h : Blk w b T l) (hr : w.heap[r]? = some o) (ho : o.isCells = false) : b ≠ r := fun e => by
  subst e
  unfold Blk at h
  rw [h] at hr
  cases hr
  cases ho
/-- What a drawing reads, boxed: the frame, the stack, the window's number, a column, the cells; the window; how many were written. -/
structure Boxes (w : World) (B D E f b : Nat) (id x : Int) (A : Option Addr) (n cap : Nat) (t : Wn) (many : Int) : Prop where
  b0 : Blk w B 27 [.pointer (some ⟨f, 0, none⟩)]
  b1 : Blk w (B + 1) 29 [.pointer (some ⟨b, 0, none⟩)]
  b2 : Blk w (B + 1 + 1) 3 [.int .i64 id]
  b3 : Blk w (B + 1 + 1 + 1) 3 [.int .i64 x]
  b4 : Blk w (B + 1 + 1 + 1 + 1) 24 [.slice A n cap]
  d : Blk w D 73 t.cells
  e : Blk w E 3 [.int .i64 many]
/-- The state of a loop that draws. -/
structure CS (w0 W : World) (B D E f g gb Wd Hd b : Nat) (scr : Rc) (v : Value) (xs : List Wn) (next id x : Int) (A : Option Addr) (l : List Cl) (cap : Nat) (t : Wn) (nv0 : Value) (cs : List Cl) (ns : List Wr) (many : Int) : Prop where
  fd : ∃ nv, FD W f g gb Wd Hd cs nv ns ∧ ∀ k, OwnB nv k → OwnB nv0 k ∨ w0.heap.size ≤ k
  sk : SK W b scr v xs next
  bx : Boxes W B D E f b id x A l.length cap t many
  ca : CA W A l
  frm : Fr (FB f gb nv0) w0 W
  far : ∀ ad, A = some ad → 0 < l.length → ¬ FB f gb nv0 ad.block ∧ ad.block < w0.heap.size
  old : w0.heap.size ≤ B ∧ w0.heap.size ≤ D ∧ w0.heap.size ≤ E
theorem CS.move {w0 W W' : World} {B D E f g gb Wd Hd b : Nat} {scr : Rc} {v : Value} {xs : List Wn} {next id x : Int} {A : Option Addr} {l : List Cl} {cap : Nat} {t : Wn} {nv0 : Value} {cs : List Cl} {ns : List Wr} {many : Int}
    (h : CS w0 W B D E f g gb Wd Hd b scr v xs next id x A l cap t nv0 cs ns many) {row : Option Nat} (hg : W.grownBy W' row) (hr : ∀ r, row = some r → w0.heap.size ≤ r ∧ ∃ o : Obj, W.heap[r]? = some o ∧ o.isCells = false) :
    CS w0 W' B D E f g gb Wd Hd b scr v xs next id x A l cap t nv0 cs ns many := by
  have hf : Fr (fun k => row = some k) W W' := Fr.of_grown hg
  have nb : ∀ {c T L}, Blk W c T L → ¬ (row = some c) := fun hb e => by
    obtain ⟨_, o, h1, h2⟩ := hr _ e
    exact noncell hb h1 h2 rfl
  have mv : ∀ {c T L}, Blk W c T L → Blk W' c T L := fun hb => hb.fr hf (nb hb)
  obtain ⟨nv, hfd, hown⟩ := h.fd
  have hrw : ∀ k, OwnB nv k → ¬ (row = some k) := fun k hk e => by
    obtain ⟨_, o, h1, h2⟩ := hr _ e
    have h5 := hfd.row
    rcases h5.2 with ⟨h6, _⟩ | ⟨g', c', cur, h6, _, h7, _⟩
    · rw [h6] at hk
      cases hk
    · rw [h6] at hk
      obtain rfl : g' = k := Option.some.inj hk
      rw [h7] at h1
      cases h1
      cases h2
  have hvw : ∀ k, OwnB v k → ¬ (row = some k) := fun k hk e => by
    obtain ⟨_, o, h1, h2⟩ := hr _ e
    rcases h.sk.row with ⟨h6, _⟩ | ⟨g', c', rest, h6, hV, _⟩
    · rw [h6] at hk
      cases hk
    · rw [h6] at hk
      obtain rfl : g' = k := Option.some.inj hk
      exact noncell hV.blk h1 h2 rfl
  refine ⟨⟨nv, hfd.fr hf (nb hfd.blk) (nb hfd.gd.blk) (nb hfd.gd.cel) hrw, hown⟩, h.sk.fr hf (nb h.sk.blk) hvw, ⟨mv h.bx.b0, mv h.bx.b1, mv h.bx.b2, mv h.bx.b3, mv h.bx.b4, mv h.bx.d, mv h.bx.e⟩, h.ca.fr hf (fun ad e h0 hk => ?_), h.frm.then_ hf (fun k hk => .inr (hr k hk).1), h.far, h.old⟩
  have := (h.far ad e h0).2
  have := (hr _ hk).1
  omega
end Go.Proofs.Ytnengimekcnfhaa
