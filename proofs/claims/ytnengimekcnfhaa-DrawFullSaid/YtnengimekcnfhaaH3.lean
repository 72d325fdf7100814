import Derived.Test.YtnengimekcnfhaaH2
set_option linter.unusedVariables false
namespace Go.Proofs.Ytnengimekcnfhaa
open Go.RowKit Go.Shelf Go.Proofs.YtnengimekcnfhaaW.PrintWords
def stepF (Wd : Nat) (xs : List Wn) (id : Int) (c : Cl) (s : List Cl × List Wr × Int) (p : Int × Int) : List Cl × List Wr × Int :=
  if ownerOf xs p.1 p.2 = id then (setG Wd s.1 p.1 p.2 c, s.2.1 ++ [⟨p.1, p.2, c⟩], s.2.2 + 1) else s
def foldF {X Y : Int} {W H : Nat} (Wd : Nat) (xs : List Wn) (id : Int) (c : Cl) (cs : List Cl) (ns : List Wr) (ps : List (Pl X Y W H)) : List Cl × List Wr × Int := ps.foldl (fun s p => stepF Wd xs id c s p.1) (cs, ns, 0)
theorem foldF_snoc {X Y : Int} {W H : Nat} (Wd : Nat) (xs : List Wn) (id : Int) (c : Cl) (cs : List Cl) (ns : List Wr) (ps : List (Pl X Y W H)) (p : Pl X Y W H) : foldF Wd xs id c cs ns (ps ++ [p]) = stepF Wd xs id c (foldF Wd xs id c cs ns ps) p.1 := by simp [foldF]
theorem foldF_bd {X Y : Int} {W H : Nat} (Wd : Nat) (xs : List Wn) (id : Int) (c : Cl) (cs : List Cl) (ns : List Wr) (ps : List (Pl X Y W H)) : 0 ≤ (foldF Wd xs id c cs ns ps).2.2 ∧ (foldF Wd xs id c cs ns ps).2.2 ≤ ps.length ∧ (foldF Wd xs id c cs ns ps).2.1.length ≤ ns.length + ps.length := by
  obtain ⟨n, hn⟩ : ∃ n, n = ps.length := ⟨_, rfl⟩
  induction n generalizing ps with
  | zero =>
    obtain rfl := List.eq_nil_of_length_eq_zero hn.symm
    simp [foldF]
  | succ n ih =>
    rcases List.eq_nil_or_concat ps with rfl | ⟨qs, q, rfl⟩
    · simp at hn
    · rw [List.concat_eq_append] at *
      have := ih qs (by simp at hn; omega)
      rw [foldF_snoc, List.length_append]
      unfold stepF
      split
      · simp only [List.length_append, List.length_cons, List.length_nil]
        omega
      · simp only [List.length_cons, List.length_nil]
        omega
/-- The state of the loop of Fill. -/
structure FS (w0 W : World) (B E f g gb Wd Hd b : Nat) (scr : Rc) (v : Value) (xs : List Wn) (next id : Int) (c : Cl) (nv0 : Value) (cs : List Cl) (ns : List Wr) (many : Int) : Prop where
  fd : ∃ nv, FD W f g gb Wd Hd cs nv ns ∧ ∀ k, OwnB nv k → OwnB nv0 k ∨ w0.heap.size ≤ k
  sk : SK W b scr v xs next
  b0 : Blk W B 27 [.pointer (some ⟨f, 0, none⟩)]
  b1 : Blk W (B + 1) 29 [.pointer (some ⟨b, 0, none⟩)]
  b2 : Blk W (B + 1 + 1) 3 [.int .i64 id]
  b3 : Blk W (B + 1 + 1 + 1 + 1) 38 c.cells
  e : Blk W E 3 [.int .i64 many]
  frm : Fr (FB f gb nv0) w0 W
  old : w0.heap.size ≤ B ∧ w0.heap.size ≤ E
  gbB : gb < w0.heap.size
section
variable {w0 W W' : World} {B E f g gb Wd Hd b : Nat} {scr : Rc} {v : Value} {xs : List Wn} {next id : Int} {c : Cl} {nv0 : Value} {cs : List Cl} {ns : List Wr} {many : Int}
theorem FS.move (h : FS w0 W B E f g gb Wd Hd b scr v xs next id c nv0 cs ns many) {row : Option Nat} (hg : W.grownBy W' row) (hr : ∀ r, row = some r → w0.heap.size ≤ r ∧ ∃ o : Obj, W.heap[r]? = some o ∧ o.isCells = false) :
    FS w0 W' B E f g gb Wd Hd b scr v xs next id c nv0 cs ns many := by
  have hf : Fr (fun k => row = some k) W W' := Fr.of_grown hg
  have nb : ∀ {c T L}, Blk W c T L → ¬ (row = some c) := fun hb e => by
    obtain ⟨_, o, h1, h2⟩ := hr _ e
    exact noncell hb h1 h2 rfl
  have mv : ∀ {c T L}, Blk W c T L → Blk W' c T L := fun hb => hb.fr hf (nb hb)
  obtain ⟨nv, hfd, hown⟩ := h.fd
  have hrw : ∀ k, OwnB nv k → ¬ (row = some k) := fun k hk e => by
    obtain ⟨_, o, h1, h2⟩ := hr _ e
    rw [hfd.isCells k (.inr (.inr hk)) o h1] at h2
    cases h2
  have hvw : ∀ k, OwnB v k → ¬ (row = some k) := fun k hk e => by
    obtain ⟨_, o, h1, h2⟩ := hr _ e
    rcases h.sk.row with ⟨h6, _⟩ | ⟨g', c', rest, h6, hV, _⟩
    · rw [h6] at hk
      cases hk
    · rw [h6] at hk
      obtain rfl : g' = k := Option.some.inj hk
      exact noncell hV.blk h1 h2 rfl
  exact ⟨⟨nv, hfd.fr hf (nb hfd.blk) (nb hfd.gd.blk) (nb hfd.gd.cel) hrw, hown⟩, h.sk.fr hf (nb h.sk.blk) hvw, mv h.b0, mv h.b1, mv h.b2, mv h.b3, mv h.e, h.frm.then_ hf (fun k hk => .inr (hr k hk).1), h.old, h.gbB⟩
theorem FS.frd (h : FS w0 W B E f g gb Wd Hd b scr v xs next id c nv0 cs ns many) (hf : Fr NoB W W') :
    FS w0 W' B E f g gb Wd Hd b scr v xs next id c nv0 cs ns many := by
  obtain ⟨nv, hfd, hown⟩ := h.fd
  have mv : ∀ {c T L}, Blk W c T L → Blk W' c T L := fun hb => hb.fr hf (fun h => h)
  exact ⟨⟨nv, hfd.frd hf, hown⟩, h.sk.frd hf, mv h.b0, mv h.b1, mv h.b2, mv h.b3, mv h.e, h.frm.trans (hf.mono (fun _ h => h.elim)), h.old, h.gbB⟩
theorem FS.put (h : FS w0 W B E f g gb Wd Hd b scr v xs next id c nv0 cs ns many) {nv nv' : Value} {cs' : List Cl} {ns' : List Wr} (hfd : FD W f g gb Wd Hd cs nv ns) (hown : ∀ k, OwnB nv k → OwnB nv0 k ∨ w0.heap.size ≤ k)
    (hfd' : FD W' f g gb Wd Hd cs' nv' ns') (hf : Fr (FB f gb nv) W W') (ho : ∀ k, OwnB nv' k → OwnB nv k ∨ W.heap.size ≤ k) :
    FS w0 W' B E f g gb Wd Hd b scr v xs next id c nv0 cs' ns' many := by
  have ne : ∀ {c T L}, Blk W c T L → T ≠ 43 → T ≠ 38 → 57 ≠ T → ¬ FB f gb nv c := fun hb h1 h2 h3 => hfd.notFB hb h1 h2 h3
  have hup : ∀ k, FB f gb nv k → FB f gb nv0 k ∨ w0.heap.size ≤ k := by
    rintro k (rfl | rfl | hk)
    · exact .inl (.inl rfl)
    · exact .inl (.inr (.inl rfl))
    · exact (hown k hk).imp (fun h => .inr (.inr h)) (fun h => h)
  refine ⟨⟨nv', hfd', fun k hk => ?_⟩, h.sk.fr hf (ne h.sk.blk (by decide) (by decide) (by decide)) ?_, h.b0.fr hf (ne h.b0 (by decide) (by decide) (by decide)), h.b1.fr hf (ne h.b1 (by decide) (by decide) (by decide)), h.b2.fr hf (ne h.b2 (by decide) (by decide) (by decide)),
    h.b3.fr hf ?_, h.e.fr hf (ne h.e (by decide) (by decide) (by decide)), h.frm.then_ hf hup, h.old, h.gbB⟩
  · rcases ho k hk with h1 | h1
    · exact hown k h1
    · exact .inr (Nat.le_trans h.frm.size h1)
  · intro k hk hfb
    rcases h.sk.row with ⟨h6, _⟩ | ⟨g', c', rest, h6, hV, _⟩
    · rw [h6] at hk
      cases hk
    · rw [h6] at hk
      obtain rfl : g' = k := Option.some.inj hk
      exact ne hV.blk (by decide) (by decide) (by decide) hfb
  · have hB := h.old.1
    have hg := h.gbB
    rintro (e1 | e1 | hk)
    · exact absurd (blk_type (e1 ▸ h.b3) hfd.blk) (by decide)
    · omega
    · exact hfd.row.not_blk h.b3 (by decide) hk
theorem FS.count (h : FS w0 W B E f g gb Wd Hd b scr v xs next id c nv0 cs ns many) (hBE : B + 4 < E) (many' : Int) :
    FS w0 (W.setCell ⟨E, 0, none⟩ (.int .i64 many')) B E f g gb Wd Hd b scr v xs next id c nv0 cs ns many' := by
  obtain ⟨nv, hfd, hown⟩ := h.fd
  have hf : Fr (At E) W (W.setCell ⟨E, 0, none⟩ (.int .i64 many')) := (Fr.refl _ _).setAt 0 _
  have ne : ∀ {c T L}, Blk W c T L → T ≠ 3 → ¬ At E c := fun {c T L} hb h1 hk => by
    obtain rfl : c = E := hk
    exact h1 (blk_type hb h.e)
  refine ⟨⟨nv, hfd.fr hf (ne hfd.blk (by decide)) (ne hfd.gd.blk (by decide)) (ne hfd.gd.cel (by decide)) ?_, hown⟩, h.sk.fr hf (ne h.sk.blk (by decide)) ?_, h.b0.fr hf (ne h.b0 (by decide)), h.b1.fr hf (ne h.b1 (by decide)), h.b2.fr hf ?_, h.b3.fr hf (ne h.b3 (by decide)), h.e.set 0 _,
    h.frm.then_ hf (fun k hk => .inr (by obtain rfl : k = E := hk; exact h.old.2)), h.old, h.gbB⟩
  · intro k hk hE
    obtain rfl : k = E := hE
    exact hfd.row.not_blk h.e (by decide) hk
  · intro k hk hE
    obtain rfl : k = E := hE
    exact h.sk.row.ne h.e (by decide) hk
  · intro hE
    have : B + 1 + 1 = E := hE
    omega
end
end Go.Proofs.Ytnengimekcnfhaa
