import Derived.Test.YtnengimekcnfhaaD4
set_option linter.unusedSimpArgs false
set_option linter.unusedVariables false
set_option maxRecDepth 20000
namespace Go.Proofs.Ytnengimekcnfhaa
open Go.RowKit Go.Shelf Go.Proofs.YtnengimekcnfhaaW.PrintWords
/-- What of a rectangle is in a window: whole numbers. -/
theorem inW_ok (t : Wn) (r : Rc) (ht : t.r.Right) : ∃ W H : Nat, (inW t r).w = W ∧ (inW t r).h = H ∧ Near (inW t r).x ∧ Near (inW t r).y ∧
    ((inW t r = Rc.zero ∧ W = 0 ∧ H = 0) ∨ (r.Right ∧ 0 ≤ (inW t r).x ∧ (inW t r).x + W ≤ t.w ∧ 0 ≤ (inW t r).y ∧ (inW t r).y + H ≤ t.h ∧ r.x ≤ (inW t r).x ∧ (inW t r).x + W ≤ r.x + r.w ∧ r.y ≤ (inW t r).y ∧ (inW t r).y + H ≤ r.y + r.h)) := by
  have hw := ht.w0
  have hh := ht.h0
  have nz : Near 0 := ⟨by decide, by decide⟩
  have key : inW t r = Rc.zero ∨ (r.Right ∧ inW t r = ofR (max r.x 0) (max r.y 0) (min (r.x + r.w) (0 + t.w)) (min (r.y + r.h) (0 + t.h))) := by
    unfold inW Rc.both
    split
    · rename_i h
      exact .inr ⟨h.1, rfl⟩
    · exact .inl rfl
  rcases key with hz | ⟨hr, hz⟩
  · rw [hz]
    exact ⟨0, 0, rfl, rfl, nz, nz, .inl ⟨rfl, rfl, rfl⟩⟩
  · unfold ofR at hz
    split at hz
    · rw [hz]
      exact ⟨0, 0, rfl, rfl, nz, nz, .inl ⟨rfl, rfl, rfl⟩⟩
    · rename_i hne
      rw [hz]
      have tw : t.w ≤ 1073741824 := ht.w.2
      have th : t.h ≤ 1073741824 := ht.h.2
      have tw' : t.r.w = t.w := rfl
      have th' : t.r.h = t.h := rfl
      rw [tw'] at hw
      rw [th'] at hh
      refine ⟨(min (r.x + r.w) (0 + t.w) - max r.x 0).toNat, (min (r.y + r.h) (0 + t.h) - max r.y 0).toNat, by show min (r.x + r.w) (0 + t.w) - max r.x 0 = _; omega, by show min (r.y + r.h) (0 + t.h) - max r.y 0 = _; omega, ⟨by show _ ≤ max r.x 0; omega, by show max r.x 0 ≤ _; omega⟩, ⟨by show _ ≤ max r.y 0; omega, by show max r.y 0 ≤ _; omega⟩, .inr ⟨hr, ?_⟩⟩
      show 0 ≤ max r.x 0 ∧ _ ≤ _ ∧ 0 ≤ max r.y 0 ∧ _ ≤ _ ∧ r.x ≤ max r.x 0 ∧ _ ≤ _ ∧ r.y ≤ max r.y 0 ∧ _ ≤ _
      dsimp only
      omega
/-- One place of a drawing. -/
def stepC (Wd : Nat) (xs : List Wn) (id ox : Int) (l : List Cl) (s : List Cl × List Wr × Int) (p : Int × Int) : List Cl × List Wr × Int :=
  if ownerOf xs p.1 p.2 = id then (setG Wd s.1 p.1 p.2 (l.getD (p.1 - ox).toNat Cl.zero), s.2.1 ++ [⟨p.1, p.2, l.getD (p.1 - ox).toNat Cl.zero⟩], s.2.2 + 1) else s
def foldC {X Y : Int} {W H : Nat} (Wd : Nat) (xs : List Wn) (id ox : Int) (l : List Cl) (cs : List Cl) (ns : List Wr) (ps : List (Pl X Y W H)) : List Cl × List Wr × Int := ps.foldl (fun s p => stepC Wd xs id ox l s p.1) (cs, ns, 0)
theorem foldC_snoc {X Y : Int} {W H : Nat} (Wd : Nat) (xs : List Wn) (id ox : Int) (l : List Cl) (cs : List Cl) (ns : List Wr) (ps : List (Pl X Y W H)) (p : Pl X Y W H) : foldC Wd xs id ox l cs ns (ps ++ [p]) = stepC Wd xs id ox l (foldC Wd xs id ox l cs ns ps) p.1 := by simp [foldC]
theorem foldC_bd {X Y : Int} {W H : Nat} (Wd : Nat) (xs : List Wn) (id ox : Int) (l : List Cl) (cs : List Cl) (ns : List Wr) (ps : List (Pl X Y W H)) : 0 ≤ (foldC Wd xs id ox l cs ns ps).2.2 ∧ (foldC Wd xs id ox l cs ns ps).2.2 ≤ ps.length ∧ (foldC Wd xs id ox l cs ns ps).2.1.length ≤ ns.length + ps.length := by
  obtain ⟨n, hn⟩ : ∃ n, n = ps.length := ⟨_, rfl⟩
  induction n generalizing ps with
  | zero =>
    obtain rfl := List.eq_nil_of_length_eq_zero hn.symm
    simp [foldC]
  | succ n ih =>
    obtain ⟨qs, p, rfl⟩ : ∃ qs p, ps = qs ++ [p] := ⟨ps.dropLast, ps.getLast (by intro e; subst e; simp at hn), (List.dropLast_concat_getLast _).symm⟩
    have hq : n = qs.length := by simpa using hn
    obtain ⟨h1, h2, h3⟩ := ih qs hq
    rw [foldC_snoc]
    unfold stepC
    rw [List.length_append, List.length_singleton]
    split
    · simp only [List.length_append, List.length_singleton]
      omega
    · omega
/-- A drawing's end: the frame's cells and notes, how many were written; no error. -/
def DrawTo (w : World) (f g gb W H b : Nat) (scr : Rc) (v : Value) (xs : List Wn) (next : Int) (nv0 : Value) (s : List Cl × List Wr × Int) (e : Ending) (w' : World) : Prop :=
  e = .returned (.tuple #[.int .i64 s.2.2, .int .i64 0]) ∧ (∃ nv, FD w' f g gb W H s.1 nv s.2.1 ∧ ∀ k, OwnB nv k → OwnB nv0 k ∨ w.heap.size ≤ k) ∧ SK w' b scr v xs next ∧ Fr (FB f gb nv0) w w'
end Go.Proofs.Ytnengimekcnfhaa
