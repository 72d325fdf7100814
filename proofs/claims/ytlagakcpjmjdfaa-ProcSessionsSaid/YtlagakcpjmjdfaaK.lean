import Derived.WalkKit
import Derived.KernelRfl
import Derived.RegionTactic
import Derived.Deep.QuietTactic
import Derived.BigQuiet
/-! Small words on worlds: what a call keeps (all blocks but those of S), and a block that is known whole. -/
set_option linter.unusedSimpArgs false
set_option linter.unusedVariables false
namespace Go.Proofs.Ytlagakcpjmjdfaa
open Go.RowKit
theorem hid {p : Prop} (h : p) : Hid p := h
theorem sz_setCell (w : World) (a : Addr) (u : Value) : (w.setCell a u).heap.size = w.heap.size := by simp [World.setCell]
structure Fr (S : Nat → Prop) (w w' : World) : Prop where
  os : w'.os = w.os
  tape : w'.tape = w.tape
  output : w'.output = w.output
  size : w.heap.size ≤ w'.heap.size
  block : ∀ k, k < w.heap.size → ¬ S k → w'.heap[k]? = w.heap[k]?
def NoB : Nat → Prop := fun _ => False
def At (b : Nat) : Nat → Prop := fun k => k = b
section
variable {S S2 : Nat → Prop} {w w1 w2 : World}
theorem Fr.refl (S : Nat → Prop) (w : World) : Fr S w w := ⟨rfl, rfl, rfl, Nat.le_refl _, fun _ _ _ => rfl⟩
theorem Fr.then_ (h : Fr S w w1) (k : Fr S2 w1 w2) (hs : ∀ k, S2 k → S k ∨ w.heap.size ≤ k) : Fr S w w2 :=
  ⟨k.os.trans h.os, k.tape.trans h.tape, k.output.trans h.output, Nat.le_trans h.size k.size,
    fun i hi hn => (k.block i (Nat.lt_of_lt_of_le hi h.size) (fun h2 => (hs i h2).elim hn (fun h3 => by omega))).trans (h.block i hi hn)⟩
theorem Fr.trans (h : Fr S w w1) (k : Fr S w1 w2) : Fr S w w2 := h.then_ k (fun _ h => .inl h)
theorem Fr.mono (h : Fr S w w1) (hs : ∀ k, S k → S2 k) : Fr S2 w w1 := ⟨h.os, h.tape, h.output, h.size, fun i hi hn => h.block i hi (fun hk => hn (hs i hk))⟩
theorem Fr.of_below (h : Below w.heap.size w w1) (S : Nat → Prop) : Fr S w w1 := ⟨h.os, h.tape, h.output, h.size, fun i hi _ => h.block i hi⟩
theorem Fr.below (h : Fr S w w1) (hS : ∀ k, S k → w.heap.size ≤ k) : Below w.heap.size w w1 := ⟨h.os, h.tape, h.output, h.size, fun i hi => h.block i hi (fun hk => by have := hS i hk; omega)⟩
theorem Fr.below0 (h : Fr NoB w w1) : Below w.heap.size w w1 := h.below (fun _ h => h.elim)
theorem Fr.alloc (h : Fr S w w1) (o : Obj) : Fr S w (w1.alloc o) :=
  h.then_ (S2 := NoB) (Fr.of_below ((Below.refl _ _).alloc (Nat.le_refl _) o) _) (fun _ h => h.elim)
theorem Fr.drew (h : Fr S w w1) : Fr S w w1.drew := ⟨h.os, h.tape, h.output, h.size, h.block⟩
theorem Fr.drewN (h : Fr S w w1) (n : Nat) : Fr S w (w1.drewN n) := ⟨h.os, h.tape, h.output, h.size, h.block⟩
theorem Fr.setCell (h : Fr S w w1) {p : Addr} (hp : S p.block ∨ w.heap.size ≤ p.block) (u : Value) : Fr S w (w1.setCell p u) :=
  h.then_ (S2 := fun k => k = p.block) ⟨rfl, rfl, rfl, by simp [World.setCell], fun i _ hn => Below.heap_setCell w1 p u i hn⟩ (fun k hk => by rw [hk]; exact hp)
theorem Fr.of_grown {row : Option Nat} (hg : w.grownBy w1 row) : Fr (fun k => row = some k) w w1 := ⟨hg.os, hg.tape, hg.output, hg.size, fun i hi hn => hg.block i hi (fun he => hn he.symm)⟩
theorem Fr.grown (h : Fr S w w1) {row : Option Nat} (hg : w1.grownBy w2 row) (hr : ∀ k, row = some k → S k ∨ w.heap.size ≤ k) : Fr S w w2 :=
  h.then_ (S2 := fun k => row = some k) ⟨hg.os, hg.tape, hg.output, hg.size, fun i hi hn => hg.block i hi (fun he => hn he.symm)⟩ hr
end
theorem Fr.setAt {w w1 : World} {b : Nat} (h : Fr (At b) w w1) (i : Nat) (u : Value) : Fr (At b) w (w1.setCell ⟨b, i, none⟩ u) := h.setCell (p := ⟨b, i, none⟩) (.inl rfl) u
/-- Block b is known whole: its cells, of elements of type T, none frozen. -/
def Blk (w : World) (b : Nat) (T : TypeId) (l : List Value) : Prop := w.heap[b]? = some (.cells l.toArray T (0, 0))
section
variable {w w1 : World} {b : Nat} {T : TypeId} {l : List Value} {S : Nat → Prop}
theorem Blk.eq {l' : List Value} (h : Blk w b T l) (e : l = l') : Blk w b T l' := e ▸ h
theorem Blk.lt (h : Blk w b T l) : b < w.heap.size := (Array.getElem?_eq_some_iff.1 h).1
theorem Blk.cell (h : Blk w b T l) (i : Nat) {v : Value} (hv : l[i]? = some v) : w.cell? ⟨b, i, none⟩ = some v := by
  unfold Blk at h
  simp [World.cell?, h, hv]
theorem Blk.frozen (h : Blk w b T l) (i : Nat) : w.frozen? ⟨b, i, none⟩ = false := by
  unfold Blk at h
  simp [World.frozen?, h]
theorem Blk.fr (h : Blk w b T l) (hf : Fr S w w1) (hs : ¬ S b) : Blk w1 b T l := (hf.block b h.lt hs).trans h
theorem Blk.alloc (h : Blk w b T l) (o : Obj) : Blk (w.alloc o) b T l := (Below.heap_alloc w o b h.lt).trans h
theorem Blk.drew (h : Blk w b T l) : Blk w.drew b T l := h
theorem Blk.drewN (h : Blk w b T l) (n : Nat) : Blk (w.drewN n) b T l := h
theorem Blk.set (h : Blk w b T l) (i : Nat) (v : Value) : Blk (w.setCell ⟨b, i, none⟩ v) b T (l.set i v) := by
  unfold Blk at *
  simp [World.setCell, Array.getElem?_modify, h]
theorem Blk.other (h : Blk w b T l) {p : Addr} (hp : b ≠ p.block) (v : Value) : Blk (w.setCell p v) b T l := (Below.heap_setCell w p v b hp).trans h
theorem Blk.new (w : World) (T : TypeId) (l : List Value) : Blk (w.alloc (.cells l.toArray T (0, 0))) w.heap.size T l := by
  show (w.heap.push _)[_]? = _
  rw [Array.getElem?_push, if_pos rfl]
end
end Go.Proofs.Ytlagakcpjmjdfaa
