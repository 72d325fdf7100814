import Derived.Test.YtnengimekcnfhaaD5
import Derived.Test.YtnengimekcnfhaaH1
set_option linter.unusedVariables false
namespace Go.Proofs.Ytnengimekcnfhaa
open Go.RowKit Go.Shelf Go.Proofs.YtnengimekcnfhaaW.PrintWords
theorem ownerOf_at {xs : List Wn} {x y id : Int} (h : ownerOf xs x y = id) (h0 : id ≠ 0) : ∃ q ∈ xs, q.r.has x y := by
  induction xs with
  | nil => exact absurd h.symm h0
  | cons q l ih =>
    unfold ownerOf at h
    split at h
    · rename_i hc
      exact ⟨q, List.mem_cons_self .., hc.2⟩
    · obtain ⟨q', h1, h2⟩ := ih h
      exact ⟨q', List.mem_cons_of_mem _ h1, h2⟩
theorem keeps_fr {S : Nat → Prop} {W W' : World} (h : Fr S W W') (hS : ∀ k, S k → ∃ T L, Blk W k T L) : KeepsOthers W W' := ⟨h.size, fun k o hk ho => by
  have hlt := (Array.getElem?_eq_some_iff.1 hk).1
  refine (h.block k hlt ?_).trans hk
  intro hs
  obtain ⟨T, L, hb⟩ := hS k hs
  exact noncell hb hk ho rfl⟩
section
variable {w0 W W' : World} {B D E f g gb Wd Hd b : Nat} {scr : Rc} {v : Value} {xs : List Wn} {next id x : Int} {A : Option Addr} {l : List Cl} {cap : Nat} {t : Wn} {nv0 : Value} {cs : List Cl} {ns : List Wr} {many : Int}
theorem CS.frd (h : CS w0 W B D E f g gb Wd Hd b scr v xs next id x A l cap t nv0 cs ns many) (hf : Fr NoB W W') :
    CS w0 W' B D E f g gb Wd Hd b scr v xs next id x A l cap t nv0 cs ns many := by
  obtain ⟨nv, hfd, hown⟩ := h.fd
  have mv : ∀ {c T L}, Blk W c T L → Blk W' c T L := fun hb => hb.fr hf (fun h => h)
  exact ⟨⟨nv, hfd.frd hf, hown⟩, h.sk.frd hf, ⟨mv h.bx.b0, mv h.bx.b1, mv h.bx.b2, mv h.bx.b3, mv h.bx.b4, mv h.bx.d, mv h.bx.e⟩, h.ca.fr hf (fun _ _ _ h => h), h.frm.trans (hf.mono (fun _ h => h.elim)), h.far, h.old⟩
theorem FD.notFB {nv : Value} (hfd : FD W f g gb Wd Hd cs nv ns) {c : Nat} {T : TypeId} {L : List Value} (hb : Blk W c T L) (h1 : T ≠ 43) (h2 : T ≠ 38) (h3 : 57 ≠ T) : ¬ FB f gb nv c := by
  rintro (rfl | rfl | hk)
  · exact h1 (blk_type hb hfd.blk)
  · exact h2 (blk_type hb hfd.gd.cel)
  · exact hfd.row.not_blk hb h3 hk
theorem FD.isCells {nv : Value} (hfd : FD W f g gb Wd Hd cs nv ns) (k : Nat) (hk : FB f gb nv k) (o : Obj) (ho : W.heap[k]? = some o) : o.isCells = true := by
  rcases hk with rfl | rfl | hk
  · have h := hfd.blk
    unfold Blk at h
    rw [h] at ho
    cases ho
    rfl
  · have h := hfd.gd.cel
    unfold Blk at h
    rw [h] at ho
    cases ho
    rfl
  · rcases hfd.row.2 with ⟨h6, _⟩ | ⟨g', c', cur, h6, _, h7, _⟩
    · rw [h6] at hk
      cases hk
    · rw [h6] at hk
      obtain rfl : g' = k := Option.some.inj hk
      rw [h7] at ho
      cases ho
      rfl
theorem keeps_fb {nv : Value} (hfd : FD W f g gb Wd Hd cs nv ns) (h : Fr (FB f gb nv) W W') : KeepsOthers W W' := ⟨h.size, fun k o hk ho => by
  have hlt := (Array.getElem?_eq_some_iff.1 hk).1
  refine (h.block k hlt ?_).trans hk
  intro hs
  rw [hfd.isCells k hs o hk] at ho
  cases ho⟩
theorem CS.put (h : CS w0 W B D E f g gb Wd Hd b scr v xs next id x A l cap t nv0 cs ns many) {nv nv' : Value} {cs' : List Cl} {ns' : List Wr} (hfd : FD W f g gb Wd Hd cs nv ns) (hown : ∀ k, OwnB nv k → OwnB nv0 k ∨ w0.heap.size ≤ k)
    (hfd' : FD W' f g gb Wd Hd cs' nv' ns') (hf : Fr (FB f gb nv) W W') (ho : ∀ k, OwnB nv' k → OwnB nv k ∨ W.heap.size ≤ k) :
    CS w0 W' B D E f g gb Wd Hd b scr v xs next id x A l cap t nv0 cs' ns' many := by
  have ne : ∀ {c T L}, Blk W c T L → T ≠ 43 → T ≠ 38 → 57 ≠ T → ¬ FB f gb nv c := fun hb h1 h2 h3 => hfd.notFB hb h1 h2 h3
  have hup : ∀ k, FB f gb nv k → FB f gb nv0 k ∨ w0.heap.size ≤ k := by
    rintro k (rfl | rfl | hk)
    · exact .inl (.inl rfl)
    · exact .inl (.inr (.inl rfl))
    · exact (hown k hk).imp (fun h => .inr (.inr h)) (fun h => h)
  refine ⟨⟨nv', hfd', fun k hk => ?_⟩, h.sk.fr hf (ne h.sk.blk (by decide) (by decide) (by decide)) ?_, ⟨h.bx.b0.fr hf (ne h.bx.b0 (by decide) (by decide) (by decide)), h.bx.b1.fr hf (ne h.bx.b1 (by decide) (by decide) (by decide)), h.bx.b2.fr hf (ne h.bx.b2 (by decide) (by decide) (by decide)),
    h.bx.b3.fr hf (ne h.bx.b3 (by decide) (by decide) (by decide)), h.bx.b4.fr hf (ne h.bx.b4 (by decide) (by decide) (by decide)), h.bx.d.fr hf (ne h.bx.d (by decide) (by decide) (by decide)), h.bx.e.fr hf (ne h.bx.e (by decide) (by decide) (by decide))⟩, h.ca.fr hf ?_, h.frm.then_ hf hup, h.far, h.old⟩
  · rcases ho k hk with h1 | h1
    · exact hown k h1
    · exact .inr (Nat.le_trans h.frm.size h1)
  · intro k hk hfb
    rcases h.sk.row with ⟨h6, _⟩ | ⟨g', c', rest, h6, hV, _⟩
    · rw [h6] at hk
      cases hk
    · rw [h6] at hk
      obtain rfl : g' = k := Option.some.inj hk
      exact ne hV.blk (by decide) (by decide) (by decide) hfb
  · intro ad e h0 hk
    have h1 := h.far ad e h0
    rcases hup _ hk with h2 | h2
    · exact h1.1 h2
    · omega
theorem CS.count (h : CS w0 W B D E f g gb Wd Hd b scr v xs next id x A l cap t nv0 cs ns many) (hBE : B + 4 < E) (many' : Int) :
    CS w0 (W.setCell ⟨E, 0, none⟩ (.int .i64 many')) B D E f g gb Wd Hd b scr v xs next id x A l cap t nv0 cs ns many' := by
  obtain ⟨nv, hfd, hown⟩ := h.fd
  have hf : Fr (At E) W (W.setCell ⟨E, 0, none⟩ (.int .i64 many')) := (Fr.refl _ _).setAt 0 _
  have ne : ∀ {c T L}, Blk W c T L → T ≠ 3 → ¬ At E c := fun {c T L} hb h1 hk => by
    obtain rfl : c = E := hk
    exact h1 (blk_type hb h.bx.e)
  refine ⟨⟨nv, hfd.fr hf (ne hfd.blk (by decide)) (ne hfd.gd.blk (by decide)) (ne hfd.gd.cel (by decide)) ?_, hown⟩, h.sk.fr hf (ne h.sk.blk (by decide)) ?_, ⟨h.bx.b0.fr hf (ne h.bx.b0 (by decide)), h.bx.b1.fr hf (ne h.bx.b1 (by decide)), h.bx.b2.fr hf ?_, h.bx.b3.fr hf ?_, h.bx.b4.fr hf (ne h.bx.b4 (by decide)), h.bx.d.fr hf (ne h.bx.d (by decide)), ?_⟩, h.ca.fr hf ?_,
    h.frm.then_ hf (fun k hk => .inr (by obtain rfl : k = E := hk; exact h.old.2.2)), h.far, h.old⟩
  · intro k hk hE
    obtain rfl : k = E := hE
    exact hfd.row.not_blk h.bx.e (by decide) hk
  · intro k hk hE
    obtain rfl : k = E := hE
    exact h.sk.row.ne h.bx.e (by decide) hk
  · intro hE
    have : B + 1 + 1 = E := hE
    omega
  · intro hE
    have : B + 1 + 1 + 1 = E := hE
    omega
  · exact h.bx.e.set 0 _
  · intro ad e h0 hk
    have h1 := (h.far ad e h0).2
    have h2 : ad.block = E := hk
    have := h.old.2.2
    omega
end
end Go.Proofs.Ytnengimekcnfhaa
