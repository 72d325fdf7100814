import Derived.Test.YtnengimekcnfhaaDoorK
import Derived.RangeFuncCalls
import Derived.Deep.RegionHeld
import Derived.OrdersIn
import Derived.TacticsIn
import Derived.Test.YtnengimekcnfhaaDoorD1
set_option linter.unusedVariables false
namespace Go.Proofs.YtnengimekcnfhaaDoor
open Go.RowKit
section
variable {P : Program} {ops : Array Oper} {Q : Exit → Act → World → Prop} {md : Region.Mode} {S : World → Prop}

def OnlyOn (Q : Exit → Act → World → Prop) : Exit → Act → World → Prop
  | .normal, a, w => Q .normal a w
  | _, _, _ => False

theorem onlyOn_normal {a : Act} {w : World} (h : Q .normal a w) : OnlyOn Q .normal a w := h

theorem onlyOn_out (h : LetsOut (OnlyOn Q)) : False := by
  obtain ⟨a, w, h⟩ := h
  exact h

def noDefer (ops : Array Oper) : Bool := ops.all fun o => match o.op with | .defer _ => false | _ => true

theorem noDefer_spec (h : noDefer ops = true) : ∀ (i : Nat) o, ops[i]? = some o → ∀ c, o.op ≠ .defer c := by
  intro i o ho c hc
  unfold noDefer at h
  rw [Array.all_eq_true] at h
  obtain ⟨hi, rfl⟩ := Array.getElem?_eq_some_iff.1 ho
  have := h i hi
  rw [hc] at this
  simp at this

theorem wpOp_round {l n i : Nat} {K : Act → World → Prop} {a : Act} {w : World} (hnd : ∀ (i : Nat) o, ops[i]? = some o → ∀ c, o.op ≠ .defer c)
    (h : wpOp P ops (OnlyOn Q) i K a w) : wpOpIn (Fence.wide.inRound l) n P ops Q i K a w := by
  unfold wpOp at h
  unfold wpOpIn
  cases ho : ops[i]? with
  | none => simpa only [ho] using h
  | some o =>
    simp only [ho] at h ⊢
    have hd := hnd i o ho
    split
    · rename_i hw
      simp only [hw, if_true] at h
      rcases h with h | h
      · refine ⟨fun _ _ => trivial, ?_⟩
        rw [show (Fence.wide.inRound l).round = some l from rfl, Oper.semAt_some l _ _ hd]
        unfold Oper.wp at h
        generalize (execOp a.eval o).run P w = r at *
        cases r with
        | ok x w' =>
          cases x <;> simp only [Oper.upon] at h <;> simp only [Oper.uponIn]
          case value => exact h
          case skip => exact h
          case defer => exact h
          case enter f args =>
            refine ⟨fun hx => by simp [Fence.wide] at hx, CallsIn.inRound l ((callsIn_wide.2 h).mono fun e w'' he => ?_)⟩
            cases e with
            | returned v => exact he
            | panicked c => exact he.elim
            | outgrown => exact (onlyOn_out he).elim
          case row row args =>
            refine ⟨fun hx => by simp [Fence.wide] at hx, fun c cs _ => ?_⟩
            obtain ⟨v, w'', r, s⟩ := h c cs
            exact ⟨v, w'', r, stepsIn_wide.2 s⟩
        | halt x w' => cases x <;> simp only [Oper.upon] at h <;> exact h.elim
      · exact (onlyOn_out h.2).elim
    · rename_i hw
      simp only [hw] at h
      exact ⟨fun _ _ => trivial, h⟩

theorem wpAny_round {l n : Nat} (hnd : ∀ (i : Nat) o, ops[i]? = some o → ∀ c, o.op ≠ .defer c) :
    ∀ (fuel : Nat) (listed : Array Bool) (a : Act) (w : World), wpAny P md ops (OnlyOn Q) fuel listed a w → wpAnyIn (Fence.wide.inRound l) n P md ops Q fuel listed a w
  | 0, _, _, _, h => h
  | fuel + 1, listed, a, w, h => ⟨h.1, fun i hi => wpOp_round hnd (wpOp_mono (fun a w hk => wpAny_round hnd fuel _ a w hk) (h.2 i hi))⟩

theorem wpIn_region_round {l n id : Nat} {a : Act} {w : World} (hm : P.follows .mixedOrders = true) (hnd : noDefer ops = true) (hS : S w.drew)
    (h : S w.drew → wpAnyH P .any ops (OnlyOn Q) S ops.size (Array.replicate ops.size false) a w.drew) : (Code.region id ops true).wpIn (Fence.wide.inRound l) n P Q a w :=
  wpIn_region_any hm (wpAny_round (noDefer_spec hnd) _ _ _ _ (wpAny_of_held _ _ _ _ (h hS)))
end
end Go.Proofs.YtnengimekcnfhaaDoor
set_option linter.unusedVariables false
namespace Go.Proofs.YtnengimekcnfhaaDoor
open Go.RowKit Go.Shelf Go.Proofs.YtnengimekcnfhaaDoorW.PrintWords
theorem ownerOf_at {xs : List Wn} {x y id : Int} (h : ownerOf xs x y = id) (h0 : id ≠ 0) : ∃ q ∈ xs, q.r.has x y := by
  induction xs with
  | nil => exact absurd h.symm h0
  | cons q l ih =>
    unfold ownerOf at h
    split at h
    · rename_i hc
      exact ⟨q, List.mem_cons_self .., hc.2⟩
    · obtain ⟨q', h1, h2⟩ := ih h
      exact ⟨q', List.mem_cons_of_mem _ h1, h2⟩
theorem keeps_fr {S : Nat → Prop} {W W' : World} (h : Fr S W W') (hS : ∀ k, S k → ∃ T L, Blk W k T L) : KeepsOthers W W' := ⟨h.size, fun k o hk ho => by
  have hlt := (Array.getElem?_eq_some_iff.1 hk).1
  refine (h.block k hlt ?_).trans hk
  intro hs
  obtain ⟨T, L, hb⟩ := hS k hs
  exact noncell hb hk ho rfl⟩
section
variable {w0 W W' : World} {B D E f g gb Wd Hd b : Nat} {scr : Rc} {v : Value} {xs : List Wn} {next id x : Int} {A : Option Addr} {l : List Cl} {cap : Nat} {t : Wn} {nv0 : Value} {cs : List Cl} {ns : List Wr} {many : Int}
theorem CS.frd (h : CS w0 W B D E f g gb Wd Hd b scr v xs next id x A l cap t nv0 cs ns many) (hf : Fr NoB W W') :
    CS w0 W' B D E f g gb Wd Hd b scr v xs next id x A l cap t nv0 cs ns many := by
  obtain ⟨nv, hfd, hown⟩ := h.fd
  have mv : ∀ {c T L}, Blk W c T L → Blk W' c T L := fun hb => hb.fr hf (fun h => h)
  exact ⟨⟨nv, hfd.frd hf, hown⟩, h.sk.frd hf, ⟨mv h.bx.b0, mv h.bx.b1, mv h.bx.b2, mv h.bx.b3, mv h.bx.b4, mv h.bx.d, mv h.bx.e⟩, h.ca.fr hf (fun _ _ _ h => h), h.frm.trans (hf.mono (fun _ h => h.elim)), h.far, h.old⟩
theorem FD.notFB {nv : Value} (hfd : FD W f g gb Wd Hd cs nv ns) {c : Nat} {T : TypeId} {L : List Value} (hb : Blk W c T L) (h1 : T ≠ 45) (h2 : T ≠ 40) (h3 : 99 ≠ T) : ¬ FB f gb nv c := by
  rintro (rfl | rfl | hk)
  · exact h1 (blk_type hb hfd.blk)
  · exact h2 (blk_type hb hfd.gd.cel)
  · exact hfd.row.not_blk hb h3 hk
theorem FD.isCells {nv : Value} (hfd : FD W f g gb Wd Hd cs nv ns) (k : Nat) (hk : FB f gb nv k) (o : Obj) (ho : W.heap[k]? = some o) : o.isCells = true := by
  rcases hk with rfl | rfl | hk
  · have h := hfd.blk
    unfold Blk at h
    rw [h] at ho
    cases ho
    rfl
  · have h := hfd.gd.cel
    unfold Blk at h
    rw [h] at ho
    cases ho
    rfl
  · rcases hfd.row.2 with ⟨h6, _⟩ | ⟨g', c', cur, h6, _, h7, _⟩
    · rw [h6] at hk
      cases hk
    · rw [h6] at hk
      obtain rfl : g' = k := Option.some.inj hk
      rw [h7] at ho
      cases ho
      rfl
theorem keeps_fb {nv : Value} (hfd : FD W f g gb Wd Hd cs nv ns) (h : Fr (FB f gb nv) W W') : KeepsOthers W W' := ⟨h.size, fun k o hk ho => by
  have hlt := (Array.getElem?_eq_some_iff.1 hk).1
  refine (h.block k hlt ?_).trans hk
  intro hs
  rw [hfd.isCells k hs o hk] at ho
  cases ho⟩
theorem CS.put (h : CS w0 W B D E f g gb Wd Hd b scr v xs next id x A l cap t nv0 cs ns many) {nv nv' : Value} {cs' : List Cl} {ns' : List Wr} (hfd : FD W f g gb Wd Hd cs nv ns) (hown : ∀ k, OwnB nv k → OwnB nv0 k ∨ w0.heap.size ≤ k)
    (hfd' : FD W' f g gb Wd Hd cs' nv' ns') (hf : Fr (FB f gb nv) W W') (ho : ∀ k, OwnB nv' k → OwnB nv k ∨ W.heap.size ≤ k) :
    CS w0 W' B D E f g gb Wd Hd b scr v xs next id x A l cap t nv0 cs' ns' many := by
  have ne : ∀ {c T L}, Blk W c T L → T ≠ 45 → T ≠ 40 → 99 ≠ T → ¬ FB f gb nv c := fun hb h1 h2 h3 => hfd.notFB hb h1 h2 h3
  have hup : ∀ k, FB f gb nv k → FB f gb nv0 k ∨ w0.heap.size ≤ k := by
    rintro k (rfl | rfl | hk)
    · exact .inl (.inl rfl)
    · exact .inl (.inr (.inl rfl))
    · exact (hown k hk).imp (fun h => .inr (.inr h)) (fun h => h)
  refine ⟨⟨nv', hfd', fun k hk => ?_⟩, h.sk.fr hf (ne h.sk.blk (by decide) (by decide) (by decide)) ?_, ⟨h.bx.b0.fr hf (ne h.bx.b0 (by decide) (by decide) (by decide)), h.bx.b1.fr hf (ne h.bx.b1 (by decide) (by decide) (by decide)), h.bx.b2.fr hf (ne h.bx.b2 (by decide) (by decide) (by decide)),
    h.bx.b3.fr hf (ne h.bx.b3 (by decide) (by decide) (by decide)), h.bx.b4.fr hf (ne h.bx.b4 (by decide) (by decide) (by decide)), h.bx.d.fr hf (ne h.bx.d (by decide) (by decide) (by decide)), h.bx.e.fr hf (ne h.bx.e (by decide) (by decide) (by decide))⟩, h.ca.fr hf ?_, h.frm.then_ hf hup, h.far, h.old⟩
  · rcases ho k hk with h1 | h1
    · exact hown k h1
    · exact .inr (Nat.le_trans h.frm.size h1)
  · intro k hk hfb
    rcases h.sk.row with ⟨h6, _⟩ | ⟨g', c', rest, h6, hV, _⟩
    · rw [h6] at hk
      cases hk
    · rw [h6] at hk
      obtain rfl : g' = k := Option.some.inj hk
      exact ne hV.blk (by decide) (by decide) (by decide) hfb
  · intro ad e h0 hk
    have h1 := h.far ad e h0
    rcases hup _ hk with h2 | h2
    · exact h1.1 h2
    · omega
theorem CS.count (h : CS w0 W B D E f g gb Wd Hd b scr v xs next id x A l cap t nv0 cs ns many) (hBE : B + 4 < E) (many' : Int) :
    CS w0 (W.setCell ⟨E, 0, none⟩ (.int .i64 many')) B D E f g gb Wd Hd b scr v xs next id x A l cap t nv0 cs ns many' := by
  obtain ⟨nv, hfd, hown⟩ := h.fd
  have hf : Fr (At E) W (W.setCell ⟨E, 0, none⟩ (.int .i64 many')) := (Fr.refl _ _).setAt 0 _
  have ne : ∀ {c T L}, Blk W c T L → T ≠ 3 → ¬ At E c := fun {c T L} hb h1 hk => by
    obtain rfl : c = E := hk
    exact h1 (blk_type hb h.bx.e)
  refine ⟨⟨nv, hfd.fr hf (ne hfd.blk (by decide)) (ne hfd.gd.blk (by decide)) (ne hfd.gd.cel (by decide)) ?_, hown⟩, h.sk.fr hf (ne h.sk.blk (by decide)) ?_, ⟨h.bx.b0.fr hf (ne h.bx.b0 (by decide)), h.bx.b1.fr hf (ne h.bx.b1 (by decide)), h.bx.b2.fr hf ?_, h.bx.b3.fr hf ?_, h.bx.b4.fr hf (ne h.bx.b4 (by decide)), h.bx.d.fr hf (ne h.bx.d (by decide)), ?_⟩, h.ca.fr hf ?_,
    h.frm.then_ hf (fun k hk => .inr (by obtain rfl : k = E := hk; exact h.old.2.2)), h.far, h.old⟩
  · intro k hk hE
    obtain rfl : k = E := hE
    exact hfd.row.not_blk h.bx.e (by decide) hk
  · intro k hk hE
    obtain rfl : k = E := hE
    exact h.sk.row.ne h.bx.e (by decide) hk
  · intro hE
    have : B + 1 + 1 = E := hE
    omega
  · intro hE
    have : B + 1 + 1 + 1 = E := hE
    omega
  · exact h.bx.e.set 0 _
  · intro ad e h0 hk
    have h1 := (h.far ad e h0).2
    have h2 : ad.block = E := hk
    have := h.old.2.2
    omega
end
end Go.Proofs.YtnengimekcnfhaaDoor
set_option linter.unusedVariables false
namespace Go.Proofs.YtnengimekcnfhaaDoor
open Go.RowKit Go.Shelf Go.Proofs.YtnengimekcnfhaaDoorW.PrintWords
def stepF (Wd : Nat) (xs : List Wn) (id : Int) (c : Cl) (s : List Cl × List Wr × Int) (p : Int × Int) : List Cl × List Wr × Int :=
  if ownerOf xs p.1 p.2 = id then (setG Wd s.1 p.1 p.2 c, s.2.1 ++ [⟨p.1, p.2, c⟩], s.2.2 + 1) else s
def foldF {X Y : Int} {W H : Nat} (Wd : Nat) (xs : List Wn) (id : Int) (c : Cl) (cs : List Cl) (ns : List Wr) (ps : List (Pl X Y W H)) : List Cl × List Wr × Int := ps.foldl (fun s p => stepF Wd xs id c s p.1) (cs, ns, 0)
theorem foldF_snoc {X Y : Int} {W H : Nat} (Wd : Nat) (xs : List Wn) (id : Int) (c : Cl) (cs : List Cl) (ns : List Wr) (ps : List (Pl X Y W H)) (p : Pl X Y W H) : foldF Wd xs id c cs ns (ps ++ [p]) = stepF Wd xs id c (foldF Wd xs id c cs ns ps) p.1 := by simp [foldF]
theorem foldF_bd {X Y : Int} {W H : Nat} (Wd : Nat) (xs : List Wn) (id : Int) (c : Cl) (cs : List Cl) (ns : List Wr) (ps : List (Pl X Y W H)) : 0 ≤ (foldF Wd xs id c cs ns ps).2.2 ∧ (foldF Wd xs id c cs ns ps).2.2 ≤ ps.length ∧ (foldF Wd xs id c cs ns ps).2.1.length ≤ ns.length + ps.length := by
  obtain ⟨n, hn⟩ : ∃ n, n = ps.length := ⟨_, rfl⟩
  induction n generalizing ps with
  | zero =>
    obtain rfl := List.eq_nil_of_length_eq_zero hn.symm
    simp [foldF]
  | succ n ih =>
    rcases List.eq_nil_or_concat ps with rfl | ⟨qs, q, rfl⟩
    · simp at hn
    · rw [List.concat_eq_append] at *
      have := ih qs (by simp at hn; omega)
      rw [foldF_snoc, List.length_append]
      unfold stepF
      split
      · simp only [List.length_append, List.length_cons, List.length_nil]
        omega
      · simp only [List.length_cons, List.length_nil]
        omega
/-- The state of the loop of Fill. -/
structure FS (w0 W : World) (B E f g gb Wd Hd b : Nat) (scr : Rc) (v : Value) (xs : List Wn) (next id : Int) (c : Cl) (nv0 : Value) (cs : List Cl) (ns : List Wr) (many : Int) : Prop where
  fd : ∃ nv, FD W f g gb Wd Hd cs nv ns ∧ ∀ k, OwnB nv k → OwnB nv0 k ∨ w0.heap.size ≤ k
  sk : SK W b scr v xs next
  b0 : Blk W B 29 [.pointer (some ⟨f, 0, none⟩)]
  b1 : Blk W (B + 1) 31 [.pointer (some ⟨b, 0, none⟩)]
  b2 : Blk W (B + 1 + 1) 3 [.int .i64 id]
  b3 : Blk W (B + 1 + 1 + 1 + 1) 40 c.cells
  e : Blk W E 3 [.int .i64 many]
  frm : Fr (FB f gb nv0) w0 W
  old : w0.heap.size ≤ B ∧ w0.heap.size ≤ E
  gbB : gb < w0.heap.size
section
variable {w0 W W' : World} {B E f g gb Wd Hd b : Nat} {scr : Rc} {v : Value} {xs : List Wn} {next id : Int} {c : Cl} {nv0 : Value} {cs : List Cl} {ns : List Wr} {many : Int}
theorem FS.move (h : FS w0 W B E f g gb Wd Hd b scr v xs next id c nv0 cs ns many) {row : Option Nat} (hg : W.grownBy W' row) (hr : ∀ r, row = some r → w0.heap.size ≤ r ∧ ∃ o : Obj, W.heap[r]? = some o ∧ o.isCells = false) :
    FS w0 W' B E f g gb Wd Hd b scr v xs next id c nv0 cs ns many := by
  have hf : Fr (fun k => row = some k) W W' := Fr.of_grown hg
  have nb : ∀ {c T L}, Blk W c T L → ¬ (row = some c) := fun hb e => by
    obtain ⟨_, o, h1, h2⟩ := hr _ e
    exact noncell hb h1 h2 rfl
  have mv : ∀ {c T L}, Blk W c T L → Blk W' c T L := fun hb => hb.fr hf (nb hb)
  obtain ⟨nv, hfd, hown⟩ := h.fd
  have hrw : ∀ k, OwnB nv k → ¬ (row = some k) := fun k hk e => by
    obtain ⟨_, o, h1, h2⟩ := hr _ e
    rw [hfd.isCells k (.inr (.inr hk)) o h1] at h2
    cases h2
  have hvw : ∀ k, OwnB v k → ¬ (row = some k) := fun k hk e => by
    obtain ⟨_, o, h1, h2⟩ := hr _ e
    rcases h.sk.row with ⟨h6, _⟩ | ⟨g', c', rest, h6, hV, _⟩
    · rw [h6] at hk
      cases hk
    · rw [h6] at hk
      obtain rfl : g' = k := Option.some.inj hk
      exact noncell hV.blk h1 h2 rfl
  exact ⟨⟨nv, hfd.fr hf (nb hfd.blk) (nb hfd.gd.blk) (nb hfd.gd.cel) hrw, hown⟩, h.sk.fr hf (nb h.sk.blk) hvw, mv h.b0, mv h.b1, mv h.b2, mv h.b3, mv h.e, h.frm.then_ hf (fun k hk => .inr (hr k hk).1), h.old, h.gbB⟩
theorem FS.frd (h : FS w0 W B E f g gb Wd Hd b scr v xs next id c nv0 cs ns many) (hf : Fr NoB W W') :
    FS w0 W' B E f g gb Wd Hd b scr v xs next id c nv0 cs ns many := by
  obtain ⟨nv, hfd, hown⟩ := h.fd
  have mv : ∀ {c T L}, Blk W c T L → Blk W' c T L := fun hb => hb.fr hf (fun h => h)
  exact ⟨⟨nv, hfd.frd hf, hown⟩, h.sk.frd hf, mv h.b0, mv h.b1, mv h.b2, mv h.b3, mv h.e, h.frm.trans (hf.mono (fun _ h => h.elim)), h.old, h.gbB⟩
theorem FS.put (h : FS w0 W B E f g gb Wd Hd b scr v xs next id c nv0 cs ns many) {nv nv' : Value} {cs' : List Cl} {ns' : List Wr} (hfd : FD W f g gb Wd Hd cs nv ns) (hown : ∀ k, OwnB nv k → OwnB nv0 k ∨ w0.heap.size ≤ k)
    (hfd' : FD W' f g gb Wd Hd cs' nv' ns') (hf : Fr (FB f gb nv) W W') (ho : ∀ k, OwnB nv' k → OwnB nv k ∨ W.heap.size ≤ k) :
    FS w0 W' B E f g gb Wd Hd b scr v xs next id c nv0 cs' ns' many := by
  have ne : ∀ {c T L}, Blk W c T L → T ≠ 45 → T ≠ 40 → 99 ≠ T → ¬ FB f gb nv c := fun hb h1 h2 h3 => hfd.notFB hb h1 h2 h3
  have hup : ∀ k, FB f gb nv k → FB f gb nv0 k ∨ w0.heap.size ≤ k := by
    rintro k (rfl | rfl | hk)
    · exact .inl (.inl rfl)
    · exact .inl (.inr (.inl rfl))
    · exact (hown k hk).imp (fun h => .inr (.inr h)) (fun h => h)
  refine ⟨⟨nv', hfd', fun k hk => ?_⟩, h.sk.fr hf (ne h.sk.blk (by decide) (by decide) (by decide)) ?_, h.b0.fr hf (ne h.b0 (by decide) (by decide) (by decide)), h.b1.fr hf (ne h.b1 (by decide) (by decide) (by decide)), h.b2.fr hf (ne h.b2 (by decide) (by decide) (by decide)),
    h.b3.fr hf ?_, h.e.fr hf (ne h.e (by decide) (by decide) (by decide)), h.frm.then_ hf hup, h.old, h.gbB⟩
  · rcases ho k hk with h1 | h1
    · exact hown k h1
    · exact .inr (Nat.le_trans h.frm.size h1)
  · intro k hk hfb
    rcases h.sk.row with ⟨h6, _⟩ | ⟨g', c', rest, h6, hV, _⟩
    · rw [h6] at hk
      cases hk
    · rw [h6] at hk
      obtain rfl : g' = k := Option.some.inj hk
      exact ne hV.blk (by decide) (by decide) (by decide) hfb
  · have hB := h.old.1
    have hg := h.gbB
    rintro (e1 | e1 | hk)
    · exact absurd (blk_type (e1 ▸ h.b3) hfd.blk) (by decide)
    · omega
    · exact hfd.row.not_blk h.b3 (by decide) hk
theorem FS.count (h : FS w0 W B E f g gb Wd Hd b scr v xs next id c nv0 cs ns many) (hBE : B + 4 < E) (many' : Int) :
    FS w0 (W.setCell ⟨E, 0, none⟩ (.int .i64 many')) B E f g gb Wd Hd b scr v xs next id c nv0 cs ns many' := by
  obtain ⟨nv, hfd, hown⟩ := h.fd
  have hf : Fr (At E) W (W.setCell ⟨E, 0, none⟩ (.int .i64 many')) := (Fr.refl _ _).setAt 0 _
  have ne : ∀ {c T L}, Blk W c T L → T ≠ 3 → ¬ At E c := fun {c T L} hb h1 hk => by
    obtain rfl : c = E := hk
    exact h1 (blk_type hb h.e)
  refine ⟨⟨nv, hfd.fr hf (ne hfd.blk (by decide)) (ne hfd.gd.blk (by decide)) (ne hfd.gd.cel (by decide)) ?_, hown⟩, h.sk.fr hf (ne h.sk.blk (by decide)) ?_, h.b0.fr hf (ne h.b0 (by decide)), h.b1.fr hf (ne h.b1 (by decide)), h.b2.fr hf ?_, h.b3.fr hf (ne h.b3 (by decide)), h.e.set 0 _,
    h.frm.then_ hf (fun k hk => .inr (by obtain rfl : k = E := hk; exact h.old.2)), h.old, h.gbB⟩
  · intro k hk hE
    obtain rfl : k = E := hE
    exact hfd.row.not_blk h.e (by decide) hk
  · intro k hk hE
    obtain rfl : k = E := hE
    exact h.sk.row.ne h.e (by decide) hk
  · intro hE
    have : B + 1 + 1 = E := hE
    omega
end
end Go.Proofs.YtnengimekcnfhaaDoor
set_option linter.unusedVariables false
namespace Go.Proofs.YtnengimekcnfhaaDoor
open Go.RowKit Go.Shelf Go.Proofs.YtnengimekcnfhaaDoorW.PrintWords
/-- The state of Copy's first loop: boxes of its own, and a row of what is to be written. -/
structure KS (w0 W : World) (B D E f b : Nat) (id x y : Int) (r : Rc) (t : Wn) (L : List Wr) : Prop where
  b0 : Blk W B 29 [.pointer (some ⟨f, 0, none⟩)]
  b1 : Blk W (B + 1) 31 [.pointer (some ⟨b, 0, none⟩)]
  b2 : Blk W (B + 1 + 1) 3 [.int .i64 id]
  b3 : Blk W (B + 1 + 1 + 1) 37 r.cells
  b4 : Blk W (B + 1 + 1 + 1 + 1) 3 [.int .i64 x]
  b5 : Blk W (B + 1 + 1 + 1 + 1 + 1) 3 [.int .i64 y]
  d : Blk W D 58 t.cells
  e : ∃ lv, Blk W E 43 [lv] ∧ Row Wr.cells 6 99 W w0.heap.size lv L
  frm : Fr NoB w0 W
  old : w0.heap.size ≤ B ∧ w0.heap.size ≤ D ∧ w0.heap.size ≤ E
section
variable {w0 W W' : World} {B D E f b : Nat} {id x y : Int} {r : Rc} {t : Wn} {L : List Wr}
theorem Row.isCells {α : Type} {ff : α → List Value} {sz : Nat} {e : TypeId} {w : World} {base : Nat} {v : Value} {xs : List α} (h : Row ff sz e w base v xs) (k : Nat) (hk : OwnB v k) (o : Obj) (ho : w.heap[k]? = some o) : o.isCells = true := by
  obtain ⟨c1, h1⟩ := own_typed h k hk
  rw [h1] at ho
  obtain rfl := Option.some.inj ho
  rfl
theorem KS.move (h : KS w0 W B D E f b id x y r t L) {row : Option Nat} (hg : W.grownBy W' row) (hr : ∀ r, row = some r → w0.heap.size ≤ r ∧ ∃ o : Obj, W.heap[r]? = some o ∧ o.isCells = false) :
    KS w0 W' B D E f b id x y r t L := by
  have hf : Fr (fun k => row = some k) W W' := Fr.of_grown hg
  have mv : ∀ {c T L}, Blk W c T L → Blk W' c T L := fun hb => hb.fr hf (fun e => by
    obtain ⟨_, o, h1, h2⟩ := hr _ e
    exact noncell hb h1 h2 rfl)
  obtain ⟨lv, he, hl⟩ := h.e
  exact ⟨mv h.b0, mv h.b1, mv h.b2, mv h.b3, mv h.b4, mv h.b5, mv h.d, ⟨lv, mv he, hl.fr hf (fun k hk e => by
    obtain ⟨_, o, h1, h2⟩ := hr _ e
    rw [hl.isCells k hk o h1] at h2
    cases h2)⟩, h.frm.then_ hf (fun k hk => .inr (hr k hk).1), h.old⟩
theorem KS.frd (h : KS w0 W B D E f b id x y r t L) (hf : Fr NoB W W') : KS w0 W' B D E f b id x y r t L := by
  have mv : ∀ {c T L}, Blk W c T L → Blk W' c T L := fun hb => hb.fr hf (fun h => h)
  obtain ⟨lv, he, hl⟩ := h.e
  exact ⟨mv h.b0, mv h.b1, mv h.b2, mv h.b3, mv h.b4, mv h.b5, mv h.d, ⟨lv, mv he, hl.fr hf (fun _ _ h => h)⟩, h.frm.trans hf, h.old⟩
/-- One more is to be written. -/
theorem KS.push (h : KS w0 W B D E f b id x y r t L) {lv lv' : Value} {L' : List Wr} (he : Blk W E 43 [lv]) (hl : Row Wr.cells 6 99 W w0.heap.size lv L) (hl' : Row Wr.cells 6 99 W' w0.heap.size lv' L') (hf : Fr (OwnB lv) W W') :
    KS w0 (W'.setCell ⟨E, 0, none⟩ lv') B D E f b id x y r t L' := by
  have mv : ∀ {c T L}, Blk W c T L → 99 ≠ T → T ≠ 43 → Blk (W'.setCell ⟨E, 0, none⟩ lv') c T L := fun {c T L} hb h1 h2 => by
    have h3 := hb.fr hf (fun hk => hl.not_blk hb h1 hk)
    have h4 := he.fr hf (fun hk => hl.not_blk he (by decide) hk)
    exact h3.other (p := ⟨E, 0, none⟩) (fun e => by have e' : c = E := e; subst e'; exact h2 (blk_type h3 h4)) lv'
  have h4 := he.fr hf (fun hk => hl.not_blk he (by decide) hk)
  have hs : Fr (At E) W' (W'.setCell ⟨E, 0, none⟩ lv') := (Fr.refl _ _).setAt 0 _
  refine ⟨mv h.b0 (by decide) (by decide), mv h.b1 (by decide) (by decide), mv h.b2 (by decide) (by decide), mv h.b3 (by decide) (by decide), mv h.b4 (by decide) (by decide), mv h.b5 (by decide) (by decide), mv h.d (by decide) (by decide), ⟨lv', h4.set 0 _, hl'.fr hs (fun k hk e => ?_)⟩, ?_, h.old⟩
  · have e' : k = E := e
    subst e'
    exact hl'.not_blk h4 (by decide) hk
  · refine (h.frm.then_ hf (fun k hk => .inr (hl.lt k hk).1)).then_ hs (fun k hk => .inr ?_)
    have e' : k = E := hk
    rw [e']
    exact h.old.2.2
theorem Row.blkOf {α : Type} {ff : α → List Value} {sz : Nat} {e : TypeId} {w : World} {base : Nat} {v : Value} {xs : List α} (h : Row ff sz e w base v xs) (k : Nat) (hk : OwnB v k) : ∃ T l, Blk w k T l := by
  obtain ⟨c1, h1⟩ := own_typed h k hk
  exact ⟨e, c1.toList, h1⟩
theorem KS.keepBlk {lv : Value} (he : Blk W E 43 [lv]) (hl : Row Wr.cells 6 99 W w0.heap.size lv L) (hf : Fr (OwnB lv) W W') {c : Nat} {T : TypeId} {l : List Value} (hb : Blk W c T l) (h1 : 99 ≠ T) (h2 : T ≠ 43) : Blk W' c T l ∧ ∀ u, Blk (W'.setCell ⟨E, 0, none⟩ u) c T l := by
  have h3 := hb.fr hf (fun hk => hl.not_blk hb h1 hk)
  have h4 := he.fr hf (fun hk => hl.not_blk he (by decide) hk)
  exact ⟨h3, fun u => h3.other (p := ⟨E, 0, none⟩) (fun e => by have e' : c = E := e; subst e'; exact h2 (blk_type h3 h4)) u⟩
/-- The end of a round that has noted one more. -/
theorem KS.round {W0 : World} (h : KS w0 W0 B D E f b id x y r t L) {lv v1 u : Value} {L' : List Wr} (he : Blk W0 E 43 [lv]) (hl : Row Wr.cells 6 99 W0 w0.heap.size lv L) (h0 : Fr NoB W0 W) (hl' : Row Wr.cells 6 99 W' w0.heap.size v1 L') (hf : Fr (OwnB lv) W W') (hu : v1 = u)
    {iB wB : Nat} {i1 w1 : List Value} (hi : Blk W0 iB 37 i1) (hw : Blk W0 wB 58 w1) :
    KeepsOthers W0 (W'.setCell ⟨E, 0, none⟩ u) ∧ KpB iB wB W0 (W'.setCell ⟨E, 0, none⟩ u) ∧ KS w0 (W'.setCell ⟨E, 0, none⟩ u) B D E f b id x y r t L' ∧ Blk (W'.setCell ⟨E, 0, none⟩ u) iB 37 i1 ∧ Blk (W'.setCell ⟨E, 0, none⟩ u) wB 58 w1 := by
  subst hu
  have he1 := he.fr h0 (fun h => h)
  have hl1 := hl.fr h0 (fun _ _ h => h)
  have bi := (KS.keepBlk he1 hl1 hf (hi.fr h0 (fun h => h)) (by decide) (by decide)).2 v1
  have bw := (KS.keepBlk he1 hl1 hf (hw.fr h0 (fun h => h)) (by decide) (by decide)).2 v1
  exact ⟨((keeps_fr h0 (fun _ h => h.elim)).trans (keeps_fr hf (fun k hk => hl1.blkOf k hk))).trans (KeepsOthers.setCell _ _ _), ⟨bi.trans hi.symm, bw.trans hw.symm⟩, (h.frd h0).push he1 hl1 hl' hf, bi, bw⟩
/-- What is read of it. -/
theorem KS.reads (h : KS w0 W B D E f b id x y r t L) : W.cell? ⟨B, 0, none⟩ = some (.pointer (some ⟨f, 0, none⟩)) ∧ W.cell? ⟨B + 1, 0, none⟩ = some (.pointer (some ⟨b, 0, none⟩)) ∧ W.cell? ⟨B + 1 + 1, 0, none⟩ = some (.int .i64 id) ∧ W.cell? ⟨B + 1 + 1 + 1, 0, none⟩ = some (.int .i64 r.x) ∧ W.cell? ⟨B + 1 + 1 + 1, 1, none⟩ = some (.int .i64 r.y) ∧ W.cell? ⟨B + 1 + 1 + 1 + 1, 0, none⟩ = some (.int .i64 x) ∧ W.cell? ⟨B + 1 + 1 + 1 + 1 + 1, 0, none⟩ = some (.int .i64 y) ∧
    W.cell? ⟨D, 2, none⟩ = some (.int .i64 t.x) ∧ W.cell? ⟨D, 3, none⟩ = some (.int .i64 t.y) ∧ W.cell? ⟨D, 4, none⟩ = some (.int .i64 t.w) ∧ W.cell? ⟨D, 5, none⟩ = some (.int .i64 t.h) :=
  ⟨h.b0.cell 0 rfl, h.b1.cell 0 rfl, h.b2.cell 0 rfl, h.b3.cell 0 rfl, h.b3.cell 1 rfl, h.b4.cell 0 rfl, h.b5.cell 0 rfl, h.d.cell 2 rfl, h.d.cell 3 rfl, h.d.cell 4 rfl, h.d.cell 5 rfl⟩
end
/-- Where a write lies that is built. -/
theorem srcOf (W : World) (q : Wr) : ∀ j u, ([q].flatMap Wr.cells)[j]? = some u → (W.alloc (.cells #[.int .i64 q.x, .int .i64 q.y, .int .i32 q.c.r, .int .i64 q.c.fg, .int .i64 q.c.bg, .int .i64 q.c.fl] 99)).cell? ((⟨W.heap.size, 0, none⟩ : Addr).add j) = some u := by
  intro j u hj
  rw [show [q].flatMap Wr.cells = q.cells from by simp] at hj
  exact (Blk.new W 99 q.cells).cells 0 q.cells (fun j v hj => by rwa [Nat.zero_add]) j u hj
/-- What Copy is to write: at the places that the window owns, both of them. -/
def copyAt (Wd Hd : Nat) (xs : List Wn) (id : Int) (t : Wn) (r : Rc) (x y : Int) (cs : List Cl) (p : Int × Int) : List Wr :=
  if ownerOf xs p.1 p.2 = id ∧ t.r.has (p.1 - r.x + x) (p.2 - r.y + y) ∧ ownerOf xs (p.1 - r.x + x) (p.2 - r.y + y) = id then [⟨p.1 - r.x + x, p.2 - r.y + y, atG Wd Hd cs p.1 p.2⟩] else []
def copyL {X Y : Int} {W H : Nat} (Wd Hd : Nat) (xs : List Wn) (id : Int) (t : Wn) (r : Rc) (x y : Int) (cs : List Cl) (ps : List (Pl X Y W H)) : List Wr := ps.flatMap (fun p => copyAt Wd Hd xs id t r x y cs p.1)
theorem copyL_snoc {X Y : Int} {W H : Nat} (Wd Hd : Nat) (xs : List Wn) (id : Int) (t : Wn) (r : Rc) (x y : Int) (cs : List Cl) (ps : List (Pl X Y W H)) (p : Pl X Y W H) : copyL Wd Hd xs id t r x y cs (ps ++ [p]) = copyL Wd Hd xs id t r x y cs ps ++ copyAt Wd Hd xs id t r x y cs p.1 := by
  unfold copyL
  rw [List.flatMap_append]
  simp
theorem copyL_len {X Y : Int} {W H : Nat} (Wd Hd : Nat) (xs : List Wn) (id : Int) (t : Wn) (r : Rc) (x y : Int) (cs : List Cl) (ps : List (Pl X Y W H)) : (copyL Wd Hd xs id t r x y cs ps).length ≤ ps.length := by
  unfold copyL
  induction ps with
  | nil => simp
  | cons p ps ih =>
    rw [List.flatMap_cons, List.length_append, List.length_cons]
    have : (copyAt Wd Hd xs id t r x y cs p.1).length ≤ 1 := by unfold copyAt; split <;> simp
    omega
theorem copyL_own {X Y : Int} {W H : Nat} (Wd Hd : Nat) (xs : List Wn) (id : Int) (t : Wn) (r : Rc) (x y : Int) (cs : List Cl) (ps : List (Pl X Y W H)) : ∀ q ∈ copyL Wd Hd xs id t r x y cs ps, ownerOf xs q.x q.y = id := by
  intro q hq
  unfold copyL at hq
  obtain ⟨p, _, hp⟩ := List.mem_flatMap.1 hq
  unfold copyAt at hp
  split at hp
  · next h =>
    obtain rfl := List.mem_singleton.1 hp
    exact h.2.2
  · cases hp
/-- The cells behind writes. -/
def putsG (Wd : Nat) (cs : List Cl) (L : List Wr) : List Cl := L.foldl (fun cs q => setG Wd cs q.x q.y q.c) cs
theorem putsG_snoc (Wd : Nat) (cs : List Cl) (L : List Wr) (q : Wr) : putsG Wd cs (L ++ [q]) = setG Wd (putsG Wd cs L) q.x q.y q.c := by simp [putsG]
end Go.Proofs.YtnengimekcnfhaaDoor
set_option linter.unusedVariables false
namespace Go.Proofs.YtnengimekcnfhaaDoor
open Go.RowKit Go.Shelf Go.Proofs.YtnengimekcnfhaaDoorW.PrintWords
theorem meas_succ {n k : Nat} (h : k < n) : n - (intOf (.int .i64 ((k : Int) + 1))).toNat < n - (intOf (.int .i64 (k : Int))).toNat := by simp [intOf]; omega
theorem int_succ (k : Nat) : Value.int .i64 ((k : Int) + 1) = Value.int .i64 ((k + 1 : Nat) : Int) := by rw [Int.natCast_add]; rfl
/-- The state of Copy's second loop: k of the writes Ls are done. -/
structure CW (w0 wS W : World) (B E f g gb Wd Hd b : Nat) (scr : Rc) (v : Value) (xs : List Wn) (next : Int) (nv0 : Value) (cs : List Cl) (ns Ls : List Wr) (lv : Value) (D0 : Nat) (o : Obj) (k : Nat) : Prop where
  fd : ∃ nv, FD W f g gb Wd Hd (putsG Wd cs (Ls.take k)) nv (ns ++ Ls.take k) ∧ ∀ j, OwnB nv j → OwnB nv0 j ∨ wS.heap.size ≤ j
  sk : SK W b scr v xs next
  b0 : Blk W B 29 [.pointer (some ⟨f, 0, none⟩)]
  e : Blk W E 43 [lv]
  row : Row Wr.cells 6 99 W w0.heap.size lv Ls
  frm : Fr (FB f gb nv0) w0 W
  dfr : W.heap[D0]? = some o
  nc : o.isCells = false
  d0 : w0.heap.size ≤ D0
  old : gb < w0.heap.size ∧ (∀ j, OwnB nv0 j → j < w0.heap.size) ∧ (∀ j, OwnB lv j → j < wS.heap.size) ∧ w0.heap.size ≤ wS.heap.size ∧ wS.heap.size ≤ W.heap.size
section
variable {w0 wS W W' : World} {B E f g gb Wd Hd b : Nat} {scr : Rc} {v : Value} {xs : List Wn} {next : Int} {nv0 : Value} {cs : List Cl} {ns Ls : List Wr} {lv : Value} {D0 : Nat} {o : Obj} {k : Nat}
theorem blk_lt {w : World} {k : Nat} {o : Obj} (h : w.heap[k]? = some o) : k < w.heap.size := (Array.getElem?_eq_some_iff.1 h).1
theorem CW.frd (h : CW w0 wS W B E f g gb Wd Hd b scr v xs next nv0 cs ns Ls lv D0 o k) (hf : Fr NoB W W') : CW w0 wS W' B E f g gb Wd Hd b scr v xs next nv0 cs ns Ls lv D0 o k := by
  obtain ⟨nv, hfd, hown⟩ := h.fd
  have mv : ∀ {c T L}, Blk W c T L → Blk W' c T L := fun hb => hb.fr hf (fun h => h)
  exact ⟨⟨nv, hfd.frd hf, hown⟩, h.sk.frd hf, mv h.b0, mv h.e, h.row.fr hf (fun _ _ h => h), h.frm.trans (hf.mono (fun _ h => h.elim)), (hf.block D0 (blk_lt h.dfr) (fun h => h)).trans h.dfr, h.nc, h.d0, ⟨h.old.1, h.old.2.1, h.old.2.2.1, h.old.2.2.2.1, Nat.le_trans h.old.2.2.2.2 hf.size⟩⟩
theorem CW.put (h : CW w0 wS W B E f g gb Wd Hd b scr v xs next nv0 cs ns Ls lv D0 o k) {nv nv' : Value} (hfd : FD W f g gb Wd Hd (putsG Wd cs (Ls.take k)) nv (ns ++ Ls.take k)) (hown : ∀ j, OwnB nv j → OwnB nv0 j ∨ wS.heap.size ≤ j)
    (hfd' : FD W' f g gb Wd Hd (putsG Wd cs (Ls.take (k + 1))) nv' (ns ++ Ls.take (k + 1))) (hf : Fr (FB f gb nv) W W') (ho : ∀ j, OwnB nv' j → OwnB nv j ∨ W.heap.size ≤ j) :
    CW w0 wS W' B E f g gb Wd Hd b scr v xs next nv0 cs ns Ls lv D0 o (k + 1) := by
  have ne : ∀ {c T L}, Blk W c T L → T ≠ 45 → T ≠ 40 → 99 ≠ T → ¬ FB f gb nv c := fun hb h1 h2 h3 => hfd.notFB hb h1 h2 h3
  obtain ⟨o1, o2, o3, o4, o5⟩ := h.old
  refine ⟨⟨nv', hfd', fun j hj => ?_⟩, h.sk.fr hf (ne h.sk.blk (by decide) (by decide) (by decide)) ?_, h.b0.fr hf (ne h.b0 (by decide) (by decide) (by decide)), h.e.fr hf (ne h.e (by decide) (by decide) (by decide)), h.row.fr hf ?_, h.frm.then_ hf ?_, ?_, h.nc, h.d0, ⟨o1, o2, o3, o4, Nat.le_trans o5 hf.size⟩⟩
  · rcases ho j hj with h1 | h1
    · exact hown j h1
    · exact .inr (Nat.le_trans o5 h1)
  · intro j hj hfb
    rcases h.sk.row with ⟨h6, _⟩ | ⟨g', c', rest, h6, hV, _⟩
    · rw [h6] at hj
      cases hj
    · rw [h6] at hj
      obtain rfl : g' = j := Option.some.inj hj
      exact ne hV.blk (by decide) (by decide) (by decide) hfb
  · rintro j hj (rfl | rfl | hk)
    · exact h.row.not_blk hfd.blk (by decide) hj
    · have := (h.row.lt _ hj).1
      omega
    · have h1 := (h.row.lt _ hj).1
      have h2 := o3 _ hj
      rcases hown j hk with h3 | h3
      · have := o2 j h3
        omega
      · omega
  · rintro j (rfl | rfl | hk)
    · exact .inl (.inl rfl)
    · exact .inl (.inr (.inl rfl))
    · exact (hown j hk).imp (fun h => .inr (.inr h)) (fun h => Nat.le_trans o4 h)
  · refine (hf.block D0 (blk_lt h.dfr) ?_).trans h.dfr
    rintro (e1 | e1 | hk)
    · exact noncell hfd.blk h.dfr h.nc e1.symm
    · have := h.d0
      omega
    · have h9 := hfd.isCells D0 (.inr (.inr hk)) o h.dfr
      rw [h.nc] at h9
      cases h9
/-- The end. -/
theorem CW.fin (h : CW w0 wS W B E f g gb Wd Hd b scr v xs next nv0 cs ns Ls lv D0 o Ls.length) (o' : Obj) (ho' : o'.isCells = false) :
    DrawTo w0 f g gb Wd Hd b scr v xs next nv0 (putsG Wd cs Ls, ns ++ Ls, Ls.length) (.returned (.tuple #[.int .i64 Ls.length, .int .i64 0])) (W.putObj D0 o') := by
  have hf : Fr (fun k => some D0 = some k) W (W.putObj D0 o') := Fr.of_grown (grownBy_putObj' W D0 o')
  have nb : ∀ {c T L}, Blk W c T L → ¬ (some D0 = some c) := fun hb e => by
    have e' := Option.some.inj e
    exact noncell hb h.dfr h.nc e'.symm
  obtain ⟨nv, hfd, hown⟩ := h.fd
  rw [List.take_length] at hfd
  have hrw : ∀ j, OwnB nv j → ¬ (some D0 = some j) := fun j hj e => by
    have e' := Option.some.inj e
    have h9 := hfd.isCells D0 (.inr (.inr (e' ▸ hj))) o h.dfr
    rw [h.nc] at h9
    cases h9
  have hvw : ∀ j, OwnB v j → ¬ (some D0 = some j) := fun j hj e => by
    rcases h.sk.row with ⟨h6, _⟩ | ⟨g', c', rest, h6, hV, _⟩
    · rw [h6] at hj
      cases hj
    · rw [h6] at hj
      obtain rfl : g' = j := Option.some.inj hj
      exact nb hV.blk e
  exact ⟨rfl, ⟨nv, hfd.fr hf (nb hfd.blk) (nb hfd.gd.blk) (nb hfd.gd.cel) hrw, fun j hj => (hown j hj).imp id (Nat.le_trans h.old.2.2.2.1)⟩, h.sk.fr hf (nb h.sk.blk) hvw, h.frm.then_ hf (fun j hj => .inr (by have e' := Option.some.inj hj; rw [← e']; exact h.d0))⟩
end
end Go.Proofs.YtnengimekcnfhaaDoor
