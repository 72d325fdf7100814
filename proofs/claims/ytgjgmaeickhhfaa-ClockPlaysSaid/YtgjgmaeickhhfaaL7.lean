import Derived.Test.YtgjgmaeickhhfaaL6
import Derived.Shelf.Abstract
set_option linter.unusedSimpArgs false
set_option linter.unusedVariables false
namespace Go.Proofs.Ytgjgmaeickhhfaa
open Go.RowKit Go.Proofs.YtgjgmaeickhhfaaW.PrintWords
theorem SV.shape {w : World} {v : Value} {xs : List Tm} (h : SV w v xs) : ∃ A c, v = .slice A xs.length c := by
  rcases h with ⟨h1, rfl⟩ | ⟨g, c, rest, h1, _⟩
  · exact ⟨none, 0, h1⟩
  · exact ⟨_, c, h1⟩
theorem SV.not_blk {w : World} {v : Value} {xs : List Tm} {b : Nat} {T : TypeId} {l : List Value} (h : SV w v xs) (hb : Blk w b T l) (he : 33 ≠ T) : ¬ OwnB v b := by
  rcases h with ⟨rfl, _⟩ | ⟨g, c, rest, rfl, h1, _⟩
  · intro hk
    cases hk
  · intro hk
    obtain rfl : g = b := Option.some.inj hk
    have h2 := Vec.blk h1
    unfold Blk at h2 hb
    rw [hb] at h2
    injection h2 with h3
    injection h3 with h4 h5
    exact he h5.symm
theorem SV.lt {w : World} {v : Value} {xs : List Tm} (h : SV w v xs) (k : Nat) (hk : OwnB v k) : k < w.heap.size := by
  rcases h with ⟨rfl, _⟩ | ⟨g, c, rest, rfl, h1, _⟩
  · cases hk
  · obtain rfl : g = k := Option.some.inj hk
    exact TV.lt h1
/-- A clock: its tick, its slice of timers. -/
structure Ck (w : World) (b : Nat) (now : Int) (v : Value) (xs : List Tm) : Prop where
  blk : Blk w b 47 [.int .i64 now, v]
  sv : SV w v xs
theorem Ck.ne {w : World} {b : Nat} {now : Int} {v : Value} {xs : List Tm} (h : Ck w b now v xs) : ¬ OwnB v b := h.sv.not_blk h.blk (by decide)
theorem Ck.fr {S : Nat → Prop} {w w1 : World} {b : Nat} {now : Int} {v : Value} {xs : List Tm} (h : Ck w b now v xs) (hf : Fr S w w1) (hb : ¬ S b) (hv : ∀ k, OwnB v k → ¬ S k) : Ck w1 b now v xs := ⟨h.blk.fr hf hb, h.sv.fr hf hv⟩
/-- What a clock's method writes to. -/
def CkB (b : Nat) (v : Value) : Nat → Prop := fun k => k = b ∨ OwnB v k
/-- A method's end: an answer, and the clock as it is then. -/
def CkTo (b : Nat) (v : Value) (r : Value) (now : Int) (xs : List Tm) (w : World) (e : Ending) (w' : World) : Prop := e = .returned r ∧ ∃ v', Ck w' b now v' xs ∧ Fr (CkB b v) w w' ∧ ∀ k, OwnB v' k → OwnB v k ∨ w.heap.size ≤ k
theorem Ck.store {w : World} {b : Nat} {now : Int} {v v' : Value} {xs : List Tm} (h : Blk w b 47 [.int .i64 now, v]) (hs : SV w v' xs) : Ck (w.setCell ⟨b, 1, none⟩ v') b now v' xs :=
  ⟨h.set 1 v', hs.fr ((Fr.refl (At b) w).setAt 1 v') (fun k hk he => hs.not_blk h (by decide) (by have he' : k = b := he; subst he'; exact hk))⟩
theorem New_any (w : World) : Calls Try.prog 7 #[] w fun e w' => e = .returned (.pointer (some ⟨w.heap.size, 0, none⟩)) ∧ Ck w' w.heap.size 0 (.slice none 0 0) [] ∧ Fr NoB w w' := by
  go_enter Try.func7, Try.ntmps7
  go_wp2
  go_ret
  exact ⟨rfl, ⟨Blk.new w 47 [.int .i64 0, .slice none 0 0], .inl ⟨rfl, rfl⟩⟩, (Fr.refl _ w).alloc _⟩
theorem Now_any (w : World) (b : Nat) (now : Int) (v : Value) (xs : List Tm) (h : Ck w b now v xs) : Calls Try.prog 14 #[.pointer (some ⟨b, 0, none⟩)] w fun e w' => e = .returned (.int .i64 now) ∧ w = w' := by
  have h0 := h.blk.cell 0 rfl
  clear h
  go_enter Try.func14, Try.ntmps14
  go_wp2
  go_ret
  exact ⟨rfl, rfl⟩
def missI (p : Tm → Bool) (xs : List Tm) : Int := (xs.length : Int) - ((xs.filter fun x => !p x).length : Int)
set_option maxHeartbeats 1000000 in
theorem drop_any (w : World) (b : Nat) (now : Int) (v : Value) (xs : List Tm) (fn : Nat) (lb : Array Value) (p : Tm → Bool) (h : Ck w b now v xs) (hP : Pred fn lb p (OwnB v) w) (hl : xs.length ≤ 4096) :
    Calls Try.prog 21 #[.pointer (some ⟨b, 0, none⟩), .func (.func fn) #[] lb] w (CkTo b v (.int .i64 (missI p xs)) now (xs.filter fun x => !p x) w) := by
  have HP := hid hP
  have HC := hid h
  have h1 := h.blk.cell 1 rfl
  obtain ⟨A, c, rfl⟩ := h.sv.shape
  have hlt := h.blk.lt
  have hln : (xs.filter fun x => !p x).length ≤ xs.length := List.length_filter_le _ _
  have HM : Hid (missI p xs = (xs.length : Int) - ((xs.filter fun x => !p x).length : Int)) := rfl
  clear hP h
  generalize hys : (xs.filter fun x => !p x) = ys at *
  have HY := hid hys
  clear hys
  go_enter Try.func21, Try.ntmps21
  go_wp2_with fail
  refine (delf_any w _ fn lb p xs HC.out.sv HP.out hl).mono ?_
  rw [HY.out]
  rintro e' w1 ⟨v', rfl, hV', hf1, hown⟩
  obtain ⟨A', c', rfl⟩ := hV'.shape
  have hB1 := HC.out.blk.fr hf1 HC.out.ne
  have f1 := hB1.frozen 1
  have d1 := hB1.cell 1 rfl
  have hlt1 := hB1.lt
  have HCk := hid (Ck.store hB1 hV')
  have HF := hid hf1
  have HO := hid hown
  clear hB1 hf1 hown hV' h1
  go_wp2
  go_ret
  refine ⟨by rw [HM.out]; rfl, _, HCk.out, ?_, HO.out⟩
  exact (HF.out.mono (fun k hk => .inr hk)).setCell (p := ⟨b, 1, none⟩) (.inl (.inl rfl)) _
def isIt (e i : Int) (t : Tm) : Bool := t.env == e && t.id == i
theorem pred_set (w : World) (S : Nat → Prop) (p q : Nat) (e i : Int) (hp : w.cell? ⟨p, 0, none⟩ = some (.int .i64 e)) (hq : w.cell? ⟨q, 0, none⟩ = some (.int .i64 i)) (hpl : p < w.heap.size) (hql : q < w.heap.size) (h1 : ¬ S p) (h2 : ¬ S q) :
    Pred 19 #[.pointer (some ⟨p, 0, none⟩), .pointer (some ⟨q, 0, none⟩)] (isIt e i) S w :=
  ⟨enters_of Try.func19 (by kernel_rfl) rfl, fun W x hf => set1_any W x p q e i ((World.cell?_of_block (hf.block p hpl h1)).trans hp) ((World.cell?_of_block (hf.block q hql h2)).trans hq) (Nat.lt_of_lt_of_le hpl hf.size) (Nat.lt_of_lt_of_le hql hf.size)⟩
theorem pred_can (w : World) (S : Nat → Prop) (p q : Nat) (e i : Int) (hp : w.cell? ⟨p, 0, none⟩ = some (.int .i64 e)) (hq : w.cell? ⟨q, 0, none⟩ = some (.int .i64 i)) (hpl : p < w.heap.size) (hql : q < w.heap.size) (h1 : ¬ S p) (h2 : ¬ S q) :
    Pred 28 #[.pointer (some ⟨p, 0, none⟩), .pointer (some ⟨q, 0, none⟩)] (isIt e i) S w :=
  ⟨enters_of Try.func28 (by kernel_rfl) rfl, fun W x hf => can1_any W x p q e i ((World.cell?_of_block (hf.block p hpl h1)).trans hp) ((World.cell?_of_block (hf.block q hql h2)).trans hq) (Nat.lt_of_lt_of_le hpl hf.size) (Nat.lt_of_lt_of_le hql hf.size)⟩
theorem pred_kill (w : World) (S : Nat → Prop) (p : Nat) (e : Int) (hp : w.cell? ⟨p, 0, none⟩ = some (.int .i64 e)) (hpl : p < w.heap.size) (h1 : ¬ S p) :
    Pred 27 #[.pointer (some ⟨p, 0, none⟩)] (fun t => t.env == e) S w :=
  ⟨enters_of Try.func27 (by kernel_rfl) rfl, fun W x hf => kill1_any W x p e ((World.cell?_of_block (hf.block p hpl h1)).trans hp) (Nat.lt_of_lt_of_le hpl hf.size)⟩
theorem CkTo.from {b : Nat} {v r : Value} {now : Int} {xs : List Tm} {w w1 w2 : World} {e : Ending} (hf : Fr NoB w w1) (h : CkTo b v r now xs w1 e w2) : CkTo b v r now xs w e w2 := by
  obtain ⟨rfl, v', h1, h2, h3⟩ := h
  exact ⟨rfl, v', h1, (hf.mono (S2 := CkB b v) (fun _ h => h.elim)).trans h2, fun k hk => (h3 k hk).imp id (fun h => Nat.le_trans hf.size h)⟩
theorem Kill_any (w : World) (b : Nat) (now : Int) (v : Value) (xs : List Tm) (e : Int) (h : Ck w b now v xs) (hl : xs.length ≤ 4096) :
    Calls Try.prog 12 #[.pointer (some ⟨b, 0, none⟩), .int .i64 e] w (CkTo b v (.int .i64 (missI (fun t => t.env == e) xs)) now (xs.filter fun x => !(x.env == e)) w) := by
  have hmf : ∀ (fn : Fn) (first cap : Array Value) (w : World), (Instr.makeFunc fn first cap).run Try.prog w = .ok (.func fn first cap) w := fun _ _ _ _ => rfl
  have HC := hid h
  have HL := hid hl
  clear h hl
  go_enter Try.func12, Try.ntmps12
  go_wp2_with fail
  have hF := (Fr.refl NoB w).alloc (.cells #[.int .i64 e] 3)
  have hB := Blk.new w 3 [.int .i64 e]
  have hC := HC.out.fr hF (fun h => h) (fun _ _ h => h)
  refine (drop_any _ b now v xs 27 _ (fun t => t.env == e) hC (pred_kill _ _ w.heap.size e (hB.cell 0 rfl) hB.lt (fun hk => by have := HC.out.sv.lt _ hk; omega)) HL.out).mono ?_
  intro e' w' h
  obtain ⟨rfl, h2⟩ := CkTo.from hF h
  have H2 := hid h2
  clear h h2 hC hB
  go_wp2
  go_ret
  exact ⟨rfl, H2.out⟩
theorem Cancel_any (w : World) (b : Nat) (now : Int) (v : Value) (xs : List Tm) (e i : Int) (h : Ck w b now v xs) (hl : xs.length ≤ 4096) :
    Calls Try.prog 13 #[.pointer (some ⟨b, 0, none⟩), .int .i64 e, .int .i64 i] w (CkTo b v (.bool (decide (0 < missI (isIt e i) xs))) now (xs.filter fun x => !(isIt e i x)) w) := by
  have hmf : ∀ (fn : Fn) (first cap : Array Value) (w : World), (Instr.makeFunc fn first cap).run Try.prog w = .ok (.func fn first cap) w := fun _ _ _ _ => rfl
  have HC := hid h
  have HL := hid hl
  clear h hl
  go_enter Try.func13, Try.ntmps13
  go_wp2_with fail
  have hF := ((Fr.refl NoB w).alloc (.cells #[.int .i64 e] 3)).alloc (.cells #[.int .i64 i] 3)
  have hB1 := (Blk.new w 3 [.int .i64 e]).alloc (.cells #[.int .i64 i] 3)
  have hB2 := Blk.new (w.alloc (.cells #[.int .i64 e] 3)) 3 [.int .i64 i]
  have hC := HC.out.fr hF (fun h => h) (fun _ _ h => h)
  refine (drop_any _ b now v xs 28 _ (isIt e i) hC (pred_can _ _ w.heap.size (w.heap.size + 1) e i (hB1.cell 0 rfl) (by have := hB2.cell 0 rfl; rwa [World.size_alloc] at this) hB1.lt (by have := hB2.lt; rwa [World.size_alloc] at this) (fun hk => by have := HC.out.sv.lt _ hk; omega) (fun hk => by have := HC.out.sv.lt _ hk; omega)) HL.out).mono ?_
  intro e' w' h
  obtain ⟨rfl, h2⟩ := CkTo.from hF h
  have H2 := hid h2
  clear h h2 hC hB1 hB2
  generalize hm : missI (isIt e i) xs = m at *
  have HM := hid hm
  clear hm
  go_wp2
  go_ret
  exact ⟨by rw [HM.out]; rfl, H2.out⟩
end Go.Proofs.Ytgjgmaeickhhfaa
