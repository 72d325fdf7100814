import Derived.Test.YtlpjehmanodhpaaN5
set_option linter.unusedSimpArgs false
set_option linter.unusedVariables false
namespace Go.Proofs.Ytlpjehmanodhpaa
open Go.RowKit Go.Proofs.YtlpjehmanodhpaaW.PrintWords
/-- Two lists, element by element. -/
inductive Fa2 {α β : Type} (R : α → β → Prop) : List α → List β → Prop
  | nil : Fa2 R [] []
  | cons {a : α} {b : β} {l : List α} {m : List β} : R a b → Fa2 R l m → Fa2 R (a :: l) (b :: m)
theorem Fa2.length {α β : Type} {R : α → β → Prop} {l : List α} {m : List β} (h : Fa2 R l m) : l.length = m.length := by
  induction h with
  | nil => rfl
  | cons _ _ ih => simp [ih]
theorem Fa2.map {α β γ : Type} {R : α → β → Prop} {f : γ → α} {g : γ → β} (l : List γ) (h : ∀ x, R (f x) (g x)) : Fa2 R (l.map f) (l.map g) := by
  induction l with
  | nil => exact .nil
  | cons x l ih => exact .cons (h x) ih
theorem Fa2.append {α β : Type} {R : α → β → Prop} {l l' : List α} {m m' : List β} (h : Fa2 R l m) (k : Fa2 R l' m') : Fa2 R (l ++ l') (m ++ m') := by
  induction h with
  | nil => exact k
  | cons h _ ih => exact .cons h ih
theorem Fa2.imp {α β : Type} {R R' : α → β → Prop} {l : List α} {m : List β} (h : Fa2 R l m) (hi : ∀ a ∈ l, ∀ b, R a b → R' a b) : Fa2 R' l m := by
  induction h with
  | nil => exact .nil
  | cons h _ ih => exact .cons (hi _ List.mem_cons_self _ h) (ih (fun a ha => hi a (List.mem_cons_of_mem _ ha)))
/-- What is told. -/
structure Sq where
  kind : Int
  r : Int
  priv : Int
  inter : ByteArray
  params : List Int
  final : Int
  text : ByteArray
def Sq.zero : Sq := ⟨0, 0, 0, ByteArray.empty, [], 0, ByteArray.empty⟩
def prS (r : Int) : Sq := { Sq.zero with kind := 1, r := r }
def exS (c : Int) : Sq := { Sq.zero with kind := 2, final := c }
def osS (t : ByteArray) : Sq := { Sq.zero with kind := 5, text := t }
/-- A parser. -/
structure Ab where
  p : List Int
  st : Int
  by_ : Int
  priv : Int
  inter : ByteArray
  params : List Int
  text : ByteArray
  bad : Bool
def Ab.zero : Ab := ⟨[], 0, 0, 0, ByteArray.empty, [], ByteArray.empty, false⟩
def Ab.to (a : Ab) (s : Int) : Ab := ⟨a.p, s, 0, 0, ByteArray.empty, [], ByteArray.empty, false⟩
def groundA (p : List Int) (c : Int) : List Int × List Sq :=
  if c < 32 ∨ c = 127 then ([], (pflush p).map prS ++ if c < 32 then [exS c] else []) else ((pstep p c).1, (pstep p c).2.map prS)
def Ab.ground (a : Ab) (c : Int) : Ab × List Sq := ({ a with p := (groundA a.p c).1 }, (groundA a.p c).2)
def Ab.aside (a : Ab) (c : Int) : Ab × List Sq := if c < 32 then (a, [exS c]) else if c = 127 then (a, []) else (a.to 0).ground c
def Ab.inter_ (a : Ab) (c : Int) : Ab × List Sq × Bool := if a.inter.size = 2 then (a, [], true) else ({ a with inter := a.inter ++ one c }, [], false)
def Ab.end_ (a : Ab) (kind c : Int) : Ab × List Sq := (a.to 0, if a.bad then [] else [⟨kind, 0, a.priv, a.inter, a.params, c, a.text⟩])
def isOther (c : Int) : Bool := c == 91 || c == 93 || c == 80 || c == 88 || c == 94 || c == 95
def Ab.esc (a : Ab) (c : Int) : Ab × List Sq × Bool :=
  if c < 32 ∨ 127 ≤ c then ((a.aside c).1, (a.aside c).2, false)
  else if c < 48 then a.inter_ c
  else if a.inter.size ≠ 0 ∨ isOther c = false then ((a.end_ 3 c).1, (a.end_ 3 c).2, false)
  else if c = 91 then (a.to 2, [], false) else if c = 93 then (a.to 3, [], false) else (a.to 4, [], false)
def Ab.ctl (a : Ab) (c : Int) : Ab × List Sq × Bool :=
  if c < 32 ∨ 127 ≤ c then ((a.aside c).1, (a.aside c).2, false)
  else if c < 48 then Ab.inter_ { a with by_ := a.by_ + 1 } c
  else if c < 60 then (if a.inter.size ≠ 0 then ({ a with by_ := a.by_ + 1 }, [], true) else ({ a with by_ := a.by_ + 1, params := paramP a.params c }, [], false))
  else if c < 64 then (if a.by_ = 0 then ({ a with by_ := a.by_ + 1, priv := c }, [], false) else ({ a with by_ := a.by_ + 1 }, [], true))
  else ((Ab.end_ { a with by_ := a.by_ + 1, params := a.params.take 16 } 4 c).1, (Ab.end_ { a with by_ := a.by_ + 1, params := a.params.take 16 } 4 c).2, false)
def Ab.txt (a : Ab) (c : Int) : Ab × List Sq × Bool :=
  if c = 7 then (a.to 0, [osS a.text], false)
  else if 32 ≤ c ∧ c ≠ 127 ∧ a.text.size < 256 then ({ a with text := a.text ++ one c }, [], false) else (a, [], false)
def Ab.core (a : Ab) (c : Int) : Ab × List Sq × Bool :=
  if a.st = 0 then ((a.ground c).1, (a.ground c).2, false) else if a.st = 1 then a.esc c else if a.st = 2 then a.ctl c else if a.st = 3 then a.txt c else (a, [], false)
def Ab.step (a : Ab) (c : Int) : Ab × List Sq := (if (a.core c).2.2 then { (a.core c).1 with bad := true } else (a.core c).1, (a.core c).2.1)
def Ab.feed (a : Ab) (c : Int) : Ab × List Sq :=
  if c = 27 then ({ a with p := [] }.to 1, (if a.st = 3 then [osS a.text] else []) ++ (pflush a.p).map prS)
  else if a.st ≠ 0 ∧ (c = 24 ∨ c = 26) then (a.to 0, []) else a.step c
/-- What a told thing reads as. -/
structure TellOk (w : World) (s : SqV) (t : Sq) : Prop where
  kind : s.kind = t.kind
  r : s.r = t.r
  priv : s.priv = t.priv
  inter : s.inter = t.inter
  final : s.final = t.final
  text : s.text = t.text
  ps : VP w s t.params
/-- What a parser in memory reads as. -/
structure Abs (x : Lo) (a : Ab) : Prop where
  p : x.p = a.p
  st : x.st = a.st
  by_ : x.by_ = a.by_
  kind : x.q.kind = 0
  r : x.q.r = 0
  priv : x.q.priv = a.priv
  inter : x.q.inter = a.inter
  final : x.q.final = 0
  text : x.q.text = a.text
  bad : x.bad = a.bad
/-- What a state's function does: it panics, or not; the parser is then a'; us are told. -/
def Outc (b base : Nat) (x : Lo) (ts : List SqV) (o : Ab × List Sq × Bool) (w : World) (e : Ending) (w' : World) : Prop :=
  e = (if o.2.2 then .panicked [spo] else .returned (.tuple #[])) ∧ ∃ (x' : Lo) (ss : List SqV), PL w' b base x' (ts ++ ss) ∧ VP w' x'.q o.1.params ∧ Abs x' o.1 ∧ Fa2 (TellOk w') ss o.2.1 ∧
    Fr (fun k => k = b ∨ OwnB x.tv k ∨ OwnB x.q.pv k) w w' ∧ (∀ k, OwnB x'.tv k → OwnB x.tv k ∨ w.heap.size ≤ k) ∧ (∀ k, OwnB x'.q.pv k → OwnB x.q.pv k ∨ w.heap.size ≤ k) ∧
    ∀ s ∈ ss, ∀ k, OwnB s.pv k → (OwnB x.q.pv k ∨ w.heap.size ≤ k) ∧ ¬ OwnB x'.q.pv k
theorem nil_own {s : SqV} (h : s.pA = none) (k : Nat) : ¬ OwnB s.pv k := by
  intro hk
  unfold OwnB SqV.pv at hk
  rw [h] at hk
  cases hk
theorem VP.nil {w : World} {s : SqV} (h1 : s.pA = none) (h2 : s.pn = 0) (h3 : s.pc = 0) : VP w s [] := .inl ⟨h1, h2, h3, rfl⟩
/-- A function that leaves the parameters, or lets them go, and tells what has none. -/
theorem Outc.of_PTo {b base : Nat} {x x' : Lo} {ts ss : List SqV} {o : Ab × List Sq × Bool} {w w' : World} {e : Ending} {ps : List Int} (h : PTo b base x x' (ts ++ ss) w e w') (hb : DBlk w b 33 x.rest x.p) (hr : ∃ ts0, Row SqV.cells 7 30 w base x.tv ts0) (hV : VP w x.q ps) (ho : o.2.2 = false)
    (hq : (x'.q.pA = x.q.pA ∧ x'.q.pn = x.q.pn ∧ x'.q.pc = x.q.pc ∧ o.1.params = ps) ∨ (x'.q.pA = none ∧ x'.q.pn = 0 ∧ x'.q.pc = 0 ∧ o.1.params = [])) (ha : Abs x' o.1)
    (hs : Fa2 (fun s t => s.kind = t.kind ∧ s.r = t.r ∧ s.priv = t.priv ∧ s.inter = t.inter ∧ s.final = t.final ∧ s.text = t.text ∧ s.pA = none ∧ s.pn = 0 ∧ s.pc = 0 ∧ t.params = []) ss o.2.1) : Outc b base x ts o w e w' := by
  obtain ⟨he, tv', h1, h2, h3⟩ := h
  obtain ⟨d, hd, hblk⟩ := hb
  obtain ⟨ts0, hr⟩ := hr
  have hdis : ∀ k, OwnB x.q.pv k → ¬ PW b x.tv k := fun k hk hp => by
    rcases hp with rfl | hp
    · exact hV.ne hblk (by decide) hk
    · exact hV.row_ne hr k hp hk
  have hVw : VP w' x.q ps := hV.fr h2 hdis
  have hVx : VP w' x'.q o.1.params := by
    rcases hq with ⟨q1, q2, q3, q4⟩ | ⟨q1, q2, q3, q4⟩
    · rw [q4]
      rcases hVw with ⟨z1, z2, z3, z4⟩ | ⟨g, rest, z1, z2, z3, z4, z5⟩
      · exact .inl ⟨q1.trans z1, q2.trans z2, q3.trans z3, z4⟩
      · exact .inr ⟨g, rest, q1.trans z1, q2.trans z2, by rw [q3]; exact z3, by rw [q3]; exact z4, by rw [q3]; exact z5⟩
    · rw [q4]
      exact VP.nil q1 q2 q3
  refine ⟨by rw [ho]; exact he, { x' with tv := tv' }, ss, h1, hVx, ⟨ha.p, ha.st, ha.by_, ha.kind, ha.r, ha.priv, ha.inter, ha.final, ha.text, ha.bad⟩, ?_, h2.mono (fun k hk => hk.elim .inl (fun h => .inr (.inl h))), h3, fun k hk => ?_, fun s hs' k hk => ?_⟩
  · clear ho hq ha
    generalize o.2.1 = us at hs
    clear h1
    induction hs with
    | nil => exact .nil
    | cons h _ ih =>
      obtain ⟨y1, y2, y3, y4, y5, y6, y7, y8, y9, y10⟩ := h
      exact .cons ⟨y1, y2, y3, y4, y5, y6, by rw [y10]; exact VP.nil y7 y8 y9⟩ ih
  · rcases hq with ⟨q1, q2, q3, q4⟩ | ⟨q1, q2, q3, q4⟩
    · left
      unfold OwnB SqV.pv at hk ⊢
      rw [← q1, ← q2, ← q3]
      exact hk
    · exact absurd hk (nil_own q1 k)
  · exfalso
    clear h1 ho hq ha
    generalize o.2.1 = us at hs
    induction hs with
    | nil => cases hs'
    | cons h _ ih =>
      rcases List.mem_cons.1 hs' with rfl | h5
      · exact nil_own h.2.2.2.2.2.2.1 k hk
      · exact ih h5
end Go.Proofs.Ytlpjehmanodhpaa
