import Derived.Test.YtnengimekcnfhaaH1
import Derived.Test.YtnengimekcnfhaaE6
import Derived.Test.YtnengimekcnfhaaP1
import Derived.Test.YtnengimekcnfhaaD8
import Derived.Test.YtnengimekcnfhaaD6
import Derived.Test.YtnengimekcnfhaaD11
set_option linter.unusedVariables false
namespace Go.Proofs.Ytnengimekcnfhaa
open Go.RowKit Go.Shelf Go.Proofs.YtnengimekcnfhaaW.PrintWords
/-- What is noted is owned, and counted. -/
def Owned (xs : List Wn) (id : Int) (ns : List Wr) (s : List Cl × List Wr × Int) : Prop := ∃ l : List Wr, s.2.1 = ns ++ l ∧ s.2.2 = l.length ∧ ∀ q ∈ l, ownerOf xs q.x q.y = id
theorem owned_step {xs : List Wn} {id : Int} {ns : List Wr} {s : List Cl × List Wr × Int} (h : Owned xs id ns s) (cs : List Cl) (x y : Int) (c : Cl) (ho : ownerOf xs x y = id) : Owned xs id ns (cs, s.2.1 ++ [⟨x, y, c⟩], s.2.2 + 1) := by
  obtain ⟨l, h1, h2, h3⟩ := h
  refine ⟨l ++ [⟨x, y, c⟩], by show s.2.1 ++ _ = _; rw [h1, List.append_assoc], by show s.2.2 + 1 = _; rw [h2, List.length_append]; simp, fun q hq => ?_⟩
  rcases List.mem_append.1 hq with h | h
  · exact h3 q h
  · rw [List.mem_singleton.1 h]
    exact ho
theorem foldC_owned {X Y : Int} {W H : Nat} (Wd : Nat) (xs : List Wn) (id ox : Int) (l : List Cl) (cs : List Cl) (ns : List Wr) (ps : List (Pl X Y W H)) : Owned xs id ns (foldC Wd xs id ox l cs ns ps) := by
  obtain ⟨n, hn⟩ : ∃ n, n = ps.length := ⟨_, rfl⟩
  induction n generalizing ps with
  | zero =>
    obtain rfl := List.eq_nil_of_length_eq_zero hn.symm
    exact ⟨[], (List.append_nil _).symm, rfl, fun q hq => by cases hq⟩
  | succ n ih =>
    rcases List.eq_nil_or_concat ps with rfl | ⟨qs, q, rfl⟩
    · simp at hn
    · rw [List.concat_eq_append] at *
      have := ih qs (by simp at hn; omega)
      rw [foldC_snoc]
      unfold stepC
      split
      · rename_i ho
        exact owned_step this _ _ _ _ ho
      · exact this
theorem foldF_owned {X Y : Int} {W H : Nat} (Wd : Nat) (xs : List Wn) (id : Int) (c : Cl) (cs : List Cl) (ns : List Wr) (ps : List (Pl X Y W H)) : Owned xs id ns (foldF Wd xs id c cs ns ps) := by
  obtain ⟨n, hn⟩ : ∃ n, n = ps.length := ⟨_, rfl⟩
  induction n generalizing ps with
  | zero =>
    obtain rfl := List.eq_nil_of_length_eq_zero hn.symm
    exact ⟨[], (List.append_nil _).symm, rfl, fun q hq => by cases hq⟩
  | succ n ih =>
    rcases List.eq_nil_or_concat ps with rfl | ⟨qs, q, rfl⟩
    · simp at hn
    · rw [List.concat_eq_append] at *
      have := ih qs (by simp at hn; omega)
      rw [foldF_snoc]
      unfold stepF
      split
      · rename_i ho
        exact owned_step this _ _ _ _ ho
      · exact this
end Go.Proofs.Ytnengimekcnfhaa
set_option linter.unusedSimpArgs false
set_option linter.unusedVariables false
set_option maxRecDepth 20000
namespace Go.Proofs.Ytnengimekcnfhaa
open Go.RowKit Go.ChangeShapes Go.WideShapes
theorem flatAct : FlatT Try.prog 85 [.int .i64, .int .i64, .int .i64, .int .i64, .int .i64, .int .i64, .int .i64] :=
  FlatT.of_struct [[.int .i64], [.int .i64], [.int .i64], [.int .i64, .int .i64, .int .i64, .int .i64]] Try.underlying85 (by kernel_rfl) (fun i ls h => by
    match i, h with
    | 0, h => obtain rfl := Option.some.inj h; exact ⟨_, rfl, FlatT.of_int Try.underlying3, rfl, by kernel_rfl⟩
    | 1, h => obtain rfl := Option.some.inj h; exact ⟨_, rfl, FlatT.of_int Try.underlying3, rfl, by kernel_rfl⟩
    | 2, h => obtain rfl := Option.some.inj h; exact ⟨_, rfl, FlatT.of_int Try.underlying3, rfl, by kernel_rfl⟩
    | 3, h => obtain rfl := Option.some.inj h; exact ⟨_, rfl, flatRect, rfl, by kernel_rfl⟩
    | i + 4, h => simp at h)
/-- Acts that come in. -/
theorem open_ac {H : Type} {enc : TypeId × Value → H} {w : World} {base : Nat} {spare : Nat → Bool} {held : Bool} {a : Option Addr} {len cap : Nat} {d : DataW H} {ps : List MemPlace}
    (h : DataW.Trod enc Try.prog w base spare held 45 (.slice a len cap) d ps) : ∃ l : List Ac, len = l.length ∧ (AcA w a l ∧ ∀ q ∈ l, I64 q.do_) ∧ l.length ≤ cap := by
  obtain ⟨fuel, hf⟩ := h
  rcases open_rows (cl := Ac.cells) (sz := 7) (ok := fun q : Ac => I64 q.do_) Ac.cells_len (fun fuel cs y hy => by
    obtain ⟨h1, h2⟩ := flatAct H enc w base spare held fuel cs y hy
    match cs, h1 with
    | [v0, v1, v2, v3, v4, v5, v6], _ =>
      obtain ⟨n0, rfl, w0⟩ := h2 0 _ v0 rfl rfl
      obtain ⟨n1, rfl, _⟩ := h2 1 _ v1 rfl rfl
      obtain ⟨n2, rfl, _⟩ := h2 2 _ v2 rfl rfl
      obtain ⟨n3, rfl, _⟩ := h2 3 _ v3 rfl rfl
      obtain ⟨n4, rfl, _⟩ := h2 4 _ v4 rfl rfl
      obtain ⟨n5, rfl, _⟩ := h2 5 _ v5 rfl rfl
      obtain ⟨n6, rfl, _⟩ := h2 6 _ v6 rfl rfl
      exact ⟨⟨n0, n1, n2, ⟨n3, n4, n5, n6⟩⟩, rfl, i64_wf w0⟩) Try.underlying45 (by kernel_rfl) hf with hcs | ⟨x, l, c, zs, hcs, hz, hlc, hcell, hok⟩
  · simp [Value.cells] at hcs
    obtain ⟨rfl, rfl, rfl⟩ := hcs
    exact ⟨[], rfl, ⟨fun k hk => by simp at hk, fun q hq => by cases hq⟩, Nat.le_refl _⟩
  · simp [Value.cells] at hcs
    obtain ⟨rfl, rfl, rfl⟩ := hcs
    refine ⟨zs, hz.symm, ⟨fun k hk => ?_, hok⟩, by rw [hz]; exact hlc⟩
    refine ⟨x, rfl, ?_, fun j v hv => hcell k hk j v hv⟩
    have h1 := cell_lt (hcell k hk 0 _ rfl)
    rwa [addr_block] at h1
/-- A drawing: what is done, in which window, where, a rectangle, and cells that lie elsewhere. -/
structure Dr where
  do_ : Int
  id : Int
  x : Int
  y : Int
  r : Rc
  lA : Option Addr
  lc : Nat
  l : List Cl
def Dr.cells (d : Dr) : List Value := [.int .i64 d.do_, .int .i64 d.id, .int .i64 d.x, .int .i64 d.y, .int .i64 d.r.x, .int .i64 d.r.y, .int .i64 d.r.w, .int .i64 d.r.h, .slice d.lA d.l.length d.lc]
theorem Dr.cells_len (d : Dr) : d.cells.length = 9 := rfl
structure Dr.Ok (w : World) (d : Dr) : Prop where
  x : I64 d.x
  y : I64 d.y
  r : d.r.I
  ca : CA w d.lA d.l
  lt : ∀ ad, d.lA = some ad → 0 < d.l.length → ad.block < w.heap.size
  cap : d.l.length ≤ d.lc
theorem trod_field {H : Type} {enc : TypeId × Value → H} {P : Program} {w : World} {base : Nat} {spare : Nat → Bool} {held : Bool} {t : TypeId} {fs : Array Field} {fuel : Nat} {cs : List Value} {y : DataW H × List MemPlace} (ht : P.underlying t = some (.struct fs)) (h : DataW.trod enc P w base spare held fuel t cs = some y) :
    ∃ n, cs.length = P.cellsOf t ∧ ∀ (i : Nat) (f : Field), fs[i]? = some f → ∃ y, DataW.trod enc P w base spare held n f.type ((cs.drop f.offset).take (P.cellsOf f.type)) = some y := by
  obtain ⟨xs, n, _, _, hl, hlen, hx⟩ := DataW.trod_struct ht h
  refine ⟨n, hl, fun i f hfi => ?_⟩
  have h1 := hx i f hfi
  have hi : i < xs.length := by
    rw [hlen]
    exact (Array.getElem?_eq_some_iff.1 hfi).1
  rw [List.getElem?_eq_getElem hi] at h1
  exact ⟨_, h1⟩
/-- Drawings that come in. -/
theorem open_dr {H : Type} {enc : TypeId × Value → H} {w : World} {base : Nat} {spare : Nat → Bool} {held : Bool} {a : Option Addr} {len cap : Nat} {d : DataW H} {ps : List MemPlace}
    (h : DataW.Trod enc Try.prog w base spare held 46 (.slice a len cap) d ps) : ∃ l : List Dr, len = l.length ∧ (FA Dr.cells 9 w a l ∧ ∀ q ∈ l, q.Ok w) ∧ l.length ≤ cap := by
  obtain ⟨fuel, hf⟩ := h
  rcases open_rows (cl := Dr.cells) (sz := 9) (ok := fun q : Dr => q.Ok w) Dr.cells_len (fun fuel cs y hy => by
    obtain ⟨n, hl, at_⟩ := trod_field Try.underlying53 hy
    have hl9 : cs.length = 9 := hl.trans (by kernel_rfl)
    match cs, hl9 with
    | [v0, v1, v2, v3, v4, v5, v6, v7, v8], _ =>
      obtain ⟨y0, h0⟩ := at_ 0 _ rfl
      obtain ⟨y1, h1⟩ := at_ 1 _ rfl
      obtain ⟨y2, h2⟩ := at_ 2 _ rfl
      obtain ⟨y3, h3⟩ := at_ 3 _ rfl
      obtain ⟨y4, h4⟩ := at_ 4 _ rfl
      obtain ⟨y5, h5⟩ := at_ 5 _ rfl
      change DataW.trod enc Try.prog w base spare held n 3 (([v0, v1, v2, v3, v4, v5, v6, v7, v8].drop 0).take (Try.prog.cellsOf 3)) = some y0 at h0
      change DataW.trod enc Try.prog w base spare held n 3 (([v0, v1, v2, v3, v4, v5, v6, v7, v8].drop 1).take (Try.prog.cellsOf 3)) = some y1 at h1
      change DataW.trod enc Try.prog w base spare held n 3 (([v0, v1, v2, v3, v4, v5, v6, v7, v8].drop 2).take (Try.prog.cellsOf 3)) = some y2 at h2
      change DataW.trod enc Try.prog w base spare held n 3 (([v0, v1, v2, v3, v4, v5, v6, v7, v8].drop 3).take (Try.prog.cellsOf 3)) = some y3 at h3
      change DataW.trod enc Try.prog w base spare held n 23 (([v0, v1, v2, v3, v4, v5, v6, v7, v8].drop 4).take (Try.prog.cellsOf 23)) = some y4 at h4
      change DataW.trod enc Try.prog w base spare held n 24 (([v0, v1, v2, v3, v4, v5, v6, v7, v8].drop 8).take (Try.prog.cellsOf 24)) = some y5 at h5
      simp only [show Try.prog.cellsOf 3 = 1 from by kernel_rfl, show Try.prog.cellsOf 23 = 4 from by kernel_rfl, show Try.prog.cellsOf 24 = 1 from by kernel_rfl, List.drop_succ_cons, List.drop_zero, List.take_succ_cons, List.take_zero] at h0 h1 h2 h3 h4 h5
      obtain ⟨n0, rfl, w0⟩ := (FlatT.of_int Try.underlying3 H enc w base spare held n _ _ h0).2 0 _ v0 rfl rfl
      obtain ⟨n1, rfl, w1⟩ := (FlatT.of_int Try.underlying3 H enc w base spare held n _ _ h1).2 0 _ v1 rfl rfl
      obtain ⟨n2, rfl, w2⟩ := (FlatT.of_int Try.underlying3 H enc w base spare held n _ _ h2).2 0 _ v2 rfl rfl
      obtain ⟨n3, rfl, w3⟩ := (FlatT.of_int Try.underlying3 H enc w base spare held n _ _ h3).2 0 _ v3 rfl rfl
      have hr := (flatRect H enc w base spare held n _ _ h4).2
      obtain ⟨n4, rfl, w4⟩ := hr 0 _ v4 rfl rfl
      obtain ⟨n5, rfl, w5⟩ := hr 1 _ v5 rfl rfl
      obtain ⟨n6, rfl, w6⟩ := hr 2 _ v6 rfl rfl
      obtain ⟨n7, rfl, w7⟩ := hr 3 _ v7 rfl rfl
      have hsl : ∃ A len c, v8 = .slice A len c := by
        rcases DataW.trod_slice Try.underlying24 h5 with ⟨h6, _⟩ | ⟨a, len, cap, elems, rest, n, _, h6, _⟩
        · exact ⟨none, 0, 0, by simpa using h6⟩
        · exact ⟨_, _, _, by simpa using h6⟩
      obtain ⟨A, len8, c8, rfl⟩ := hsl
      obtain ⟨l, rfl, ⟨hca, hlt⟩, hcap⟩ := open_cl ⟨n, by simpa [Value.cells] using h5⟩
      exact ⟨⟨n0, n1, n2, n3, ⟨n4, n5, n6, n7⟩, A, c8, l⟩, rfl, ⟨i64_wf w2, i64_wf w3, ⟨i64_wf w4, i64_wf w5, i64_wf w6, i64_wf w7⟩, hca, hlt, hcap⟩⟩) Try.underlying46 (by kernel_rfl) hf with hcs | ⟨x, l, c, zs, hcs, hz, hlc, hcell, hok⟩
  · simp [Value.cells] at hcs
    obtain ⟨rfl, rfl, rfl⟩ := hcs
    exact ⟨[], rfl, ⟨fun k hk => by simp at hk, fun q hq => by cases hq⟩, Nat.le_refl _⟩
  · simp [Value.cells] at hcs
    obtain ⟨rfl, rfl, rfl⟩ := hcs
    refine ⟨zs, hz.symm, ⟨fun k hk => ?_, hok⟩, by rw [hz]; exact hlc⟩
    refine ⟨x, rfl, ?_, fun j v hv => hcell k hk j v hv⟩
    have h1 := cell_lt (hcell k hk 0 _ rfl)
    rwa [addr_block] at h1
end Go.Proofs.Ytnengimekcnfhaa
set_option linter.unusedSimpArgs false
set_option linter.unusedVariables false
set_option maxRecDepth 20000
namespace Go.Proofs.Ytnengimekcnfhaa
open Go.RowKit Go.Shelf Go.Proofs.YtnengimekcnfhaaW.PrintWords
abbrev DrA (w : World) (A : Option Addr) (l : List Dr) : Prop := FA Dr.cells 9 w A l
def GrTo (n0 : Nat) (d : List Dr) (w : World) (e : Ending) (w' : World) : Prop := w' = w ∧ ∃ bl, e = .returned (.bool bl) ∧ (bl = false → n0 ≤ 20 ∧ d.length ≤ 20 ∧ ∀ k (h : k < d.length), d[k].l.length ≤ 20)
set_option maxHeartbeats 4000000 in
theorem great_any (w : World) (A0 : Option Addr) (n0 c0 : Nat) (A : Option Addr) (cap : Nat) (d : List Dr) (hd : DrA w A d) :
    Calls Try.prog 13 #[.slice A0 n0 c0, .slice A d.length cap] w (GrTo n0 d w) := by
  have HD := hid hd
  clear hd
  go_enter Try.func13, Try.ntmps13
  go_wp2
  go_loopw [5] (fun v5 wr => ∃ k : Nat, k ≤ d.length ∧ k ≤ 20 ∧ v5 = .int .i64 k ∧ wr = w ∧ Hid (∀ j (h : j < d.length), j < k → d[j].l.length ≤ 20)) (fun v5 _ => d.length - (intOf v5).toNat)
  case atStart => exact ⟨0, Nat.zero_le _, Nat.zero_le _, rfl, rfl, fun j _ h => absurd h (Nat.not_lt_zero j)⟩
  case round =>
    obtain ⟨k, hk, hk20, rfl, rfl, HP⟩ := hrel
    by_cases hkm : k < d.length
    · by_cases hk2 : k < 20
      · obtain ⟨ad, rfl, c0, cj⟩ := HD.out.cells k hkm
        have c8 := cj 8 _ (by decide) rfl
        clear c0 cj
        have HQ : Hid (∀ q, d[k] = q → q.l.length ≤ 20 → ∀ j (h : j < d.length), j < k + 1 → d[j].l.length ≤ 20) := hid fun q hq hl j hj hjk => by
          by_cases e : j = k
          · subst e
            rw [hq]
            exact hl
          · exact HP.out j hj (by omega)
        generalize hq : d[k] = q at *
        have HQ2 := HQ.out q rfl
        have HQ3 := hid HQ2
        clear HQ HQ2 hq
        cases hl : decide (20 < (q.l.length : Int))
        · have HL : Hid (q.l.length ≤ 20) := hid (by have := of_decide_eq_false hl; omega)
          have hnl : ¬ (20 < (q.l.length : Int)) := of_decide_eq_false hl
          go_wp2
          go_roundw
          case rel => exact ⟨k + 1, by omega, by omega, by go_num, trivial, HQ3.out HL.out⟩
          case measure => simp [intOf]; omega
        · have hnl : 20 < (q.l.length : Int) := of_decide_eq_true hl
          go_wp2
          go_ret
          exact ⟨rfl, true, rfl, fun h => by cases h⟩
      · obtain rfl : k = 20 := by omega
        cases hn0 : decide (20 < (n0 : Int))
        · cases hn1 : decide (20 < (d.length : Int))
          · exact absurd (of_decide_eq_false hn1) (by omega)
          · go_wp2
            go_ret
            exact ⟨rfl, true, rfl, fun h => by cases h⟩
        · go_wp2
          go_ret
          exact ⟨rfl, true, rfl, fun h => by cases h⟩
    · obtain rfl : k = d.length := by omega
      cases hn0 : decide (20 < (n0 : Int))
      · cases hn1 : decide (20 < (d.length : Int))
        · have HN := hid (And.intro (of_decide_eq_false hn0) (of_decide_eq_false hn1))
          go_wp2
          go_ret
          exact ⟨rfl, false, rfl, fun _ => ⟨by have := HN.out.1; omega, by have := HN.out.2; omega, fun j hj => HP.out j hj hj⟩⟩
        · go_wp2
          go_ret
          exact ⟨rfl, true, rfl, fun h => by cases h⟩
      · go_wp2
        go_ret
        exact ⟨rfl, true, rfl, fun h => by cases h⟩
end Go.Proofs.Ytnengimekcnfhaa
set_option linter.unusedSimpArgs false
set_option linter.unusedVariables false
set_option maxRecDepth 20000
namespace Go.Proofs.Ytnengimekcnfhaa
open Go.RowKit Go.Shelf Go.Proofs.YtnengimekcnfhaaW.PrintWords
/-- A frame and a stack that are drawn with. -/
structure DE (w : World) (f g gb W H b : Nat) (cs : List Cl) (nv : Value) (ns : List Wr) (v : Value) (xs : List Wn) (next : Int) : Prop where
  fd : FD w f g gb W H cs nv ns
  sk : SK w b (rect0 W H) v xs next
  fit : ∀ q ∈ xs, FitsIn W H q.r ∧ 1 ≤ q.id
  len : xs.length ≤ 200
  w2 : W ≤ 512
  h2 : H ≤ 512
  ns : ns.length ≤ 100000
def DoTo (w : World) (f g gb W H b : Nat) (v : Value) (xs : List Wn) (next : Int) (nv0 : Value) (er : Int) (s : List Cl × List Wr × Int) (e : Ending) (w' : World) : Prop :=
  e = .returned (.tuple #[.int .i64 s.2.2, .int .i64 er]) ∧ (∃ nv, FD w' f g gb W H s.1 nv s.2.1 ∧ ∀ k, OwnB nv k → OwnB nv0 k ∨ w.heap.size ≤ k) ∧ SK w' b (rect0 W H) v xs next ∧ Fr (FB f gb nv0) w w'
section
variable {w w' : World} {f g gb W H b : Nat} {cs : List Cl} {nv : Value} {ns : List Wr} {v : Value} {xs : List Wn} {next id : Int} {t : Wn}
theorem DE.frd (h : DE w f g gb W H b cs nv ns v xs next) (hf : Fr NoB w w') : DE w' f g gb W H b cs nv ns v xs next := ⟨h.fd.frd hf, h.sk.frd hf, h.fit, h.len, h.w2, h.h2, h.ns⟩
theorem DE.still (h : DE w f g gb W H b cs nv ns v xs next) (hf : Fr NoB w w') (er : Int) : DoTo w f g gb W H b v xs next nv er (cs, ns, 0) (.returned (.tuple #[.int .i64 0, .int .i64 er])) w' :=
  ⟨rfl, ⟨nv, h.fd.frd hf, fun k hk => .inl hk⟩, h.sk.frd hf, hf.mono (fun _ h => h.elim)⟩
theorem DoTo.from {w0 : World} {er : Int} {s : List Cl × List Wr × Int} {e : Ending} {nv0 : Value} (hf : Fr NoB w0 w) (h : DoTo w f g gb W H b v xs next nv0 er s e w') : DoTo w0 f g gb W H b v xs next nv0 er s e w' := by
  obtain ⟨h1, ⟨nv, h2, h3⟩, h4, h5⟩ := h
  exact ⟨h1, ⟨nv, h2, fun k hk => (h3 k hk).imp (fun h => h) (Nat.le_trans hf.size)⟩, h4, (hf.mono (fun _ h => h.elim)).trans h5⟩
theorem DoTo.of {s : List Cl × List Wr × Int} {e : Ending} (h : DrawTo w f g gb W H b (rect0 W H) v xs next nv s e w') : DoTo w f g gb W H b v xs next nv 0 s e w' := h
theorem getW_mem (h : getW xs id = some t) : t ∈ xs := by
  obtain ⟨k, hk, _, rfl, _⟩ := idAt_some h
  exact List.getElem_mem hk
theorem getW_id (h : getW xs id = some t) : t.id = id := by
  obtain ⟨_, _, _, _, h5⟩ := idAt_some h
  exact h5
theorem DE.win (h : DE w f g gb W H b cs nv ns v xs next) (hg : getW xs id = some t) : t.r.Right ∧ t.w ≤ 512 ∧ t.h ≤ 512 ∧ id ≠ 0 ∧ (∀ q ∈ xs, q.r.I) ∧ ∀ q ∈ xs, 0 ≤ q.x ∧ 0 ≤ q.y ∧ q.x + q.w ≤ W ∧ q.y + q.h ≤ H := by
  obtain ⟨⟨h1, h2, h3, h4, h5, h6, h7⟩, h8⟩ := h.fit t (getW_mem hg)
  have hid := getW_id hg
  have e1 : t.r.x = t.x := rfl
  have e2 : t.r.y = t.y := rfl
  have e3 : t.r.w = t.w := rfl
  have e4 : t.r.h = t.h := rfl
  have := h.w2
  have := h.h2
  refine ⟨h1, by omega, by omega, by omega, fun q hq => (h.fit q hq).1.1.i, fun q hq => ?_⟩
  obtain ⟨⟨g1, g2, g3, g4, g5, g6, g7⟩, _⟩ := h.fit q hq
  exact ⟨g4, g5, g6, g7⟩
end
/-- What is drawn: cells in a row, a rectangle, a rectangle at another place. -/
def cellsS (W : Nat) (xs : List Wn) (id x y : Int) (l : List Cl) (cs : List Cl) (ns : List Wr) : List Cl × List Wr × Int := match getW xs id with
  | none => (cs, ns, 0)
  | some t => if Near x ∧ Near y then foldC W xs id (t.x + x) l cs ns (plL (t.x + (inW t ⟨x, y, min (l.length : Int) 1073741824, 1⟩).x) (t.y + (inW t ⟨x, y, min (l.length : Int) 1073741824, 1⟩).y) (inW t ⟨x, y, min (l.length : Int) 1073741824, 1⟩).w.toNat (inW t ⟨x, y, min (l.length : Int) 1073741824, 1⟩).h.toNat) else (cs, ns, 0)
def fillS (W : Nat) (xs : List Wn) (id : Int) (r : Rc) (c : Cl) (cs : List Cl) (ns : List Wr) : List Cl × List Wr × Int := match getW xs id with
  | none => (cs, ns, 0)
  | some t => if r.Right then foldF W xs id c cs ns (plL (t.x + (inW t r).x) (t.y + (inW t r).y) (inW t r).w.toNat (inW t r).h.toNat) else (cs, ns, 0)
def copyS (W H : Nat) (xs : List Wn) (id : Int) (r : Rc) (x y : Int) (cs : List Cl) (ns : List Wr) : List Cl × List Wr × Int := match getW xs id with
  | none => (cs, ns, 0)
  | some t => if r.Right ∧ Near x ∧ Near y then (putsG W cs (copyL W H xs id t r x y cs (plL (t.x + (inW t r).x) (t.y + (inW t r).y) (inW t r).w.toNat (inW t r).h.toNat)), ns ++ copyL W H xs id t r x y cs (plL (t.x + (inW t r).x) (t.y + (inW t r).y) (inW t r).w.toNat (inW t r).h.toNat), ((copyL W H xs id t r x y cs (plL (t.x + (inW t r).x) (t.y + (inW t r).y) (inW t r).w.toNat (inW t r).h.toNat)).length : Int)) else (cs, ns, 0)
section
variable {w : World} {f g gb W H b : Nat} {cs : List Cl} {nv : Value} {ns : List Wr} {v : Value} {xs : List Wn} {next : Int}
theorem cells_all (h : DE w f g gb W H b cs nv ns v xs next) (id x y : Int) (A : Option Addr) (cap : Nat) (l : List Cl) (hll : l.length ≤ 1000) (hca : CA w A l) (hcap : l.length ≤ cap) (hfar : ∀ ad, A = some ad → 0 < l.length → ¬ FB f gb nv ad.block ∧ ad.block < w.heap.size) :
    Calls Try.prog 11 #[.pointer (some ⟨f, 0, none⟩), .pointer (some ⟨b, 0, none⟩), .int .i64 id, .int .i64 x, .int .i64 y, .slice A l.length cap] w (DoTo w f g gb W H b v xs next nv (foundE xs id) (cellsS W xs id x y l cs ns)) := by
  have hl : xs.length ≤ 4096 := by have := h.len; omega
  unfold foundE cellsS
  cases hg : getW xs id with
  | none => exact (dCells_none w f b _ id x y v xs next A l.length cap h.sk hl hg).mono fun e w' ⟨he, hf⟩ => by rw [he]; exact h.still hf 5
  | some t =>
    by_cases hn : Near x ∧ Near y
    · obtain ⟨h1, h2, h3, h4, h5, h6⟩ := h.win hg
      have e0 : (if (some t).isSome = true then (0 : Int) else 5) = 0 := rfl
      rw [e0]
      simp only [if_pos hn]
      exact dCells_in w f g gb W H b cs nv ns v xs next id x y A cap l t h.fd h.sk hl hg h5 h1 (by omega) (by omega) hn.1 hn.2 hll hca hcap h6 h4 (by have := h.ns; omega) hfar
    · simp only [if_neg hn]
      exact (dCells_far w f b _ id x y v xs next A l.length cap t h.sk hl hg hn).mono fun e w' ⟨he, hf⟩ => by rw [he]; exact h.still hf 0
theorem fill_all (h : DE w f g gb W H b cs nv ns v xs next) (id : Int) (r : Rc) (c : Cl) :
    Calls Try.prog 22 #[.pointer (some ⟨f, 0, none⟩), .pointer (some ⟨b, 0, none⟩), .int .i64 id, r.v, c.v] w (DoTo w f g gb W H b v xs next nv (foundE xs id) (fillS W xs id r c cs ns)) := by
  have hl : xs.length ≤ 4096 := by have := h.len; omega
  unfold foundE fillS
  cases hg : getW xs id with
  | none => exact (dFill_none w f b _ id r c v xs next h.sk hl hg).mono fun e w' ⟨he, hf⟩ => by rw [he]; exact h.still hf 5
  | some t =>
    by_cases hn : r.Right
    · obtain ⟨h1, h2, h3, h4, h5, h6⟩ := h.win hg
      have e0 : (if (some t).isSome = true then (0 : Int) else 5) = 0 := rfl
      rw [e0]
      simp only [if_pos hn]
      exact dFill_in w f g gb W H b cs nv ns v xs next id r c t h.fd h.sk hl hg h5 h1 (by omega) (by omega) hn h6 h4 (by have := h.ns; omega)
    · simp only [if_neg hn]
      exact (dFill_wrong w f b _ id r c v xs next t hn h.sk hl hg).mono fun e w' ⟨he, hf⟩ => by rw [he]; exact h.still hf 0
theorem copy_all (h : DE w f g gb W H b cs nv ns v xs next) (id x y : Int) (r : Rc) :
    Calls Try.prog 23 #[.pointer (some ⟨f, 0, none⟩), .pointer (some ⟨b, 0, none⟩), .int .i64 id, r.v, .int .i64 x, .int .i64 y] w (DoTo w f g gb W H b v xs next nv (foundE xs id) (copyS W H xs id r x y cs ns)) := by
  have hl : xs.length ≤ 4096 := by have := h.len; omega
  unfold foundE copyS
  cases hg : getW xs id with
  | none => exact (dCopy_none w f b _ id x y r v xs next hg h.sk hl).mono fun e w' ⟨he, hf⟩ => by rw [he]; exact h.still hf 5
  | some t =>
    by_cases hn : r.Right ∧ Near x ∧ Near y
    · obtain ⟨h1, h2, h3, h4, h5, h6⟩ := h.win hg
      have e0 : (if (some t).isSome = true then (0 : Int) else 5) = 0 := rfl
      rw [e0]
      simp only [if_pos hn]
      exact dCopy_in w f g gb W H b cs nv ns v xs next id x y r t h.fd h.sk hl hg h5 h1 h2 h3 hn.1 hn.2.1 hn.2.2 h6 h4 (by have := h.ns; omega) _ rfl
    · simp only [if_neg hn]
      exact (dCopy_off w f b _ id x y r v xs next t hg hn h.sk hl).mono fun e w' ⟨he, hf⟩ => by rw [he]; exact h.still hf 0
end
/-- A drawing. -/
def doS (W H : Nat) (xs : List Wn) (d : Dr) (cs : List Cl) (ns : List Wr) : List Cl × List Wr × Int :=
  if d.do_ = 0 then cellsS W xs d.id d.x d.y d.l cs ns else if d.do_ = 1 then fillS W xs d.id d.r (d.l.headD Cl.zero) cs ns else copyS W H xs d.id d.r d.x d.y cs ns
set_option maxHeartbeats 8000000 in
theorem do_any (w : World) (f g gb W H b : Nat) (cs : List Cl) (nv : Value) (ns : List Wr) (v : Value) (xs : List Wn) (next : Int) (d : Dr) (h : DE w f g gb W H b cs nv ns v xs next) (hd : d.Ok w) (hll : d.l.length ≤ 1000) (hfar : ∀ ad, d.lA = some ad → 0 < d.l.length → ¬ FB f gb nv ad.block) :
    Calls Try.prog 15 #[.pointer (some ⟨f, 0, none⟩), .pointer (some ⟨b, 0, none⟩), .agg #[.int .i64 d.do_, .int .i64 d.id, .int .i64 d.x, .int .i64 d.y, .int .i64 d.r.x, .int .i64 d.r.y, .int .i64 d.r.w, .int .i64 d.r.h, .slice d.lA d.l.length d.lc]] w (DoTo w f g gb W H b v xs next nv (foundE xs d.id) (doS W H xs d cs ns)) := by
  have hf0 : Fr NoB w (w.alloc (.cells #[.int .i64 d.do_, .int .i64 d.id, .int .i64 d.x, .int .i64 d.y, .int .i64 d.r.x, .int .i64 d.r.y, .int .i64 d.r.w, .int .i64 d.r.h, .slice d.lA d.l.length d.lc] 53)) := (Fr.refl _ _).alloc _
  have HF0 := hid hf0
  have HDE := hid (h.frd hf0)
  have HCA := hid (hd.ca.fr hf0 (fun _ _ _ h => h))
  have HFAR : Hid (∀ ad, d.lA = some ad → 0 < d.l.length → ¬ FB f gb nv ad.block ∧ ad.block < (w.alloc (.cells #[.int .i64 d.do_, .int .i64 d.id, .int .i64 d.x, .int .i64 d.y, .int .i64 d.r.x, .int .i64 d.r.y, .int .i64 d.r.w, .int .i64 d.r.h, .slice d.lA d.l.length d.lc] 53)).heap.size) := hid fun ad e h0 => ⟨hfar ad e h0, Nat.lt_of_lt_of_le (hd.lt ad e h0) hf0.size⟩
  have HB := hid (Blk.new w 53 d.cells)
  have HCP := hid hd.cap
  have HCA0 := hid hd.ca
  have HLT := hid hd.lt
  clear h hd hfar hf0
  unfold doS
  by_cases h0 : d.do_ = 0
  · rw [if_pos h0]
    have t0 : (d.do_ == 0) = true := by rw [beq_iff_eq]; exact h0
    clear h0
    go_enter Try.func15, Try.ntmps15
    go_wp2_with fail
    refine (cells_all HDE.out d.id d.x d.y d.lA d.lc d.l hll HCA.out HCP.out HFAR.out).mono ?_
    intro e' w1 h1
    obtain ⟨rfl, h2⟩ := h1.from HF0.out
    have H2 := hid h2
    clear h1 h2
    go_wp2
    go_ret2
    exact ⟨rfl, H2.out⟩
  rw [if_neg h0]
  have t0 : (d.do_ == 0) = false := by rw [beq_eq_false_iff_ne]; exact h0
  clear h0
  by_cases h1 : d.do_ = 1
  · rw [if_pos h1]
    have t1 : (d.do_ == 1) = true := by rw [beq_iff_eq]; exact h1
    clear h1
    have HF1 := hid (HF0.out.alloc (.cells #[.int .i32 0, .int .i64 0, .int .i64 0, .int .i64 0] 38))
    have HB1 := hid (HB.out.alloc (.cells #[.int .i32 0, .int .i64 0, .int .i64 0, .int .i64 0] 38))
    have HC1 := hid (Blk.new (w.alloc (.cells #[.int .i64 d.do_, .int .i64 d.id, .int .i64 d.x, .int .i64 d.y, .int .i64 d.r.x, .int .i64 d.r.y, .int .i64 d.r.w, .int .i64 d.r.h, .slice d.lA d.l.length d.lc] 53)) 38 Cl.zero.cells)
    have HFl := fun w9 h9 c => hid (fill_all (w := w9) (HDE.out.frd h9) d.id d.r c)
    unfold Rc.v Cl.v at HFl
    have q0 := HC1.out.cell 0 rfl
    have q0l := HC1.out.lt
    cases hl : decide (0 < (d.l.length : Int))
    · have hn : d.l = [] := List.eq_nil_of_length_eq_zero (by have := of_decide_eq_false hl; omega)
      have hnl : ¬ (0 < (d.l.length : Int)) := of_decide_eq_false hl
      have HH : Hid (d.l.headD Cl.zero = Cl.zero) := by rw [hn]; rfl
      clear hn
      go_enter Try.func15, Try.ntmps15
      go_wp2_with fail
      refine (HFl _ ((Fr.refl _ _).alloc _) Cl.zero).out.mono ?_
      intro e' w1 h1
      obtain ⟨rfl, h2⟩ := h1.from HF1.out
      have H2 := hid h2
      clear h1 h2
      go_wp2
      go_ret2
      rw [HH.out]
      exact ⟨rfl, H2.out⟩
    · have hnl : 0 < (d.l.length : Int) := of_decide_eq_true hl
      have h0 : 0 < d.l.length := by omega
      obtain ⟨ad, hA, c0, c1, c2, c3⟩ := HCA0.out 0 h0
      have hlt := HLT.out ad hA h0
      rw [Nat.zero_mul, Addr.add_zero'] at c0
      rw [Nat.zero_mul, Addr.add_succ'] at c1 c2 c3
      have hh : d.l.headD Cl.zero = d.l[0] := by rw [List.headD_eq_head?_getD, List.head?_eq_getElem?, List.getElem?_eq_getElem h0]; rfl
      rw [hh]
      clear hh
      generalize hc : d.l[0] = c at *
      clear hc
      have HA := hid hA
      rw [hA] at HF0 HF1 HFl HC1
      rw [hA]
      clear hA
      have q0 := HC1.out.cell 0 rfl
      have q0l := HC1.out.lt
      have f0 := HC1.out.frozen 0
      have f1 := HC1.out.frozen 1
      have f2 := HC1.out.frozen 2
      have f3 := HC1.out.frozen 3
      go_enter Try.func15, Try.ntmps15
      go_wp2_with fail
      refine (HFl _ ((Fr.refl _ _).alloc _) c).out.mono ?_
      intro e' w1 h1
      obtain ⟨rfl, h2⟩ := h1.from (HF0.out.alloc _)
      have H2 := hid h2
      clear h1 h2
      go_wp2
      go_ret2
      exact ⟨rfl, H2.out⟩
  · rw [if_neg h1]
    have t1 : (d.do_ == 1) = false := by rw [beq_eq_false_iff_ne]; exact h1
    clear h1
    have HCp := hid (copy_all HDE.out d.id d.x d.y d.r)
    unfold Rc.v at HCp
    go_enter Try.func15, Try.ntmps15
    go_wp2_with fail
    refine HCp.out.mono ?_
    intro e' w1 h1
    obtain ⟨rfl, h2⟩ := h1.from HF0.out
    have H2 := hid h2
    clear h1 h2
    go_wp2
    go_ret2
    exact ⟨rfl, H2.out⟩
end Go.Proofs.Ytnengimekcnfhaa
