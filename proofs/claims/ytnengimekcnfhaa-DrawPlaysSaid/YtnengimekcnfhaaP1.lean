import Derived.Test.YtnengimekcnfhaaW6
import Derived.Deep.Upon
import Derived.Test.YtnengimekcnfhaaE1
import Derived.Test.YtnengimekcnfhaaG1
set_option linter.unusedSimpArgs false
set_option linter.unusedVariables false
set_option maxRecDepth 20000
namespace Go.Proofs.Ytnengimekcnfhaa
open Go.RowKit Go.Proofs.YtnengimekcnfhaaW.PrintWords
/-- append(v, nil...) -/
theorem row_nil {α : Type} {f : α → List Value} {sz : Nat} {P : Program} {ops : Array Oper} {rest : List Oper} {o : Oper} {a : Act} {Q : Exit → Act → World → Prop} {W : World} (base : Nat) (hgd : o.guard = none) (s x : Operand) (t e : TypeId) (z : Value) (bytes : Nat)
    (ho : o.op = .call { callee := .builtin .append, args := #[s, x], argTypes := #[t, t] })
    (ht : P.underlying t = some (.slice e)) (hinfo : (P.info? e).map (fun i => (i.zero, i.size, i.bytes)) = some (some z, sz, bytes))
    (v : Value) (xs : List α) (c : Nat) (hs : a.eval s = v) (hx : a.eval x = .slice none 0 c) (HO : Row f sz e W base v xs)
    (h : wpList P ops Q rest (a.put o.dst v) W) : wpList P ops Q (o :: rest) a W := by
  obtain ⟨i0, hi, hz0, hz1, hz2⟩ := info_parts hinfo
  obtain ⟨A, cc, rfl, hc⟩ := Row.shape HO
  refine wpList_plain hgd fun K hK => ?_
  have hrun := run_append_nothing (P := P) W t t o.type e i0 ht hi A xs.length cc hc (.slice none 0 c) (Src.ofNil W ht c)
  unfold Oper.wp
  simp [execOp, ho, resolve, invoke, builtin, hs, hx, hrun, Result.andThen]
  exact hK _ _ h
set_option maxHeartbeats 2000000 in
theorem r12At_any (w : World) (v : Value) (xs : List Wn) (id : Int) (hV : WnS w v xs) (hl : xs.length ≤ 4096) :
    Calls Try.prog 35 #[v, .int .i64 id] w fun e w' => e = .returned (.int .i64 (idAt id xs)) ∧ w' = w := by
  rcases hV with ⟨rfl, rfl⟩ | ⟨g, c, rest, rfl, hV, hxc, hcm⟩
  · go_enter Try.func35, Try.ntmps35
    go_wp2
    go_loopw [5] (fun v5 wr => v5 = .int .i64 0 ∧ wr = w) (fun v5 _ => 0)
    case atStart => exact ⟨rfl, rfl⟩
    case round =>
      obtain ⟨rfl, rfl⟩ := hrel
      go_wp2
      go_ret
      exact ⟨rfl, rfl⟩
  · have hgl := WnV.lt hV
    go_enter Try.func35, Try.ntmps35
    go_wp2
    go_loopw [5] (fun v5 wr => ∃ k : Nat, k ≤ xs.length ∧ v5 = .int .i64 k ∧ (xs.take k).any (byId id) = false ∧ wr = w) (fun v5 _ => xs.length - (intOf v5).toNat)
    case atStart => exact ⟨0, Nat.zero_le _, rfl, rfl, rfl⟩
    case round =>
      obtain ⟨k, hk, rfl, hp0, rfl⟩ := hrel
      by_cases hkm : k < xs.length
      · obtain ⟨c0, c1, c2, c3, c4, c5, c6⟩ := WnV.cells hV k hkm
        have hhit := wIx_hit (p := byId id) hkm hp0
        have hmiss : (xs.take (k + 1)).any (byId id) = byId id xs[k] := by rw [List.take_succ_eq_append_getElem hkm, List.any_append, hp0]; simp
        generalize xs[k] = x at *
        have HP := hid hp0
        have HH := hid hhit
        have HM := hid hmiss
        clear hp0 hhit hmiss
        cases hx : (x.id == id)
        · have HX : Hid (byId id x = false) := hid hx
          go_wp2
          go_roundw
          case rel => exact ⟨k + 1, by omega, by go_num, HM.out.trans HX.out, trivial⟩
          case measure => simp [intOf]; omega
        · have HX : Hid (byId id x = true) := hid hx
          go_wp2
          go_ret
          exact ⟨by unfold idAt; rw [HH.out HX.out]; rfl, rfl⟩
      · obtain rfl : k = xs.length := by omega
        rw [List.take_length] at hp0
        have HP := hid (wIx_none hp0)
        clear hp0
        go_wp2
        go_ret
        exact ⟨by unfold idAt; rw [HP.out]; rfl, rfl⟩
set_option maxHeartbeats 2000000 in
theorem r12First_any (w : World) (v : Value) (xs : List Wn) (t : Wn) (hV : WnS w v xs) (hl : xs.length ≤ 4096) :
    Calls Try.prog 36 #[v, t.v] w (WnRowTo (t :: xs) w) := by
  have hf0 : Fr NoB w ((w.alloc (.cells #[.int .i64 t.id, .int .i64 t.env, .int .i64 t.x, .int .i64 t.y, .int .i64 t.w, .int .i64 t.h, .bool t.hid] 73)).alloc (.cells #[.int .i64 t.id, .int .i64 t.env, .int .i64 t.x, .int .i64 t.y, .int .i64 t.w, .int .i64 t.h, .bool t.hid] 73)) := ((Fr.refl _ _).alloc _).alloc _
  have hr0 : Row Wn.cells 7 73 ((w.alloc (.cells #[.int .i64 t.id, .int .i64 t.env, .int .i64 t.x, .int .i64 t.y, .int .i64 t.w, .int .i64 t.h, .bool t.hid] 73)).alloc (.cells #[.int .i64 t.id, .int .i64 t.env, .int .i64 t.x, .int .i64 t.y, .int .i64 t.w, .int .i64 t.h, .bool t.hid] 73)) w.heap.size (.slice (some ⟨w.heap.size + 1, 0, none⟩) 1 1) [t] := by
    have hb := Blk.new (w.alloc (.cells #[.int .i64 t.id, .int .i64 t.env, .int .i64 t.x, .int .i64 t.y, .int .i64 t.w, .int .i64 t.h, .bool t.hid] 73)) 73 t.cells
    rw [World.size_alloc] at hb
    have hv : Vec Wn.cells 7 ((w.alloc (.cells #[.int .i64 t.id, .int .i64 t.env, .int .i64 t.x, .int .i64 t.y, .int .i64 t.w, .int .i64 t.h, .bool t.hid] 73)).alloc (.cells #[.int .i64 t.id, .int .i64 t.env, .int .i64 t.x, .int .i64 t.y, .int .i64 t.w, .int .i64 t.h, .bool t.hid] 73)) (w.heap.size + 1) 73 [t] [] 1 := ⟨hb, rfl⟩
    exact hv.row Wn.cells_len (Nat.le_succ _) (Nat.le_refl _) (by decide)
  have HF0 := hid hf0
  have HR0 := hid hr0
  have hV0 := hV.fr hf0 (fun _ _ h => h)
  have hbase : w.heap.size ≤ ((w.alloc (.cells #[.int .i64 t.id, .int .i64 t.env, .int .i64 t.x, .int .i64 t.y, .int .i64 t.w, .int .i64 t.h, .bool t.hid] 73)).alloc (.cells #[.int .i64 t.id, .int .i64 t.env, .int .i64 t.x, .int .i64 t.y, .int .i64 t.w, .int .i64 t.h, .bool t.hid] 73)).heap.size := hf0.size
  have HBS := hid hbase
  have hend : ∀ v1 w1, Row Wn.cells 7 73 w1 w.heap.size v1 ([t] ++ xs) → Fr (OwnB (.slice (some ⟨w.heap.size + 1, 0, none⟩) 1 1)) ((w.alloc (.cells #[.int .i64 t.id, .int .i64 t.env, .int .i64 t.x, .int .i64 t.y, .int .i64 t.w, .int .i64 t.h, .bool t.hid] 73)).alloc (.cells #[.int .i64 t.id, .int .i64 t.env, .int .i64 t.x, .int .i64 t.y, .int .i64 t.w, .int .i64 t.h, .bool t.hid] 73)) w1 → WnRowTo (t :: xs) w (.returned v1) w1 :=
    fun v1 w1 h1 h2 => ⟨v1, rfl, h1, hf0.then_ h2 (fun k hk => .inr (by have e : w.heap.size + 1 = k := Option.some.inj hk; omega))⟩
  have HE := hid hend
  clear hf0 hr0 hbase hend
  unfold Wn.v
  rcases hV0 with ⟨rfl, rfl⟩ | ⟨g, c, rest, rfl, hV0, hxc, hcm⟩
  · clear hV
    go_enter Try.func36, Try.ntmps36
    go_wp2_with (at_builtin; go_must (refine row_nil w.heap.size rfl (.tmp 6) (.tmp 7) 48 73 Wn.zero 56 rfl Try.underlying48 infoWn _ [t] 0 rfl rfl HR0.out ?_))
    go_ret
    have h := HE.out _ _ HR0.out (Fr.refl _ _)
    exact h
  · have hsrc := Vec.src hV0 Wn.cells_len 0 (Nat.zero_le _) xs (List.prefix_refl _)
    rw [Nat.zero_mul] at hsrc
    have HS := hid hsrc
    clear hV hV0 hcm hsrc
    go_enter Try.func36, Try.ntmps36
    go_wp2_with (at_builtin; go_must (refine row_apps (f := Wn.cells) Wn.cells_len Wn.one w.heap.size rfl (.tmp 6) (.tmp 7) 48 73 Wn.zero 56 rfl Try.underlying48 infoWn rfl (by omega) (by omega) _ [t] xs ⟨g, 0, none⟩ xs.length c rfl rfl rfl HS.out HR0.out HBS.out (by simp; omega) ?_); intro v1 w1 hv1 hf1 hat)
    go_ret
    exact HE.out v1 w1 hv1 hf1
theorem WnA.of {w : World} {g c : Nat} {xs : List Wn} {rest : List Value} (h : WnV w g xs rest c) (o : Nat) (ho : o ≤ xs.length) (ys : List Wn) (hy : ys <+: xs.drop o) : WnA w ⟨g, o * 7, none⟩ ys := fun j u hj => Vec.src h Wn.cells_len o ho ys hy j u hj
set_option maxHeartbeats 4000000 in
theorem r12Out_any (w : World) (v : Value) (xs : List Wn) (k j : Nat) (hV : WnS w v xs) (hl : xs.length ≤ 4096) (hk : k < xs.length) (hj : Hid (j = k + 1)) :
    Calls Try.prog 38 #[v, .int .i64 k] w (WnRowTo (xs.take k ++ xs.drop j) w) := by
  obtain ⟨g, c, rest, rfl, hV, hxc, hcm⟩ := hV.vec (by omega)
  have hgl := WnV.lt hV
  obtain ⟨i0, hi, hz0, hz1, hz2⟩ := info_parts infoWn
  have hj' := hj.out
  have hjl : j ≤ xs.length := by omega
  obtain ⟨ad, hcut, had⟩ := cut_lo (P := Try.prog) 48 73 i0 Try.underlying48 hi g xs.length c j hjl
  have hw : IntKind.i64.wrap ((k : Int) + 1) = (j : Int) := by rw [IntWalk.i64_in _ (by omega)]; omega
  have hkc : k ≤ c := by omega
  have hf0 : Fr NoB w (w.drew.alloc (.cells #[] 73)) := (Fr.drew (Fr.refl _ _)).alloc _
  have hr0 : Row Wn.cells 7 73 (w.drew.alloc (.cells #[] 73)) w.heap.size (.slice (some ⟨w.heap.size, 0, none⟩) 0 0) [] := by
    have hb := Blk.new w.drew 73 []
    have hv : Vec Wn.cells 7 (w.drew.alloc (.cells #[] 73)) w.heap.size 73 [] [] 0 := ⟨hb, rfl⟩
    exact hv.row Wn.cells_len (Nat.le_refl _) (Nat.le_refl _) (by decide)
  have hA1 : Hid (∀ j u, ((xs.take k).flatMap Wn.cells)[j]? = some u → (w.drew.alloc (.cells #[] 73)).cell? ((⟨g, 0, none⟩ : Addr).add j) = some u) := by
    have h := WnA.of (hV.fr hf0 (fun h => h)) 0 (Nat.zero_le _) (xs.take k) (by rw [List.drop_zero]; exact List.take_prefix k xs)
    rw [Nat.zero_mul] at h
    exact h
  have hA2 : Hid (∀ W, Fr (OwnB (.slice (some ⟨w.heap.size, 0, none⟩) 0 0)) (w.drew.alloc (.cells #[] 73)) W → ∀ i u, ((xs.drop j).flatMap Wn.cells)[i]? = some u → W.cell? (ad.add i) = some u) := by
    intro W hW i u hu
    have hV' := (hV.fr hf0 (fun h => h)).fr hW (fun e => by have e' : w.heap.size = g := Option.some.inj e; omega)
    by_cases hjc : j < c
    · obtain rfl := had hjc
      rw [hz1]
      exact WnA.of hV' j hjl (xs.drop j) (List.prefix_refl _) i u hu
    · rw [List.drop_of_length_le (by omega)] at hu
      simp at hu
  have hm1 : Hid ((xs.take k).length = k) := hid (by rw [List.length_take]; omega)
  have hm2 : Hid ((xs.drop j).length = xs.length - j) := hid List.length_drop
  have hb1 : Hid ((([] : List Wn).length + k) * 56 ≤ 140737488355328) := hid (by simp; omega)
  have hb2 : Hid (((xs.take k).length + (xs.length - j)) * 56 ≤ 140737488355328) := hid (by rw [List.length_take]; omega)
  have HR0 := hid hr0
  have HF0 := hid hf0
  have hbase : w.heap.size ≤ (w.drew.alloc (.cells #[] 73)).heap.size := hf0.size
  have HBS := hid hbase
  clear hV hxc hcm hj' hr0 hf0 hbase hz0 hz1 hz2 had
  go_enter Try.func38, Try.ntmps38
  go_wp2_with fail
  go_region_law (first
    | (refine step_row_apps (f := Wn.cells) Wn.cells_len Wn.one w.heap.size rfl (.tmp 5) (.tmp 8) 48 73 Wn.zero 56 rfl Try.underlying48 infoWn rfl (by omega) (by omega) (.slice (some ⟨w.heap.size, 0, none⟩) 0 0) [] (xs.take k) ⟨g, 0, none⟩ k c rfl rfl hm1 hA1.out HR0.out HBS.out hb1.out ?_; intro v1 w1 hr1 hf1 hat; have HR1 := hid hr1; have HF1 := hid hf1; have hs1 := Nat.le_trans HBS.out hf1.size; clear hr1 hf1 hat)
    | (refine step_row_apps (f := Wn.cells) Wn.cells_len Wn.one w.heap.size rfl (.tmp 9) (.tmp 13) 48 73 Wn.zero 56 rfl Try.underlying48 infoWn rfl (by omega) (by omega) v1 (xs.take k) (xs.drop j) ad (xs.length - j) (c - j) rfl rfl hm2 (hA2.out _ HF1.out) HR1.out hs1 hb2.out ?_; intro v2 w2 hr2 hf2 hat2; have HR2 := hid hr2; have HF2 := hid hf2; clear hr2 hf2 hat2))
  all_goals
    go_wp2
    go_ret
    refine ⟨v2, rfl, HR2.out, ?_⟩
    have h1 := HF0.out.then_ HF1.out (fun k hk => .inr (by have e : w.heap.size = k := Option.some.inj hk; omega))
    exact h1.then_ HF2.out (fun k hk => .inr (HR1.out.lt k hk).1)
end Go.Proofs.Ytnengimekcnfhaa
set_option linter.unusedSimpArgs false
set_option linter.unusedVariables false
set_option maxRecDepth 20000
namespace Go.Proofs.Ytnengimekcnfhaa
open Go.RowKit Go.Proofs.YtnengimekcnfhaaW.PrintWords
/-! Acts that are done with a stack, and with the document's windows. -/
theorem both_eq {scr r : Rc} (hs : scr.Right) (hr : r.Right) (h0 : 0 < r.w) (h : scr.both r = r) : scr.x ≤ r.x ∧ scr.y ≤ r.y ∧ r.x + r.w ≤ scr.x + scr.w ∧ r.y + r.h ≤ scr.y + scr.h := by
  unfold Rc.both at h
  rw [if_pos ⟨hs, hr⟩] at h
  unfold ofR at h
  split at h
  · have e : r.w = 0 := by rw [← h]; rfl
    omega
  · have e1 : max scr.x r.x = r.x := by conv => rhs; rw [← h]
    have e2 : max scr.y r.y = r.y := by conv => rhs; rw [← h]
    have e3 : min (scr.x + scr.w) (r.x + r.w) - max scr.x r.x = r.w := by conv => rhs; rw [← h]
    have e4 : min (scr.y + scr.h) (r.y + r.h) - max scr.y r.y = r.h := by conv => rhs; rw [← h]
    omega
theorem fits_iff (W H : Nat) (h1 : 1 ≤ W) (h2 : W ≤ 512) (h3 : 1 ≤ H) (h4 : H ≤ 512) (r : Rc) : Fits (rect0 W H) r ↔ FitsIn W H r := by
  have hs : Rc.Right (rect0 W H) := ⟨⟨by show (-1073741824 : Int) ≤ 0; omega, by show (0 : Int) ≤ 1073741824; omega⟩, ⟨by show (-1073741824 : Int) ≤ 0; omega, by show (0 : Int) ≤ 1073741824; omega⟩, ⟨by show (-1073741824 : Int) ≤ (W : Int); omega, by show (W : Int) ≤ 1073741824; omega⟩, ⟨by show (-1073741824 : Int) ≤ (H : Int); omega, by show (H : Int) ≤ 1073741824; omega⟩, by show (0 : Int) ≤ (W : Int); omega, by show (0 : Int) ≤ (H : Int); omega⟩
  constructor
  · rintro ⟨hr, he, _, _, hb⟩
    have hw : 0 < r.w := by
      by_cases h : r.w < 1
      · exact absurd (.inl h) he
      · omega
    have hh : 0 < r.h := by
      by_cases h : r.h < 1
      · exact absurd (.inr h) he
      · omega
    obtain ⟨a1, a2, a3, a4⟩ := both_eq hs hr hw hb
    refine ⟨hr, hw, hh, a1, a2, ?_, ?_⟩
    · have e : (rect0 W H).x + (rect0 W H).w = W := Int.zero_add _
      omega
    · have e : (rect0 W H).y + (rect0 W H).h = H := Int.zero_add _
      omega
  · rintro ⟨g1, g2, g3, g4, g5, g6, g7⟩
    refine ⟨g1, fun he => by rcases he with h | h <;> omega, hs, g1, ?_⟩
    obtain ⟨rx, ry, rw_, rh⟩ := r
    simp only at g2 g3 g4 g5 g6 g7
    unfold Rc.both ofR
    rw [if_pos ⟨hs, g1⟩]
    unfold rect0
    simp only
    rw [if_neg (by omega)]
    congr 1 <;> omega
/-- An act: what is done, by whom, with which window, and a rectangle. -/
structure Ac where
  do_ : Int
  env : Int
  id : Int
  r : Rc
def Ac.cells (a : Ac) : List Value := [.int .i64 a.do_, .int .i64 a.env, .int .i64 a.id, .int .i64 a.r.x, .int .i64 a.r.y, .int .i64 a.r.w, .int .i64 a.r.h]
theorem Ac.cells_len (a : Ac) : a.cells.length = 7 := rfl
theorem addr_block (a : Addr) (i : Nat) : (a.add i).block = a.block := by unfold Addr.add; split <;> rfl
/-- Flat elements that came in, at an address. -/
def FA {α : Type} (f : α → List Value) (sz : Nat) (w : World) (A : Option Addr) (l : List α) : Prop := ∀ k (hk : k < l.length), ∃ ad : Addr, A = some ad ∧ ad.block < w.heap.size ∧ ∀ j v, (f l[k])[j]? = some v → w.cell? (ad.add (k * sz + j)) = some v
section
variable {α : Type} {f : α → List Value} {sz : Nat} {w w1 : World} {A : Option Addr} {l : List α} {S : Nat → Prop}
theorem FA.fr (h : FA f sz w A l) (hf : Fr S w w1) (hs : ∀ ad, A = some ad → 0 < l.length → ¬ S ad.block) : FA f sz w1 A l := fun k hk => by
  obtain ⟨ad, e, hb, hc⟩ := h k hk
  exact ⟨ad, e, Nat.lt_of_lt_of_le hb hf.size, fun j v hj => (World.cell?_of_block (by rw [addr_block]; exact hf.block ad.block hb (hs ad e (by omega)))).trans (hc j v hj)⟩
/-- The cells of element k, as the walk spells their addresses. -/
theorem FA.cells (h : FA f sz w A l) (k : Nat) (hk : k < l.length) : ∃ ad : Addr, A = some ad ∧ (∀ v, (f l[k])[0]? = some v → w.cell? (ad.add (k * sz)) = some v) ∧ ∀ j v, 0 < j → (f l[k])[j]? = some v → w.cell? ⟨(ad.add (k * sz)).block, (ad.add (k * sz)).off + j, none⟩ = some v := by
  obtain ⟨ad, e, hb, hc⟩ := h k hk
  refine ⟨ad, e, fun v hv => hc 0 v hv, fun j v hj hv => ?_⟩
  have h1 := hc j v hv
  obtain ⟨i, rfl⟩ : ∃ i, j = i + 1 := ⟨j - 1, by omega⟩
  rw [← Addr.add_add, Addr.add_succ'] at h1
  exact h1
end
abbrev AcA (w : World) (A : Option Addr) (l : List Ac) : Prop := FA Ac.cells 7 w A l
/-- The document's windows xs in a row of the walk's own, and a stack's ys; nothing else is written to. -/
structure PI (w W : World) (b : Nat) (scr : Rc) (xs ys : List Wn) (nx : Int) (v v10 : Value) : Prop where
  row : WnS W v10 xs
  sk : SK W b scr v ys nx
  fr : Fr (At b) w W
  own : ∀ j, OwnB v j → w.heap.size ≤ j
  ownx : ∀ j, OwnB v10 j → w.heap.size ≤ j ∧ ¬ OwnB v j
section
variable {w W W' : World} {b : Nat} {scr : Rc} {xs ys xs' ys' : List Wn} {nx nx' : Int} {v v10 : Value}
theorem PI.frd (h : PI w W b scr xs ys nx v v10) (hf : Fr NoB W W') : PI w W' b scr xs ys nx v v10 :=
  ⟨h.row.fr hf (fun _ _ h => h), h.sk.frd hf, h.fr.trans (hf.mono (fun _ h => h.elim)), h.own, h.ownx⟩
theorem PI.stack (h : PI w W b scr xs ys nx v v10) {r : Value} {e : Ending} (hs : SKto b scr v ys' nx' r W e W') : ∃ v', e = .returned r ∧ PI w W' b scr xs ys' nx' v' v10 ∧ Fr (SB b v) W W' := by
  obtain ⟨he, v', h1, h2, h3⟩ := hs
  have hn : ∀ j, OwnB v10 j → ¬ SB b v j := fun j hj hb => by
    rcases hb with rfl | hb
    · exact h.row.ne h.sk.blk (by decide) hj
    · exact (h.ownx j hj).2 hb
  refine ⟨v', he, ⟨h.row.fr h2 hn, h1, h.fr.then_ h2 (fun j hj => ?_), fun j hj => ?_, fun j hj => ⟨(h.ownx j hj).1, fun hv => ?_⟩⟩, h2⟩
  · rcases hj with hj | hj
    · exact .inl hj
    · exact .inr (h.own j hj)
  · rcases h3 j hj with h4 | h4
    · exact h.own j h4
    · exact Nat.le_trans h.fr.size h4
  · rcases h3 j hv with h4 | h4
    · exact (h.ownx j hj).2 h4
    · have := h.row.lt j hj
      omega
theorem PI.fresh (h : PI w W b scr xs ys nx v v10) {e : Ending} (hs : WnRowTo xs' W e W') : ∃ v', e = .returned v' ∧ PI w W' b scr xs' ys nx v v' ∧ Fr NoB W W' := by
  obtain ⟨v', he, h1, h2⟩ := hs
  exact ⟨v', he, ⟨WnS.of_row h1, h.sk.frd h2, h.fr.trans (h2.mono (fun _ h => h.elim)), h.own, fun j hj => ⟨Nat.le_trans h.fr.size (h1.lt j hj).1, fun hv => by have := h.sk.row.lt j hv; have := (h1.lt j hj).1; omega⟩⟩, h2⟩
theorem PI.put (h : PI w W b scr xs ys nx v v10) (hb : b < w.heap.size) {g n c : Nat} (hv : v10 = .slice (some ⟨g, 0, none⟩) n c) (hr : WnS W' v10 xs') (hf : Fr (At g) W W') : PI w W' b scr xs' ys nx v v10 := by
  have hg : OwnB v10 g := by rw [hv]; rfl
  have h1 := h.ownx g hg
  exact ⟨hr, h.sk.fr hf (fun e => by have e' : b = g := e; omega) (fun j hj e => by have e' : j = g := e; subst e'; exact h1.2 hj), h.fr.then_ hf (fun j e => by have e' : j = g := e; subst e'; exact .inr h1.1), h.own, h.ownx⟩
/-- A block of another type is kept. -/
theorem PI.keepB (h : PI w W b scr xs ys nx v v10) {B : Nat} {T : TypeId} {l : List Value} (hB : Blk W B T l) (hT : 73 ≠ T) (hbB : B ≠ b) (hf : Fr (SB b v) W W') : Blk W' B T l :=
  hB.fr hf (fun hs => by
    rcases hs with e | hs
    · exact hbB e
    · exact h.sk.row.ne hB hT hs)
end
theorem Row.base_le {α : Type} {f : α → List Value} {sz : Nat} {e : TypeId} {w : World} {base base' : Nat} {v : Value} {xs : List α} (h : Row f sz e w base v xs) (hb : base' ≤ base) : Row f sz e w base' v xs := by
  refine ⟨h.1, ?_⟩
  rcases h.2 with h2 | ⟨g, c, cur, a1, a2, a3, a4, a5, a6, a7⟩
  · exact .inl h2
  · exact .inr ⟨g, c, cur, a1, Nat.le_trans hb a2, a3, a4, a5, a6, a7⟩
/-- All windows fit, and have numbers that have been given. -/
structure Good (scr : Rc) (xs : List Wn) (nx : Int) (m : Nat) : Prop where
  fit : ∀ q ∈ xs, Fits scr q.r ∧ 1 ≤ q.id ∧ q.id < nx
  len : xs.length ≤ m
  n1 : 1 ≤ nx
  n2 : nx ≤ m + 1
theorem Good.succ {scr : Rc} {xs : List Wn} {nx : Int} {m : Nat} (h : Good scr xs nx m) : Good scr xs nx (m + 1) := ⟨h.fit, by have := h.len; omega, h.n1, by have := h.n2; omega⟩
theorem outAt_sub {xs : List Wn} {k : Nat} {q : Wn} (h : q ∈ outAt xs k) : q ∈ xs := by
  unfold outAt at h
  rcases List.mem_append.1 h with h | h
  · exact List.mem_of_mem_take h
  · exact List.mem_of_mem_drop h
theorem outAt_len (xs : List Wn) (k : Nat) (hk : k < xs.length) : (outAt xs k).length + 1 = xs.length := by
  unfold outAt
  rw [List.length_append, List.length_take, List.length_drop]
  omega
theorem Good.out {scr : Rc} {xs : List Wn} {nx : Int} {m : Nat} (h : Good scr xs nx m) (k : Nat) (hk : k < xs.length) : Good scr (outAt xs k) nx (m + 1) :=
  ⟨fun q hq => h.fit q (outAt_sub hq), by have := outAt_len xs k hk; have := h.len; omega, h.n1, by have := h.n2; omega⟩
theorem Good.top {scr : Rc} {xs : List Wn} {nx : Int} {m : Nat} (h : Good scr xs nx m) (k : Nat) (hk : k < xs.length) : Good scr (xs[k] :: outAt xs k) nx (m + 1) :=
  ⟨fun q hq => by
    rcases List.mem_cons.1 hq with rfl | hq
    · exact h.fit _ (List.getElem_mem hk)
    · exact h.fit q (outAt_sub hq), by have := outAt_len xs k hk; have := h.len; rw [List.length_cons]; omega, h.n1, by have := h.n2; omega⟩
theorem Good.set {scr : Rc} {xs : List Wn} {nx : Int} {m : Nat} (h : Good scr xs nx m) (k : Nat) (hk : k < xs.length) (t : Wn) (ht : t.id = xs[k].id) (hf : Fits scr t.r) : Good scr (xs.set k t) nx (m + 1) :=
  ⟨fun q hq => by
    rcases List.mem_or_eq_of_mem_set hq with hq | rfl
    · exact h.fit q hq
    · have := h.fit _ (List.getElem_mem hk)
      exact ⟨hf, by rw [ht]; exact this.2.1, by rw [ht]; exact this.2.2⟩, by rw [List.length_set]; have := h.len; omega, h.n1, by have := h.n2; omega⟩
theorem Good.add {scr : Rc} {xs : List Wn} {nx : Int} {m : Nat} (h : Good scr xs nx m) (env : Int) (r : Rc) (hf : Fits scr r) : Good scr (⟨nx, env, r.x, r.y, r.w, r.h, false⟩ :: xs) (nx + 1) (m + 1) :=
  ⟨fun q hq => by
    rcases List.mem_cons.1 hq with rfl | hq
    · exact ⟨hf, h.n1, by show nx < nx + 1; omega⟩
    · have := h.fit q hq
      exact ⟨this.1, this.2.1, by omega⟩, by rw [List.length_cons]; have := h.len; omega, by have := h.n1; omega, by have := h.n2; omega⟩
end Go.Proofs.Ytnengimekcnfhaa
