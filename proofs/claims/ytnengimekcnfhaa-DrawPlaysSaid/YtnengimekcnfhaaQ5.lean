import Derived.Test.YtnengimekcnfhaaQ4
import Derived.Test.YtnengimekcnfhaaQ2
import Derived.Test.YtnengimekcnfhaaH1
set_option linter.unusedSimpArgs false
set_option linter.unusedVariables false
set_option maxRecDepth 20000
namespace Go.Proofs.Ytnengimekcnfhaa
open Go.RowKit Go.Proofs.YtnengimekcnfhaaW.PrintWords
/-- What the document's Cells writes, of the first k cells. -/
def refC (xs : List Wn) (t : Wn) (x y : Int) (l : List Cl) (k : Nat) : List Wr := (List.range k).flatMap fun (i : Nat) => if Own xs t (x + i) y then [⟨t.x + x + i, t.y + y, l.getD i Cl.zero⟩] else []
theorem refC_succ (xs : List Wn) (t : Wn) (x y : Int) (l : List Cl) (k : Nat) : refC xs t x y l (k + 1) = refC xs t x y l k ++ (if Own xs t (x + k) y then [⟨t.x + x + k, t.y + y, l.getD k Cl.zero⟩] else []) := by
  unfold refC
  rw [List.range_succ, List.flatMap_append]
  simp
theorem refC_len (xs : List Wn) (t : Wn) (x y : Int) (l : List Cl) (k : Nat) : (refC xs t x y l k).length ≤ k := by
  induction k with
  | zero => simp [refC]
  | succ k ih =>
    rw [refC_succ, List.length_append]
    split <;> simp <;> omega
theorem refC_hit {xs : List Wn} {t : Wn} {x y : Int} (l : List Cl) (k : Nat) (h : Own xs t (x + k) y) : refC xs t x y l (k + 1) = refC xs t x y l k ++ [⟨t.x + x + k, t.y + y, l.getD k Cl.zero⟩] := by rw [refC_succ, if_pos h]
theorem refC_miss {xs : List Wn} {t : Wn} {x y : Int} (l : List Cl) (k : Nat) (h : ¬ Own xs t (x + k) y) : refC xs t x y l (k + 1) = refC xs t x y l k := by rw [refC_succ, if_neg h, List.append_nil]
/-- Cell k of cells that came in, as the walk spells the addresses. -/
theorem CA.at_ {w : World} {A : Option Addr} {l : List Cl} (h : CA w A l) (k : Nat) (hk : k < l.length) : ∃ ad : Addr, A = some ad ∧ w.cell? (ad.add (k * 4)) = some (.int .i32 l[k].r) ∧ ∀ j v, 0 < j → (l[k].cells)[j]? = some v → w.cell? ⟨(ad.add (k * 4)).block, (ad.add (k * 4)).off + j, none⟩ = some v := by
  obtain ⟨ad, e, c0, c1, c2, c3⟩ := h k hk
  refine ⟨ad, e, c0, fun j v hj hv => ?_⟩
  match j, hj, hv with
  | 1, _, hv => rw [← Addr.add_add, Addr.add_succ'] at c1; obtain rfl := Option.some.inj hv; exact c1
  | 2, _, hv => rw [← Addr.add_add, Addr.add_succ'] at c2; obtain rfl := Option.some.inj hv; exact c2
  | 3, _, hv => rw [← Addr.add_add, Addr.add_succ'] at c3; obtain rfl := Option.some.inj hv; exact c3
  | j + 4, _, hv => simp [Cl.cells] at hv
/-- The state of a loop of the document's: boxes of the grid and of the window, and what was written. -/
structure QS (g0 : Nat) (w W : World) (t : Wn) (cs : List Cl) : Prop where
  g : ∃ gb c, Blk W w.heap.size 59 [.int .i64 10, .int .i64 10, .slice (some ⟨gb, 0, none⟩) 100 c] ∧ RG W gb c cs ∧ (gb = g0 ∨ w.heap.size ≤ gb)
  b : Blk W (w.heap.size + 1) 73 t.cells
  fr : Fr NoB w W
theorem QS.frd {g0 : Nat} {w W W' : World} {t : Wn} {cs : List Cl} (h : QS g0 w W t cs) (hf : Fr NoB W W') : QS g0 w W' t cs := by
  obtain ⟨gb, c, h1, h2, h3⟩ := h.g
  exact ⟨⟨gb, c, h1.fr hf (fun h => h), h2.frd hf, h3⟩, h.b.fr hf (fun h => h), h.fr.trans hf⟩
/-- Another grid is put into the box. -/
theorem QS.put {g0 : Nat} {w W W' : World} {t : Wn} {cs cs' : List Cl} (h : QS g0 w W t cs) {gb c : Nat} (hf : Fr NoB W W') (hr : RG W' gb c cs') (hge : W.heap.size ≤ gb) :
    QS g0 w (((W'.setCell ⟨w.heap.size, 0, none⟩ (.int .i64 10)).setCell ⟨w.heap.size, 1, none⟩ (.int .i64 10)).setCell ⟨w.heap.size, 2, none⟩ (.slice (some ⟨gb, 0, none⟩) 100 c)) t cs' := by
  obtain ⟨gb0, c0, h1, _⟩ := h.g
  have h1' := h1.fr hf (fun h => h)
  have hs : Fr (At w.heap.size) W' (((W'.setCell ⟨w.heap.size, 0, none⟩ (.int .i64 10)).setCell ⟨w.heap.size, 1, none⟩ (.int .i64 10)).setCell ⟨w.heap.size, 2, none⟩ (.slice (some ⟨gb, 0, none⟩) 100 c)) := (((Fr.refl _ _).setAt 0 _).setAt 1 _).setAt 2 _
  obtain ⟨rest, hv⟩ := hr.row
  refine ⟨⟨gb, c, ((h1'.set 0 _).set 1 _).set 2 _, hr.fr hs (fun e => absurd (blk_ty (show Blk W' w.heap.size _ _ from e ▸ hv.blk) h1') (by decide)), .inr (Nat.le_trans h.fr.size hge)⟩, (h.b.fr hf (fun h => h)).fr hs (fun e => by have e' : w.heap.size + 1 = w.heap.size := e; omega), (h.fr.trans hf).then_ hs (fun j e => .inr (by have e' : j = w.heap.size := e; omega))⟩
set_option maxHeartbeats 8000000 in
theorem r13Cells_near (w : World) (gb c : Nat) (cs : List Cl) (v : Value) (xs : List Wn) (t : Wn) (x y : Int) (A : Option Addr) (cap : Nat) (l : List Cl) (hg : RG w gb c cs) (hV : WnS w v xs) (hl : xs.length ≤ 4096) (hF : ∀ q ∈ xs, FitsIn 10 10 q.r) (ht : FitsIn 10 10 t.r) (hx : Near x) (hy : Near y) (hca : CA w A l) (hcap : l.length ≤ cap) (hll : l.length ≤ 1000) (hlt : ∀ ad, A = some ad → 0 < l.length → ad.block < w.heap.size) :
    Calls Try.prog 42 #[gV gb c, v, t.v, .int .i64 x, .int .i64 y, .slice A l.length cap] w fun e w' => ∃ gb' c', e = .returned (.tuple #[gV gb' c', .int .i64 (refC xs t x y l l.length).length]) ∧ RG w' gb' c' (putsG 10 cs (refC xs t x y l l.length)) ∧ Fr NoB w w' ∧ (gb' = gb ∨ w.heap.size ≤ gb') := by
  have HTF := hid ht
  obtain ⟨g1, g2, g3, g4, g5, g6, g7⟩ : t.r.Right ∧ 0 < t.w ∧ 0 < t.h ∧ 0 ≤ t.x ∧ 0 ≤ t.y ∧ t.x + t.w ≤ 10 ∧ t.y + t.h ≤ 10 := ht
  obtain ⟨x1, x2⟩ := hx
  obtain ⟨y1, y2⟩ := hy
  have n1 : decide (Near x) = true := decide_eq_true ⟨x1, x2⟩
  have n2 : decide (Near y) = true := decide_eq_true ⟨y1, y2⟩
  have HNx := fun w9 => hid (r13far_any w9 x)
  have HNy := fun w9 => hid (r13far_any w9 y)
  rw [n1] at HNx
  rw [n2] at HNy
  have hf0 : Fr NoB w (((w.alloc (.cells #[.int .i64 10, .int .i64 10, .slice (some ⟨gb, 0, none⟩) 100 c] 59)).alloc (.cells #[.int .i64 t.id, .int .i64 t.env, .int .i64 t.x, .int .i64 t.y, .int .i64 t.w, .int .i64 t.h, .bool t.hid] 73)).alloc (.cells #[.int .i64 0, .int .i64 0, .slice none 0 0] 59)) := (((Fr.refl _ _).alloc _).alloc _).alloc _
  have hZ := Blk.new ((w.alloc (.cells #[.int .i64 10, .int .i64 10, .slice (some ⟨gb, 0, none⟩) 100 c] 59)).alloc (.cells #[.int .i64 t.id, .int .i64 t.env, .int .i64 t.x, .int .i64 t.y, .int .i64 t.w, .int .i64 t.h, .bool t.hid] 73)) 59 [.int .i64 0, .int .i64 0, .slice none 0 0]
  have hb1 := (Blk.new (w.alloc (.cells #[.int .i64 10, .int .i64 10, .slice (some ⟨gb, 0, none⟩) 100 c] 59)) 73 t.cells).alloc (.cells #[.int .i64 0, .int .i64 0, .slice none 0 0] 59)
  simp only [World.size_alloc] at hZ hb1
  have HQ0 := hid (show QS gb w _ t cs from ⟨⟨gb, c, ((Blk.new w 59 [.int .i64 10, .int .i64 10, .slice (some ⟨gb, 0, none⟩) 100 c]).alloc _).alloc _, hg.frd hf0, .inl rfl⟩, hb1, hf0⟩)
  have HZ0 := hid hZ
  have HV := hid hV
  have HFI := hid hF
  have HCA := hid hca
  have HLT := hid hlt
  obtain ⟨A9, c9, hv, _, _⟩ := hV.shape
  subst hv
  clear hf0 hZ hb1 hg hV hF hca hlt g1
  unfold gV Wn.v
  go_enter Try.func42, Try.ntmps42
  go_wp2
  go_loopw [14, 15] (fun v14 v15 wr => ∃ k : Nat, k ≤ l.length ∧ v15 = .int .i64 k ∧ v14 = .int .i64 (refC xs t x y l k).length ∧ Hid (QS gb w wr t (putsG 10 cs (refC xs t x y l k)) ∧ Blk wr (w.heap.size + 1 + 1) 59 [.int .i64 0, .int .i64 0, .slice none 0 0])) (fun _ v15 _ => l.length - (intOf v15).toNat)
  case atStart => exact ⟨0, Nat.zero_le _, rfl, rfl, HQ0.out, HZ0.out⟩
  case round =>
    obtain ⟨k, hk, rfl, rfl, HR⟩ := hrel
    by_cases hkm : k < l.length
    · have b0 := HR.out.1.b.cell 0 rfl
      have b1 := HR.out.1.b.cell 1 rfl
      have b2 := HR.out.1.b.cell 2 rfl
      have b3 := HR.out.1.b.cell 3 rfl
      have b4 := HR.out.1.b.cell 4 rfl
      have b5 := HR.out.1.b.cell 5 rfl
      have b6 := HR.out.1.b.cell 6 rfl
      have bl := HR.out.1.b.lt
      have k1 : IntKind.i64.wrap (x + k) = x + k := IntWalk.i64_in _ (by omega)
      have k2 : IntKind.i64.wrap (t.x + x) = t.x + x := IntWalk.i64_in _ (by omega)
      have k3 : IntKind.i64.wrap (t.x + x + k) = t.x + x + k := IntWalk.i64_in _ (by omega)
      have k4 : IntKind.i64.wrap (t.y + y) = t.y + y := IntWalk.i64_in _ (by omega)
      have hrl := refC_len xs t x y l k
      have k5 : IntKind.i64.wrap (((refC xs t x y l k).length : Int) + 1) = ((refC xs t x y l k).length : Int) + 1 := IntWalk.i64_in _ (by omega)
      have HK5 := hid k5
      clear k5 hrl
      go_wp2_with (first | (go_at_call 66; first | (refine (HNx _).out.mono ?_; rintro e' w' ⟨rfl, rfl⟩) | (refine (HNy _).out.mono ?_; rintro e' w' ⟨rfl, rfl⟩)) | fail)
      refine (r13own_any _ _ xs t (x + k) y (HV.out.fr HR.out.1.fr (fun _ _ h => h)) hl HFI.out HTF.out).mono ?_
      rintro e' w5 ⟨rfl, hf5⟩
      have HQ5 := hid (HR.out.1.frd hf5)
      have HZ5 := hid (HR.out.2.fr hf5 (fun h => h))
      clear hf5 b0 b1 b2 b3 b4 b5 b6 bl
      cases ho : decide (Own xs t (x + k) y)
      · have HN := hid (refC_miss l k (of_decide_eq_false ho))
        go_wp2
        go_roundw
        case rel => exact ⟨k + 1, by omega, by go_num, by rw [HN.out], by rw [HN.out]; exact ⟨HQ5.out, HZ5.out⟩⟩
        case measure => simp [intOf]; omega
      · have HN := hid (refC_hit l k (of_decide_eq_true ho))
        have HOW := hid (of_decide_eq_true ho)
        clear ho
        obtain ⟨ad, rfl, d0, dj⟩ := HCA.out.at_ k hkm
        have hq : l.getD k Cl.zero = l[k] := by rw [List.getD_eq_getElem?_getD, List.getElem?_eq_getElem hkm]; rfl
        rw [hq] at HN
        have HSv : Hid (∀ W, Fr NoB w W → Blk W (w.heap.size + 1) 73 t.cells → W.cell? ⟨w.heap.size + 1, 2, none⟩ = some (.int .i64 t.x) ∧ W.cell? ⟨w.heap.size + 1, 3, none⟩ = some (.int .i64 t.y) ∧ W.cell? (ad.add (k * 4)) = some (.int .i32 l[k].r) ∧ W.cell? ⟨(ad.add (k * 4)).block, (ad.add (k * 4)).off + 1, none⟩ = some (.int .i64 l[k].fg) ∧ W.cell? ⟨(ad.add (k * 4)).block, (ad.add (k * 4)).off + 2, none⟩ = some (.int .i64 l[k].bg) ∧ W.cell? ⟨(ad.add (k * 4)).block, (ad.add (k * 4)).off + 3, none⟩ = some (.int .i64 l[k].fl)) := hid fun W h1 h2 => ⟨h2.cell 2 rfl, h2.cell 3 rfl, cellto d0 h1, cellto (dj 1 _ (by decide) rfl) h1, cellto (dj 2 _ (by decide) rfl) h1, cellto (dj 3 _ (by decide) rfl) h1⟩
        have HD5 := hid (HQ5.out.frd (Fr.drew (Fr.refl NoB w5)))
        obtain ⟨gb5, c5, hB5, hR5, _⟩ := HD5.out.g
        have HSet : Hid (Calls Try.prog 68 #[gV gb5 c5, .int .i64 (t.x + x + k), .int .i64 (t.y + y), l[k].v] w5.drew (RGto (setG 10 (putsG 10 cs (refC xs t x y l k)) (t.x + x + k) (t.y + y) l[k]) w5.drew)) := by
          obtain ⟨o1, o2, o3, o4, _⟩ := HOW.out
          obtain ⟨pn, hpn⟩ : ∃ n : Nat, t.x + x + k = n := ⟨(t.x + x + k).toNat, by omega⟩
          obtain ⟨qn, hqn⟩ : ∃ n : Nat, t.y + y = n := ⟨(t.y + y).toNat, by omega⟩
          rw [hpn, hqn]
          exact r6Set_in w5.drew gb5 c5 _ pn qn l[k] hR5 (by omega) (by omega)
        have k5 := HK5.out
        have m0 := hB5.cell 0 rfl
        have m1 := hB5.cell 1 rfl
        have m2 := hB5.cell 2 rfl
        have ml := hB5.lt
        clear hR5 d0 dj hq HOW
        generalize l[k] = q at *
        unfold gV Cl.v at HSet
        go_wp2_with fail
        refine wp_region_held_drew (S := (fun W : World => W.cell? ⟨w.heap.size + 1, 2, none⟩ = some (.int .i64 t.x) ∧ W.cell? ⟨w.heap.size + 1, 3, none⟩ = some (.int .i64 t.y) ∧ W.cell? (ad.add (k * 4)) = some (.int .i32 q.r) ∧ W.cell? ⟨(ad.add (k * 4)).block, (ad.add (k * 4)).off + 1, none⟩ = some (.int .i64 q.fg) ∧ W.cell? ⟨(ad.add (k * 4)).block, (ad.add (k * 4)).off + 2, none⟩ = some (.int .i64 q.bg) ∧ W.cell? ⟨(ad.add (k * 4)).block, (ad.add (k * 4)).off + 3, none⟩ = some (.int .i64 q.fl))) (by kernel_rfl) (HSv.out _ HD5.out.fr HD5.out.b) (fun hHeld => ?_)
        refine wpAnyH_take (i := 1) (oi := { dst := some 40, op := Op.fieldAddr 73 (Operand.tmp 8) 2, type := 0, pos := "ref.go:26", after := #[], guard := none }) (v := ?vq1) rfl (by kernel_rfl) (by kernel_rfl) (by kernel_rfl) (fun _ _ _ h => h) (Or.inl ⟨by rfl, ?hyq1⟩) (by assumption) ?rq1
        case hyq1 => (intro w hSw; (try dsimp only at hSw); go_simp; try (with_reducible rfl))
        try simp only [Act.put, List.setIfInBounds_toArray, List.set_cons_zero, List.set_cons_succ]
        refine wpAnyH_take (i := 2) (oi := { dst := some 41, op := Op.fieldAddr 23 (Operand.tmp 40) 0, type := 0, pos := "ref.go:26", after := #[{ on := 1, ground := Ground.data }], guard := none }) (v := ?vq2) rfl (by kernel_rfl) (by kernel_rfl) (by kernel_rfl) (fun _ _ _ h => h) (Or.inl ⟨by rfl, ?hyq2⟩) (by assumption) ?rq2
        case hyq2 => (intro w hSw; (try dsimp only at hSw); go_simp; try (with_reducible rfl))
        try simp only [Act.put, List.setIfInBounds_toArray, List.set_cons_zero, List.set_cons_succ]
        refine wpAnyH_take (i := 3) (oi := { dst := some 42, op := Op.load 3 (Operand.tmp 41), type := 3, pos := "ref.go:26", after := #[{ on := 2, ground := Ground.data }], guard := none }) (v := ?vq3) rfl (by kernel_rfl) (by kernel_rfl) (by kernel_rfl) (fun _ _ _ h => h) (Or.inl ⟨by rfl, ?hyq3⟩) (by assumption) ?rq3
        case hyq3 => (intro w hSw; (try dsimp only at hSw); go_simp; try (with_reducible rfl))
        try simp only [Act.put, List.setIfInBounds_toArray, List.set_cons_zero, List.set_cons_succ]
        refine wpAnyH_take (i := 4) (oi := { dst := some 43, op := Op.move (Operand.tmp 3), type := 3, pos := "ref.go:26", after := #[], guard := none }) (v := ?vq4) rfl (by kernel_rfl) (by kernel_rfl) (by kernel_rfl) (fun _ _ _ h => h) (Or.inl ⟨by rfl, ?hyq4⟩) (by assumption) ?rq4
        case hyq4 => (intro w hSw; (try dsimp only at hSw); go_simp; try (with_reducible rfl))
        try simp only [Act.put, List.setIfInBounds_toArray, List.set_cons_zero, List.set_cons_succ]
        refine wpAnyH_take (i := 5) (oi := { dst := some 44, op := Op.binOp BinOp.add 3 (Operand.tmp 42) (Operand.tmp 43) 3, type := 3, pos := "ref.go:26", after := #[{ on := 3, ground := Ground.data }, { on := 4, ground := Ground.data }], guard := none }) (v := ?vq5) rfl (by kernel_rfl) (by kernel_rfl) (by kernel_rfl) (fun _ _ _ h => h) (Or.inl ⟨by rfl, ?hyq5⟩) (by assumption) ?rq5
        case hyq5 => (intro w hSw; (try dsimp only at hSw); go_simp; try (with_reducible rfl))
        try simp only [Act.put, List.setIfInBounds_toArray, List.set_cons_zero, List.set_cons_succ]
        refine wpAnyH_take (i := 6) (oi := { dst := some 45, op := Op.move (Operand.tmp 15), type := 3, pos := "ref.go:26", after := #[], guard := none }) (v := ?vq6) rfl (by kernel_rfl) (by kernel_rfl) (by kernel_rfl) (fun _ _ _ h => h) (Or.inl ⟨by rfl, ?hyq6⟩) (by assumption) ?rq6
        case hyq6 => (intro w hSw; (try dsimp only at hSw); go_simp; try (with_reducible rfl))
        try simp only [Act.put, List.setIfInBounds_toArray, List.set_cons_zero, List.set_cons_succ]
        refine wpAnyH_take (i := 7) (oi := { dst := some 46, op := Op.binOp BinOp.add 3 (Operand.tmp 44) (Operand.tmp 45) 3, type := 3, pos := "ref.go:26", after := #[{ on := 5, ground := Ground.data }, { on := 6, ground := Ground.data }], guard := none }) (v := ?vq7) rfl (by kernel_rfl) (by kernel_rfl) (by kernel_rfl) (fun _ _ _ h => h) (Or.inl ⟨by rfl, ?hyq7⟩) (by assumption) ?rq7
        case hyq7 => (intro w hSw; (try dsimp only at hSw); go_simp; try (with_reducible rfl))
        try simp only [Act.put, List.setIfInBounds_toArray, List.set_cons_zero, List.set_cons_succ]
        refine wpAnyH_take (i := 8) (oi := { dst := some 47, op := Op.fieldAddr 73 (Operand.tmp 8) 2, type := 0, pos := "ref.go:26", after := #[], guard := none }) (v := ?vq8) rfl (by kernel_rfl) (by kernel_rfl) (by kernel_rfl) (fun _ _ _ h => h) (Or.inl ⟨by rfl, ?hyq8⟩) (by assumption) ?rq8
        case hyq8 => (intro w hSw; (try dsimp only at hSw); go_simp; try (with_reducible rfl))
        try simp only [Act.put, List.setIfInBounds_toArray, List.set_cons_zero, List.set_cons_succ]
        refine wpAnyH_take (i := 9) (oi := { dst := some 48, op := Op.fieldAddr 23 (Operand.tmp 47) 1, type := 0, pos := "ref.go:26", after := #[{ on := 8, ground := Ground.data }], guard := none }) (v := ?vq9) rfl (by kernel_rfl) (by kernel_rfl) (by kernel_rfl) (fun _ _ _ h => h) (Or.inl ⟨by rfl, ?hyq9⟩) (by assumption) ?rq9
        case hyq9 => (intro w hSw; (try dsimp only at hSw); go_simp; try (with_reducible rfl))
        try simp only [Act.put, List.setIfInBounds_toArray, List.set_cons_zero, List.set_cons_succ]
        refine wpAnyH_take (i := 10) (oi := { dst := some 49, op := Op.load 3 (Operand.tmp 48), type := 3, pos := "ref.go:26", after := #[{ on := 9, ground := Ground.data }], guard := none }) (v := ?vq10) rfl (by kernel_rfl) (by kernel_rfl) (by kernel_rfl) (fun _ _ _ h => h) (Or.inl ⟨by rfl, ?hyq10⟩) (by assumption) ?rq10
        case hyq10 => (intro w hSw; (try dsimp only at hSw); go_simp; try (with_reducible rfl))
        try simp only [Act.put, List.setIfInBounds_toArray, List.set_cons_zero, List.set_cons_succ]
        refine wpAnyH_take (i := 11) (oi := { dst := some 50, op := Op.move (Operand.tmp 4), type := 3, pos := "ref.go:26", after := #[], guard := none }) (v := ?vq11) rfl (by kernel_rfl) (by kernel_rfl) (by kernel_rfl) (fun _ _ _ h => h) (Or.inl ⟨by rfl, ?hyq11⟩) (by assumption) ?rq11
        case hyq11 => (intro w hSw; (try dsimp only at hSw); go_simp; try (with_reducible rfl))
        try simp only [Act.put, List.setIfInBounds_toArray, List.set_cons_zero, List.set_cons_succ]
        refine wpAnyH_take (i := 12) (oi := { dst := some 51, op := Op.binOp BinOp.add 3 (Operand.tmp 49) (Operand.tmp 50) 3, type := 3, pos := "ref.go:26", after := #[{ on := 10, ground := Ground.data }, { on := 11, ground := Ground.data }], guard := none }) (v := ?vq12) rfl (by kernel_rfl) (by kernel_rfl) (by kernel_rfl) (fun _ _ _ h => h) (Or.inl ⟨by rfl, ?hyq12⟩) (by assumption) ?rq12
        case hyq12 => (intro w hSw; (try dsimp only at hSw); go_simp; try (with_reducible rfl))
        try simp only [Act.put, List.setIfInBounds_toArray, List.set_cons_zero, List.set_cons_succ]
        refine wpAnyH_take (i := 13) (oi := { dst := some 52, op := Op.move (Operand.tmp 5), type := 24, pos := "ref.go:26", after := #[], guard := none }) (v := ?vq13) rfl (by kernel_rfl) (by kernel_rfl) (by kernel_rfl) (fun _ _ _ h => h) (Or.inl ⟨by rfl, ?hyq13⟩) (by assumption) ?rq13
        case hyq13 => (intro w hSw; (try dsimp only at hSw); go_simp; try (with_reducible rfl))
        try simp only [Act.put, List.setIfInBounds_toArray, List.set_cons_zero, List.set_cons_succ]
        refine wpAnyH_take (i := 14) (oi := { dst := some 53, op := Op.move (Operand.tmp 15), type := 3, pos := "ref.go:26", after := #[], guard := none }) (v := ?vq14) rfl (by kernel_rfl) (by kernel_rfl) (by kernel_rfl) (fun _ _ _ h => h) (Or.inl ⟨by rfl, ?hyq14⟩) (by assumption) ?rq14
        case hyq14 => (intro w hSw; (try dsimp only at hSw); go_simp; try (with_reducible rfl))
        try simp only [Act.put, List.setIfInBounds_toArray, List.set_cons_zero, List.set_cons_succ]
        refine wpAnyH_take (i := 15) (oi := { dst := some 54, op := Op.indexAddr 24 (Operand.tmp 52) (Operand.tmp 53), type := 0, pos := "ref.go:26", after := #[{ on := 13, ground := Ground.data }, { on := 14, ground := Ground.data }], guard := none }) (v := ?vq15) rfl (by kernel_rfl) (by kernel_rfl) (by kernel_rfl) (fun _ _ _ h => h) (Or.inl ⟨by rfl, ?hyq15⟩) (by assumption) ?rq15
        case hyq15 => (intro w hSw; (try dsimp only at hSw); go_simp; try (with_reducible rfl))
        try simp only [Act.put, List.setIfInBounds_toArray, List.set_cons_zero, List.set_cons_succ]
        refine wpAnyH_take (i := 16) (oi := { dst := some 55, op := Op.load 38 (Operand.tmp 54), type := 38, pos := "ref.go:26", after := #[{ on := 15, ground := Ground.data }], guard := none }) (v := ?vq16) rfl (by kernel_rfl) (by kernel_rfl) (by kernel_rfl) (fun _ _ _ h => h) (Or.inl ⟨by rfl, ?hyq16⟩) (by assumption) ?rq16
        case hyq16 => (intro w hSw; (try dsimp only at hSw); go_simp; try (with_reducible rfl))
        try simp only [Act.put, List.setIfInBounds_toArray, List.set_cons_zero, List.set_cons_succ]
        refine wpAnyH_ready (rs := [0]) (by kernel_rfl) (by simp) ?_
        refine AllReadyH.cons (o := { dst := some 39, op := Op.load 59 (Operand.tmp 6), type := 59, pos := "ref.go:26", after := #[], guard := none }) rfl (fun K hK => ?_) AllReadyH.nil
        go_simp
        refine hK.out _ _ (HSv.out _ HD5.out.fr HD5.out.b) (fun hHeld => ?_)
        clear hK K
        try simp only [Act.put, List.setIfInBounds_toArray, List.set_cons_zero, List.set_cons_succ]
        refine wpAnyH_ready (rs := [17]) (by kernel_rfl) (by simp) ?_
        refine AllReadyH.cons (o := { dst := some 56, op := Op.call { callee := Callee.value (Operand.func 68), args := #[Operand.tmp 39, Operand.tmp 46, Operand.tmp 51, Operand.tmp 55], argTypes := #[59, 3, 3, 38] }, type := 59, pos := "ref.go:26", after := #[{ on := 0, ground := Ground.data }, { on := 7, ground := Ground.data }, { on := 12, ground := Ground.data }, { on := 16, ground := Ground.data }], guard := none }) rfl (fun K hK => ?_) AllReadyH.nil
        go_simp
        refine HSet.out.mono ?_
        rintro e' w6 ⟨gb6, c6, rfl, hrg6, hf6, hge6⟩
        have HQ6 := hid (HD5.out.put hf6 hrg6 hge6)
        have HB6 := hid (hB5.fr hf6 (fun h => h))
        have HW6 := hid (HD5.out.frd hf6)
        have HZ6 := hid ((HZ5.out.drew.fr hf6 (fun h => h)).fr ((((Fr.refl (At w.heap.size) w6).setAt 0 (.int .i64 10)).setAt 1 (.int .i64 10)).setAt 2 (.slice (some ⟨gb6, 0, none⟩) 100 c6)) (fun e => by have e' : w.heap.size + 1 + 1 = w.heap.size := e; omega))
        have f0 := HB6.out.frozen 0
        have f1 := HB6.out.frozen 1
        have f2 := HB6.out.frozen 2
        have i0 := HB6.out.cell 0 rfl
        have i1 := HB6.out.cell 1 rfl
        have i2 := HB6.out.cell 2 rfl
        have il := HB6.out.lt
        clear hHeld hf6 hrg6 hge6
        unfold gV
        go_wp2_with fail
        refine hK.out _ _ (HSv.out _ HW6.out.fr HW6.out.b) (fun hHeld => ?_)
        clear hK K
        try simp only [Act.put, List.setIfInBounds_toArray, List.set_cons_zero, List.set_cons_succ]
        refine wpAnyH_ready (rs := [18]) (by kernel_rfl) (by simp) ?_
        refine AllReadyH.cons (o := { dst := none, op := Op.store 59 (Operand.tmp 6) (Operand.tmp 56), type := 0, pos := "ref.go:26", after := #[{ on := 17, ground := Ground.data }, { on := 17, ground := Ground.chain }, { on := 0, ground := Ground.phase }, { on := 1, ground := Ground.phase }, { on := 2, ground := Ground.phase }, { on := 3, ground := Ground.phase }, { on := 4, ground := Ground.phase }, { on := 5, ground := Ground.phase }, { on := 6, ground := Ground.phase }, { on := 7, ground := Ground.phase }, { on := 8, ground := Ground.phase }, { on := 9, ground := Ground.phase }, { on := 10, ground := Ground.phase }, { on := 11, ground := Ground.phase }, { on := 12, ground := Ground.phase }, { on := 13, ground := Ground.phase }, { on := 14, ground := Ground.phase }, { on := 15, ground := Ground.phase }, { on := 16, ground := Ground.phase }, { on := 17, ground := Ground.phase }], guard := none }) rfl (fun K hK => ?_) AllReadyH.nil
        go_simp
        refine hK.out _ _ (HSv.out _ HQ6.out.fr HQ6.out.b) (fun hHeld => ?_)
        clear hK K
        try simp only [Act.put, List.setIfInBounds_toArray, List.set_cons_zero, List.set_cons_succ]
        refine wpAnyH_done (by kernel_rfl) ?_ _
        go_wp2
        go_roundw
        case rel => exact ⟨k + 1, by omega, by go_num, by rw [HN.out, List.length_append]; rfl, by rw [HN.out, putsG_snoc]; exact ⟨HQ6.out, HZ6.out⟩⟩
        case measure => simp [intOf]; omega
    · obtain rfl : k = l.length := by omega
      obtain ⟨gb5, c5, hB5, hR5, hN5⟩ := HR.out.1.g
      have HN5 := hid hN5
      clear hN5
      have m0 := hB5.cell 0 rfl
      have m1 := hB5.cell 1 rfl
      have m2 := hB5.cell 2 rfl
      have ml := hB5.lt
      have z0 := HR.out.2.cell 0 rfl
      have z1 := HR.out.2.cell 1 rfl
      have z2 := HR.out.2.cell 2 rfl
      have y0 := HR.out.2.frozen 0
      have y1 := HR.out.2.frozen 1
      have y2 := HR.out.2.frozen 2
      have zl := HR.out.2.lt
      have HR5 := hid hR5
      clear hR5
      go_wp2
      have hZF := ((HR.out.2.set 0 (.int .i64 10)).set 1 (.int .i64 10)).set 2 (.slice (some ⟨gb5, 0, none⟩) 100 c5)
      have r0 := hZF.cell 0 rfl
      have r1 := hZF.cell 1 rfl
      have r2 := hZF.cell 2 rfl
      have hs := (((Fr.refl (At (w.heap.size + 1 + 1)) wr).setAt 0 (.int .i64 10)).setAt 1 (.int .i64 10)).setAt 2 (.slice (some ⟨gb5, 0, none⟩) 100 c5)
      obtain ⟨rest, hv5⟩ := HR5.out.row
      refine bodyPost_ret (v := .tuple #[gV gb5 c5, .int .i64 (refC xs t x y l l.length).length]) (by simp [results, Try.results42, go_sem, r0, r1, r2, gV]) rfl ⟨gb5, c5, rfl, HR5.out.fr hs (fun e => absurd (blk_ty (show Blk wr (w.heap.size + 1 + 1) _ _ from e ▸ hv5.blk) HR.out.2) (by decide)), HR.out.1.fr.then_ hs (fun j e => .inr (by have e' : j = w.heap.size + 1 + 1 := e; omega)), HN5.out⟩
end Go.Proofs.Ytnengimekcnfhaa
