import Derived.Test.YtnengimekcnfhaaQ8
set_option linter.unusedSimpArgs false
set_option linter.unusedVariables false
set_option maxRecDepth 40000
namespace Go.Proofs.Ytnengimekcnfhaa
open Go.RowKit Go.Proofs.YtnengimekcnfhaaW.PrintWords
/-- What the document's Copy writes: of row V, the first X places; of the first Y rows. -/
def refKR (xs : List Wn) (t : Wn) (r : Rc) (x y : Int) (cs : List Cl) (V : Int) (X : Nat) : List Wr := (List.range X).flatMap fun (u : Nat) => if r.has u V ∧ Own xs t u V ∧ Own xs t (u - r.x + x) (V - r.y + y) then [⟨t.x + (u - r.x + x), t.y + (V - r.y + y), atG 10 10 cs (t.x + u) (t.y + V)⟩] else []
def refK (xs : List Wn) (t : Wn) (r : Rc) (x y : Int) (cs : List Cl) (Y : Nat) : List Wr := (List.range Y).flatMap fun (v : Nat) => refKR xs t r x y cs v t.w.toNat
def refKP (xs : List Wn) (t : Wn) (r : Rc) (x y : Int) (cs : List Cl) (Y X : Nat) : List Wr := refK xs t r x y cs Y ++ refKR xs t r x y cs Y X
section
variable {xs : List Wn} {t : Wn} {r : Rc} {x y : Int} {cs : List Cl}
theorem refKR_succ (V : Int) (X : Nat) : refKR xs t r x y cs V (X + 1) = refKR xs t r x y cs V X ++ (if r.has X V ∧ Own xs t X V ∧ Own xs t (X - r.x + x) (V - r.y + y) then [⟨t.x + (X - r.x + x), t.y + (V - r.y + y), atG 10 10 cs (t.x + X) (t.y + V)⟩] else []) := by
  unfold refKR
  rw [List.range_succ, List.flatMap_append]
  simp
theorem refK_succ (Y : Nat) : refK xs t r x y cs (Y + 1) = refK xs t r x y cs Y ++ refKR xs t r x y cs Y t.w.toNat := by
  unfold refK
  rw [List.range_succ, List.flatMap_append]
  simp
theorem refKR_len (V : Int) (X : Nat) : (refKR xs t r x y cs V X).length ≤ X := by
  induction X with
  | zero => simp [refKR]
  | succ k ih =>
    rw [refKR_succ, List.length_append]
    split <;> simp <;> omega
theorem refK_len (Y : Nat) : (refK xs t r x y cs Y).length ≤ Y * t.w.toNat := by
  induction Y with
  | zero => simp [refK]
  | succ k ih =>
    rw [refK_succ, List.length_append, Nat.add_mul]
    have := refKR_len (xs := xs) (t := t) (r := r) (x := x) (y := y) (cs := cs) k t.w.toNat
    omega
theorem refKP_miss (Y X : Nat) (h : ¬ (r.has X Y ∧ Own xs t X Y ∧ Own xs t (X - r.x + x) (Y - r.y + y))) : refKP xs t r x y cs Y (X + 1) = refKP xs t r x y cs Y X := by
  unfold refKP
  rw [refKR_succ, if_neg h, List.append_nil]
theorem refKP_hit (Y X : Nat) (h : r.has X Y ∧ Own xs t X Y ∧ Own xs t (X - r.x + x) (Y - r.y + y)) : refKP xs t r x y cs Y (X + 1) = refKP xs t r x y cs Y X ++ [⟨t.x + (X - r.x + x), t.y + (Y - r.y + y), atG 10 10 cs (t.x + X) (t.y + Y)⟩] := by
  unfold refKP
  rw [refKR_succ, if_pos h, List.append_assoc]
end
structure KQ (w W : World) (gb g9 : Nat) (t : Wn) (r : Rc) (cs0 cs : List Cl) : Prop where
  q : QS gb w W t cs
  r : Blk W (w.heap.size + 1 + 1) 23 r.cells
  z : Blk W (w.heap.size + 1 + 1 + 1) 59 [.int .i64 0, .int .i64 0, .slice none 0 0]
  was : Blk W (w.heap.size + 1 + 1 + 1 + 1) 59 [.int .i64 10, .int .i64 10, .slice (some ⟨gb, 0, none⟩) 100 g9]
  old : RG W gb g9 cs0
theorem KQ.frd {w W W' : World} {gb g9 : Nat} {t : Wn} {r : Rc} {cs0 cs : List Cl} (h : KQ w W gb g9 t r cs0 cs) (hf : Fr NoB W W') : KQ w W' gb g9 t r cs0 cs := ⟨h.q.frd hf, h.r.fr hf (fun h => h), h.z.fr hf (fun h => h), h.was.fr hf (fun h => h), h.old.frd hf⟩
theorem KQ.put {w W W' : World} {gb g9 : Nat} {t : Wn} {r : Rc} {cs0 cs cs' : List Cl} (h : KQ w W gb g9 t r cs0 cs) {g6 k : Nat} (hf : Fr NoB W W') (hr : RG W' g6 k cs') (hge : W.heap.size ≤ g6) :
    KQ w (((W'.setCell ⟨w.heap.size, 0, none⟩ (.int .i64 10)).setCell ⟨w.heap.size, 1, none⟩ (.int .i64 10)).setCell ⟨w.heap.size, 2, none⟩ (.slice (some ⟨g6, 0, none⟩) 100 k)) gb g9 t r cs0 cs' := by
  have hs : Fr (At w.heap.size) W' (((W'.setCell ⟨w.heap.size, 0, none⟩ (.int .i64 10)).setCell ⟨w.heap.size, 1, none⟩ (.int .i64 10)).setCell ⟨w.heap.size, 2, none⟩ (.slice (some ⟨g6, 0, none⟩) 100 k)) := (((Fr.refl _ _).setAt 0 _).setAt 1 _).setAt 2 _
  obtain ⟨gb0, c0, h1, _⟩ := h.q.g
  have h1' := h1.fr hf (fun h => h)
  have ho := h.old.frd hf
  obtain ⟨rest, hv⟩ := ho.row
  exact ⟨h.q.put hf hr hge, (h.r.fr hf (fun h => h)).fr hs (fun e => by have e' : w.heap.size + 1 + 1 = w.heap.size := e; omega), (h.z.fr hf (fun h => h)).fr hs (fun e => by have e' : w.heap.size + 1 + 1 + 1 = w.heap.size := e; omega), (h.was.fr hf (fun h => h)).fr hs (fun e => by have e' : w.heap.size + 1 + 1 + 1 + 1 = w.heap.size := e; omega), ho.fr hs (fun e => absurd (blk_ty (show Blk W' w.heap.size _ _ from e ▸ hv.blk) h1') (by decide))⟩
set_option maxHeartbeats 16000000 in
theorem r13Copy_in (w : World) (gb g9 : Nat) (cs : List Cl) (v : Value) (xs : List Wn) (t : Wn) (r : Rc) (x y : Int) (hg : RG w gb g9 cs) (hV : WnS w v xs) (hl : xs.length ≤ 4096) (hF : ∀ q ∈ xs, FitsIn 10 10 q.r) (ht : FitsIn 10 10 t.r) (hr : r.Right) (hx : Near x) (hy : Near y) :
    Calls Try.prog 44 #[gV gb g9, v, t.v, r.v, .int .i64 x, .int .i64 y] w fun e w' => ∃ gb' c', e = .returned (.tuple #[gV gb' c', .int .i64 (refK xs t r x y cs t.h.toNat).length]) ∧ RG w' gb' c' (putsG 10 cs (refK xs t r x y cs t.h.toNat)) ∧ Fr NoB w w' ∧ (gb' = gb ∨ w.heap.size ≤ gb') := by
  have HTF := hid ht
  obtain ⟨g1, g2, g3, g4, g5, g6, g7⟩ : t.r.Right ∧ 0 < t.w ∧ 0 < t.h ∧ 0 ≤ t.x ∧ 0 ≤ t.y ∧ t.x + t.w ≤ 10 ∧ t.y + t.h ≤ 10 := ht
  obtain ⟨tw, htw⟩ : ∃ n : Nat, t.w = n := ⟨t.w.toNat, by omega⟩
  obtain ⟨th, hth⟩ : ∃ n : Nat, t.h = n := ⟨t.h.toNat, by omega⟩
  have e1 : t.w.toNat = tw := by omega
  have e2 : t.h.toNat = th := by omega
  have HR4 := fun w9 => hid (r4Right_any w9 r)
  rw [show decide r.Right = true from decide_eq_true hr] at HR4
  have HNx := fun w9 => hid (r13far_any w9 x)
  have HNy := fun w9 => hid (r13far_any w9 y)
  rw [show decide (Near x) = true from decide_eq_true hx] at HNx
  rw [show decide (Near y) = true from decide_eq_true hy] at HNy
  have HRX := hid (And.intro hr.x hr.y)
  obtain ⟨q1, q2⟩ : Near r.x := hr.x
  obtain ⟨q3, q4⟩ : Near r.y := hr.y
  obtain ⟨q5, q6⟩ : Near x := hx
  obtain ⟨q7, q8⟩ : Near y := hy
  have hf0 : Fr NoB w (((((w.alloc (.cells #[.int .i64 10, .int .i64 10, .slice (some ⟨gb, 0, none⟩) 100 g9] 59)).alloc (.cells #[.int .i64 t.id, .int .i64 t.env, .int .i64 t.x, .int .i64 t.y, .int .i64 t.w, .int .i64 t.h, .bool t.hid] 73)).alloc (.cells #[.int .i64 r.x, .int .i64 r.y, .int .i64 r.w, .int .i64 r.h] 23)).alloc (.cells #[.int .i64 0, .int .i64 0, .slice none 0 0] 59)).alloc (.cells #[.int .i64 10, .int .i64 10, .slice (some ⟨gb, 0, none⟩) 100 g9] 59)) := (((((Fr.refl _ _).alloc _).alloc _).alloc _).alloc _).alloc _
  have a1 := (((Blk.new (w.alloc (.cells #[.int .i64 10, .int .i64 10, .slice (some ⟨gb, 0, none⟩) 100 g9] 59)) 73 t.cells).alloc (.cells #[.int .i64 r.x, .int .i64 r.y, .int .i64 r.w, .int .i64 r.h] 23)).alloc (.cells #[.int .i64 0, .int .i64 0, .slice none 0 0] 59)).alloc (.cells #[.int .i64 10, .int .i64 10, .slice (some ⟨gb, 0, none⟩) 100 g9] 59)
  have a2 := ((Blk.new ((w.alloc (.cells #[.int .i64 10, .int .i64 10, .slice (some ⟨gb, 0, none⟩) 100 g9] 59)).alloc (.cells #[.int .i64 t.id, .int .i64 t.env, .int .i64 t.x, .int .i64 t.y, .int .i64 t.w, .int .i64 t.h, .bool t.hid] 73)) 23 r.cells).alloc (.cells #[.int .i64 0, .int .i64 0, .slice none 0 0] 59)).alloc (.cells #[.int .i64 10, .int .i64 10, .slice (some ⟨gb, 0, none⟩) 100 g9] 59)
  have a3 := (Blk.new (((w.alloc (.cells #[.int .i64 10, .int .i64 10, .slice (some ⟨gb, 0, none⟩) 100 g9] 59)).alloc (.cells #[.int .i64 t.id, .int .i64 t.env, .int .i64 t.x, .int .i64 t.y, .int .i64 t.w, .int .i64 t.h, .bool t.hid] 73)).alloc (.cells #[.int .i64 r.x, .int .i64 r.y, .int .i64 r.w, .int .i64 r.h] 23)) 59 [.int .i64 0, .int .i64 0, .slice none 0 0]).alloc (.cells #[.int .i64 10, .int .i64 10, .slice (some ⟨gb, 0, none⟩) 100 g9] 59)
  have a4 := Blk.new ((((w.alloc (.cells #[.int .i64 10, .int .i64 10, .slice (some ⟨gb, 0, none⟩) 100 g9] 59)).alloc (.cells #[.int .i64 t.id, .int .i64 t.env, .int .i64 t.x, .int .i64 t.y, .int .i64 t.w, .int .i64 t.h, .bool t.hid] 73)).alloc (.cells #[.int .i64 r.x, .int .i64 r.y, .int .i64 r.w, .int .i64 r.h] 23)).alloc (.cells #[.int .i64 0, .int .i64 0, .slice none 0 0] 59)) 59 [.int .i64 10, .int .i64 10, .slice (some ⟨gb, 0, none⟩) 100 g9]
  simp only [World.size_alloc] at a1 a2 a3 a4
  have HQ0 := hid (show KQ w _ gb g9 t r cs cs from ⟨⟨⟨gb, g9, ((((Blk.new w 59 [.int .i64 10, .int .i64 10, .slice (some ⟨gb, 0, none⟩) 100 g9]).alloc (.cells #[.int .i64 t.id, .int .i64 t.env, .int .i64 t.x, .int .i64 t.y, .int .i64 t.w, .int .i64 t.h, .bool t.hid] 73)).alloc (.cells #[.int .i64 r.x, .int .i64 r.y, .int .i64 r.w, .int .i64 r.h] 23)).alloc (.cells #[.int .i64 0, .int .i64 0, .slice none 0 0] 59)).alloc (.cells #[.int .i64 10, .int .i64 10, .slice (some ⟨gb, 0, none⟩) 100 g9] 59), hg.frd hf0, .inl rfl⟩, a1, hf0⟩, a2, a3, a4, hg.frd hf0⟩)
  have HV := hid hV
  have HFI := hid hF
  obtain ⟨A9, c9, hv, _, _⟩ := hV.shape
  subst hv
  rw [e2]
  have E1 := hid e1
  have HTW := hid htw
  have HTH := hid hth
  have HLF := hid (refK_len (xs := xs) (t := t) (r := r) (x := x) (y := y) (cs := cs))
  clear hf0 a1 a2 a3 a4 hg hV hF g1 hr e2 e1 htw hth
  unfold gV Wn.v Rc.v
  unfold Rc.v at HR4
  go_enter Try.func44, Try.ntmps44
  go_wp2
  go_loopw [14, 16] (fun v14 v16 wr => ∃ Y : Nat, Y ≤ th ∧ v16 = .int .i64 Y ∧ v14 = .int .i64 (refK xs t r x y cs Y).length ∧ Hid (KQ w wr gb g9 t r cs (putsG 10 cs (refK xs t r x y cs Y)))) (fun _ v16 _ => th - (intOf v16).toNat)
  case atStart => exact ⟨0, Nat.zero_le _, rfl, rfl, HQ0.out⟩
  case round =>
    obtain ⟨Y, hY, rfl, rfl, HQ⟩ := hrel
    have b0 := HQ.out.q.b.cell 0 rfl
    have b1 := HQ.out.q.b.cell 1 rfl
    have b2 := HQ.out.q.b.cell 2 rfl
    have b3 := HQ.out.q.b.cell 3 rfl
    have b4 := HQ.out.q.b.cell 4 rfl
    have b5 := HQ.out.q.b.cell 5 rfl
    have b6 := HQ.out.q.b.cell 6 rfl
    have bl := HQ.out.q.b.lt
    have r0 := HQ.out.r.cell 0 rfl
    have r1 := HQ.out.r.cell 1 rfl
    have r2 := HQ.out.r.cell 2 rfl
    have r3 := HQ.out.r.cell 3 rfl
    have rl := HQ.out.r.lt
    by_cases hYm : Y < th
    · have hYw : (Y : Int) < t.h := by have := HTH.out; omega
      go_wp2_with fail
      refine (HR4 _).out.mono ?_
      rintro e' w2 ⟨rfl, hf2⟩
      have HQ := hid (HQ.out.frd hf2)
      clear hf2
      clear b0 b1 b2 b3 b4 b5 b6 bl r0 r1 r2 r3 rl
      have b0 := HQ.out.q.b.cell 0 rfl
      have b1 := HQ.out.q.b.cell 1 rfl
      have b2 := HQ.out.q.b.cell 2 rfl
      have b3 := HQ.out.q.b.cell 3 rfl
      have b4 := HQ.out.q.b.cell 4 rfl
      have b5 := HQ.out.q.b.cell 5 rfl
      have b6 := HQ.out.q.b.cell 6 rfl
      have bl := HQ.out.q.b.lt
      have r0 := HQ.out.r.cell 0 rfl
      have r1 := HQ.out.r.cell 1 rfl
      have r2 := HQ.out.r.cell 2 rfl
      have r3 := HQ.out.r.cell 3 rfl
      have rl := HQ.out.r.lt
      go_wp2_with (first | (go_at_call 66; first | (refine (HNx _).out.mono ?_; rintro e' w' ⟨rfl, rfl⟩) | (refine (HNy _).out.mono ?_; rintro e' w' ⟨rfl, rfl⟩)) | fail)
      go_loopw [14, 17] (fun v14 v17 wr => ∃ X : Nat, X ≤ tw ∧ v17 = .int .i64 X ∧ v14 = .int .i64 (refKP xs t r x y cs Y X).length ∧ Hid (KQ w wr gb g9 t r cs (putsG 10 cs (refKP xs t r x y cs Y X)))) (fun _ v17 _ => tw - (intOf v17).toNat)
      case atStart => exact ⟨0, Nat.zero_le _, rfl, by rw [show refKP xs t r x y cs Y 0 = refK xs t r x y cs Y from List.append_nil _], by rw [show refKP xs t r x y cs Y 0 = refK xs t r x y cs Y from List.append_nil _]; exact HQ.out⟩
      case round =>
        obtain ⟨X, hX, rfl, rfl, HQ⟩ := hrel
        clear b0 b1 b2 b3 b4 b5 b6 bl r0 r1 r2 r3 rl
        have b0 := HQ.out.q.b.cell 0 rfl
        have b1 := HQ.out.q.b.cell 1 rfl
        have b2 := HQ.out.q.b.cell 2 rfl
        have b3 := HQ.out.q.b.cell 3 rfl
        have b4 := HQ.out.q.b.cell 4 rfl
        have b5 := HQ.out.q.b.cell 5 rfl
        have b6 := HQ.out.q.b.cell 6 rfl
        have bl := HQ.out.q.b.lt
        have r0 := HQ.out.r.cell 0 rfl
        have r1 := HQ.out.r.cell 1 rfl
        have r2 := HQ.out.r.cell 2 rfl
        have r3 := HQ.out.r.cell 3 rfl
        have rl := HQ.out.r.lt
        by_cases hXm : X < tw
        · have hXw : (X : Int) < t.w := by have := HTW.out; omega
          have m1 : IntKind.i64.wrap ((X : Int) - r.x) = X - r.x := IntWalk.i64_in _ (by omega)
          have m2 : IntKind.i64.wrap ((X : Int) - r.x + x) = X - r.x + x := IntWalk.i64_in _ (by omega)
          have m3 : IntKind.i64.wrap ((Y : Int) - r.y) = Y - r.y := IntWalk.i64_in _ (by omega)
          have m4 : IntKind.i64.wrap ((Y : Int) - r.y + y) = Y - r.y + y := IntWalk.i64_in _ (by omega)
          go_wp2_with fail
          refine wp_region_held_drew (S := (fun W : World => W.cell? ⟨w.heap.size + 1 + 1, 0, none⟩ = some (.int .i64 r.x) ∧ W.cell? ⟨w.heap.size + 1 + 1, 1, none⟩ = some (.int .i64 r.y))) (by kernel_rfl) (⟨HQ.out.r.cell 0 rfl, HQ.out.r.cell 1 rfl⟩) (fun hHeld => ?_)
          refine wpAnyH_take (i := 0) (oi := { dst := some 49, op := Op.move (Operand.tmp 17), type := 3, pos := "ref.go:53", after := #[], guard := none }) (v := ?vka1) rfl (by kernel_rfl) (by kernel_rfl) (by kernel_rfl) (fun _ _ _ h => h) (Or.inl ⟨by rfl, ?hyka1⟩) (by assumption) ?rka1
          case hyka1 => (intro w hSw; (try dsimp only at hSw); go_simp; try (with_reducible rfl))
          try simp only [Act.put, sI, sZ, sS]
          refine wpAnyH_take (i := 1) (oi := { dst := some 50, op := Op.fieldAddr 23 (Operand.tmp 9) 0, type := 0, pos := "ref.go:53", after := #[], guard := none }) (v := ?vka2) rfl (by kernel_rfl) (by kernel_rfl) (by kernel_rfl) (fun _ _ _ h => h) (Or.inl ⟨by rfl, ?hyka2⟩) (by assumption) ?rka2
          case hyka2 => (intro w hSw; (try dsimp only at hSw); go_simp; try (with_reducible rfl))
          try simp only [Act.put, sI, sZ, sS]
          refine wpAnyH_take (i := 2) (oi := { dst := some 51, op := Op.load 3 (Operand.tmp 50), type := 3, pos := "ref.go:53", after := #[{ on := 1, ground := Ground.data }], guard := none }) (v := ?vka3) rfl (by kernel_rfl) (by kernel_rfl) (by kernel_rfl) (fun _ _ _ h => h) (Or.inl ⟨by rfl, ?hyka3⟩) (by assumption) ?rka3
          case hyka3 => (intro w hSw; (try dsimp only at hSw); go_simp; try (with_reducible rfl))
          try simp only [Act.put, sI, sZ, sS]
          refine wpAnyH_take (i := 3) (oi := { dst := some 52, op := Op.binOp BinOp.sub 3 (Operand.tmp 49) (Operand.tmp 51) 3, type := 3, pos := "ref.go:53", after := #[{ on := 0, ground := Ground.data }, { on := 2, ground := Ground.data }], guard := none }) (v := ?vka4) rfl (by kernel_rfl) (by kernel_rfl) (by kernel_rfl) (fun _ _ _ h => h) (Or.inl ⟨by rfl, ?hyka4⟩) (by assumption) ?rka4
          case hyka4 => (intro w hSw; (try dsimp only at hSw); go_simp; try (with_reducible rfl))
          try simp only [Act.put, sI, sZ, sS]
          refine wpAnyH_take (i := 4) (oi := { dst := some 53, op := Op.move (Operand.tmp 4), type := 3, pos := "ref.go:53", after := #[], guard := none }) (v := ?vka5) rfl (by kernel_rfl) (by kernel_rfl) (by kernel_rfl) (fun _ _ _ h => h) (Or.inl ⟨by rfl, ?hyka5⟩) (by assumption) ?rka5
          case hyka5 => (intro w hSw; (try dsimp only at hSw); go_simp; try (with_reducible rfl))
          try simp only [Act.put, sI, sZ, sS]
          refine wpAnyH_take (i := 5) (oi := { dst := some 54, op := Op.binOp BinOp.add 3 (Operand.tmp 52) (Operand.tmp 53) 3, type := 3, pos := "ref.go:53", after := #[{ on := 3, ground := Ground.data }, { on := 4, ground := Ground.data }], guard := none }) (v := ?vka6) rfl (by kernel_rfl) (by kernel_rfl) (by kernel_rfl) (fun _ _ _ h => h) (Or.inl ⟨by rfl, ?hyka6⟩) (by assumption) ?rka6
          case hyka6 => (intro w hSw; (try dsimp only at hSw); go_simp; try (with_reducible rfl))
          try simp only [Act.put, sI, sZ, sS]
          refine wpAnyH_take (i := 6) (oi := { dst := some 55, op := Op.move (Operand.tmp 16), type := 3, pos := "ref.go:53", after := #[{ on := 12, ground := Ground.gcOnly Departure.lateStores }], guard := none }) (v := ?vka7) rfl (by kernel_rfl) (by kernel_rfl) (by kernel_rfl) (fun _ _ _ h => h) (Or.inl ⟨by rfl, ?hyka7⟩) (by assumption) ?rka7
          case hyka7 => (intro w hSw; (try dsimp only at hSw); go_simp; try (with_reducible rfl))
          try simp only [Act.put, sI, sZ, sS]
          refine wpAnyH_take (i := 7) (oi := { dst := some 56, op := Op.fieldAddr 23 (Operand.tmp 9) 1, type := 0, pos := "ref.go:53", after := #[{ on := 12, ground := Ground.gcOnly Departure.lateStores }], guard := none }) (v := ?vka8) rfl (by kernel_rfl) (by kernel_rfl) (by kernel_rfl) (fun _ _ _ h => h) (Or.inl ⟨by rfl, ?hyka8⟩) (by assumption) ?rka8
          case hyka8 => (intro w hSw; (try dsimp only at hSw); go_simp; try (with_reducible rfl))
          try simp only [Act.put, sI, sZ, sS]
          refine wpAnyH_take (i := 8) (oi := { dst := some 57, op := Op.load 3 (Operand.tmp 56), type := 3, pos := "ref.go:53", after := #[{ on := 7, ground := Ground.data }, { on := 12, ground := Ground.gcOnly Departure.lateStores }], guard := none }) (v := ?vka9) rfl (by kernel_rfl) (by kernel_rfl) (by kernel_rfl) (fun _ _ _ h => h) (Or.inl ⟨by rfl, ?hyka9⟩) (by assumption) ?rka9
          case hyka9 => (intro w hSw; (try dsimp only at hSw); go_simp; try (with_reducible rfl))
          try simp only [Act.put, sI, sZ, sS]
          refine wpAnyH_take (i := 9) (oi := { dst := some 58, op := Op.binOp BinOp.sub 3 (Operand.tmp 55) (Operand.tmp 57) 3, type := 3, pos := "ref.go:53", after := #[{ on := 6, ground := Ground.data }, { on := 8, ground := Ground.data }, { on := 12, ground := Ground.gcOnly Departure.lateStores }], guard := none }) (v := ?vka10) rfl (by kernel_rfl) (by kernel_rfl) (by kernel_rfl) (fun _ _ _ h => h) (Or.inl ⟨by rfl, ?hyka10⟩) (by assumption) ?rka10
          case hyka10 => (intro w hSw; (try dsimp only at hSw); go_simp; try (with_reducible rfl))
          try simp only [Act.put, sI, sZ, sS]
          refine wpAnyH_take (i := 10) (oi := { dst := some 59, op := Op.move (Operand.tmp 5), type := 3, pos := "ref.go:53", after := #[{ on := 12, ground := Ground.gcOnly Departure.lateStores }], guard := none }) (v := ?vka11) rfl (by kernel_rfl) (by kernel_rfl) (by kernel_rfl) (fun _ _ _ h => h) (Or.inl ⟨by rfl, ?hyka11⟩) (by assumption) ?rka11
          case hyka11 => (intro w hSw; (try dsimp only at hSw); go_simp; try (with_reducible rfl))
          try simp only [Act.put, sI, sZ, sS]
          refine wpAnyH_take (i := 11) (oi := { dst := some 60, op := Op.binOp BinOp.add 3 (Operand.tmp 58) (Operand.tmp 59) 3, type := 3, pos := "ref.go:53", after := #[{ on := 9, ground := Ground.data }, { on := 10, ground := Ground.data }, { on := 12, ground := Ground.gcOnly Departure.lateStores }], guard := none }) (v := ?vka12) rfl (by kernel_rfl) (by kernel_rfl) (by kernel_rfl) (fun _ _ _ h => h) (Or.inl ⟨by rfl, ?hyka12⟩) (by assumption) ?rka12
          case hyka12 => (intro w hSw; (try dsimp only at hSw); go_simp; try (with_reducible rfl))
          try simp only [Act.put, sI, sZ, sS]
          refine wpAnyH_take (i := 12) (oi := { dst := some 18, op := Op.assign (Operand.tmp 54), type := 3, pos := "ref.go:53", after := #[{ on := 5, ground := Ground.data }, { on := 0, ground := Ground.phase }, { on := 1, ground := Ground.phase }, { on := 2, ground := Ground.phase }, { on := 3, ground := Ground.phase }, { on := 4, ground := Ground.phase }, { on := 5, ground := Ground.phase }, { on := 6, ground := Ground.textOnly Departure.lateStores }, { on := 7, ground := Ground.textOnly Departure.lateStores }, { on := 8, ground := Ground.textOnly Departure.lateStores }, { on := 9, ground := Ground.textOnly Departure.lateStores }, { on := 10, ground := Ground.textOnly Departure.lateStores }, { on := 11, ground := Ground.textOnly Departure.lateStores }], guard := none }) (v := ?vka13) rfl (by kernel_rfl) (by kernel_rfl) (by kernel_rfl) (fun _ _ _ h => h) (Or.inl ⟨by rfl, ?hyka13⟩) (by assumption) ?rka13
          case hyka13 => (intro w hSw; (try dsimp only at hSw); go_simp; try (with_reducible rfl))
          try simp only [Act.put, sI, sZ, sS]
          refine wpAnyH_take (i := 13) (oi := { dst := some 19, op := Op.assign (Operand.tmp 60), type := 3, pos := "ref.go:53", after := #[{ on := 11, ground := Ground.data }, { on := 12, ground := Ground.chain }, { on := 0, ground := Ground.phase }, { on := 1, ground := Ground.phase }, { on := 2, ground := Ground.phase }, { on := 3, ground := Ground.phase }, { on := 4, ground := Ground.phase }, { on := 5, ground := Ground.phase }, { on := 6, ground := Ground.phase }, { on := 7, ground := Ground.phase }, { on := 8, ground := Ground.phase }, { on := 9, ground := Ground.phase }, { on := 10, ground := Ground.phase }, { on := 11, ground := Ground.phase }, { on := 12, ground := Ground.phase }], guard := none }) (v := ?vka14) rfl (by kernel_rfl) (by kernel_rfl) (by kernel_rfl) (fun _ _ _ h => h) (Or.inl ⟨by rfl, ?hyka14⟩) (by assumption) ?rka14
          case hyka14 => (intro w hSw; (try dsimp only at hSw); go_simp; try (with_reducible rfl))
          try simp only [Act.put, sI, sZ, sS]
          refine wpAnyH_done (by kernel_rfl) ?_ _
          clear hHeld
          have HQ := hid (HQ.out.frd (Fr.drew (Fr.refl NoB _)))
          clear b0 b1 b2 b3 b4 b5 b6 bl r0 r1 r2 r3 rl
          have b0 := HQ.out.q.b.cell 0 rfl
          have b1 := HQ.out.q.b.cell 1 rfl
          have b2 := HQ.out.q.b.cell 2 rfl
          have b3 := HQ.out.q.b.cell 3 rfl
          have b4 := HQ.out.q.b.cell 4 rfl
          have b5 := HQ.out.q.b.cell 5 rfl
          have b6 := HQ.out.q.b.cell 6 rfl
          have bl := HQ.out.q.b.lt
          have r0 := HQ.out.r.cell 0 rfl
          have r1 := HQ.out.r.cell 1 rfl
          have r2 := HQ.out.r.cell 2 rfl
          have r3 := HQ.out.r.cell 3 rfl
          have rl := HQ.out.r.lt
          go_wp2_with fail
          refine (r4In_any _ r X Y HRX.out.1 HRX.out.2 (by omega) (by omega)).mono ?_
          rintro e' w3 ⟨rfl, hf3⟩
          have HQ := hid (HQ.out.frd hf3)
          clear hf3
          clear b0 b1 b2 b3 b4 b5 b6 bl r0 r1 r2 r3 rl
          have b0 := HQ.out.q.b.cell 0 rfl
          have b1 := HQ.out.q.b.cell 1 rfl
          have b2 := HQ.out.q.b.cell 2 rfl
          have b3 := HQ.out.q.b.cell 3 rfl
          have b4 := HQ.out.q.b.cell 4 rfl
          have b5 := HQ.out.q.b.cell 5 rfl
          have b6 := HQ.out.q.b.cell 6 rfl
          have bl := HQ.out.q.b.lt
          have r0 := HQ.out.r.cell 0 rfl
          have r1 := HQ.out.r.cell 1 rfl
          have r2 := HQ.out.r.cell 2 rfl
          have r3 := HQ.out.r.cell 3 rfl
          have rl := HQ.out.r.lt
          have k5 : IntKind.i64.wrap (((refKP xs t r x y cs Y X).length : Int) + 1) = ((refKP xs t r x y cs Y X).length : Int) + 1 := IntWalk.i64_in _ (by
            have h1 := HLF.out Y
            have h2 := refKR_len (xs := xs) (t := t) (r := r) (x := x) (y := y) (cs := cs) Y X
            have h3 : Y * t.w.toNat ≤ 10 * 10 := Nat.mul_le_mul (by omega) (by omega)
            unfold refKP
            rw [List.length_append]
            omega)
          cases hi : decide (r.has X Y)
          · have HN := hid (refKP_miss (xs := xs) (t := t) (r := r) (x := x) (y := y) (cs := cs) Y X (fun h => (of_decide_eq_false hi) h.1))
            go_wp2
            go_roundw
            case rel => exact ⟨X + 1, by omega, by go_num, by rw [HN.out], by rw [HN.out]; exact HQ.out⟩
            case measure => simp [intOf]; omega
          · have HI := hid (of_decide_eq_true hi)
            clear hi
            go_wp2_with fail
            refine (r13own_any _ _ xs t X Y (HV.out.fr HQ.out.q.fr (fun _ _ h => h)) hl HFI.out HTF.out).mono ?_
            rintro e' w4 ⟨rfl, hf4⟩
            have HQ := hid (HQ.out.frd hf4)
            clear hf4
            clear b0 b1 b2 b3 b4 b5 b6 bl r0 r1 r2 r3 rl
            have b0 := HQ.out.q.b.cell 0 rfl
            have b1 := HQ.out.q.b.cell 1 rfl
            have b2 := HQ.out.q.b.cell 2 rfl
            have b3 := HQ.out.q.b.cell 3 rfl
            have b4 := HQ.out.q.b.cell 4 rfl
            have b5 := HQ.out.q.b.cell 5 rfl
            have b6 := HQ.out.q.b.cell 6 rfl
            have bl := HQ.out.q.b.lt
            have r0 := HQ.out.r.cell 0 rfl
            have r1 := HQ.out.r.cell 1 rfl
            have r2 := HQ.out.r.cell 2 rfl
            have r3 := HQ.out.r.cell 3 rfl
            have rl := HQ.out.r.lt
            cases ho : decide (Own xs t X Y)
            · have HN := hid (refKP_miss (xs := xs) (t := t) (r := r) (x := x) (y := y) (cs := cs) Y X (fun h => (of_decide_eq_false ho) h.2.1))
              go_wp2
              go_roundw
              case rel => exact ⟨X + 1, by omega, by go_num, by rw [HN.out], by rw [HN.out]; exact HQ.out⟩
              case measure => simp [intOf]; omega
            · have HO := hid (of_decide_eq_true ho)
              clear ho
              go_wp2_with fail
              refine (r13own_any _ _ xs t (X - r.x + x) (Y - r.y + y) (HV.out.fr HQ.out.q.fr (fun _ _ h => h)) hl HFI.out HTF.out).mono ?_
              rintro e' w5 ⟨rfl, hf5⟩
              have HQ := hid (HQ.out.frd hf5)
              clear hf5
              clear b0 b1 b2 b3 b4 b5 b6 bl r0 r1 r2 r3 rl
              have b0 := HQ.out.q.b.cell 0 rfl
              have b1 := HQ.out.q.b.cell 1 rfl
              have b2 := HQ.out.q.b.cell 2 rfl
              have b3 := HQ.out.q.b.cell 3 rfl
              have b4 := HQ.out.q.b.cell 4 rfl
              have b5 := HQ.out.q.b.cell 5 rfl
              have b6 := HQ.out.q.b.cell 6 rfl
              have bl := HQ.out.q.b.lt
              have r0 := HQ.out.r.cell 0 rfl
              have r1 := HQ.out.r.cell 1 rfl
              have r2 := HQ.out.r.cell 2 rfl
              have r3 := HQ.out.r.cell 3 rfl
              have rl := HQ.out.r.lt
              cases hp : decide (Own xs t (X - r.x + x) (Y - r.y + y))
              · have HN := hid (refKP_miss (xs := xs) (t := t) (r := r) (x := x) (y := y) (cs := cs) Y X (fun h => (of_decide_eq_false hp) h.2.2))
                go_wp2
                go_roundw
                case rel => exact ⟨X + 1, by omega, by go_num, by rw [HN.out], by rw [HN.out]; exact HQ.out⟩
                case measure => simp [intOf]; omega
              · have HP := hid (of_decide_eq_true hp)
                have HN := hid (refKP_hit (xs := xs) (t := t) (r := r) (x := x) (y := y) (cs := cs) Y X ⟨HI.out, HO.out, of_decide_eq_true hp⟩)
                clear hp
                have HD5 := hid (HQ.out.frd (Fr.drew (Fr.refl NoB w5)))
                have HSv : Hid (∀ W, Blk W (w.heap.size + 1) 73 t.cells → Blk W (w.heap.size + 1 + 1 + 1 + 1) 59 [.int .i64 10, .int .i64 10, .slice (some ⟨gb, 0, none⟩) 100 g9] → W.cell? ⟨w.heap.size + 1, 2, none⟩ = some (.int .i64 t.x) ∧ W.cell? ⟨w.heap.size + 1, 3, none⟩ = some (.int .i64 t.y) ∧ W.cell? ⟨w.heap.size + 1 + 1 + 1 + 1, 0, none⟩ = some (.int .i64 10) ∧ W.cell? ⟨w.heap.size + 1 + 1 + 1 + 1, 1, none⟩ = some (.int .i64 10) ∧ W.cell? ⟨w.heap.size + 1 + 1 + 1 + 1, 2, none⟩ = some (.slice (some ⟨gb, 0, none⟩) 100 g9)) := hid fun W h1 h2 => ⟨h1.cell 2 rfl, h1.cell 3 rfl, h2.cell 0 rfl, h2.cell 1 rfl, h2.cell 2 rfl⟩
                have HFW := hid (Fr.drew (Fr.refl NoB w5))
                obtain ⟨gb5, c5, hB5, hR5, _⟩ := HQ.out.q.g
                obtain ⟨o1, o2, o3, o4, _⟩ := HO.out
                obtain ⟨p1, p2, p3, p4, _⟩ := HP.out
                have HAt : Hid (∀ W, Fr NoB w5 W → Calls Try.prog 70 #[gV gb g9, .int .i64 (t.x + X), .int .i64 (t.y + Y)] W fun e w' => e = .returned (atG 10 10 cs (t.x + X) (t.y + Y)).v ∧ Fr NoB W w') := hid fun W hW => by
                  obtain ⟨pn, hpn⟩ : ∃ n : Nat, t.x + X = n := ⟨(t.x + X).toNat, by omega⟩
                  obtain ⟨qn, hqn⟩ : ∃ n : Nat, t.y + Y = n := ⟨(t.y + Y).toNat, by omega⟩
                  rw [hpn, hqn]
                  exact r6At_in W gb g9 cs pn qn (HQ.out.old.frd hW) (by omega) (by omega)
                generalize atG 10 10 cs (t.x + X) (t.y + Y) = c at HAt HN
                have HSet : Hid (∀ W, Fr NoB w5 W → Calls Try.prog 68 #[gV gb5 c5, .int .i64 (t.x + (X - r.x + x)), .int .i64 (t.y + (Y - r.y + y)), c.v] W (RGto (setG 10 (putsG 10 cs (refKP xs t r x y cs Y X)) (t.x + (X - r.x + x)) (t.y + (Y - r.y + y)) c) W)) := hid fun W hW => by
                  obtain ⟨pn, hpn⟩ : ∃ n : Nat, t.x + (X - r.x + x) = n := ⟨(t.x + (X - r.x + x)).toNat, by omega⟩
                  obtain ⟨qn, hqn⟩ : ∃ n : Nat, t.y + (Y - r.y + y) = n := ⟨(t.y + (Y - r.y + y)).toNat, by omega⟩
                  rw [hpn, hqn]
                  exact r6Set_in W gb5 c5 _ pn qn c (hR5.frd hW) (by omega) (by omega)
                have k6 : IntKind.i64.wrap (t.x + ((X : Int) - r.x + x)) = t.x + (X - r.x + x) := IntWalk.i64_in _ (by omega)
                have k7 : IntKind.i64.wrap (t.y + ((Y : Int) - r.y + y)) = t.y + (Y - r.y + y) := IntWalk.i64_in _ (by omega)
                have k8 : IntKind.i64.wrap (t.x + X) = t.x + X := IntWalk.i64_in _ (by omega)
                have k9 : IntKind.i64.wrap (t.y + Y) = t.y + Y := IntWalk.i64_in _ (by omega)
                have m0 := hB5.cell 0 rfl
                have m1 := hB5.cell 1 rfl
                have m2 := hB5.cell 2 rfl
                have ml := hB5.lt
                unfold gV Cl.v at HAt HSet
                clear hR5 o1 o2 o3 o4 p1 p2 p3 p4
                go_wp2_with fail
                refine wp_region_held_drew (S := (fun W : World => W.cell? ⟨w.heap.size + 1, 2, none⟩ = some (.int .i64 t.x) ∧ W.cell? ⟨w.heap.size + 1, 3, none⟩ = some (.int .i64 t.y) ∧ W.cell? ⟨w.heap.size + 1 + 1 + 1 + 1, 0, none⟩ = some (.int .i64 10) ∧ W.cell? ⟨w.heap.size + 1 + 1 + 1 + 1, 1, none⟩ = some (.int .i64 10) ∧ W.cell? ⟨w.heap.size + 1 + 1 + 1 + 1, 2, none⟩ = some (.slice (some ⟨gb, 0, none⟩) 100 g9))) (by kernel_rfl) (HSv.out _ HD5.out.q.b HD5.out.was) (fun hHeld => ?_)
                refine wpAnyH_take (i := 1) (oi := { dst := some 80, op := Op.fieldAddr 73 (Operand.tmp 8) 2, type := 0, pos := "ref.go:55", after := #[], guard := none }) (v := ?vkb1) rfl (by kernel_rfl) (by kernel_rfl) (by kernel_rfl) (fun _ _ _ h => h) (Or.inl ⟨by rfl, ?hykb1⟩) (by assumption) ?rkb1
                case hykb1 => (intro w hSw; (try dsimp only at hSw); go_simp; try (with_reducible rfl))
                try simp only [Act.put, sI, sZ, sS]
                refine wpAnyH_take (i := 2) (oi := { dst := some 81, op := Op.fieldAddr 23 (Operand.tmp 80) 0, type := 0, pos := "ref.go:55", after := #[{ on := 1, ground := Ground.data }], guard := none }) (v := ?vkb2) rfl (by kernel_rfl) (by kernel_rfl) (by kernel_rfl) (fun _ _ _ h => h) (Or.inl ⟨by rfl, ?hykb2⟩) (by assumption) ?rkb2
                case hykb2 => (intro w hSw; (try dsimp only at hSw); go_simp; try (with_reducible rfl))
                try simp only [Act.put, sI, sZ, sS]
                refine wpAnyH_take (i := 3) (oi := { dst := some 82, op := Op.load 3 (Operand.tmp 81), type := 3, pos := "ref.go:55", after := #[{ on := 2, ground := Ground.data }], guard := none }) (v := ?vkb3) rfl (by kernel_rfl) (by kernel_rfl) (by kernel_rfl) (fun _ _ _ h => h) (Or.inl ⟨by rfl, ?hykb3⟩) (by assumption) ?rkb3
                case hykb3 => (intro w hSw; (try dsimp only at hSw); go_simp; try (with_reducible rfl))
                try simp only [Act.put, sI, sZ, sS]
                refine wpAnyH_take (i := 4) (oi := { dst := some 83, op := Op.move (Operand.tmp 18), type := 3, pos := "ref.go:55", after := #[], guard := none }) (v := ?vkb4) rfl (by kernel_rfl) (by kernel_rfl) (by kernel_rfl) (fun _ _ _ h => h) (Or.inl ⟨by rfl, ?hykb4⟩) (by assumption) ?rkb4
                case hykb4 => (intro w hSw; (try dsimp only at hSw); go_simp; try (with_reducible rfl))
                try simp only [Act.put, sI, sZ, sS]
                refine wpAnyH_take (i := 5) (oi := { dst := some 84, op := Op.binOp BinOp.add 3 (Operand.tmp 82) (Operand.tmp 83) 3, type := 3, pos := "ref.go:55", after := #[{ on := 3, ground := Ground.data }, { on := 4, ground := Ground.data }], guard := none }) (v := ?vkb5) rfl (by kernel_rfl) (by kernel_rfl) (by kernel_rfl) (fun _ _ _ h => h) (Or.inl ⟨by rfl, ?hykb5⟩) (by assumption) ?rkb5
                case hykb5 => (intro w hSw; (try dsimp only at hSw); go_simp; try (with_reducible rfl))
                try simp only [Act.put, sI, sZ, sS]
                refine wpAnyH_take (i := 6) (oi := { dst := some 85, op := Op.fieldAddr 73 (Operand.tmp 8) 2, type := 0, pos := "ref.go:55", after := #[], guard := none }) (v := ?vkb6) rfl (by kernel_rfl) (by kernel_rfl) (by kernel_rfl) (fun _ _ _ h => h) (Or.inl ⟨by rfl, ?hykb6⟩) (by assumption) ?rkb6
                case hykb6 => (intro w hSw; (try dsimp only at hSw); go_simp; try (with_reducible rfl))
                try simp only [Act.put, sI, sZ, sS]
                refine wpAnyH_take (i := 7) (oi := { dst := some 86, op := Op.fieldAddr 23 (Operand.tmp 85) 1, type := 0, pos := "ref.go:55", after := #[{ on := 6, ground := Ground.data }], guard := none }) (v := ?vkb7) rfl (by kernel_rfl) (by kernel_rfl) (by kernel_rfl) (fun _ _ _ h => h) (Or.inl ⟨by rfl, ?hykb7⟩) (by assumption) ?rkb7
                case hykb7 => (intro w hSw; (try dsimp only at hSw); go_simp; try (with_reducible rfl))
                try simp only [Act.put, sI, sZ, sS]
                refine wpAnyH_take (i := 8) (oi := { dst := some 87, op := Op.load 3 (Operand.tmp 86), type := 3, pos := "ref.go:55", after := #[{ on := 7, ground := Ground.data }], guard := none }) (v := ?vkb8) rfl (by kernel_rfl) (by kernel_rfl) (by kernel_rfl) (fun _ _ _ h => h) (Or.inl ⟨by rfl, ?hykb8⟩) (by assumption) ?rkb8
                case hykb8 => (intro w hSw; (try dsimp only at hSw); go_simp; try (with_reducible rfl))
                try simp only [Act.put, sI, sZ, sS]
                refine wpAnyH_take (i := 9) (oi := { dst := some 88, op := Op.move (Operand.tmp 19), type := 3, pos := "ref.go:55", after := #[], guard := none }) (v := ?vkb9) rfl (by kernel_rfl) (by kernel_rfl) (by kernel_rfl) (fun _ _ _ h => h) (Or.inl ⟨by rfl, ?hykb9⟩) (by assumption) ?rkb9
                case hykb9 => (intro w hSw; (try dsimp only at hSw); go_simp; try (with_reducible rfl))
                try simp only [Act.put, sI, sZ, sS]
                refine wpAnyH_take (i := 10) (oi := { dst := some 89, op := Op.binOp BinOp.add 3 (Operand.tmp 87) (Operand.tmp 88) 3, type := 3, pos := "ref.go:55", after := #[{ on := 8, ground := Ground.data }, { on := 9, ground := Ground.data }], guard := none }) (v := ?vkb10) rfl (by kernel_rfl) (by kernel_rfl) (by kernel_rfl) (fun _ _ _ h => h) (Or.inl ⟨by rfl, ?hykb10⟩) (by assumption) ?rkb10
                case hykb10 => (intro w hSw; (try dsimp only at hSw); go_simp; try (with_reducible rfl))
                try simp only [Act.put, sI, sZ, sS]
                refine wpAnyH_take (i := 11) (oi := { dst := some 90, op := Op.load 59 (Operand.tmp 15), type := 59, pos := "ref.go:55", after := #[], guard := none }) (v := ?vkb11) rfl (by kernel_rfl) (by kernel_rfl) (by kernel_rfl) (fun _ _ _ h => h) (Or.inl ⟨by rfl, ?hykb11⟩) (by assumption) ?rkb11
                case hykb11 => (intro w hSw; (try dsimp only at hSw); go_simp; try (with_reducible rfl))
                try simp only [Act.put, sI, sZ, sS]
                refine wpAnyH_take (i := 12) (oi := { dst := some 91, op := Op.fieldAddr 73 (Operand.tmp 8) 2, type := 0, pos := "ref.go:55", after := #[], guard := none }) (v := ?vkb12) rfl (by kernel_rfl) (by kernel_rfl) (by kernel_rfl) (fun _ _ _ h => h) (Or.inl ⟨by rfl, ?hykb12⟩) (by assumption) ?rkb12
                case hykb12 => (intro w hSw; (try dsimp only at hSw); go_simp; try (with_reducible rfl))
                try simp only [Act.put, sI, sZ, sS]
                refine wpAnyH_take (i := 13) (oi := { dst := some 92, op := Op.fieldAddr 23 (Operand.tmp 91) 0, type := 0, pos := "ref.go:55", after := #[{ on := 12, ground := Ground.data }], guard := none }) (v := ?vkb13) rfl (by kernel_rfl) (by kernel_rfl) (by kernel_rfl) (fun _ _ _ h => h) (Or.inl ⟨by rfl, ?hykb13⟩) (by assumption) ?rkb13
                case hykb13 => (intro w hSw; (try dsimp only at hSw); go_simp; try (with_reducible rfl))
                try simp only [Act.put, sI, sZ, sS]
                refine wpAnyH_take (i := 14) (oi := { dst := some 93, op := Op.load 3 (Operand.tmp 92), type := 3, pos := "ref.go:55", after := #[{ on := 13, ground := Ground.data }], guard := none }) (v := ?vkb14) rfl (by kernel_rfl) (by kernel_rfl) (by kernel_rfl) (fun _ _ _ h => h) (Or.inl ⟨by rfl, ?hykb14⟩) (by assumption) ?rkb14
                case hykb14 => (intro w hSw; (try dsimp only at hSw); go_simp; try (with_reducible rfl))
                try simp only [Act.put, sI, sZ, sS]
                refine wpAnyH_take (i := 15) (oi := { dst := some 94, op := Op.move (Operand.tmp 17), type := 3, pos := "ref.go:55", after := #[], guard := none }) (v := ?vkb15) rfl (by kernel_rfl) (by kernel_rfl) (by kernel_rfl) (fun _ _ _ h => h) (Or.inl ⟨by rfl, ?hykb15⟩) (by assumption) ?rkb15
                case hykb15 => (intro w hSw; (try dsimp only at hSw); go_simp; try (with_reducible rfl))
                try simp only [Act.put, sI, sZ, sS]
                refine wpAnyH_take (i := 16) (oi := { dst := some 95, op := Op.binOp BinOp.add 3 (Operand.tmp 93) (Operand.tmp 94) 3, type := 3, pos := "ref.go:55", after := #[{ on := 14, ground := Ground.data }, { on := 15, ground := Ground.data }], guard := none }) (v := ?vkb16) rfl (by kernel_rfl) (by kernel_rfl) (by kernel_rfl) (fun _ _ _ h => h) (Or.inl ⟨by rfl, ?hykb16⟩) (by assumption) ?rkb16
                case hykb16 => (intro w hSw; (try dsimp only at hSw); go_simp; try (with_reducible rfl))
                try simp only [Act.put, sI, sZ, sS]
                refine wpAnyH_take (i := 17) (oi := { dst := some 96, op := Op.fieldAddr 73 (Operand.tmp 8) 2, type := 0, pos := "ref.go:55", after := #[], guard := none }) (v := ?vkb17) rfl (by kernel_rfl) (by kernel_rfl) (by kernel_rfl) (fun _ _ _ h => h) (Or.inl ⟨by rfl, ?hykb17⟩) (by assumption) ?rkb17
                case hykb17 => (intro w hSw; (try dsimp only at hSw); go_simp; try (with_reducible rfl))
                try simp only [Act.put, sI, sZ, sS]
                refine wpAnyH_take (i := 18) (oi := { dst := some 97, op := Op.fieldAddr 23 (Operand.tmp 96) 1, type := 0, pos := "ref.go:55", after := #[{ on := 17, ground := Ground.data }], guard := none }) (v := ?vkb18) rfl (by kernel_rfl) (by kernel_rfl) (by kernel_rfl) (fun _ _ _ h => h) (Or.inl ⟨by rfl, ?hykb18⟩) (by assumption) ?rkb18
                case hykb18 => (intro w hSw; (try dsimp only at hSw); go_simp; try (with_reducible rfl))
                try simp only [Act.put, sI, sZ, sS]
                refine wpAnyH_take (i := 19) (oi := { dst := some 98, op := Op.load 3 (Operand.tmp 97), type := 3, pos := "ref.go:55", after := #[{ on := 18, ground := Ground.data }], guard := none }) (v := ?vkb19) rfl (by kernel_rfl) (by kernel_rfl) (by kernel_rfl) (fun _ _ _ h => h) (Or.inl ⟨by rfl, ?hykb19⟩) (by assumption) ?rkb19
                case hykb19 => (intro w hSw; (try dsimp only at hSw); go_simp; try (with_reducible rfl))
                try simp only [Act.put, sI, sZ, sS]
                refine wpAnyH_take (i := 20) (oi := { dst := some 99, op := Op.move (Operand.tmp 16), type := 3, pos := "ref.go:55", after := #[], guard := none }) (v := ?vkb20) rfl (by kernel_rfl) (by kernel_rfl) (by kernel_rfl) (fun _ _ _ h => h) (Or.inl ⟨by rfl, ?hykb20⟩) (by assumption) ?rkb20
                case hykb20 => (intro w hSw; (try dsimp only at hSw); go_simp; try (with_reducible rfl))
                try simp only [Act.put, sI, sZ, sS]
                refine wpAnyH_take (i := 21) (oi := { dst := some 100, op := Op.binOp BinOp.add 3 (Operand.tmp 98) (Operand.tmp 99) 3, type := 3, pos := "ref.go:55", after := #[{ on := 19, ground := Ground.data }, { on := 20, ground := Ground.data }], guard := none }) (v := ?vkb21) rfl (by kernel_rfl) (by kernel_rfl) (by kernel_rfl) (fun _ _ _ h => h) (Or.inl ⟨by rfl, ?hykb21⟩) (by assumption) ?rkb21
                case hykb21 => (intro w hSw; (try dsimp only at hSw); go_simp; try (with_reducible rfl))
                try simp only [Act.put, sI, sZ, sS]
                refine wpAnyH_ready (rs := [0, 22]) (by kernel_rfl) (by simp) ?_
                refine AllReadyH.cons (o := { dst := some 79, op := Op.load 59 (Operand.tmp 6), type := 59, pos := "ref.go:55", after := #[], guard := none }) rfl (fun K hK => ?_) ?_
                · go_simp
                  refine hK.out _ _ (by first | exact HSv.out _ HQ8.out.q.b HQ8.out.was | exact HSv.out _ HD5.out.q.b HD5.out.was) (fun hHeld => ?_)
                  clear hK K
                  try simp only [Act.put, sI, sZ, sS]
                  refine wpAnyH_ready (rs := [22]) (by kernel_rfl) (by simp) ?_
                  refine AllReadyH.cons (o := { dst := some 101, op := Op.call { callee := Callee.value (Operand.func 70), args := #[Operand.tmp 90, Operand.tmp 95, Operand.tmp 100], argTypes := #[59, 3, 3] }, type := 38, pos := "ref.go:55", after := #[{ on := 11, ground := Ground.data }, { on := 16, ground := Ground.data }, { on := 21, ground := Ground.data }], guard := none }) rfl (fun K hK => ?_) AllReadyH.nil
                  go_simp
                  refine (HAt.out _ HFW.out).mono ?_
                  rintro e' w8 ⟨rfl, hf8⟩
                  have HF8 := hid (HFW.out.trans hf8)
                  have HQ8 := hid (HQ.out.frd HF8.out)
                  have x0 := cellto m0 HF8.out
                  have x1 := cellto m1 HF8.out
                  have x2 := cellto m2 HF8.out
                  have xl := Nat.lt_of_lt_of_le ml HF8.out.size
                  clear hHeld hf8
                  go_wp2_with fail
                  refine hK.out _ _ (HSv.out _ HQ8.out.q.b HQ8.out.was) (fun hHeld => ?_)
                  clear hK K
                  try simp only [Act.put, sI, sZ, sS]
                  refine wpAnyH_ready (rs := [23]) (by kernel_rfl) (by simp) ?_
                  refine AllReadyH.cons (o := { dst := some 102, op := Op.call { callee := Callee.value (Operand.func 68), args := #[Operand.tmp 79, Operand.tmp 84, Operand.tmp 89, Operand.tmp 101], argTypes := #[59, 3, 3, 38] }, type := 59, pos := "ref.go:55", after := #[{ on := 0, ground := Ground.data }, { on := 5, ground := Ground.data }, { on := 10, ground := Ground.data }, { on := 22, ground := Ground.data }, { on := 22, ground := Ground.chain }], guard := none }) rfl (fun K hK => ?_) AllReadyH.nil
                  go_simp
                  refine (HSet.out _ HF8.out).mono ?_
                  rintro e' w6 ⟨gb6, c6, rfl, hrg6, hf6, hge6⟩
                  have HQ6 := hid (HQ8.out.put hf6 hrg6 hge6)
                  have HB6 := hid ((hB5.fr HF8.out (fun h => h)).fr hf6 (fun h => h))
                  have HW6 := hid (HQ8.out.frd hf6)
                  have f0 := HB6.out.frozen 0
                  have f1 := HB6.out.frozen 1
                  have f2 := HB6.out.frozen 2
                  have i0 := HB6.out.cell 0 rfl
                  have i1 := HB6.out.cell 1 rfl
                  have i2 := HB6.out.cell 2 rfl
                  have il := HB6.out.lt
                  clear hHeld hf6 hrg6 hge6
                  unfold gV
                  go_wp2_with fail
                  refine hK.out _ _ (HSv.out _ HW6.out.q.b HW6.out.was) (fun hHeld => ?_)
                  clear hK K
                  try simp only [Act.put, sI, sZ, sS]
                  refine wpAnyH_ready (rs := [24]) (by kernel_rfl) (by simp) ?_
                  refine AllReadyH.cons (o := { dst := none, op := Op.store 59 (Operand.tmp 6) (Operand.tmp 102), type := 0, pos := "ref.go:55", after := #[{ on := 23, ground := Ground.data }, { on := 23, ground := Ground.chain }, { on := 0, ground := Ground.phase }, { on := 1, ground := Ground.phase }, { on := 2, ground := Ground.phase }, { on := 3, ground := Ground.phase }, { on := 4, ground := Ground.phase }, { on := 5, ground := Ground.phase }, { on := 6, ground := Ground.phase }, { on := 7, ground := Ground.phase }, { on := 8, ground := Ground.phase }, { on := 9, ground := Ground.phase }, { on := 10, ground := Ground.phase }, { on := 11, ground := Ground.phase }, { on := 12, ground := Ground.phase }, { on := 13, ground := Ground.phase }, { on := 14, ground := Ground.phase }, { on := 15, ground := Ground.phase }, { on := 16, ground := Ground.phase }, { on := 17, ground := Ground.phase }, { on := 18, ground := Ground.phase }, { on := 19, ground := Ground.phase }, { on := 20, ground := Ground.phase }, { on := 21, ground := Ground.phase }, { on := 22, ground := Ground.phase }, { on := 23, ground := Ground.phase }], guard := none }) rfl (fun K hK => ?_) AllReadyH.nil
                  go_simp
                  refine hK.out _ _ (HSv.out _ HQ6.out.q.b HQ6.out.was) (fun hHeld => ?_)
                  clear hK K
                  try simp only [Act.put, sI, sZ, sS]
                  refine wpAnyH_done (by kernel_rfl) ?_ _
                  go_wp2
                  go_roundw
                  case rel => exact ⟨X + 1, by omega, by go_num, by rw [HN.out, List.length_append]; rfl, by rw [HN.out, putsG_snoc]; exact HQ6.out⟩
                  case measure => simp [intOf]; omega
                refine AllReadyH.cons (o := { dst := some 101, op := Op.call { callee := Callee.value (Operand.func 70), args := #[Operand.tmp 90, Operand.tmp 95, Operand.tmp 100], argTypes := #[59, 3, 3] }, type := 38, pos := "ref.go:55", after := #[{ on := 11, ground := Ground.data }, { on := 16, ground := Ground.data }, { on := 21, ground := Ground.data }], guard := none }) rfl (fun K hK => ?_) ?_
                · go_simp
                  refine (HAt.out _ HFW.out).mono ?_
                  rintro e' w8 ⟨rfl, hf8⟩
                  have HF8 := hid (HFW.out.trans hf8)
                  have HQ8 := hid (HQ.out.frd HF8.out)
                  have x0 := cellto m0 HF8.out
                  have x1 := cellto m1 HF8.out
                  have x2 := cellto m2 HF8.out
                  have xl := Nat.lt_of_lt_of_le ml HF8.out.size
                  clear hHeld hf8
                  go_wp2_with fail
                  refine hK.out _ _ (HSv.out _ HQ8.out.q.b HQ8.out.was) (fun hHeld => ?_)
                  clear hK K
                  try simp only [Act.put, sI, sZ, sS]
                  refine wpAnyH_ready (rs := [0]) (by kernel_rfl) (by simp) ?_
                  refine AllReadyH.cons (o := { dst := some 79, op := Op.load 59 (Operand.tmp 6), type := 59, pos := "ref.go:55", after := #[], guard := none }) rfl (fun K hK => ?_) AllReadyH.nil
                  go_simp
                  refine hK.out _ _ (by first | exact HSv.out _ HQ8.out.q.b HQ8.out.was | exact HSv.out _ HD5.out.q.b HD5.out.was) (fun hHeld => ?_)
                  clear hK K
                  try simp only [Act.put, sI, sZ, sS]
                  refine wpAnyH_ready (rs := [23]) (by kernel_rfl) (by simp) ?_
                  refine AllReadyH.cons (o := { dst := some 102, op := Op.call { callee := Callee.value (Operand.func 68), args := #[Operand.tmp 79, Operand.tmp 84, Operand.tmp 89, Operand.tmp 101], argTypes := #[59, 3, 3, 38] }, type := 59, pos := "ref.go:55", after := #[{ on := 0, ground := Ground.data }, { on := 5, ground := Ground.data }, { on := 10, ground := Ground.data }, { on := 22, ground := Ground.data }, { on := 22, ground := Ground.chain }], guard := none }) rfl (fun K hK => ?_) AllReadyH.nil
                  go_simp
                  refine (HSet.out _ HF8.out).mono ?_
                  rintro e' w6 ⟨gb6, c6, rfl, hrg6, hf6, hge6⟩
                  have HQ6 := hid (HQ8.out.put hf6 hrg6 hge6)
                  have HB6 := hid ((hB5.fr HF8.out (fun h => h)).fr hf6 (fun h => h))
                  have HW6 := hid (HQ8.out.frd hf6)
                  have f0 := HB6.out.frozen 0
                  have f1 := HB6.out.frozen 1
                  have f2 := HB6.out.frozen 2
                  have i0 := HB6.out.cell 0 rfl
                  have i1 := HB6.out.cell 1 rfl
                  have i2 := HB6.out.cell 2 rfl
                  have il := HB6.out.lt
                  clear hHeld hf6 hrg6 hge6
                  unfold gV
                  go_wp2_with fail
                  refine hK.out _ _ (HSv.out _ HW6.out.q.b HW6.out.was) (fun hHeld => ?_)
                  clear hK K
                  try simp only [Act.put, sI, sZ, sS]
                  refine wpAnyH_ready (rs := [24]) (by kernel_rfl) (by simp) ?_
                  refine AllReadyH.cons (o := { dst := none, op := Op.store 59 (Operand.tmp 6) (Operand.tmp 102), type := 0, pos := "ref.go:55", after := #[{ on := 23, ground := Ground.data }, { on := 23, ground := Ground.chain }, { on := 0, ground := Ground.phase }, { on := 1, ground := Ground.phase }, { on := 2, ground := Ground.phase }, { on := 3, ground := Ground.phase }, { on := 4, ground := Ground.phase }, { on := 5, ground := Ground.phase }, { on := 6, ground := Ground.phase }, { on := 7, ground := Ground.phase }, { on := 8, ground := Ground.phase }, { on := 9, ground := Ground.phase }, { on := 10, ground := Ground.phase }, { on := 11, ground := Ground.phase }, { on := 12, ground := Ground.phase }, { on := 13, ground := Ground.phase }, { on := 14, ground := Ground.phase }, { on := 15, ground := Ground.phase }, { on := 16, ground := Ground.phase }, { on := 17, ground := Ground.phase }, { on := 18, ground := Ground.phase }, { on := 19, ground := Ground.phase }, { on := 20, ground := Ground.phase }, { on := 21, ground := Ground.phase }, { on := 22, ground := Ground.phase }, { on := 23, ground := Ground.phase }], guard := none }) rfl (fun K hK => ?_) AllReadyH.nil
                  go_simp
                  refine hK.out _ _ (HSv.out _ HQ6.out.q.b HQ6.out.was) (fun hHeld => ?_)
                  clear hK K
                  try simp only [Act.put, sI, sZ, sS]
                  refine wpAnyH_done (by kernel_rfl) ?_ _
                  go_wp2
                  go_roundw
                  case rel => exact ⟨X + 1, by omega, by go_num, by rw [HN.out, List.length_append]; rfl, by rw [HN.out, putsG_snoc]; exact HQ6.out⟩
                  case measure => simp [intOf]; omega
                exact AllReadyH.nil
        · obtain rfl : X = tw := by omega
          have hXw : ¬ ((X : Int) < t.w) := by have := HTW.out; omega
          have HN : Hid (refK xs t r x y cs (Y + 1) = refKP xs t r x y cs Y X) := hid (by unfold refKP; rw [refK_succ, E1.out])
          go_wp2
          go_roundw
          case rel => exact ⟨Y + 1, by omega, by go_num, by rw [HN.out], by rw [HN.out]; exact HQ.out⟩
          case measure => simp [intOf]; omega
    · obtain rfl : Y = th := by omega
      have hYw : ¬ ((Y : Int) < t.h) := by have := HTH.out; omega
      obtain ⟨gb5, c5, hB5, hR5, hN5⟩ := HQ.out.q.g
      have HN5 := hid hN5
      clear hN5
      have m0 := hB5.cell 0 rfl
      have m1 := hB5.cell 1 rfl
      have m2 := hB5.cell 2 rfl
      have ml := hB5.lt
      have z0 := HQ.out.z.cell 0 rfl
      have z1 := HQ.out.z.cell 1 rfl
      have z2 := HQ.out.z.cell 2 rfl
      have y0 := HQ.out.z.frozen 0
      have y1 := HQ.out.z.frozen 1
      have y2 := HQ.out.z.frozen 2
      have zl := HQ.out.z.lt
      have HR5 := hid hR5
      clear hR5
      go_wp2
      have hZF := ((HQ.out.z.set 0 (.int .i64 10)).set 1 (.int .i64 10)).set 2 (.slice (some ⟨gb5, 0, none⟩) 100 c5)
      have r0 := hZF.cell 0 rfl
      have r1 := hZF.cell 1 rfl
      have r2 := hZF.cell 2 rfl
      have hs := (((Fr.refl (At (w.heap.size + 1 + 1 + 1)) wr).setAt 0 (.int .i64 10)).setAt 1 (.int .i64 10)).setAt 2 (.slice (some ⟨gb5, 0, none⟩) 100 c5)
      obtain ⟨rest, hv5⟩ := HR5.out.row
      refine bodyPost_ret (v := .tuple #[gV gb5 c5, .int .i64 (refK xs t r x y cs Y).length]) (by simp [results, Try.results44, go_sem, r0, r1, r2, gV]) rfl ⟨gb5, c5, rfl, HR5.out.fr hs (fun e => absurd (blk_ty (show Blk wr (w.heap.size + 1 + 1 + 1) _ _ from e ▸ hv5.blk) HQ.out.z) (by decide)), HQ.out.q.fr.then_ hs (fun j e => .inr (by have e' : j = w.heap.size + 1 + 1 + 1 := e; omega)), HN5.out⟩
end Go.Proofs.Ytnengimekcnfhaa
