import Derived.Test.YtnengimekcnfhaaQ6
set_option linter.unusedSimpArgs false
set_option linter.unusedVariables false
set_option maxRecDepth 20000
namespace Go.Proofs.Ytnengimekcnfhaa
open Go.RowKit Go.Proofs.YtnengimekcnfhaaW.PrintWords
/-- What the document's Fill writes: of row y, the first X places; of the first Y rows. -/
def refR (xs : List Wn) (t : Wn) (r : Rc) (c : Cl) (y : Int) (X : Nat) : List Wr := (List.range X).flatMap fun (x : Nat) => if r.has x y ∧ Own xs t x y then [⟨t.x + x, t.y + y, c⟩] else []
def refF (xs : List Wn) (t : Wn) (r : Rc) (c : Cl) (Y : Nat) : List Wr := (List.range Y).flatMap fun (y : Nat) => refR xs t r c y t.w.toNat
def refP (xs : List Wn) (t : Wn) (r : Rc) (c : Cl) (Y X : Nat) : List Wr := refF xs t r c Y ++ refR xs t r c Y X
section
variable {xs : List Wn} {t : Wn} {r : Rc} {c : Cl}
theorem refR_succ (y : Int) (X : Nat) : refR xs t r c y (X + 1) = refR xs t r c y X ++ (if r.has X y ∧ Own xs t X y then [⟨t.x + X, t.y + y, c⟩] else []) := by
  unfold refR
  rw [List.range_succ, List.flatMap_append]
  simp
theorem refF_succ (Y : Nat) : refF xs t r c (Y + 1) = refF xs t r c Y ++ refR xs t r c Y t.w.toNat := by
  unfold refF
  rw [List.range_succ, List.flatMap_append]
  simp
theorem refR_len (y : Int) (X : Nat) : (refR xs t r c y X).length ≤ X := by
  induction X with
  | zero => simp [refR]
  | succ k ih =>
    rw [refR_succ, List.length_append]
    split <;> simp <;> omega
theorem refF_len (Y : Nat) : (refF xs t r c Y).length ≤ Y * t.w.toNat := by
  induction Y with
  | zero => simp [refF]
  | succ k ih =>
    rw [refF_succ, List.length_append, Nat.add_mul]
    have := refR_len (xs := xs) (t := t) (r := r) (c := c) k t.w.toNat
    omega
end
structure FQ (g0 : Nat) (w W : World) (t : Wn) (r : Rc) (c : Cl) (cs : List Cl) : Prop where
  q : QS g0 w W t cs
  r : Blk W (w.heap.size + 1 + 1) 23 r.cells
  c : Blk W (w.heap.size + 1 + 1 + 1) 38 c.cells
  z : Blk W (w.heap.size + 1 + 1 + 1 + 1) 59 [.int .i64 0, .int .i64 0, .slice none 0 0]
theorem FQ.frd {g0 : Nat} {w W W' : World} {t : Wn} {r : Rc} {c : Cl} {cs : List Cl} (h : FQ g0 w W t r c cs) (hf : Fr NoB W W') : FQ g0 w W' t r c cs := ⟨h.q.frd hf, h.r.fr hf (fun h => h), h.c.fr hf (fun h => h), h.z.fr hf (fun h => h)⟩
theorem FQ.put {g0 : Nat} {w W W' : World} {t : Wn} {r : Rc} {c : Cl} {cs cs' : List Cl} (h : FQ g0 w W t r c cs) {gb k : Nat} (hf : Fr NoB W W') (hr : RG W' gb k cs') (hge : W.heap.size ≤ gb) :
    FQ g0 w (((W'.setCell ⟨w.heap.size, 0, none⟩ (.int .i64 10)).setCell ⟨w.heap.size, 1, none⟩ (.int .i64 10)).setCell ⟨w.heap.size, 2, none⟩ (.slice (some ⟨gb, 0, none⟩) 100 k)) t r c cs' := by
  have hs : Fr (At w.heap.size) W' (((W'.setCell ⟨w.heap.size, 0, none⟩ (.int .i64 10)).setCell ⟨w.heap.size, 1, none⟩ (.int .i64 10)).setCell ⟨w.heap.size, 2, none⟩ (.slice (some ⟨gb, 0, none⟩) 100 k)) := (((Fr.refl _ _).setAt 0 _).setAt 1 _).setAt 2 _
  exact ⟨h.q.put hf hr hge, (h.r.fr hf (fun h => h)).fr hs (fun e => by have e' : w.heap.size + 1 + 1 = w.heap.size := e; omega), (h.c.fr hf (fun h => h)).fr hs (fun e => by have e' : w.heap.size + 1 + 1 + 1 = w.heap.size := e; omega), (h.z.fr hf (fun h => h)).fr hs (fun e => by have e' : w.heap.size + 1 + 1 + 1 + 1 = w.heap.size := e; omega)⟩
set_option maxHeartbeats 16000000 in
theorem r13Fill_in (w : World) (gb g9 : Nat) (cs : List Cl) (v : Value) (xs : List Wn) (t : Wn) (r : Rc) (c : Cl) (hg : RG w gb g9 cs) (hV : WnS w v xs) (hl : xs.length ≤ 4096) (hF : ∀ q ∈ xs, FitsIn 10 10 q.r) (ht : FitsIn 10 10 t.r) (hr : r.Right) :
    Calls Try.prog 43 #[gV gb g9, v, t.v, r.v, c.v] w fun e w' => ∃ gb' c', e = .returned (.tuple #[gV gb' c', .int .i64 (refF xs t r c t.h.toNat).length]) ∧ RG w' gb' c' (putsG 10 cs (refF xs t r c t.h.toNat)) ∧ Fr NoB w w' ∧ (gb' = gb ∨ w.heap.size ≤ gb') := by
  have HTF := hid ht
  obtain ⟨g1, g2, g3, g4, g5, g6, g7⟩ : t.r.Right ∧ 0 < t.w ∧ 0 < t.h ∧ 0 ≤ t.x ∧ 0 ≤ t.y ∧ t.x + t.w ≤ 10 ∧ t.y + t.h ≤ 10 := ht
  obtain ⟨tw, htw⟩ : ∃ n : Nat, t.w = n := ⟨t.w.toNat, by omega⟩
  obtain ⟨th, hth⟩ : ∃ n : Nat, t.h = n := ⟨t.h.toNat, by omega⟩
  have e1 : t.w.toNat = tw := by omega
  have e2 : t.h.toNat = th := by omega
  have HR4 := fun w9 => hid (r4Right_any w9 r)
  rw [show decide r.Right = true from decide_eq_true hr] at HR4
  have HRX := hid (And.intro hr.x hr.y)
  have hf0 : Fr NoB w (((((w.alloc (.cells #[.int .i64 10, .int .i64 10, .slice (some ⟨gb, 0, none⟩) 100 g9] 59)).alloc (.cells #[.int .i64 t.id, .int .i64 t.env, .int .i64 t.x, .int .i64 t.y, .int .i64 t.w, .int .i64 t.h, .bool t.hid] 73)).alloc (.cells #[.int .i64 r.x, .int .i64 r.y, .int .i64 r.w, .int .i64 r.h] 23)).alloc (.cells #[.int .i32 c.r, .int .i64 c.fg, .int .i64 c.bg, .int .i64 c.fl] 38)).alloc (.cells #[.int .i64 0, .int .i64 0, .slice none 0 0] 59)) := (((((Fr.refl _ _).alloc _).alloc _).alloc _).alloc _).alloc _
  have a1 := (((Blk.new (w.alloc (.cells #[.int .i64 10, .int .i64 10, .slice (some ⟨gb, 0, none⟩) 100 g9] 59)) 73 t.cells).alloc (.cells #[.int .i64 r.x, .int .i64 r.y, .int .i64 r.w, .int .i64 r.h] 23)).alloc (.cells #[.int .i32 c.r, .int .i64 c.fg, .int .i64 c.bg, .int .i64 c.fl] 38)).alloc (.cells #[.int .i64 0, .int .i64 0, .slice none 0 0] 59)
  have a2 := ((Blk.new ((w.alloc (.cells #[.int .i64 10, .int .i64 10, .slice (some ⟨gb, 0, none⟩) 100 g9] 59)).alloc (.cells #[.int .i64 t.id, .int .i64 t.env, .int .i64 t.x, .int .i64 t.y, .int .i64 t.w, .int .i64 t.h, .bool t.hid] 73)) 23 r.cells).alloc (.cells #[.int .i32 c.r, .int .i64 c.fg, .int .i64 c.bg, .int .i64 c.fl] 38)).alloc (.cells #[.int .i64 0, .int .i64 0, .slice none 0 0] 59)
  have a3 := (Blk.new (((w.alloc (.cells #[.int .i64 10, .int .i64 10, .slice (some ⟨gb, 0, none⟩) 100 g9] 59)).alloc (.cells #[.int .i64 t.id, .int .i64 t.env, .int .i64 t.x, .int .i64 t.y, .int .i64 t.w, .int .i64 t.h, .bool t.hid] 73)).alloc (.cells #[.int .i64 r.x, .int .i64 r.y, .int .i64 r.w, .int .i64 r.h] 23)) 38 c.cells).alloc (.cells #[.int .i64 0, .int .i64 0, .slice none 0 0] 59)
  have a4 := Blk.new ((((w.alloc (.cells #[.int .i64 10, .int .i64 10, .slice (some ⟨gb, 0, none⟩) 100 g9] 59)).alloc (.cells #[.int .i64 t.id, .int .i64 t.env, .int .i64 t.x, .int .i64 t.y, .int .i64 t.w, .int .i64 t.h, .bool t.hid] 73)).alloc (.cells #[.int .i64 r.x, .int .i64 r.y, .int .i64 r.w, .int .i64 r.h] 23)).alloc (.cells #[.int .i32 c.r, .int .i64 c.fg, .int .i64 c.bg, .int .i64 c.fl] 38)) 59 [.int .i64 0, .int .i64 0, .slice none 0 0]
  simp only [World.size_alloc] at a1 a2 a3 a4
  have HQ0 := hid (show FQ gb w _ t r c cs from ⟨⟨⟨gb, g9, ((((Blk.new w 59 [.int .i64 10, .int .i64 10, .slice (some ⟨gb, 0, none⟩) 100 g9]).alloc _).alloc _).alloc _).alloc _, hg.frd hf0, .inl rfl⟩, a1, hf0⟩, a2, a3, a4⟩)
  have HV := hid hV
  have HFI := hid hF
  obtain ⟨A9, c9, hv, _, _⟩ := hV.shape
  subst hv
  rw [e2]
  have E1 := hid e1
  have HTW := hid htw
  have HTH := hid hth
  have HLF := hid (refF_len (xs := xs) (t := t) (r := r) (c := c))
  clear hf0 a1 a2 a3 a4 hg hV hF g1 hr e2 e1 htw hth
  unfold gV Wn.v Rc.v Cl.v
  unfold Rc.v at HR4
  go_enter Try.func43, Try.ntmps43
  go_wp2
  go_loopw [12, 13] (fun v12 v13 wr => ∃ Y : Nat, Y ≤ th ∧ v13 = .int .i64 Y ∧ v12 = .int .i64 (refF xs t r c Y).length ∧ Hid (FQ gb w wr t r c (putsG 10 cs (refF xs t r c Y)))) (fun _ v13 _ => th - (intOf v13).toNat)
  case atStart => exact ⟨0, Nat.zero_le _, rfl, rfl, HQ0.out⟩
  case round =>
    obtain ⟨Y, hY, rfl, rfl, HQ⟩ := hrel
    have b0 := HQ.out.q.b.cell 0 rfl
    have b1 := HQ.out.q.b.cell 1 rfl
    have b2 := HQ.out.q.b.cell 2 rfl
    have b3 := HQ.out.q.b.cell 3 rfl
    have b4 := HQ.out.q.b.cell 4 rfl
    have b5 := HQ.out.q.b.cell 5 rfl
    have b6 := HQ.out.q.b.cell 6 rfl
    have bl := HQ.out.q.b.lt
    have r0 := HQ.out.r.cell 0 rfl
    have r1 := HQ.out.r.cell 1 rfl
    have r2 := HQ.out.r.cell 2 rfl
    have r3 := HQ.out.r.cell 3 rfl
    have rl := HQ.out.r.lt
    have p0 := HQ.out.c.cell 0 rfl
    have p1 := HQ.out.c.cell 1 rfl
    have p2 := HQ.out.c.cell 2 rfl
    have p3 := HQ.out.c.cell 3 rfl
    have pl := HQ.out.c.lt
    by_cases hYm : Y < th
    · have hYw : (Y : Int) < t.h := by have := HTH.out; omega
      go_wp2_with fail
      refine (HR4 _).out.mono ?_
      rintro e' w2 ⟨rfl, hf2⟩
      have HQ := hid (HQ.out.frd hf2)
      clear hf2
      clear b0 b1 b2 b3 b4 b5 b6 bl r0 r1 r2 r3 rl p0 p1 p2 p3 pl
      have b0 := HQ.out.q.b.cell 0 rfl
      have b1 := HQ.out.q.b.cell 1 rfl
      have b2 := HQ.out.q.b.cell 2 rfl
      have b3 := HQ.out.q.b.cell 3 rfl
      have b4 := HQ.out.q.b.cell 4 rfl
      have b5 := HQ.out.q.b.cell 5 rfl
      have b6 := HQ.out.q.b.cell 6 rfl
      have bl := HQ.out.q.b.lt
      have r0 := HQ.out.r.cell 0 rfl
      have r1 := HQ.out.r.cell 1 rfl
      have r2 := HQ.out.r.cell 2 rfl
      have r3 := HQ.out.r.cell 3 rfl
      have rl := HQ.out.r.lt
      have p0 := HQ.out.c.cell 0 rfl
      have p1 := HQ.out.c.cell 1 rfl
      have p2 := HQ.out.c.cell 2 rfl
      have p3 := HQ.out.c.cell 3 rfl
      have pl := HQ.out.c.lt
      go_wp2
      go_loopw [12, 14] (fun v12 v14 wr => ∃ X : Nat, X ≤ tw ∧ v14 = .int .i64 X ∧ v12 = .int .i64 (refP xs t r c Y X).length ∧ Hid (FQ gb w wr t r c (putsG 10 cs (refP xs t r c Y X)))) (fun _ v14 _ => tw - (intOf v14).toNat)
      case atStart => exact ⟨0, Nat.zero_le _, rfl, by rw [show refP xs t r c Y 0 = refF xs t r c Y from List.append_nil _], by rw [show refP xs t r c Y 0 = refF xs t r c Y from List.append_nil _]; exact HQ.out⟩
      case round =>
        obtain ⟨X, hX, rfl, rfl, HQ⟩ := hrel
        clear b0 b1 b2 b3 b4 b5 b6 bl r0 r1 r2 r3 rl p0 p1 p2 p3 pl
        have b0 := HQ.out.q.b.cell 0 rfl
        have b1 := HQ.out.q.b.cell 1 rfl
        have b2 := HQ.out.q.b.cell 2 rfl
        have b3 := HQ.out.q.b.cell 3 rfl
        have b4 := HQ.out.q.b.cell 4 rfl
        have b5 := HQ.out.q.b.cell 5 rfl
        have b6 := HQ.out.q.b.cell 6 rfl
        have bl := HQ.out.q.b.lt
        have r0 := HQ.out.r.cell 0 rfl
        have r1 := HQ.out.r.cell 1 rfl
        have r2 := HQ.out.r.cell 2 rfl
        have r3 := HQ.out.r.cell 3 rfl
        have rl := HQ.out.r.lt
        have p0 := HQ.out.c.cell 0 rfl
        have p1 := HQ.out.c.cell 1 rfl
        have p2 := HQ.out.c.cell 2 rfl
        have p3 := HQ.out.c.cell 3 rfl
        have pl := HQ.out.c.lt
        by_cases hXm : X < tw
        · have hXw : (X : Int) < t.w := by have := HTW.out; omega
          go_wp2_with fail
          refine (r4In_any _ r X Y HRX.out.1 HRX.out.2 (by omega) (by omega)).mono ?_
          rintro e' w3 ⟨rfl, hf3⟩
          have HQ := hid (HQ.out.frd hf3)
          clear hf3
          clear b0 b1 b2 b3 b4 b5 b6 bl r0 r1 r2 r3 rl p0 p1 p2 p3 pl
          have b0 := HQ.out.q.b.cell 0 rfl
          have b1 := HQ.out.q.b.cell 1 rfl
          have b2 := HQ.out.q.b.cell 2 rfl
          have b3 := HQ.out.q.b.cell 3 rfl
          have b4 := HQ.out.q.b.cell 4 rfl
          have b5 := HQ.out.q.b.cell 5 rfl
          have b6 := HQ.out.q.b.cell 6 rfl
          have bl := HQ.out.q.b.lt
          have r0 := HQ.out.r.cell 0 rfl
          have r1 := HQ.out.r.cell 1 rfl
          have r2 := HQ.out.r.cell 2 rfl
          have r3 := HQ.out.r.cell 3 rfl
          have rl := HQ.out.r.lt
          have p0 := HQ.out.c.cell 0 rfl
          have p1 := HQ.out.c.cell 1 rfl
          have p2 := HQ.out.c.cell 2 rfl
          have p3 := HQ.out.c.cell 3 rfl
          have pl := HQ.out.c.lt
          have k2 : IntKind.i64.wrap (t.x + X) = t.x + X := IntWalk.i64_in _ (by omega)
          have k4 : IntKind.i64.wrap (t.y + Y) = t.y + Y := IntWalk.i64_in _ (by omega)
          have k5 : IntKind.i64.wrap (((refP xs t r c Y X).length : Int) + 1) = ((refP xs t r c Y X).length : Int) + 1 := IntWalk.i64_in _ (by
            have h1 := HLF.out Y
            have h2 := refR_len (xs := xs) (t := t) (r := r) (c := c) Y X
            have h3 : Y * t.w.toNat ≤ 10 * 10 := Nat.mul_le_mul (by omega) (by omega)
            unfold refP
            rw [List.length_append]
            omega)
          cases hi : decide (r.has X Y)
          · have HN : Hid (refP xs t r c Y (X + 1) = refP xs t r c Y X) := hid (by unfold refP; rw [refR_succ, if_neg (fun h => (of_decide_eq_false hi) h.1), List.append_nil])
            go_wp2
            go_roundw
            case rel => exact ⟨X + 1, by omega, by go_num, by rw [HN.out], by rw [HN.out]; exact HQ.out⟩
            case measure => simp [intOf]; omega
          · have HI := hid (of_decide_eq_true hi)
            clear hi
            go_wp2_with fail
            refine (r13own_any _ _ xs t X Y (HV.out.fr HQ.out.q.fr (fun _ _ h => h)) hl HFI.out HTF.out).mono ?_
            rintro e' w4 ⟨rfl, hf4⟩
            have HQ := hid (HQ.out.frd hf4)
            clear hf4
            clear b0 b1 b2 b3 b4 b5 b6 bl r0 r1 r2 r3 rl p0 p1 p2 p3 pl
            have b0 := HQ.out.q.b.cell 0 rfl
            have b1 := HQ.out.q.b.cell 1 rfl
            have b2 := HQ.out.q.b.cell 2 rfl
            have b3 := HQ.out.q.b.cell 3 rfl
            have b4 := HQ.out.q.b.cell 4 rfl
            have b5 := HQ.out.q.b.cell 5 rfl
            have b6 := HQ.out.q.b.cell 6 rfl
            have bl := HQ.out.q.b.lt
            have r0 := HQ.out.r.cell 0 rfl
            have r1 := HQ.out.r.cell 1 rfl
            have r2 := HQ.out.r.cell 2 rfl
            have r3 := HQ.out.r.cell 3 rfl
            have rl := HQ.out.r.lt
            have p0 := HQ.out.c.cell 0 rfl
            have p1 := HQ.out.c.cell 1 rfl
            have p2 := HQ.out.c.cell 2 rfl
            have p3 := HQ.out.c.cell 3 rfl
            have pl := HQ.out.c.lt
            cases ho : decide (Own xs t X Y)
            · have HN : Hid (refP xs t r c Y (X + 1) = refP xs t r c Y X) := hid (by unfold refP; rw [refR_succ, if_neg (fun h => (of_decide_eq_false ho) h.2), List.append_nil])
              go_wp2
              go_roundw
              case rel => exact ⟨X + 1, by omega, by go_num, by rw [HN.out], by rw [HN.out]; exact HQ.out⟩
              case measure => simp [intOf]; omega
            · have HN : Hid (refP xs t r c Y (X + 1) = refP xs t r c Y X ++ [⟨t.x + X, t.y + Y, c⟩]) := hid (by unfold refP; rw [refR_succ, if_pos ⟨HI.out, of_decide_eq_true ho⟩, List.append_assoc])
              clear ho
              obtain ⟨gb5, c5, hB5, hR5, _⟩ := HQ.out.q.g
              have HSet : Hid (Calls Try.prog 68 #[gV gb5 c5, .int .i64 (t.x + X), .int .i64 (t.y + Y), c.v] w4 (RGto (setG 10 (putsG 10 cs (refP xs t r c Y X)) (t.x + X) (t.y + Y) c) w4)) := by
                obtain ⟨pn, hpn⟩ : ∃ n : Nat, t.x + X = n := ⟨(t.x + X).toNat, by omega⟩
                obtain ⟨qn, hqn⟩ : ∃ n : Nat, t.y + Y = n := ⟨(t.y + Y).toNat, by omega⟩
                rw [hpn, hqn]
                exact r6Set_in w4 gb5 c5 _ pn qn c hR5 (by omega) (by omega)
              have m0 := hB5.cell 0 rfl
              have m1 := hB5.cell 1 rfl
              have m2 := hB5.cell 2 rfl
              have ml := hB5.lt
              unfold gV Cl.v at HSet
              clear hR5
              go_wp2_with fail
              refine HSet.out.mono ?_
              rintro e' w6 ⟨gb6, c6, rfl, hrg6, hf6, hge6⟩
              have HQ6 := hid (HQ.out.put hf6 hrg6 hge6)
              have hB6 := hB5.fr hf6 (fun h => h)
              have f0 := hB6.frozen 0
              have f1 := hB6.frozen 1
              have f2 := hB6.frozen 2
              have i0 := hB6.cell 0 rfl
              have i1 := hB6.cell 1 rfl
              have i2 := hB6.cell 2 rfl
              have il := hB6.lt
              unfold gV
              clear hf6 hrg6 hge6 hB6 hB5 m0 m1 m2 ml
              clear b0 b1 b2 b3 b4 b5 b6 bl r0 r1 r2 r3 rl p0 p1 p2 p3 pl
              go_wp2
              go_roundw
              case rel => exact ⟨X + 1, by omega, by go_num, by rw [HN.out, List.length_append]; rfl, by rw [HN.out, putsG_snoc]; exact HQ6.out⟩
              case measure => simp [intOf]; omega
        · obtain rfl : X = tw := by omega
          have hXw : ¬ ((X : Int) < t.w) := by have := HTW.out; omega
          have HN : Hid (refF xs t r c (Y + 1) = refP xs t r c Y X) := hid (by unfold refP; rw [refF_succ, E1.out])
          go_wp2
          go_roundw
          case rel => exact ⟨Y + 1, by omega, by go_num, by rw [HN.out], by rw [HN.out]; exact HQ.out⟩
          case measure => simp [intOf]; omega
    · obtain rfl : Y = th := by omega
      have hYw : ¬ ((Y : Int) < t.h) := by have := HTH.out; omega
      obtain ⟨gb5, c5, hB5, hR5, hN5⟩ := HQ.out.q.g
      have HN5 := hid hN5
      clear hN5
      have m0 := hB5.cell 0 rfl
      have m1 := hB5.cell 1 rfl
      have m2 := hB5.cell 2 rfl
      have ml := hB5.lt
      have z0 := HQ.out.z.cell 0 rfl
      have z1 := HQ.out.z.cell 1 rfl
      have z2 := HQ.out.z.cell 2 rfl
      have y0 := HQ.out.z.frozen 0
      have y1 := HQ.out.z.frozen 1
      have y2 := HQ.out.z.frozen 2
      have zl := HQ.out.z.lt
      have HR5 := hid hR5
      clear hR5
      go_wp2
      have hZF := ((HQ.out.z.set 0 (.int .i64 10)).set 1 (.int .i64 10)).set 2 (.slice (some ⟨gb5, 0, none⟩) 100 c5)
      have r0 := hZF.cell 0 rfl
      have r1 := hZF.cell 1 rfl
      have r2 := hZF.cell 2 rfl
      have hs := (((Fr.refl (At (w.heap.size + 1 + 1 + 1 + 1)) wr).setAt 0 (.int .i64 10)).setAt 1 (.int .i64 10)).setAt 2 (.slice (some ⟨gb5, 0, none⟩) 100 c5)
      obtain ⟨rest, hv5⟩ := HR5.out.row
      refine bodyPost_ret (v := .tuple #[gV gb5 c5, .int .i64 (refF xs t r c Y).length]) (by simp [results, Try.results43, go_sem, r0, r1, r2, gV]) rfl ⟨gb5, c5, rfl, HR5.out.fr hs (fun e => absurd (blk_ty (show Blk wr (w.heap.size + 1 + 1 + 1 + 1) _ _ from e ▸ hv5.blk) HQ.out.z) (by decide)), HQ.out.q.fr.then_ hs (fun j e => .inr (by have e' : j = w.heap.size + 1 + 1 + 1 + 1 := e; omega)), HN5.out⟩
end Go.Proofs.Ytnengimekcnfhaa
