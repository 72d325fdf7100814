import Derived.Test.YtokgcgmhfpohoaaC3
import Derived.Deep.RegionHeld3
set_option linter.unusedSimpArgs false
set_option linter.unusedVariables false
namespace Go.Proofs.Ytokgcgmhfpohoaa
open Go.RowKit Go.Proofs.YtokgcgmhfpohoaaW.PrintWords
def put7 (w : World) (g o : Nat) (x : Slot) : World :=
  ((((((w.setCell ⟨g, o, none⟩ (.int .i64 x.gen)).setCell ⟨g, o + 1, none⟩ (.int .i64 x.env)).setCell ⟨g, o + 2, none⟩ (.int .i64 x.kind)).setCell ⟨g, o + 3, none⟩ (.int .i64 x.obj)).setCell
    ⟨g, o + 4, none⟩ (.int .i64 x.rights)).setCell ⟨g, o + 5, none⟩ (.int .i64 x.of)).setCell ⟨g, o + 6, none⟩ (.bool x.used)
theorem put7_fr (w : World) (g o : Nat) (x : Slot) : Fr (At g) w (put7 w g o x) := (((((((Fr.refl _ _).setAt _ _).setAt _ _).setAt _ _).setAt _ _).setAt _ _).setAt _ _).setAt _ _
theorem put7_row {w : World} {g : Nat} {T : TypeId} {l : List Slot} (h : Blk w g T (l.flatMap Slot.cells)) (k : Nat) (hk : k < l.length) (x : Slot) : Blk (put7 w g (k * 7) x) g T ((l.set k x).flatMap Slot.cells) := by
  have h7 := ((((((h.set (k * 7) (.int .i64 x.gen)).set (k * 7 + 1) (.int .i64 x.env)).set (k * 7 + 2) (.int .i64 x.kind)).set (k * 7 + 3) (.int .i64 x.obj)).set (k * 7 + 4) (.int .i64 x.rights)).set (k * 7 + 5) (.int .i64 x.of)).set (k * 7 + 6) (.bool x.used)
  refine Blk.eq h7 ?_
  have e0 := slot_set k 0 hk (by omega) (.int .i64 x.gen) ⟨x.gen, l[k].env, l[k].kind, l[k].obj, l[k].rights, l[k].of, l[k].used⟩ rfl
  rw [Nat.add_zero] at e0
  rw [e0]
  have st : ∀ (y z : Slot) (j : Nat) (hj : j < 7) (v : Value), z.cells = y.cells.set j v → ((l.set k y).flatMap Slot.cells).set (k * 7 + j) v = (l.set k z).flatMap Slot.cells := fun y z j hj v hz => by
    rw [slot_set k j (by simpa using hk) hj v z (by simpa using hz), List.set_set]
  rw [st ⟨x.gen, l[k].env, l[k].kind, l[k].obj, l[k].rights, l[k].of, l[k].used⟩ ⟨x.gen, x.env, l[k].kind, l[k].obj, l[k].rights, l[k].of, l[k].used⟩ 1 (by omega) (.int .i64 x.env) rfl, st ⟨x.gen, x.env, l[k].kind, l[k].obj, l[k].rights, l[k].of, l[k].used⟩ ⟨x.gen, x.env, x.kind, l[k].obj, l[k].rights, l[k].of, l[k].used⟩ 2 (by omega) (.int .i64 x.kind) rfl, st ⟨x.gen, x.env, x.kind, l[k].obj, l[k].rights, l[k].of, l[k].used⟩ ⟨x.gen, x.env, x.kind, x.obj, l[k].rights, l[k].of, l[k].used⟩ 3 (by omega) (.int .i64 x.obj) rfl, st ⟨x.gen, x.env, x.kind, x.obj, l[k].rights, l[k].of, l[k].used⟩ ⟨x.gen, x.env, x.kind, x.obj, x.rights, l[k].of, l[k].used⟩ 4 (by omega) (.int .i64 x.rights) rfl, st ⟨x.gen, x.env, x.kind, x.obj, x.rights, l[k].of, l[k].used⟩ ⟨x.gen, x.env, x.kind, x.obj, x.rights, x.of, l[k].used⟩ 5 (by omega) (.int .i64 x.of) rfl, st ⟨x.gen, x.env, x.kind, x.obj, x.rights, x.of, l[k].used⟩ x 6 (by omega) (.bool x.used) rfl]
theorem Tab.drew {w : World} {b g : Nat} {q : Int} {l : List Slot} (h : Tab w b g q l) : Tab w.drew b g q l := ⟨h.head, h.row, h.ne⟩
theorem Tab.other {w : World} {b g : Nat} {q : Int} {l : List Slot} (h : Tab w b g q l) {p : Addr} (hb : b ≠ p.block) (hg : g ≠ p.block) (v : Value) : Tab (w.setCell p v) b g q l := ⟨h.head.other hb v, h.row.other hg v, h.ne⟩
theorem Tab.lt {w : World} {b g : Nat} {q : Int} {l : List Slot} (h : Tab w b g q l) : b < w.heap.size ∧ g < w.heap.size := ⟨h.head.lt, h.row.lt⟩
theorem Tab.put {w : World} {b g : Nat} {q : Int} {l : List Slot} (h : Tab w b g q l) (k : Nat) (hk : k < l.length) (x : Slot) : Tab (put7 w g (k * 7) x) b g q (l.set k x) :=
  ⟨by rw [List.length_set]; exact h.head.fr (put7_fr _ _ _ _) h.ne, put7_row h.row k hk x, h.ne⟩
def Slot.val (x : Slot) : Value := .agg #[.int .i64 x.gen, .int .i64 x.env, .int .i64 x.kind, .int .i64 x.obj, .int .i64 x.rights, .int .i64 x.of, .bool x.used]
set_option maxRecDepth 100000 in
set_option maxHeartbeats 4000000 in
theorem add_limit (w : World) (b g : Nat) (q : Int) (l : List Slot) (x : Slot) (ht : Tab w b g q l) (hl : l.length ≤ 4096) (hq : q ≤ cntEnv x.env l) :
    Calls Try.prog 29 #[.pointer (some ⟨b, 0, none⟩), .agg #[.int .i64 x.gen, .int .i64 x.env, .int .i64 x.kind, .int .i64 x.obj, .int .i64 x.rights, .int .i64 x.of, .bool x.used]] w fun e w' => e = .returned (.tuple #[.agg #[.int .i64 0, .int .i64 0], .int .i64 10]) ∧ Fr NoB w w' := by
  have hlt := ht.head.lt
  go_enter Try.func29, Try.ntmps29
  go_wp2
  obtain ⟨W, hW⟩ : ∃ W, W = (w.alloc (.cells #[.int .i64 x.gen, .int .i64 x.env, .int .i64 x.kind, .int .i64 x.obj, .int .i64 x.rights, .int .i64 x.of, .bool x.used] 65)).alloc (.cells #[.int .i64 0, .int .i64 0] 27) := ⟨_, rfl⟩
  have hFW : Fr NoB w W := by rw [hW]; exact ((Fr.refl _ _).alloc _).alloc _
  have hbx : Blk W w.heap.size 65 [.int .i64 x.gen, .int .i64 x.env, .int .i64 x.kind, .int .i64 x.obj, .int .i64 x.rights, .int .i64 x.of, .bool x.used] := by rw [hW]; exact (Blk.new w 65 _).alloc _
  have hbr : Blk W (w.heap.size + 1) 27 [.int .i64 0, .int .i64 0] := by rw [hW]; simpa using Blk.new (w.alloc (.cells #[.int .i64 x.gen, .int .i64 x.env, .int .i64 x.kind, .int .i64 x.obj, .int .i64 x.rights, .int .i64 x.of, .bool x.used] 65)) 27 [.int .i64 0, .int .i64 0]
  rw [← hW]
  clear hW
  have hS : ∀ w', Fr NoB W w' → Fr NoB W w' ∧ w'.cell? ⟨b, 1, none⟩ = some (.int .i64 q) ∧ w'.cell? ⟨w.heap.size, 1, none⟩ = some (.int .i64 x.env) := fun w' hf => ⟨hf, (ht.fr0 (hFW.trans hf)).head.cell 1 rfl, (hbx.fr hf (fun h => h)).cell 1 rfl⟩
  have HS := hid hS
  clear hS
  go_region_held3 (fun w' => Fr NoB W w' ∧ w'.cell? ⟨b, 1, none⟩ = some (.int .i64 q) ∧ w'.cell? ⟨w.heap.size, 1, none⟩ = some (.int .i64 x.env)) (first | exact HS.out _ (Fr.drew (Fr.refl _ _)) | exact HS.out _ (by assumption)) (first | (go_at_call 14; refine (Count_any _ b g q l x.env (ht.fr0 (Fr.trans hFW (by assumption : Fr NoB W _ ∧ _ ∧ _).1)) hl).mono ?_; rintro e w1 ⟨rfl, hf⟩; have hF1 : Fr NoB W w1 := Fr.trans (by assumption : Fr NoB W _ ∧ _ ∧ _).1 hf; clear hf))
  have hb1 := hbr.fr hF1 (fun h => h)
  have r0 := hb1.cell 0 rfl
  have r1 := hb1.cell 1 rfl
  have s0 := hb1.frozen 0
  have s1 := hb1.frozen 1
  clear hb1
  go_wp2
  refine bodyPost_ret (v := .tuple #[.agg #[.int .i64 0, .int .i64 0], .int .i64 10]) (by simp [results, Try.results29, go_sem, r0, r1]) rfl ⟨rfl, ?_⟩
  have hF := hFW.trans hF1
  refine Fr.setCell (Fr.setCell hF (.inr ?_) _) (.inr ?_) _ <;> simp
set_option maxRecDepth 100000 in
set_option maxHeartbeats 4000000 in
theorem add_full (w : World) (b g : Nat) (q : Int) (l : List Slot) (x : Slot) (ht : Tab w b g q l) (hl : l.length ≤ 4096) (hq : ¬ q ≤ cntEnv x.env l) (hfull : ∀ j (h : j < l.length), l[j].used = true) :
    Calls Try.prog 29 #[.pointer (some ⟨b, 0, none⟩), .agg #[.int .i64 x.gen, .int .i64 x.env, .int .i64 x.kind, .int .i64 x.obj, .int .i64 x.rights, .int .i64 x.of, .bool x.used]] w fun e w' => e = .returned (.tuple #[.agg #[.int .i64 0, .int .i64 0], .int .i64 3]) ∧ Fr NoB w w' := by
  have hlt := ht.head.lt
  go_enter Try.func29, Try.ntmps29
  go_wp2
  obtain ⟨W, hW⟩ : ∃ W, W = (w.alloc (.cells #[.int .i64 x.gen, .int .i64 x.env, .int .i64 x.kind, .int .i64 x.obj, .int .i64 x.rights, .int .i64 x.of, .bool x.used] 65)).alloc (.cells #[.int .i64 0, .int .i64 0] 27) := ⟨_, rfl⟩
  have hFW : Fr NoB w W := by rw [hW]; exact ((Fr.refl _ _).alloc _).alloc _
  have hbx : Blk W w.heap.size 65 [.int .i64 x.gen, .int .i64 x.env, .int .i64 x.kind, .int .i64 x.obj, .int .i64 x.rights, .int .i64 x.of, .bool x.used] := by rw [hW]; exact (Blk.new w 65 _).alloc _
  have hbr : Blk W (w.heap.size + 1) 27 [.int .i64 0, .int .i64 0] := by rw [hW]; simpa using Blk.new (w.alloc (.cells #[.int .i64 x.gen, .int .i64 x.env, .int .i64 x.kind, .int .i64 x.obj, .int .i64 x.rights, .int .i64 x.of, .bool x.used] 65)) 27 [.int .i64 0, .int .i64 0]
  rw [← hW]
  clear hW
  have hS : ∀ w', Fr NoB W w' → Fr NoB W w' ∧ w'.cell? ⟨b, 1, none⟩ = some (.int .i64 q) ∧ w'.cell? ⟨w.heap.size, 1, none⟩ = some (.int .i64 x.env) := fun w' hf => ⟨hf, (ht.fr0 (hFW.trans hf)).head.cell 1 rfl, (hbx.fr hf (fun h => h)).cell 1 rfl⟩
  have HS := hid hS
  clear hS
  go_region_held3 (fun w' => Fr NoB W w' ∧ w'.cell? ⟨b, 1, none⟩ = some (.int .i64 q) ∧ w'.cell? ⟨w.heap.size, 1, none⟩ = some (.int .i64 x.env)) (first | exact HS.out _ (Fr.drew (Fr.refl _ _)) | exact HS.out _ (by assumption)) (first | (go_at_call 14; refine (Count_any _ b g q l x.env (ht.fr0 (Fr.trans hFW (by assumption : Fr NoB W _ ∧ _ ∧ _).1)) hl).mono ?_; rintro e w1 ⟨rfl, hf⟩; have hF1 : Fr NoB W w1 := Fr.trans (by assumption : Fr NoB W _ ∧ _ ∧ _).1 hf; clear hf))
  have hF2 := hFW.trans hF1
  have h00 := (ht.fr0 hF2).head.cell 0 rfl
  go_wp2_with fail
  refine (ix_none w1 g l (ht.fr0 hF2).row hl hfull).mono ?_
  rintro e w2 ⟨rfl, hf2⟩
  have hb1 := hbr.fr (hF1.trans hf2) (fun h => h)
  have r0 := hb1.cell 0 rfl
  have r1 := hb1.cell 1 rfl
  have s0 := hb1.frozen 0
  have s1 := hb1.frozen 1
  clear hb1
  go_wp2
  refine bodyPost_ret (v := .tuple #[.agg #[.int .i64 0, .int .i64 0], .int .i64 3]) (by simp [results, Try.results29, go_sem, r0, r1]) rfl ⟨rfl, ?_⟩
  have hF := hF2.trans hf2
  refine Fr.setCell (Fr.setCell hF (.inr ?_) _) (.inr ?_) _ <;> simp
set_option maxRecDepth 100000 in
set_option maxHeartbeats 4000000 in
theorem add_ok (w : World) (b g : Nat) (q : Int) (l : List Slot) (x : Slot) (ht : Tab w b g q l) (hl : l.length ≤ 4096) (hq : ¬ q ≤ cntEnv x.env l) (k : Nat) (hk : k < l.length) (hu : l[k].used = false) (hlt : ∀ j (h : j < k), l[j].used = true) :
    Calls Try.prog 29 #[.pointer (some ⟨b, 0, none⟩), .agg #[.int .i64 x.gen, .int .i64 x.env, .int .i64 x.kind, .int .i64 x.obj, .int .i64 x.rights, .int .i64 x.of, .bool x.used]] w fun e w' => e = .returned (.tuple #[.agg #[.int .i64 k, .int .i64 l[k].gen], .int .i64 0]) ∧ Tab w' b g q (l.set k ⟨l[k].gen, x.env, x.kind, x.obj, x.rights, x.of, true⟩) ∧ Fr (At g) w w' := by
  have hltb := ht.head.lt
  go_enter Try.func29, Try.ntmps29
  go_wp2
  obtain ⟨W, hW⟩ : ∃ W, W = (w.alloc (.cells #[.int .i64 x.gen, .int .i64 x.env, .int .i64 x.kind, .int .i64 x.obj, .int .i64 x.rights, .int .i64 x.of, .bool x.used] 65)).alloc (.cells #[.int .i64 0, .int .i64 0] 27) := ⟨_, rfl⟩
  have hFW : Fr NoB w W := by rw [hW]; exact ((Fr.refl _ _).alloc _).alloc _
  have hbx : Blk W w.heap.size 65 [.int .i64 x.gen, .int .i64 x.env, .int .i64 x.kind, .int .i64 x.obj, .int .i64 x.rights, .int .i64 x.of, .bool x.used] := by rw [hW]; exact (Blk.new w 65 _).alloc _
  have hbr : Blk W (w.heap.size + 1) 27 [.int .i64 0, .int .i64 0] := by rw [hW]; simpa using Blk.new (w.alloc (.cells #[.int .i64 x.gen, .int .i64 x.env, .int .i64 x.kind, .int .i64 x.obj, .int .i64 x.rights, .int .i64 x.of, .bool x.used] 65)) 27 [.int .i64 0, .int .i64 0]
  rw [← hW]
  clear hW
  have hS : ∀ w', Fr NoB W w' → Fr NoB W w' ∧ w'.cell? ⟨b, 1, none⟩ = some (.int .i64 q) ∧ w'.cell? ⟨w.heap.size, 1, none⟩ = some (.int .i64 x.env) := fun w' hf => ⟨hf, (ht.fr0 (hFW.trans hf)).head.cell 1 rfl, (hbx.fr hf (fun h => h)).cell 1 rfl⟩
  have HS := hid hS
  clear hS
  go_region_held3 (fun w' => Fr NoB W w' ∧ w'.cell? ⟨b, 1, none⟩ = some (.int .i64 q) ∧ w'.cell? ⟨w.heap.size, 1, none⟩ = some (.int .i64 x.env)) (first | exact HS.out _ (Fr.drew (Fr.refl _ _)) | exact HS.out _ (by assumption)) (first | (go_at_call 14; refine (Count_any _ b g q l x.env (ht.fr0 (Fr.trans hFW (by assumption : Fr NoB W _ ∧ _ ∧ _).1)) hl).mono ?_; rintro e w1 ⟨rfl, hf⟩; have hF1 : Fr NoB W w1 := Fr.trans (by assumption : Fr NoB W _ ∧ _ ∧ _).1 hf; clear hf))
  have hF2 := hFW.trans hF1
  have h00 := (ht.fr0 hF2).head.cell 0 rfl
  go_wp2_with fail
  refine (ix_some w1 g l (ht.fr0 hF2).row hl k hk hu hlt).mono ?_
  rintro e w2 ⟨rfl, hf2⟩
  have ht2 := ht.fr0 (hF2.trans hf2)
  have hb1 := hbr.fr (hF1.trans hf2) (fun h => h)
  have hx1 := hbx.fr (hF1.trans hf2) (fun h => h)
  have r0 := hb1.cell 0 rfl
  have r1 := hb1.cell 1 rfl
  have s0 := hb1.frozen 0
  have s1 := hb1.frozen 1
  have x0 := hx1.cell 0 rfl
  have x1 := hx1.cell 1 rfl
  have x2 := hx1.cell 2 rfl
  have x3 := hx1.cell 3 rfl
  have x4 := hx1.cell 4 rfl
  have x5 := hx1.cell 5 rfl
  have x6 := hx1.cell 6 rfl
  have y0 := hx1.frozen 0
  have y6 := hx1.frozen 6
  have h00' := ht2.head.cell 0 rfl
  obtain ⟨c0, c1, c2, c3, c4, c5, c6⟩ := slots_at ht2.row k hk
  have hkl : (k : Int) < l.length := by omega
  have hgne : g ≠ w.heap.size := by have := ht.row.lt; omega
  have hgne' : w.heap.size ≠ g := fun h => hgne h.symm
  go_wp2
  obtain ⟨w3, hw3⟩ : ∃ w3, w3 = (w2.setCell ⟨w.heap.size, 0, none⟩ (.int .i64 l[k].gen)).setCell ⟨w.heap.size, 6, none⟩ (.bool true) := ⟨_, rfl⟩
  have hF3 : Fr NoB w w3 := by rw [hw3]; exact Fr.setCell (Fr.setCell (hF2.trans hf2) (.inr (Nat.le_refl _)) _) (.inr (Nat.le_refl _)) _
  have hx3 : Blk w3 w.heap.size 65 [.int .i64 l[k].gen, .int .i64 x.env, .int .i64 x.kind, .int .i64 x.obj, .int .i64 x.rights, .int .i64 x.of, .bool true] := by rw [hw3]; exact (hx1.set 0 _).set 6 _
  have hb3 : Blk w3 (w.heap.size + 1) 27 [.int .i64 0, .int .i64 0] := by rw [hw3]; exact (hb1.other (by simp) _).other (by simp) _
  have ht3 := ht.fr0 hF3
  rw [← hw3]
  clear hw3 x0 x1 x2 x3 x4 x5 x6 y0 y6 c0 c1 c2 c3 c4 c5 c6 h00 h00' r0 r1 s0 s1
  generalize hgen : l[k].gen = gen at *
  have hbg : b ≠ g := ht.ne
  have x0 := hx3.cell 0 rfl
  have x1 := hx3.cell 1 rfl
  have x2 := hx3.cell 2 rfl
  have x3 := hx3.cell 3 rfl
  have x4 := hx3.cell 4 rfl
  have x5 := hx3.cell 5 rfl
  have x6 := hx3.cell 6 rfl
  have h00 := ht3.head.cell 0 rfl
  refine wp_region_still_tail 7 (by kernel_rfl) (by kernel_rfl) ?_
  change wpStill _ _ (World.drew _) _ _ _
  simp only [List.take_succ_cons, List.take_zero, List.drop_succ_cons, List.drop_zero]
  iterate 7 still_step
  refine wpStill_nil ?_
  change wpList _ _ _ _ _ (World.drew _)
  obtain ⟨c0, c1, c2, c3, c4, c5, c6⟩ := slots_at ht3.row k hk
  have f0 := ht3.row.frozen (k * 7)
  have f1 := ht3.row.frozen (k * 7 + 1)
  have f2 := ht3.row.frozen (k * 7 + 2)
  have f3 := ht3.row.frozen (k * 7 + 3)
  have f4 := ht3.row.frozen (k * 7 + 4)
  have f5 := ht3.row.frozen (k * 7 + 5)
  have f6 := ht3.row.frozen (k * 7 + 6)
  refine wpList_step (fun K hK => ?_)
  go_simp
  refine hK _ _ ?_
  clear hK K
  have ht4 : Tab (put7 w3 g (k * 7) ⟨gen, x.env, x.kind, x.obj, x.rights, x.of, true⟩) b g q (l.set k ⟨gen, x.env, x.kind, x.obj, x.rights, x.of, true⟩) := Tab.put ht3 k hk _
  have hf4 := put7_fr w3 g (k * 7) ⟨gen, x.env, x.kind, x.obj, x.rights, x.of, true⟩
  change wpList _ _ _ _ _ (World.drew (put7 w3 g (k * 7) ⟨gen, x.env, x.kind, x.obj, x.rights, x.of, true⟩))
  generalize put7 w3 g (k * 7) ⟨gen, x.env, x.kind, x.obj, x.rights, x.of, true⟩ = w4 at *
  have hF4 : Fr (At g) w w4 := Fr.trans (hF3.mono (fun _ h => h.elim)) hf4
  have hb4 := Blk.fr hb3 hf4 (fun h => by have h : w.heap.size + 1 = g := h; have := ht.row.lt; omega)
  have hx4 := Blk.fr hx3 hf4 (fun h => by have h : w.heap.size = g := h; omega)
  clear x0 x1 x2 x3 x4 x5 x6 c0 c1 c2 c3 c4 c5 c6 f0 f1 f2 f3 f4 f5 f6 h00
  have x0 := hx4.cell 0 rfl
  have r0 := hb4.cell 0 rfl
  have r1 := hb4.cell 1 rfl
  have s0 := hb4.frozen 0
  have s1 := hb4.frozen 1
  go_wp2
  subst hgen
  refine bodyPost_ret (v := .tuple #[.agg #[.int .i64 k, .int .i64 l[k].gen], .int .i64 0]) (by simp [results, Try.results29, go_sem, r0, r1]) rfl ⟨rfl, ?_, ?_⟩
  · have hlt4 := ht.lt
    refine Tab.drew (Tab.other (Tab.other ht4 ?_ ?_ _) ?_ ?_ _) <;> (simp only []; omega)
  · refine Fr.drew (Fr.setCell (Fr.setCell hF4 (.inr ?_) _) (.inr ?_) _) <;> simp
end Go.Proofs.Ytokgcgmhfpohoaa
