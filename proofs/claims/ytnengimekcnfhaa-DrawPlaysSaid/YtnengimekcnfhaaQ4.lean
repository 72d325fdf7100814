import Derived.Test.YtnengimekcnfhaaQ3
import Derived.Deep.RegionHeld
set_option linter.unusedSimpArgs false
set_option linter.unusedVariables false
set_option maxRecDepth 20000
namespace Go.Proofs.Ytnengimekcnfhaa
open Go.RowKit Go.Proofs.YtnengimekcnfhaaW.PrintWords
theorem sI {α : Type} (l : List α) (i : Nat) (a : α) : l.toArray.setIfInBounds i a = (l.set i a).toArray := List.setIfInBounds_toArray ..
theorem sZ {α : Type} (a b : α) (l : List α) : (a :: l).set 0 b = b :: l := rfl
theorem sS {α : Type} (a b : α) (l : List α) (n : Nat) : (a :: l).set (n + 1) b = a :: l.set n b := rfl
def Own (xs : List Wn) (t : Wn) (x y : Int) : Prop := 0 ≤ x ∧ x < t.w ∧ 0 ≤ y ∧ y < t.h ∧ ownerOf xs (t.x + x) (t.y + y) = t.id
instance (xs : List Wn) (t : Wn) (x y : Int) : Decidable (Own xs t x y) := inferInstanceAs (Decidable (_ ∧ _))
set_option maxHeartbeats 8000000 in
theorem r13own_any (w : World) (v : Value) (xs : List Wn) (t : Wn) (x y : Int) (hV : WnS w v xs) (hl : xs.length ≤ 4096) (hF : ∀ q ∈ xs, FitsIn 10 10 q.r) (ht : FitsIn 10 10 t.r) :
    Calls Try.prog 67 #[v, t.v, .int .i64 x, .int .i64 y] w fun e w' => e = .returned (.bool (decide (Own xs t x y))) ∧ Fr NoB w w' := by
  obtain ⟨_, g2, g3, g4, g5, g6, g7⟩ : t.r.Right ∧ 0 < t.w ∧ 0 < t.h ∧ 0 ≤ t.x ∧ 0 ≤ t.y ∧ t.x + t.w ≤ 10 ∧ t.y + t.h ≤ 10 := ht
  have hB := Blk.new w 73 t.cells
  have hfw : Fr NoB w (w.alloc (.cells #[.int .i64 t.id, .int .i64 t.env, .int .i64 t.x, .int .i64 t.y, .int .i64 t.w, .int .i64 t.h, .bool t.hid] 73)).drew := ((Fr.refl NoB w).alloc _).drew
  have HSv : Hid (∀ W, Fr NoB (w.alloc (.cells #[.int .i64 t.id, .int .i64 t.env, .int .i64 t.x, .int .i64 t.y, .int .i64 t.w, .int .i64 t.h, .bool t.hid] 73)).drew W → W.cell? ⟨w.heap.size, 0, none⟩ = some (.int .i64 t.id) ∧ W.cell? ⟨w.heap.size, 2, none⟩ = some (.int .i64 t.x) ∧ W.cell? ⟨w.heap.size, 3, none⟩ = some (.int .i64 t.y) ∧ W.cell? ⟨w.heap.size, 4, none⟩ = some (.int .i64 t.w) ∧ W.cell? ⟨w.heap.size, 5, none⟩ = some (.int .i64 t.h)) := hid fun W hW => by
    have h := hB.drew.fr hW (fun h => h)
    exact ⟨h.cell 0 rfl, h.cell 2 rfl, h.cell 3 rfl, h.cell 4 rfl, h.cell 5 rfl⟩
  have HV := hid (hV.fr hfw (fun _ _ h => h))
  have HFI := hid hF
  obtain ⟨A, c, hv, _, _⟩ := hV.shape
  subst hv
  have HFW := hid hfw
  clear hB hfw hV hF
  unfold Wn.v
  cases h1 : decide (0 ≤ x)
  · rw [show decide (Own xs t x y) = false from decide_eq_false (fun h => (of_decide_eq_false h1) h.1)]
    go_enter Try.func67, Try.ntmps67
    go_wp2_with fail
    refine wp_region_held_drew (S := (fun W : World => W.cell? ⟨w.heap.size, 0, none⟩ = some (.int .i64 t.id) ∧ W.cell? ⟨w.heap.size, 2, none⟩ = some (.int .i64 t.x) ∧ W.cell? ⟨w.heap.size, 3, none⟩ = some (.int .i64 t.y) ∧ W.cell? ⟨w.heap.size, 4, none⟩ = some (.int .i64 t.w) ∧ W.cell? ⟨w.heap.size, 5, none⟩ = some (.int .i64 t.h))) (by kernel_rfl) (HSv.out _ (Fr.refl _ _)) (fun hHeld => ?_)
    refine wpAnyH_take (i := 0) (oi := { dst := some 9, op := Op.move (Operand.tmp 2), type := 3, pos := "ref.go:15", after := #[], guard := none }) (v := ?voa1) rfl (by kernel_rfl) (by kernel_rfl) (by kernel_rfl) (fun _ _ _ h => h) (Or.inl ⟨by rfl, ?hyoa1⟩) (by assumption) ?roa1
    case hyoa1 => (intro w hSw; (try dsimp only at hSw); go_simp; try (with_reducible rfl))
    try simp only [Act.put, sI, sZ, sS]
    refine wpAnyH_take (i := 1) (oi := { dst := some 10, op := Op.binOp BinOp.geq 3 (Operand.tmp 9) (Operand.const (Value.int IntKind.i64 0)) 3, type := 4, pos := "ref.go:15", after := #[{ on := 0, ground := Ground.data }], guard := none }) (v := ?voa2) rfl (by kernel_rfl) (by kernel_rfl) (by kernel_rfl) (fun _ _ _ h => h) (Or.inl ⟨by rfl, ?hyoa2⟩) (by assumption) ?roa2
    case hyoa2 => (intro w hSw; (try dsimp only at hSw); go_simp; try (with_reducible rfl))
    try simp only [Act.put, sI, sZ, sS]
    refine wpAnyH_take (i := 2) (oi := { dst := some 11, op := Op.move (Operand.tmp 10), type := 4, pos := "ref.go:15", after := #[{ on := 1, ground := Ground.data }], guard := none }) (v := ?voa3) rfl (by kernel_rfl) (by kernel_rfl) (by kernel_rfl) (fun _ _ _ h => h) (Or.inl ⟨by rfl, ?hyoa3⟩) (by assumption) ?roa3
    case hyoa3 => (intro w hSw; (try dsimp only at hSw); go_simp; try (with_reducible rfl))
    try simp only [Act.put, sI, sZ, sS]
    refine wpAnyH_take (i := 3) (oi := { dst := some 12, op := Op.move (Operand.tmp 2), type := 3, pos := "ref.go:15", after := #[{ on := 2, ground := Ground.guard }], guard := some (2, true) }) (v := undef) rfl (by kernel_rfl) (by kernel_rfl) (by kernel_rfl) (fun _ _ _ h => h) (Or.inr ⟨by rfl, rfl⟩) (by assumption) ?_
    try simp only [Act.put, sI, sZ, sS]
    refine wpAnyH_take (i := 4) (oi := { dst := some 13, op := Op.fieldAddr 73 (Operand.tmp 5) 2, type := 0, pos := "ref.go:15", after := #[{ on := 2, ground := Ground.guard }], guard := some (2, true) }) (v := undef) rfl (by kernel_rfl) (by kernel_rfl) (by kernel_rfl) (fun _ _ _ h => h) (Or.inr ⟨by rfl, rfl⟩) (by assumption) ?_
    try simp only [Act.put, sI, sZ, sS]
    refine wpAnyH_take (i := 5) (oi := { dst := some 14, op := Op.fieldAddr 23 (Operand.tmp 13) 2, type := 0, pos := "ref.go:15", after := #[{ on := 4, ground := Ground.data }, { on := 2, ground := Ground.guard }], guard := some (2, true) }) (v := undef) rfl (by kernel_rfl) (by kernel_rfl) (by kernel_rfl) (fun _ _ _ h => h) (Or.inr ⟨by rfl, rfl⟩) (by assumption) ?_
    try simp only [Act.put, sI, sZ, sS]
    refine wpAnyH_take (i := 6) (oi := { dst := some 15, op := Op.load 3 (Operand.tmp 14), type := 3, pos := "ref.go:15", after := #[{ on := 5, ground := Ground.data }, { on := 2, ground := Ground.guard }], guard := some (2, true) }) (v := undef) rfl (by kernel_rfl) (by kernel_rfl) (by kernel_rfl) (fun _ _ _ h => h) (Or.inr ⟨by rfl, rfl⟩) (by assumption) ?_
    try simp only [Act.put, sI, sZ, sS]
    refine wpAnyH_take (i := 7) (oi := { dst := some 16, op := Op.binOp BinOp.lss 3 (Operand.tmp 12) (Operand.tmp 15) 3, type := 4, pos := "ref.go:15", after := #[{ on := 3, ground := Ground.data }, { on := 6, ground := Ground.data }, { on := 2, ground := Ground.guard }], guard := some (2, true) }) (v := undef) rfl (by kernel_rfl) (by kernel_rfl) (by kernel_rfl) (fun _ _ _ h => h) (Or.inr ⟨by rfl, rfl⟩) (by assumption) ?_
    try simp only [Act.put, sI, sZ, sS]
    refine wpAnyH_take (i := 8) (oi := { dst := some 17, op := Op.pick (Operand.tmp 11) (Operand.tmp 16) (Operand.const (Value.bool false)), type := 4, pos := "ref.go:15", after := #[{ on := 2, ground := Ground.data }, { on := 7, ground := Ground.data }], guard := none }) (v := ?voa9) rfl (by kernel_rfl) (by kernel_rfl) (by kernel_rfl) (fun _ _ _ h => h) (Or.inl ⟨by rfl, ?hyoa9⟩) (by assumption) ?roa9
    case hyoa9 => (intro w hSw; (try dsimp only at hSw); go_simp; try (with_reducible rfl))
    try simp only [Act.put, sI, sZ, sS]
    refine wpAnyH_take (i := 9) (oi := { dst := some 18, op := Op.move (Operand.tmp 17), type := 4, pos := "ref.go:15", after := #[{ on := 8, ground := Ground.data }, { on := 2, ground := Ground.chain }], guard := none }) (v := ?voa10) rfl (by kernel_rfl) (by kernel_rfl) (by kernel_rfl) (fun _ _ _ h => h) (Or.inl ⟨by rfl, ?hyoa10⟩) (by assumption) ?roa10
    case hyoa10 => (intro w hSw; (try dsimp only at hSw); go_simp; try (with_reducible rfl))
    try simp only [Act.put, sI, sZ, sS]
    refine wpAnyH_take (i := 10) (oi := { dst := some 19, op := Op.move (Operand.tmp 3), type := 3, pos := "ref.go:15", after := #[{ on := 9, ground := Ground.guard }], guard := some (9, true) }) (v := undef) rfl (by kernel_rfl) (by kernel_rfl) (by kernel_rfl) (fun _ _ _ h => h) (Or.inr ⟨by rfl, rfl⟩) (by assumption) ?_
    try simp only [Act.put, sI, sZ, sS]
    refine wpAnyH_take (i := 11) (oi := { dst := some 20, op := Op.binOp BinOp.geq 3 (Operand.tmp 19) (Operand.const (Value.int IntKind.i64 0)) 3, type := 4, pos := "ref.go:15", after := #[{ on := 10, ground := Ground.data }, { on := 9, ground := Ground.guard }], guard := some (9, true) }) (v := undef) rfl (by kernel_rfl) (by kernel_rfl) (by kernel_rfl) (fun _ _ _ h => h) (Or.inr ⟨by rfl, rfl⟩) (by assumption) ?_
    try simp only [Act.put, sI, sZ, sS]
    refine wpAnyH_take (i := 12) (oi := { dst := some 21, op := Op.pick (Operand.tmp 18) (Operand.tmp 20) (Operand.const (Value.bool false)), type := 4, pos := "ref.go:15", after := #[{ on := 9, ground := Ground.data }, { on := 11, ground := Ground.data }], guard := none }) (v := ?voa13) rfl (by kernel_rfl) (by kernel_rfl) (by kernel_rfl) (fun _ _ _ h => h) (Or.inl ⟨by rfl, ?hyoa13⟩) (by assumption) ?roa13
    case hyoa13 => (intro w hSw; (try dsimp only at hSw); go_simp; try (with_reducible rfl))
    try simp only [Act.put, sI, sZ, sS]
    refine wpAnyH_take (i := 13) (oi := { dst := some 22, op := Op.move (Operand.tmp 21), type := 4, pos := "ref.go:15", after := #[{ on := 12, ground := Ground.data }, { on := 9, ground := Ground.chain }], guard := none }) (v := ?voa14) rfl (by kernel_rfl) (by kernel_rfl) (by kernel_rfl) (fun _ _ _ h => h) (Or.inl ⟨by rfl, ?hyoa14⟩) (by assumption) ?roa14
    case hyoa14 => (intro w hSw; (try dsimp only at hSw); go_simp; try (with_reducible rfl))
    try simp only [Act.put, sI, sZ, sS]
    refine wpAnyH_take (i := 14) (oi := { dst := some 23, op := Op.move (Operand.tmp 3), type := 3, pos := "ref.go:15", after := #[{ on := 13, ground := Ground.guard }], guard := some (13, true) }) (v := undef) rfl (by kernel_rfl) (by kernel_rfl) (by kernel_rfl) (fun _ _ _ h => h) (Or.inr ⟨by rfl, rfl⟩) (by assumption) ?_
    try simp only [Act.put, sI, sZ, sS]
    refine wpAnyH_take (i := 15) (oi := { dst := some 24, op := Op.fieldAddr 73 (Operand.tmp 5) 2, type := 0, pos := "ref.go:15", after := #[{ on := 13, ground := Ground.guard }], guard := some (13, true) }) (v := undef) rfl (by kernel_rfl) (by kernel_rfl) (by kernel_rfl) (fun _ _ _ h => h) (Or.inr ⟨by rfl, rfl⟩) (by assumption) ?_
    try simp only [Act.put, sI, sZ, sS]
    refine wpAnyH_take (i := 16) (oi := { dst := some 25, op := Op.fieldAddr 23 (Operand.tmp 24) 3, type := 0, pos := "ref.go:15", after := #[{ on := 15, ground := Ground.data }, { on := 13, ground := Ground.guard }], guard := some (13, true) }) (v := undef) rfl (by kernel_rfl) (by kernel_rfl) (by kernel_rfl) (fun _ _ _ h => h) (Or.inr ⟨by rfl, rfl⟩) (by assumption) ?_
    try simp only [Act.put, sI, sZ, sS]
    refine wpAnyH_take (i := 17) (oi := { dst := some 26, op := Op.load 3 (Operand.tmp 25), type := 3, pos := "ref.go:15", after := #[{ on := 16, ground := Ground.data }, { on := 13, ground := Ground.guard }], guard := some (13, true) }) (v := undef) rfl (by kernel_rfl) (by kernel_rfl) (by kernel_rfl) (fun _ _ _ h => h) (Or.inr ⟨by rfl, rfl⟩) (by assumption) ?_
    try simp only [Act.put, sI, sZ, sS]
    refine wpAnyH_take (i := 18) (oi := { dst := some 27, op := Op.binOp BinOp.lss 3 (Operand.tmp 23) (Operand.tmp 26) 3, type := 4, pos := "ref.go:15", after := #[{ on := 14, ground := Ground.data }, { on := 17, ground := Ground.data }, { on := 13, ground := Ground.guard }], guard := some (13, true) }) (v := undef) rfl (by kernel_rfl) (by kernel_rfl) (by kernel_rfl) (fun _ _ _ h => h) (Or.inr ⟨by rfl, rfl⟩) (by assumption) ?_
    try simp only [Act.put, sI, sZ, sS]
    refine wpAnyH_take (i := 19) (oi := { dst := some 28, op := Op.pick (Operand.tmp 22) (Operand.tmp 27) (Operand.const (Value.bool false)), type := 4, pos := "ref.go:15", after := #[{ on := 13, ground := Ground.data }, { on := 18, ground := Ground.data }], guard := none }) (v := ?voa20) rfl (by kernel_rfl) (by kernel_rfl) (by kernel_rfl) (fun _ _ _ h => h) (Or.inl ⟨by rfl, ?hyoa20⟩) (by assumption) ?roa20
    case hyoa20 => (intro w hSw; (try dsimp only at hSw); go_simp; try (with_reducible rfl))
    try simp only [Act.put, sI, sZ, sS]
    refine wpAnyH_take (i := 20) (oi := { dst := some 29, op := Op.move (Operand.tmp 28), type := 4, pos := "ref.go:15", after := #[{ on := 19, ground := Ground.data }, { on := 13, ground := Ground.chain }], guard := none }) (v := ?voa21) rfl (by kernel_rfl) (by kernel_rfl) (by kernel_rfl) (fun _ _ _ h => h) (Or.inl ⟨by rfl, ?hyoa21⟩) (by assumption) ?roa21
    case hyoa21 => (intro w hSw; (try dsimp only at hSw); go_simp; try (with_reducible rfl))
    try simp only [Act.put, sI, sZ, sS]
    refine wpAnyH_take (i := 21) (oi := { dst := some 30, op := Op.move (Operand.tmp 0), type := 48, pos := "ref.go:15", after := #[{ on := 20, ground := Ground.guard }], guard := some (20, true) }) (v := undef) rfl (by kernel_rfl) (by kernel_rfl) (by kernel_rfl) (fun _ _ _ h => h) (Or.inr ⟨by rfl, rfl⟩) (by assumption) ?_
    try simp only [Act.put, sI, sZ, sS]
    refine wpAnyH_take (i := 22) (oi := { dst := some 31, op := Op.fieldAddr 73 (Operand.tmp 5) 2, type := 0, pos := "ref.go:15", after := #[{ on := 20, ground := Ground.guard }], guard := some (20, true) }) (v := undef) rfl (by kernel_rfl) (by kernel_rfl) (by kernel_rfl) (fun _ _ _ h => h) (Or.inr ⟨by rfl, rfl⟩) (by assumption) ?_
    try simp only [Act.put, sI, sZ, sS]
    refine wpAnyH_take (i := 23) (oi := { dst := some 32, op := Op.fieldAddr 23 (Operand.tmp 31) 0, type := 0, pos := "ref.go:15", after := #[{ on := 22, ground := Ground.data }, { on := 20, ground := Ground.guard }], guard := some (20, true) }) (v := undef) rfl (by kernel_rfl) (by kernel_rfl) (by kernel_rfl) (fun _ _ _ h => h) (Or.inr ⟨by rfl, rfl⟩) (by assumption) ?_
    try simp only [Act.put, sI, sZ, sS]
    refine wpAnyH_take (i := 24) (oi := { dst := some 33, op := Op.load 3 (Operand.tmp 32), type := 3, pos := "ref.go:15", after := #[{ on := 23, ground := Ground.data }, { on := 20, ground := Ground.guard }], guard := some (20, true) }) (v := undef) rfl (by kernel_rfl) (by kernel_rfl) (by kernel_rfl) (fun _ _ _ h => h) (Or.inr ⟨by rfl, rfl⟩) (by assumption) ?_
    try simp only [Act.put, sI, sZ, sS]
    refine wpAnyH_take (i := 25) (oi := { dst := some 34, op := Op.move (Operand.tmp 2), type := 3, pos := "ref.go:15", after := #[{ on := 20, ground := Ground.guard }], guard := some (20, true) }) (v := undef) rfl (by kernel_rfl) (by kernel_rfl) (by kernel_rfl) (fun _ _ _ h => h) (Or.inr ⟨by rfl, rfl⟩) (by assumption) ?_
    try simp only [Act.put, sI, sZ, sS]
    refine wpAnyH_take (i := 26) (oi := { dst := some 35, op := Op.binOp BinOp.add 3 (Operand.tmp 33) (Operand.tmp 34) 3, type := 3, pos := "ref.go:15", after := #[{ on := 24, ground := Ground.data }, { on := 25, ground := Ground.data }, { on := 20, ground := Ground.guard }], guard := some (20, true) }) (v := undef) rfl (by kernel_rfl) (by kernel_rfl) (by kernel_rfl) (fun _ _ _ h => h) (Or.inr ⟨by rfl, rfl⟩) (by assumption) ?_
    try simp only [Act.put, sI, sZ, sS]
    refine wpAnyH_take (i := 27) (oi := { dst := some 36, op := Op.fieldAddr 73 (Operand.tmp 5) 2, type := 0, pos := "ref.go:15", after := #[{ on := 20, ground := Ground.guard }], guard := some (20, true) }) (v := undef) rfl (by kernel_rfl) (by kernel_rfl) (by kernel_rfl) (fun _ _ _ h => h) (Or.inr ⟨by rfl, rfl⟩) (by assumption) ?_
    try simp only [Act.put, sI, sZ, sS]
    refine wpAnyH_take (i := 28) (oi := { dst := some 37, op := Op.fieldAddr 23 (Operand.tmp 36) 1, type := 0, pos := "ref.go:15", after := #[{ on := 27, ground := Ground.data }, { on := 20, ground := Ground.guard }], guard := some (20, true) }) (v := undef) rfl (by kernel_rfl) (by kernel_rfl) (by kernel_rfl) (fun _ _ _ h => h) (Or.inr ⟨by rfl, rfl⟩) (by assumption) ?_
    try simp only [Act.put, sI, sZ, sS]
    refine wpAnyH_take (i := 29) (oi := { dst := some 38, op := Op.load 3 (Operand.tmp 37), type := 3, pos := "ref.go:15", after := #[{ on := 28, ground := Ground.data }, { on := 20, ground := Ground.guard }], guard := some (20, true) }) (v := undef) rfl (by kernel_rfl) (by kernel_rfl) (by kernel_rfl) (fun _ _ _ h => h) (Or.inr ⟨by rfl, rfl⟩) (by assumption) ?_
    try simp only [Act.put, sI, sZ, sS]
    refine wpAnyH_take (i := 30) (oi := { dst := some 39, op := Op.move (Operand.tmp 3), type := 3, pos := "ref.go:15", after := #[{ on := 20, ground := Ground.guard }], guard := some (20, true) }) (v := undef) rfl (by kernel_rfl) (by kernel_rfl) (by kernel_rfl) (fun _ _ _ h => h) (Or.inr ⟨by rfl, rfl⟩) (by assumption) ?_
    try simp only [Act.put, sI, sZ, sS]
    refine wpAnyH_take (i := 31) (oi := { dst := some 40, op := Op.binOp BinOp.add 3 (Operand.tmp 38) (Operand.tmp 39) 3, type := 3, pos := "ref.go:15", after := #[{ on := 29, ground := Ground.data }, { on := 30, ground := Ground.data }, { on := 20, ground := Ground.guard }], guard := some (20, true) }) (v := undef) rfl (by kernel_rfl) (by kernel_rfl) (by kernel_rfl) (fun _ _ _ h => h) (Or.inr ⟨by rfl, rfl⟩) (by assumption) ?_
    try simp only [Act.put, sI, sZ, sS]
    refine wpAnyH_take (i := 32) (oi := { dst := some 41, op := Op.call { callee := Callee.value (Operand.func 76), args := #[Operand.tmp 30, Operand.tmp 35, Operand.tmp 40], argTypes := #[48, 3, 3] }, type := 3, pos := "ref.go:15", after := #[{ on := 21, ground := Ground.data }, { on := 26, ground := Ground.data }, { on := 31, ground := Ground.data }, { on := 20, ground := Ground.chain }, { on := 20, ground := Ground.guard }], guard := some (20, true) }) (v := undef) rfl (by kernel_rfl) (by kernel_rfl) (by kernel_rfl) (fun _ _ _ h => h) (Or.inr ⟨by rfl, rfl⟩) (by assumption) ?_
    try simp only [Act.put, sI, sZ, sS]
    refine wpAnyH_take (i := 33) (oi := { dst := some 42, op := Op.fieldAddr 73 (Operand.tmp 5) 0, type := 0, pos := "ref.go:15", after := #[{ on := 20, ground := Ground.guard }], guard := some (20, true) }) (v := undef) rfl (by kernel_rfl) (by kernel_rfl) (by kernel_rfl) (fun _ _ _ h => h) (Or.inr ⟨by rfl, rfl⟩) (by assumption) ?_
    try simp only [Act.put, sI, sZ, sS]
    refine wpAnyH_take (i := 34) (oi := { dst := some 43, op := Op.load 3 (Operand.tmp 42), type := 3, pos := "ref.go:15", after := #[{ on := 33, ground := Ground.data }, { on := 20, ground := Ground.guard }], guard := some (20, true) }) (v := undef) rfl (by kernel_rfl) (by kernel_rfl) (by kernel_rfl) (fun _ _ _ h => h) (Or.inr ⟨by rfl, rfl⟩) (by assumption) ?_
    try simp only [Act.put, sI, sZ, sS]
    refine wpAnyH_take (i := 35) (oi := { dst := some 44, op := Op.binOp BinOp.eql 3 (Operand.tmp 41) (Operand.tmp 43) 3, type := 4, pos := "ref.go:15", after := #[{ on := 32, ground := Ground.data }, { on := 34, ground := Ground.data }, { on := 20, ground := Ground.guard }], guard := some (20, true) }) (v := undef) rfl (by kernel_rfl) (by kernel_rfl) (by kernel_rfl) (fun _ _ _ h => h) (Or.inr ⟨by rfl, rfl⟩) (by assumption) ?_
    try simp only [Act.put, sI, sZ, sS]
    refine wpAnyH_take (i := 36) (oi := { dst := some 45, op := Op.pick (Operand.tmp 29) (Operand.tmp 44) (Operand.const (Value.bool false)), type := 4, pos := "ref.go:15", after := #[{ on := 20, ground := Ground.data }, { on := 35, ground := Ground.data }], guard := none }) (v := ?voa37) rfl (by kernel_rfl) (by kernel_rfl) (by kernel_rfl) (fun _ _ _ h => h) (Or.inl ⟨by rfl, ?hyoa37⟩) (by assumption) ?roa37
    case hyoa37 => (intro w hSw; (try dsimp only at hSw); go_simp; try (with_reducible rfl))
    try simp only [Act.put, sI, sZ, sS]
    refine wpAnyH_take (i := 37) (oi := { dst := some 8, op := Op.assign (Operand.tmp 45), type := 4, pos := "ref.go:15", after := #[{ on := 36, ground := Ground.data }, { on := 32, ground := Ground.chain }, { on := 0, ground := Ground.phase }, { on := 1, ground := Ground.phase }, { on := 2, ground := Ground.phase }, { on := 3, ground := Ground.phase }, { on := 4, ground := Ground.phase }, { on := 5, ground := Ground.phase }, { on := 6, ground := Ground.phase }, { on := 7, ground := Ground.phase }, { on := 8, ground := Ground.phase }, { on := 9, ground := Ground.phase }, { on := 10, ground := Ground.phase }, { on := 11, ground := Ground.phase }, { on := 12, ground := Ground.phase }, { on := 13, ground := Ground.phase }, { on := 14, ground := Ground.phase }, { on := 15, ground := Ground.phase }, { on := 16, ground := Ground.phase }, { on := 17, ground := Ground.phase }, { on := 18, ground := Ground.phase }, { on := 19, ground := Ground.phase }, { on := 20, ground := Ground.phase }, { on := 21, ground := Ground.phase }, { on := 22, ground := Ground.phase }, { on := 23, ground := Ground.phase }, { on := 24, ground := Ground.phase }, { on := 25, ground := Ground.phase }, { on := 26, ground := Ground.phase }, { on := 27, ground := Ground.phase }, { on := 28, ground := Ground.phase }, { on := 29, ground := Ground.phase }, { on := 30, ground := Ground.phase }, { on := 31, ground := Ground.phase }, { on := 32, ground := Ground.phase }, { on := 33, ground := Ground.phase }, { on := 34, ground := Ground.phase }, { on := 35, ground := Ground.phase }, { on := 36, ground := Ground.phase }], guard := none }) (v := ?voa38) rfl (by kernel_rfl) (by kernel_rfl) (by kernel_rfl) (fun _ _ _ h => h) (Or.inl ⟨by rfl, ?hyoa38⟩) (by assumption) ?roa38
    case hyoa38 => (intro w hSw; (try dsimp only at hSw); go_simp; try (with_reducible rfl))
    try simp only [Act.put, sI, sZ, sS]
    refine wpAnyH_done (by kernel_rfl) ?_ _
    go_wp2
    go_ret
    exact ⟨rfl, HFW.out⟩
  cases h2 : decide (x < t.w)
  · rw [show decide (Own xs t x y) = false from decide_eq_false (fun h => (of_decide_eq_false h2) h.2.1)]
    go_enter Try.func67, Try.ntmps67
    go_wp2_with fail
    refine wp_region_held_drew (S := (fun W : World => W.cell? ⟨w.heap.size, 0, none⟩ = some (.int .i64 t.id) ∧ W.cell? ⟨w.heap.size, 2, none⟩ = some (.int .i64 t.x) ∧ W.cell? ⟨w.heap.size, 3, none⟩ = some (.int .i64 t.y) ∧ W.cell? ⟨w.heap.size, 4, none⟩ = some (.int .i64 t.w) ∧ W.cell? ⟨w.heap.size, 5, none⟩ = some (.int .i64 t.h))) (by kernel_rfl) (HSv.out _ (Fr.refl _ _)) (fun hHeld => ?_)
    refine wpAnyH_take (i := 0) (oi := { dst := some 9, op := Op.move (Operand.tmp 2), type := 3, pos := "ref.go:15", after := #[], guard := none }) (v := ?vob1) rfl (by kernel_rfl) (by kernel_rfl) (by kernel_rfl) (fun _ _ _ h => h) (Or.inl ⟨by rfl, ?hyob1⟩) (by assumption) ?rob1
    case hyob1 => (intro w hSw; (try dsimp only at hSw); go_simp; try (with_reducible rfl))
    try simp only [Act.put, sI, sZ, sS]
    refine wpAnyH_take (i := 1) (oi := { dst := some 10, op := Op.binOp BinOp.geq 3 (Operand.tmp 9) (Operand.const (Value.int IntKind.i64 0)) 3, type := 4, pos := "ref.go:15", after := #[{ on := 0, ground := Ground.data }], guard := none }) (v := ?vob2) rfl (by kernel_rfl) (by kernel_rfl) (by kernel_rfl) (fun _ _ _ h => h) (Or.inl ⟨by rfl, ?hyob2⟩) (by assumption) ?rob2
    case hyob2 => (intro w hSw; (try dsimp only at hSw); go_simp; try (with_reducible rfl))
    try simp only [Act.put, sI, sZ, sS]
    refine wpAnyH_take (i := 2) (oi := { dst := some 11, op := Op.move (Operand.tmp 10), type := 4, pos := "ref.go:15", after := #[{ on := 1, ground := Ground.data }], guard := none }) (v := ?vob3) rfl (by kernel_rfl) (by kernel_rfl) (by kernel_rfl) (fun _ _ _ h => h) (Or.inl ⟨by rfl, ?hyob3⟩) (by assumption) ?rob3
    case hyob3 => (intro w hSw; (try dsimp only at hSw); go_simp; try (with_reducible rfl))
    try simp only [Act.put, sI, sZ, sS]
    refine wpAnyH_take (i := 3) (oi := { dst := some 12, op := Op.move (Operand.tmp 2), type := 3, pos := "ref.go:15", after := #[{ on := 2, ground := Ground.guard }], guard := some (2, true) }) (v := ?vob4) rfl (by kernel_rfl) (by kernel_rfl) (by kernel_rfl) (fun _ _ _ h => h) (Or.inl ⟨by rfl, ?hyob4⟩) (by assumption) ?rob4
    case hyob4 => (intro w hSw; (try dsimp only at hSw); go_simp; try (with_reducible rfl))
    try simp only [Act.put, sI, sZ, sS]
    refine wpAnyH_take (i := 4) (oi := { dst := some 13, op := Op.fieldAddr 73 (Operand.tmp 5) 2, type := 0, pos := "ref.go:15", after := #[{ on := 2, ground := Ground.guard }], guard := some (2, true) }) (v := ?vob5) rfl (by kernel_rfl) (by kernel_rfl) (by kernel_rfl) (fun _ _ _ h => h) (Or.inl ⟨by rfl, ?hyob5⟩) (by assumption) ?rob5
    case hyob5 => (intro w hSw; (try dsimp only at hSw); go_simp; try (with_reducible rfl))
    try simp only [Act.put, sI, sZ, sS]
    refine wpAnyH_take (i := 5) (oi := { dst := some 14, op := Op.fieldAddr 23 (Operand.tmp 13) 2, type := 0, pos := "ref.go:15", after := #[{ on := 4, ground := Ground.data }, { on := 2, ground := Ground.guard }], guard := some (2, true) }) (v := ?vob6) rfl (by kernel_rfl) (by kernel_rfl) (by kernel_rfl) (fun _ _ _ h => h) (Or.inl ⟨by rfl, ?hyob6⟩) (by assumption) ?rob6
    case hyob6 => (intro w hSw; (try dsimp only at hSw); go_simp; try (with_reducible rfl))
    try simp only [Act.put, sI, sZ, sS]
    refine wpAnyH_take (i := 6) (oi := { dst := some 15, op := Op.load 3 (Operand.tmp 14), type := 3, pos := "ref.go:15", after := #[{ on := 5, ground := Ground.data }, { on := 2, ground := Ground.guard }], guard := some (2, true) }) (v := ?vob7) rfl (by kernel_rfl) (by kernel_rfl) (by kernel_rfl) (fun _ _ _ h => h) (Or.inl ⟨by rfl, ?hyob7⟩) (by assumption) ?rob7
    case hyob7 => (intro w hSw; (try dsimp only at hSw); go_simp; try (with_reducible rfl))
    try simp only [Act.put, sI, sZ, sS]
    refine wpAnyH_take (i := 7) (oi := { dst := some 16, op := Op.binOp BinOp.lss 3 (Operand.tmp 12) (Operand.tmp 15) 3, type := 4, pos := "ref.go:15", after := #[{ on := 3, ground := Ground.data }, { on := 6, ground := Ground.data }, { on := 2, ground := Ground.guard }], guard := some (2, true) }) (v := ?vob8) rfl (by kernel_rfl) (by kernel_rfl) (by kernel_rfl) (fun _ _ _ h => h) (Or.inl ⟨by rfl, ?hyob8⟩) (by assumption) ?rob8
    case hyob8 => (intro w hSw; (try dsimp only at hSw); go_simp; try (with_reducible rfl))
    try simp only [Act.put, sI, sZ, sS]
    refine wpAnyH_take (i := 8) (oi := { dst := some 17, op := Op.pick (Operand.tmp 11) (Operand.tmp 16) (Operand.const (Value.bool false)), type := 4, pos := "ref.go:15", after := #[{ on := 2, ground := Ground.data }, { on := 7, ground := Ground.data }], guard := none }) (v := ?vob9) rfl (by kernel_rfl) (by kernel_rfl) (by kernel_rfl) (fun _ _ _ h => h) (Or.inl ⟨by rfl, ?hyob9⟩) (by assumption) ?rob9
    case hyob9 => (intro w hSw; (try dsimp only at hSw); go_simp; try (with_reducible rfl))
    try simp only [Act.put, sI, sZ, sS]
    refine wpAnyH_take (i := 9) (oi := { dst := some 18, op := Op.move (Operand.tmp 17), type := 4, pos := "ref.go:15", after := #[{ on := 8, ground := Ground.data }, { on := 2, ground := Ground.chain }], guard := none }) (v := ?vob10) rfl (by kernel_rfl) (by kernel_rfl) (by kernel_rfl) (fun _ _ _ h => h) (Or.inl ⟨by rfl, ?hyob10⟩) (by assumption) ?rob10
    case hyob10 => (intro w hSw; (try dsimp only at hSw); go_simp; try (with_reducible rfl))
    try simp only [Act.put, sI, sZ, sS]
    refine wpAnyH_take (i := 10) (oi := { dst := some 19, op := Op.move (Operand.tmp 3), type := 3, pos := "ref.go:15", after := #[{ on := 9, ground := Ground.guard }], guard := some (9, true) }) (v := undef) rfl (by kernel_rfl) (by kernel_rfl) (by kernel_rfl) (fun _ _ _ h => h) (Or.inr ⟨by rfl, rfl⟩) (by assumption) ?_
    try simp only [Act.put, sI, sZ, sS]
    refine wpAnyH_take (i := 11) (oi := { dst := some 20, op := Op.binOp BinOp.geq 3 (Operand.tmp 19) (Operand.const (Value.int IntKind.i64 0)) 3, type := 4, pos := "ref.go:15", after := #[{ on := 10, ground := Ground.data }, { on := 9, ground := Ground.guard }], guard := some (9, true) }) (v := undef) rfl (by kernel_rfl) (by kernel_rfl) (by kernel_rfl) (fun _ _ _ h => h) (Or.inr ⟨by rfl, rfl⟩) (by assumption) ?_
    try simp only [Act.put, sI, sZ, sS]
    refine wpAnyH_take (i := 12) (oi := { dst := some 21, op := Op.pick (Operand.tmp 18) (Operand.tmp 20) (Operand.const (Value.bool false)), type := 4, pos := "ref.go:15", after := #[{ on := 9, ground := Ground.data }, { on := 11, ground := Ground.data }], guard := none }) (v := ?vob13) rfl (by kernel_rfl) (by kernel_rfl) (by kernel_rfl) (fun _ _ _ h => h) (Or.inl ⟨by rfl, ?hyob13⟩) (by assumption) ?rob13
    case hyob13 => (intro w hSw; (try dsimp only at hSw); go_simp; try (with_reducible rfl))
    try simp only [Act.put, sI, sZ, sS]
    refine wpAnyH_take (i := 13) (oi := { dst := some 22, op := Op.move (Operand.tmp 21), type := 4, pos := "ref.go:15", after := #[{ on := 12, ground := Ground.data }, { on := 9, ground := Ground.chain }], guard := none }) (v := ?vob14) rfl (by kernel_rfl) (by kernel_rfl) (by kernel_rfl) (fun _ _ _ h => h) (Or.inl ⟨by rfl, ?hyob14⟩) (by assumption) ?rob14
    case hyob14 => (intro w hSw; (try dsimp only at hSw); go_simp; try (with_reducible rfl))
    try simp only [Act.put, sI, sZ, sS]
    refine wpAnyH_take (i := 14) (oi := { dst := some 23, op := Op.move (Operand.tmp 3), type := 3, pos := "ref.go:15", after := #[{ on := 13, ground := Ground.guard }], guard := some (13, true) }) (v := undef) rfl (by kernel_rfl) (by kernel_rfl) (by kernel_rfl) (fun _ _ _ h => h) (Or.inr ⟨by rfl, rfl⟩) (by assumption) ?_
    try simp only [Act.put, sI, sZ, sS]
    refine wpAnyH_take (i := 15) (oi := { dst := some 24, op := Op.fieldAddr 73 (Operand.tmp 5) 2, type := 0, pos := "ref.go:15", after := #[{ on := 13, ground := Ground.guard }], guard := some (13, true) }) (v := undef) rfl (by kernel_rfl) (by kernel_rfl) (by kernel_rfl) (fun _ _ _ h => h) (Or.inr ⟨by rfl, rfl⟩) (by assumption) ?_
    try simp only [Act.put, sI, sZ, sS]
    refine wpAnyH_take (i := 16) (oi := { dst := some 25, op := Op.fieldAddr 23 (Operand.tmp 24) 3, type := 0, pos := "ref.go:15", after := #[{ on := 15, ground := Ground.data }, { on := 13, ground := Ground.guard }], guard := some (13, true) }) (v := undef) rfl (by kernel_rfl) (by kernel_rfl) (by kernel_rfl) (fun _ _ _ h => h) (Or.inr ⟨by rfl, rfl⟩) (by assumption) ?_
    try simp only [Act.put, sI, sZ, sS]
    refine wpAnyH_take (i := 17) (oi := { dst := some 26, op := Op.load 3 (Operand.tmp 25), type := 3, pos := "ref.go:15", after := #[{ on := 16, ground := Ground.data }, { on := 13, ground := Ground.guard }], guard := some (13, true) }) (v := undef) rfl (by kernel_rfl) (by kernel_rfl) (by kernel_rfl) (fun _ _ _ h => h) (Or.inr ⟨by rfl, rfl⟩) (by assumption) ?_
    try simp only [Act.put, sI, sZ, sS]
    refine wpAnyH_take (i := 18) (oi := { dst := some 27, op := Op.binOp BinOp.lss 3 (Operand.tmp 23) (Operand.tmp 26) 3, type := 4, pos := "ref.go:15", after := #[{ on := 14, ground := Ground.data }, { on := 17, ground := Ground.data }, { on := 13, ground := Ground.guard }], guard := some (13, true) }) (v := undef) rfl (by kernel_rfl) (by kernel_rfl) (by kernel_rfl) (fun _ _ _ h => h) (Or.inr ⟨by rfl, rfl⟩) (by assumption) ?_
    try simp only [Act.put, sI, sZ, sS]
    refine wpAnyH_take (i := 19) (oi := { dst := some 28, op := Op.pick (Operand.tmp 22) (Operand.tmp 27) (Operand.const (Value.bool false)), type := 4, pos := "ref.go:15", after := #[{ on := 13, ground := Ground.data }, { on := 18, ground := Ground.data }], guard := none }) (v := ?vob20) rfl (by kernel_rfl) (by kernel_rfl) (by kernel_rfl) (fun _ _ _ h => h) (Or.inl ⟨by rfl, ?hyob20⟩) (by assumption) ?rob20
    case hyob20 => (intro w hSw; (try dsimp only at hSw); go_simp; try (with_reducible rfl))
    try simp only [Act.put, sI, sZ, sS]
    refine wpAnyH_take (i := 20) (oi := { dst := some 29, op := Op.move (Operand.tmp 28), type := 4, pos := "ref.go:15", after := #[{ on := 19, ground := Ground.data }, { on := 13, ground := Ground.chain }], guard := none }) (v := ?vob21) rfl (by kernel_rfl) (by kernel_rfl) (by kernel_rfl) (fun _ _ _ h => h) (Or.inl ⟨by rfl, ?hyob21⟩) (by assumption) ?rob21
    case hyob21 => (intro w hSw; (try dsimp only at hSw); go_simp; try (with_reducible rfl))
    try simp only [Act.put, sI, sZ, sS]
    refine wpAnyH_take (i := 21) (oi := { dst := some 30, op := Op.move (Operand.tmp 0), type := 48, pos := "ref.go:15", after := #[{ on := 20, ground := Ground.guard }], guard := some (20, true) }) (v := undef) rfl (by kernel_rfl) (by kernel_rfl) (by kernel_rfl) (fun _ _ _ h => h) (Or.inr ⟨by rfl, rfl⟩) (by assumption) ?_
    try simp only [Act.put, sI, sZ, sS]
    refine wpAnyH_take (i := 22) (oi := { dst := some 31, op := Op.fieldAddr 73 (Operand.tmp 5) 2, type := 0, pos := "ref.go:15", after := #[{ on := 20, ground := Ground.guard }], guard := some (20, true) }) (v := undef) rfl (by kernel_rfl) (by kernel_rfl) (by kernel_rfl) (fun _ _ _ h => h) (Or.inr ⟨by rfl, rfl⟩) (by assumption) ?_
    try simp only [Act.put, sI, sZ, sS]
    refine wpAnyH_take (i := 23) (oi := { dst := some 32, op := Op.fieldAddr 23 (Operand.tmp 31) 0, type := 0, pos := "ref.go:15", after := #[{ on := 22, ground := Ground.data }, { on := 20, ground := Ground.guard }], guard := some (20, true) }) (v := undef) rfl (by kernel_rfl) (by kernel_rfl) (by kernel_rfl) (fun _ _ _ h => h) (Or.inr ⟨by rfl, rfl⟩) (by assumption) ?_
    try simp only [Act.put, sI, sZ, sS]
    refine wpAnyH_take (i := 24) (oi := { dst := some 33, op := Op.load 3 (Operand.tmp 32), type := 3, pos := "ref.go:15", after := #[{ on := 23, ground := Ground.data }, { on := 20, ground := Ground.guard }], guard := some (20, true) }) (v := undef) rfl (by kernel_rfl) (by kernel_rfl) (by kernel_rfl) (fun _ _ _ h => h) (Or.inr ⟨by rfl, rfl⟩) (by assumption) ?_
    try simp only [Act.put, sI, sZ, sS]
    refine wpAnyH_take (i := 25) (oi := { dst := some 34, op := Op.move (Operand.tmp 2), type := 3, pos := "ref.go:15", after := #[{ on := 20, ground := Ground.guard }], guard := some (20, true) }) (v := undef) rfl (by kernel_rfl) (by kernel_rfl) (by kernel_rfl) (fun _ _ _ h => h) (Or.inr ⟨by rfl, rfl⟩) (by assumption) ?_
    try simp only [Act.put, sI, sZ, sS]
    refine wpAnyH_take (i := 26) (oi := { dst := some 35, op := Op.binOp BinOp.add 3 (Operand.tmp 33) (Operand.tmp 34) 3, type := 3, pos := "ref.go:15", after := #[{ on := 24, ground := Ground.data }, { on := 25, ground := Ground.data }, { on := 20, ground := Ground.guard }], guard := some (20, true) }) (v := undef) rfl (by kernel_rfl) (by kernel_rfl) (by kernel_rfl) (fun _ _ _ h => h) (Or.inr ⟨by rfl, rfl⟩) (by assumption) ?_
    try simp only [Act.put, sI, sZ, sS]
    refine wpAnyH_take (i := 27) (oi := { dst := some 36, op := Op.fieldAddr 73 (Operand.tmp 5) 2, type := 0, pos := "ref.go:15", after := #[{ on := 20, ground := Ground.guard }], guard := some (20, true) }) (v := undef) rfl (by kernel_rfl) (by kernel_rfl) (by kernel_rfl) (fun _ _ _ h => h) (Or.inr ⟨by rfl, rfl⟩) (by assumption) ?_
    try simp only [Act.put, sI, sZ, sS]
    refine wpAnyH_take (i := 28) (oi := { dst := some 37, op := Op.fieldAddr 23 (Operand.tmp 36) 1, type := 0, pos := "ref.go:15", after := #[{ on := 27, ground := Ground.data }, { on := 20, ground := Ground.guard }], guard := some (20, true) }) (v := undef) rfl (by kernel_rfl) (by kernel_rfl) (by kernel_rfl) (fun _ _ _ h => h) (Or.inr ⟨by rfl, rfl⟩) (by assumption) ?_
    try simp only [Act.put, sI, sZ, sS]
    refine wpAnyH_take (i := 29) (oi := { dst := some 38, op := Op.load 3 (Operand.tmp 37), type := 3, pos := "ref.go:15", after := #[{ on := 28, ground := Ground.data }, { on := 20, ground := Ground.guard }], guard := some (20, true) }) (v := undef) rfl (by kernel_rfl) (by kernel_rfl) (by kernel_rfl) (fun _ _ _ h => h) (Or.inr ⟨by rfl, rfl⟩) (by assumption) ?_
    try simp only [Act.put, sI, sZ, sS]
    refine wpAnyH_take (i := 30) (oi := { dst := some 39, op := Op.move (Operand.tmp 3), type := 3, pos := "ref.go:15", after := #[{ on := 20, ground := Ground.guard }], guard := some (20, true) }) (v := undef) rfl (by kernel_rfl) (by kernel_rfl) (by kernel_rfl) (fun _ _ _ h => h) (Or.inr ⟨by rfl, rfl⟩) (by assumption) ?_
    try simp only [Act.put, sI, sZ, sS]
    refine wpAnyH_take (i := 31) (oi := { dst := some 40, op := Op.binOp BinOp.add 3 (Operand.tmp 38) (Operand.tmp 39) 3, type := 3, pos := "ref.go:15", after := #[{ on := 29, ground := Ground.data }, { on := 30, ground := Ground.data }, { on := 20, ground := Ground.guard }], guard := some (20, true) }) (v := undef) rfl (by kernel_rfl) (by kernel_rfl) (by kernel_rfl) (fun _ _ _ h => h) (Or.inr ⟨by rfl, rfl⟩) (by assumption) ?_
    try simp only [Act.put, sI, sZ, sS]
    refine wpAnyH_take (i := 32) (oi := { dst := some 41, op := Op.call { callee := Callee.value (Operand.func 76), args := #[Operand.tmp 30, Operand.tmp 35, Operand.tmp 40], argTypes := #[48, 3, 3] }, type := 3, pos := "ref.go:15", after := #[{ on := 21, ground := Ground.data }, { on := 26, ground := Ground.data }, { on := 31, ground := Ground.data }, { on := 20, ground := Ground.chain }, { on := 20, ground := Ground.guard }], guard := some (20, true) }) (v := undef) rfl (by kernel_rfl) (by kernel_rfl) (by kernel_rfl) (fun _ _ _ h => h) (Or.inr ⟨by rfl, rfl⟩) (by assumption) ?_
    try simp only [Act.put, sI, sZ, sS]
    refine wpAnyH_take (i := 33) (oi := { dst := some 42, op := Op.fieldAddr 73 (Operand.tmp 5) 0, type := 0, pos := "ref.go:15", after := #[{ on := 20, ground := Ground.guard }], guard := some (20, true) }) (v := undef) rfl (by kernel_rfl) (by kernel_rfl) (by kernel_rfl) (fun _ _ _ h => h) (Or.inr ⟨by rfl, rfl⟩) (by assumption) ?_
    try simp only [Act.put, sI, sZ, sS]
    refine wpAnyH_take (i := 34) (oi := { dst := some 43, op := Op.load 3 (Operand.tmp 42), type := 3, pos := "ref.go:15", after := #[{ on := 33, ground := Ground.data }, { on := 20, ground := Ground.guard }], guard := some (20, true) }) (v := undef) rfl (by kernel_rfl) (by kernel_rfl) (by kernel_rfl) (fun _ _ _ h => h) (Or.inr ⟨by rfl, rfl⟩) (by assumption) ?_
    try simp only [Act.put, sI, sZ, sS]
    refine wpAnyH_take (i := 35) (oi := { dst := some 44, op := Op.binOp BinOp.eql 3 (Operand.tmp 41) (Operand.tmp 43) 3, type := 4, pos := "ref.go:15", after := #[{ on := 32, ground := Ground.data }, { on := 34, ground := Ground.data }, { on := 20, ground := Ground.guard }], guard := some (20, true) }) (v := undef) rfl (by kernel_rfl) (by kernel_rfl) (by kernel_rfl) (fun _ _ _ h => h) (Or.inr ⟨by rfl, rfl⟩) (by assumption) ?_
    try simp only [Act.put, sI, sZ, sS]
    refine wpAnyH_take (i := 36) (oi := { dst := some 45, op := Op.pick (Operand.tmp 29) (Operand.tmp 44) (Operand.const (Value.bool false)), type := 4, pos := "ref.go:15", after := #[{ on := 20, ground := Ground.data }, { on := 35, ground := Ground.data }], guard := none }) (v := ?vob37) rfl (by kernel_rfl) (by kernel_rfl) (by kernel_rfl) (fun _ _ _ h => h) (Or.inl ⟨by rfl, ?hyob37⟩) (by assumption) ?rob37
    case hyob37 => (intro w hSw; (try dsimp only at hSw); go_simp; try (with_reducible rfl))
    try simp only [Act.put, sI, sZ, sS]
    refine wpAnyH_take (i := 37) (oi := { dst := some 8, op := Op.assign (Operand.tmp 45), type := 4, pos := "ref.go:15", after := #[{ on := 36, ground := Ground.data }, { on := 32, ground := Ground.chain }, { on := 0, ground := Ground.phase }, { on := 1, ground := Ground.phase }, { on := 2, ground := Ground.phase }, { on := 3, ground := Ground.phase }, { on := 4, ground := Ground.phase }, { on := 5, ground := Ground.phase }, { on := 6, ground := Ground.phase }, { on := 7, ground := Ground.phase }, { on := 8, ground := Ground.phase }, { on := 9, ground := Ground.phase }, { on := 10, ground := Ground.phase }, { on := 11, ground := Ground.phase }, { on := 12, ground := Ground.phase }, { on := 13, ground := Ground.phase }, { on := 14, ground := Ground.phase }, { on := 15, ground := Ground.phase }, { on := 16, ground := Ground.phase }, { on := 17, ground := Ground.phase }, { on := 18, ground := Ground.phase }, { on := 19, ground := Ground.phase }, { on := 20, ground := Ground.phase }, { on := 21, ground := Ground.phase }, { on := 22, ground := Ground.phase }, { on := 23, ground := Ground.phase }, { on := 24, ground := Ground.phase }, { on := 25, ground := Ground.phase }, { on := 26, ground := Ground.phase }, { on := 27, ground := Ground.phase }, { on := 28, ground := Ground.phase }, { on := 29, ground := Ground.phase }, { on := 30, ground := Ground.phase }, { on := 31, ground := Ground.phase }, { on := 32, ground := Ground.phase }, { on := 33, ground := Ground.phase }, { on := 34, ground := Ground.phase }, { on := 35, ground := Ground.phase }, { on := 36, ground := Ground.phase }], guard := none }) (v := ?vob38) rfl (by kernel_rfl) (by kernel_rfl) (by kernel_rfl) (fun _ _ _ h => h) (Or.inl ⟨by rfl, ?hyob38⟩) (by assumption) ?rob38
    case hyob38 => (intro w hSw; (try dsimp only at hSw); go_simp; try (with_reducible rfl))
    try simp only [Act.put, sI, sZ, sS]
    refine wpAnyH_done (by kernel_rfl) ?_ _
    go_wp2
    go_ret
    exact ⟨rfl, HFW.out⟩
  cases h3 : decide (0 ≤ y)
  · rw [show decide (Own xs t x y) = false from decide_eq_false (fun h => (of_decide_eq_false h3) h.2.2.1)]
    go_enter Try.func67, Try.ntmps67
    go_wp2_with fail
    refine wp_region_held_drew (S := (fun W : World => W.cell? ⟨w.heap.size, 0, none⟩ = some (.int .i64 t.id) ∧ W.cell? ⟨w.heap.size, 2, none⟩ = some (.int .i64 t.x) ∧ W.cell? ⟨w.heap.size, 3, none⟩ = some (.int .i64 t.y) ∧ W.cell? ⟨w.heap.size, 4, none⟩ = some (.int .i64 t.w) ∧ W.cell? ⟨w.heap.size, 5, none⟩ = some (.int .i64 t.h))) (by kernel_rfl) (HSv.out _ (Fr.refl _ _)) (fun hHeld => ?_)
    refine wpAnyH_take (i := 0) (oi := { dst := some 9, op := Op.move (Operand.tmp 2), type := 3, pos := "ref.go:15", after := #[], guard := none }) (v := ?voc1) rfl (by kernel_rfl) (by kernel_rfl) (by kernel_rfl) (fun _ _ _ h => h) (Or.inl ⟨by rfl, ?hyoc1⟩) (by assumption) ?roc1
    case hyoc1 => (intro w hSw; (try dsimp only at hSw); go_simp; try (with_reducible rfl))
    try simp only [Act.put, sI, sZ, sS]
    refine wpAnyH_take (i := 1) (oi := { dst := some 10, op := Op.binOp BinOp.geq 3 (Operand.tmp 9) (Operand.const (Value.int IntKind.i64 0)) 3, type := 4, pos := "ref.go:15", after := #[{ on := 0, ground := Ground.data }], guard := none }) (v := ?voc2) rfl (by kernel_rfl) (by kernel_rfl) (by kernel_rfl) (fun _ _ _ h => h) (Or.inl ⟨by rfl, ?hyoc2⟩) (by assumption) ?roc2
    case hyoc2 => (intro w hSw; (try dsimp only at hSw); go_simp; try (with_reducible rfl))
    try simp only [Act.put, sI, sZ, sS]
    refine wpAnyH_take (i := 2) (oi := { dst := some 11, op := Op.move (Operand.tmp 10), type := 4, pos := "ref.go:15", after := #[{ on := 1, ground := Ground.data }], guard := none }) (v := ?voc3) rfl (by kernel_rfl) (by kernel_rfl) (by kernel_rfl) (fun _ _ _ h => h) (Or.inl ⟨by rfl, ?hyoc3⟩) (by assumption) ?roc3
    case hyoc3 => (intro w hSw; (try dsimp only at hSw); go_simp; try (with_reducible rfl))
    try simp only [Act.put, sI, sZ, sS]
    refine wpAnyH_take (i := 3) (oi := { dst := some 12, op := Op.move (Operand.tmp 2), type := 3, pos := "ref.go:15", after := #[{ on := 2, ground := Ground.guard }], guard := some (2, true) }) (v := ?voc4) rfl (by kernel_rfl) (by kernel_rfl) (by kernel_rfl) (fun _ _ _ h => h) (Or.inl ⟨by rfl, ?hyoc4⟩) (by assumption) ?roc4
    case hyoc4 => (intro w hSw; (try dsimp only at hSw); go_simp; try (with_reducible rfl))
    try simp only [Act.put, sI, sZ, sS]
    refine wpAnyH_take (i := 4) (oi := { dst := some 13, op := Op.fieldAddr 73 (Operand.tmp 5) 2, type := 0, pos := "ref.go:15", after := #[{ on := 2, ground := Ground.guard }], guard := some (2, true) }) (v := ?voc5) rfl (by kernel_rfl) (by kernel_rfl) (by kernel_rfl) (fun _ _ _ h => h) (Or.inl ⟨by rfl, ?hyoc5⟩) (by assumption) ?roc5
    case hyoc5 => (intro w hSw; (try dsimp only at hSw); go_simp; try (with_reducible rfl))
    try simp only [Act.put, sI, sZ, sS]
    refine wpAnyH_take (i := 5) (oi := { dst := some 14, op := Op.fieldAddr 23 (Operand.tmp 13) 2, type := 0, pos := "ref.go:15", after := #[{ on := 4, ground := Ground.data }, { on := 2, ground := Ground.guard }], guard := some (2, true) }) (v := ?voc6) rfl (by kernel_rfl) (by kernel_rfl) (by kernel_rfl) (fun _ _ _ h => h) (Or.inl ⟨by rfl, ?hyoc6⟩) (by assumption) ?roc6
    case hyoc6 => (intro w hSw; (try dsimp only at hSw); go_simp; try (with_reducible rfl))
    try simp only [Act.put, sI, sZ, sS]
    refine wpAnyH_take (i := 6) (oi := { dst := some 15, op := Op.load 3 (Operand.tmp 14), type := 3, pos := "ref.go:15", after := #[{ on := 5, ground := Ground.data }, { on := 2, ground := Ground.guard }], guard := some (2, true) }) (v := ?voc7) rfl (by kernel_rfl) (by kernel_rfl) (by kernel_rfl) (fun _ _ _ h => h) (Or.inl ⟨by rfl, ?hyoc7⟩) (by assumption) ?roc7
    case hyoc7 => (intro w hSw; (try dsimp only at hSw); go_simp; try (with_reducible rfl))
    try simp only [Act.put, sI, sZ, sS]
    refine wpAnyH_take (i := 7) (oi := { dst := some 16, op := Op.binOp BinOp.lss 3 (Operand.tmp 12) (Operand.tmp 15) 3, type := 4, pos := "ref.go:15", after := #[{ on := 3, ground := Ground.data }, { on := 6, ground := Ground.data }, { on := 2, ground := Ground.guard }], guard := some (2, true) }) (v := ?voc8) rfl (by kernel_rfl) (by kernel_rfl) (by kernel_rfl) (fun _ _ _ h => h) (Or.inl ⟨by rfl, ?hyoc8⟩) (by assumption) ?roc8
    case hyoc8 => (intro w hSw; (try dsimp only at hSw); go_simp; try (with_reducible rfl))
    try simp only [Act.put, sI, sZ, sS]
    refine wpAnyH_take (i := 8) (oi := { dst := some 17, op := Op.pick (Operand.tmp 11) (Operand.tmp 16) (Operand.const (Value.bool false)), type := 4, pos := "ref.go:15", after := #[{ on := 2, ground := Ground.data }, { on := 7, ground := Ground.data }], guard := none }) (v := ?voc9) rfl (by kernel_rfl) (by kernel_rfl) (by kernel_rfl) (fun _ _ _ h => h) (Or.inl ⟨by rfl, ?hyoc9⟩) (by assumption) ?roc9
    case hyoc9 => (intro w hSw; (try dsimp only at hSw); go_simp; try (with_reducible rfl))
    try simp only [Act.put, sI, sZ, sS]
    refine wpAnyH_take (i := 9) (oi := { dst := some 18, op := Op.move (Operand.tmp 17), type := 4, pos := "ref.go:15", after := #[{ on := 8, ground := Ground.data }, { on := 2, ground := Ground.chain }], guard := none }) (v := ?voc10) rfl (by kernel_rfl) (by kernel_rfl) (by kernel_rfl) (fun _ _ _ h => h) (Or.inl ⟨by rfl, ?hyoc10⟩) (by assumption) ?roc10
    case hyoc10 => (intro w hSw; (try dsimp only at hSw); go_simp; try (with_reducible rfl))
    try simp only [Act.put, sI, sZ, sS]
    refine wpAnyH_take (i := 10) (oi := { dst := some 19, op := Op.move (Operand.tmp 3), type := 3, pos := "ref.go:15", after := #[{ on := 9, ground := Ground.guard }], guard := some (9, true) }) (v := ?voc11) rfl (by kernel_rfl) (by kernel_rfl) (by kernel_rfl) (fun _ _ _ h => h) (Or.inl ⟨by rfl, ?hyoc11⟩) (by assumption) ?roc11
    case hyoc11 => (intro w hSw; (try dsimp only at hSw); go_simp; try (with_reducible rfl))
    try simp only [Act.put, sI, sZ, sS]
    refine wpAnyH_take (i := 11) (oi := { dst := some 20, op := Op.binOp BinOp.geq 3 (Operand.tmp 19) (Operand.const (Value.int IntKind.i64 0)) 3, type := 4, pos := "ref.go:15", after := #[{ on := 10, ground := Ground.data }, { on := 9, ground := Ground.guard }], guard := some (9, true) }) (v := ?voc12) rfl (by kernel_rfl) (by kernel_rfl) (by kernel_rfl) (fun _ _ _ h => h) (Or.inl ⟨by rfl, ?hyoc12⟩) (by assumption) ?roc12
    case hyoc12 => (intro w hSw; (try dsimp only at hSw); go_simp; try (with_reducible rfl))
    try simp only [Act.put, sI, sZ, sS]
    refine wpAnyH_take (i := 12) (oi := { dst := some 21, op := Op.pick (Operand.tmp 18) (Operand.tmp 20) (Operand.const (Value.bool false)), type := 4, pos := "ref.go:15", after := #[{ on := 9, ground := Ground.data }, { on := 11, ground := Ground.data }], guard := none }) (v := ?voc13) rfl (by kernel_rfl) (by kernel_rfl) (by kernel_rfl) (fun _ _ _ h => h) (Or.inl ⟨by rfl, ?hyoc13⟩) (by assumption) ?roc13
    case hyoc13 => (intro w hSw; (try dsimp only at hSw); go_simp; try (with_reducible rfl))
    try simp only [Act.put, sI, sZ, sS]
    refine wpAnyH_take (i := 13) (oi := { dst := some 22, op := Op.move (Operand.tmp 21), type := 4, pos := "ref.go:15", after := #[{ on := 12, ground := Ground.data }, { on := 9, ground := Ground.chain }], guard := none }) (v := ?voc14) rfl (by kernel_rfl) (by kernel_rfl) (by kernel_rfl) (fun _ _ _ h => h) (Or.inl ⟨by rfl, ?hyoc14⟩) (by assumption) ?roc14
    case hyoc14 => (intro w hSw; (try dsimp only at hSw); go_simp; try (with_reducible rfl))
    try simp only [Act.put, sI, sZ, sS]
    refine wpAnyH_take (i := 14) (oi := { dst := some 23, op := Op.move (Operand.tmp 3), type := 3, pos := "ref.go:15", after := #[{ on := 13, ground := Ground.guard }], guard := some (13, true) }) (v := undef) rfl (by kernel_rfl) (by kernel_rfl) (by kernel_rfl) (fun _ _ _ h => h) (Or.inr ⟨by rfl, rfl⟩) (by assumption) ?_
    try simp only [Act.put, sI, sZ, sS]
    refine wpAnyH_take (i := 15) (oi := { dst := some 24, op := Op.fieldAddr 73 (Operand.tmp 5) 2, type := 0, pos := "ref.go:15", after := #[{ on := 13, ground := Ground.guard }], guard := some (13, true) }) (v := undef) rfl (by kernel_rfl) (by kernel_rfl) (by kernel_rfl) (fun _ _ _ h => h) (Or.inr ⟨by rfl, rfl⟩) (by assumption) ?_
    try simp only [Act.put, sI, sZ, sS]
    refine wpAnyH_take (i := 16) (oi := { dst := some 25, op := Op.fieldAddr 23 (Operand.tmp 24) 3, type := 0, pos := "ref.go:15", after := #[{ on := 15, ground := Ground.data }, { on := 13, ground := Ground.guard }], guard := some (13, true) }) (v := undef) rfl (by kernel_rfl) (by kernel_rfl) (by kernel_rfl) (fun _ _ _ h => h) (Or.inr ⟨by rfl, rfl⟩) (by assumption) ?_
    try simp only [Act.put, sI, sZ, sS]
    refine wpAnyH_take (i := 17) (oi := { dst := some 26, op := Op.load 3 (Operand.tmp 25), type := 3, pos := "ref.go:15", after := #[{ on := 16, ground := Ground.data }, { on := 13, ground := Ground.guard }], guard := some (13, true) }) (v := undef) rfl (by kernel_rfl) (by kernel_rfl) (by kernel_rfl) (fun _ _ _ h => h) (Or.inr ⟨by rfl, rfl⟩) (by assumption) ?_
    try simp only [Act.put, sI, sZ, sS]
    refine wpAnyH_take (i := 18) (oi := { dst := some 27, op := Op.binOp BinOp.lss 3 (Operand.tmp 23) (Operand.tmp 26) 3, type := 4, pos := "ref.go:15", after := #[{ on := 14, ground := Ground.data }, { on := 17, ground := Ground.data }, { on := 13, ground := Ground.guard }], guard := some (13, true) }) (v := undef) rfl (by kernel_rfl) (by kernel_rfl) (by kernel_rfl) (fun _ _ _ h => h) (Or.inr ⟨by rfl, rfl⟩) (by assumption) ?_
    try simp only [Act.put, sI, sZ, sS]
    refine wpAnyH_take (i := 19) (oi := { dst := some 28, op := Op.pick (Operand.tmp 22) (Operand.tmp 27) (Operand.const (Value.bool false)), type := 4, pos := "ref.go:15", after := #[{ on := 13, ground := Ground.data }, { on := 18, ground := Ground.data }], guard := none }) (v := ?voc20) rfl (by kernel_rfl) (by kernel_rfl) (by kernel_rfl) (fun _ _ _ h => h) (Or.inl ⟨by rfl, ?hyoc20⟩) (by assumption) ?roc20
    case hyoc20 => (intro w hSw; (try dsimp only at hSw); go_simp; try (with_reducible rfl))
    try simp only [Act.put, sI, sZ, sS]
    refine wpAnyH_take (i := 20) (oi := { dst := some 29, op := Op.move (Operand.tmp 28), type := 4, pos := "ref.go:15", after := #[{ on := 19, ground := Ground.data }, { on := 13, ground := Ground.chain }], guard := none }) (v := ?voc21) rfl (by kernel_rfl) (by kernel_rfl) (by kernel_rfl) (fun _ _ _ h => h) (Or.inl ⟨by rfl, ?hyoc21⟩) (by assumption) ?roc21
    case hyoc21 => (intro w hSw; (try dsimp only at hSw); go_simp; try (with_reducible rfl))
    try simp only [Act.put, sI, sZ, sS]
    refine wpAnyH_take (i := 21) (oi := { dst := some 30, op := Op.move (Operand.tmp 0), type := 48, pos := "ref.go:15", after := #[{ on := 20, ground := Ground.guard }], guard := some (20, true) }) (v := undef) rfl (by kernel_rfl) (by kernel_rfl) (by kernel_rfl) (fun _ _ _ h => h) (Or.inr ⟨by rfl, rfl⟩) (by assumption) ?_
    try simp only [Act.put, sI, sZ, sS]
    refine wpAnyH_take (i := 22) (oi := { dst := some 31, op := Op.fieldAddr 73 (Operand.tmp 5) 2, type := 0, pos := "ref.go:15", after := #[{ on := 20, ground := Ground.guard }], guard := some (20, true) }) (v := undef) rfl (by kernel_rfl) (by kernel_rfl) (by kernel_rfl) (fun _ _ _ h => h) (Or.inr ⟨by rfl, rfl⟩) (by assumption) ?_
    try simp only [Act.put, sI, sZ, sS]
    refine wpAnyH_take (i := 23) (oi := { dst := some 32, op := Op.fieldAddr 23 (Operand.tmp 31) 0, type := 0, pos := "ref.go:15", after := #[{ on := 22, ground := Ground.data }, { on := 20, ground := Ground.guard }], guard := some (20, true) }) (v := undef) rfl (by kernel_rfl) (by kernel_rfl) (by kernel_rfl) (fun _ _ _ h => h) (Or.inr ⟨by rfl, rfl⟩) (by assumption) ?_
    try simp only [Act.put, sI, sZ, sS]
    refine wpAnyH_take (i := 24) (oi := { dst := some 33, op := Op.load 3 (Operand.tmp 32), type := 3, pos := "ref.go:15", after := #[{ on := 23, ground := Ground.data }, { on := 20, ground := Ground.guard }], guard := some (20, true) }) (v := undef) rfl (by kernel_rfl) (by kernel_rfl) (by kernel_rfl) (fun _ _ _ h => h) (Or.inr ⟨by rfl, rfl⟩) (by assumption) ?_
    try simp only [Act.put, sI, sZ, sS]
    refine wpAnyH_take (i := 25) (oi := { dst := some 34, op := Op.move (Operand.tmp 2), type := 3, pos := "ref.go:15", after := #[{ on := 20, ground := Ground.guard }], guard := some (20, true) }) (v := undef) rfl (by kernel_rfl) (by kernel_rfl) (by kernel_rfl) (fun _ _ _ h => h) (Or.inr ⟨by rfl, rfl⟩) (by assumption) ?_
    try simp only [Act.put, sI, sZ, sS]
    refine wpAnyH_take (i := 26) (oi := { dst := some 35, op := Op.binOp BinOp.add 3 (Operand.tmp 33) (Operand.tmp 34) 3, type := 3, pos := "ref.go:15", after := #[{ on := 24, ground := Ground.data }, { on := 25, ground := Ground.data }, { on := 20, ground := Ground.guard }], guard := some (20, true) }) (v := undef) rfl (by kernel_rfl) (by kernel_rfl) (by kernel_rfl) (fun _ _ _ h => h) (Or.inr ⟨by rfl, rfl⟩) (by assumption) ?_
    try simp only [Act.put, sI, sZ, sS]
    refine wpAnyH_take (i := 27) (oi := { dst := some 36, op := Op.fieldAddr 73 (Operand.tmp 5) 2, type := 0, pos := "ref.go:15", after := #[{ on := 20, ground := Ground.guard }], guard := some (20, true) }) (v := undef) rfl (by kernel_rfl) (by kernel_rfl) (by kernel_rfl) (fun _ _ _ h => h) (Or.inr ⟨by rfl, rfl⟩) (by assumption) ?_
    try simp only [Act.put, sI, sZ, sS]
    refine wpAnyH_take (i := 28) (oi := { dst := some 37, op := Op.fieldAddr 23 (Operand.tmp 36) 1, type := 0, pos := "ref.go:15", after := #[{ on := 27, ground := Ground.data }, { on := 20, ground := Ground.guard }], guard := some (20, true) }) (v := undef) rfl (by kernel_rfl) (by kernel_rfl) (by kernel_rfl) (fun _ _ _ h => h) (Or.inr ⟨by rfl, rfl⟩) (by assumption) ?_
    try simp only [Act.put, sI, sZ, sS]
    refine wpAnyH_take (i := 29) (oi := { dst := some 38, op := Op.load 3 (Operand.tmp 37), type := 3, pos := "ref.go:15", after := #[{ on := 28, ground := Ground.data }, { on := 20, ground := Ground.guard }], guard := some (20, true) }) (v := undef) rfl (by kernel_rfl) (by kernel_rfl) (by kernel_rfl) (fun _ _ _ h => h) (Or.inr ⟨by rfl, rfl⟩) (by assumption) ?_
    try simp only [Act.put, sI, sZ, sS]
    refine wpAnyH_take (i := 30) (oi := { dst := some 39, op := Op.move (Operand.tmp 3), type := 3, pos := "ref.go:15", after := #[{ on := 20, ground := Ground.guard }], guard := some (20, true) }) (v := undef) rfl (by kernel_rfl) (by kernel_rfl) (by kernel_rfl) (fun _ _ _ h => h) (Or.inr ⟨by rfl, rfl⟩) (by assumption) ?_
    try simp only [Act.put, sI, sZ, sS]
    refine wpAnyH_take (i := 31) (oi := { dst := some 40, op := Op.binOp BinOp.add 3 (Operand.tmp 38) (Operand.tmp 39) 3, type := 3, pos := "ref.go:15", after := #[{ on := 29, ground := Ground.data }, { on := 30, ground := Ground.data }, { on := 20, ground := Ground.guard }], guard := some (20, true) }) (v := undef) rfl (by kernel_rfl) (by kernel_rfl) (by kernel_rfl) (fun _ _ _ h => h) (Or.inr ⟨by rfl, rfl⟩) (by assumption) ?_
    try simp only [Act.put, sI, sZ, sS]
    refine wpAnyH_take (i := 32) (oi := { dst := some 41, op := Op.call { callee := Callee.value (Operand.func 76), args := #[Operand.tmp 30, Operand.tmp 35, Operand.tmp 40], argTypes := #[48, 3, 3] }, type := 3, pos := "ref.go:15", after := #[{ on := 21, ground := Ground.data }, { on := 26, ground := Ground.data }, { on := 31, ground := Ground.data }, { on := 20, ground := Ground.chain }, { on := 20, ground := Ground.guard }], guard := some (20, true) }) (v := undef) rfl (by kernel_rfl) (by kernel_rfl) (by kernel_rfl) (fun _ _ _ h => h) (Or.inr ⟨by rfl, rfl⟩) (by assumption) ?_
    try simp only [Act.put, sI, sZ, sS]
    refine wpAnyH_take (i := 33) (oi := { dst := some 42, op := Op.fieldAddr 73 (Operand.tmp 5) 0, type := 0, pos := "ref.go:15", after := #[{ on := 20, ground := Ground.guard }], guard := some (20, true) }) (v := undef) rfl (by kernel_rfl) (by kernel_rfl) (by kernel_rfl) (fun _ _ _ h => h) (Or.inr ⟨by rfl, rfl⟩) (by assumption) ?_
    try simp only [Act.put, sI, sZ, sS]
    refine wpAnyH_take (i := 34) (oi := { dst := some 43, op := Op.load 3 (Operand.tmp 42), type := 3, pos := "ref.go:15", after := #[{ on := 33, ground := Ground.data }, { on := 20, ground := Ground.guard }], guard := some (20, true) }) (v := undef) rfl (by kernel_rfl) (by kernel_rfl) (by kernel_rfl) (fun _ _ _ h => h) (Or.inr ⟨by rfl, rfl⟩) (by assumption) ?_
    try simp only [Act.put, sI, sZ, sS]
    refine wpAnyH_take (i := 35) (oi := { dst := some 44, op := Op.binOp BinOp.eql 3 (Operand.tmp 41) (Operand.tmp 43) 3, type := 4, pos := "ref.go:15", after := #[{ on := 32, ground := Ground.data }, { on := 34, ground := Ground.data }, { on := 20, ground := Ground.guard }], guard := some (20, true) }) (v := undef) rfl (by kernel_rfl) (by kernel_rfl) (by kernel_rfl) (fun _ _ _ h => h) (Or.inr ⟨by rfl, rfl⟩) (by assumption) ?_
    try simp only [Act.put, sI, sZ, sS]
    refine wpAnyH_take (i := 36) (oi := { dst := some 45, op := Op.pick (Operand.tmp 29) (Operand.tmp 44) (Operand.const (Value.bool false)), type := 4, pos := "ref.go:15", after := #[{ on := 20, ground := Ground.data }, { on := 35, ground := Ground.data }], guard := none }) (v := ?voc37) rfl (by kernel_rfl) (by kernel_rfl) (by kernel_rfl) (fun _ _ _ h => h) (Or.inl ⟨by rfl, ?hyoc37⟩) (by assumption) ?roc37
    case hyoc37 => (intro w hSw; (try dsimp only at hSw); go_simp; try (with_reducible rfl))
    try simp only [Act.put, sI, sZ, sS]
    refine wpAnyH_take (i := 37) (oi := { dst := some 8, op := Op.assign (Operand.tmp 45), type := 4, pos := "ref.go:15", after := #[{ on := 36, ground := Ground.data }, { on := 32, ground := Ground.chain }, { on := 0, ground := Ground.phase }, { on := 1, ground := Ground.phase }, { on := 2, ground := Ground.phase }, { on := 3, ground := Ground.phase }, { on := 4, ground := Ground.phase }, { on := 5, ground := Ground.phase }, { on := 6, ground := Ground.phase }, { on := 7, ground := Ground.phase }, { on := 8, ground := Ground.phase }, { on := 9, ground := Ground.phase }, { on := 10, ground := Ground.phase }, { on := 11, ground := Ground.phase }, { on := 12, ground := Ground.phase }, { on := 13, ground := Ground.phase }, { on := 14, ground := Ground.phase }, { on := 15, ground := Ground.phase }, { on := 16, ground := Ground.phase }, { on := 17, ground := Ground.phase }, { on := 18, ground := Ground.phase }, { on := 19, ground := Ground.phase }, { on := 20, ground := Ground.phase }, { on := 21, ground := Ground.phase }, { on := 22, ground := Ground.phase }, { on := 23, ground := Ground.phase }, { on := 24, ground := Ground.phase }, { on := 25, ground := Ground.phase }, { on := 26, ground := Ground.phase }, { on := 27, ground := Ground.phase }, { on := 28, ground := Ground.phase }, { on := 29, ground := Ground.phase }, { on := 30, ground := Ground.phase }, { on := 31, ground := Ground.phase }, { on := 32, ground := Ground.phase }, { on := 33, ground := Ground.phase }, { on := 34, ground := Ground.phase }, { on := 35, ground := Ground.phase }, { on := 36, ground := Ground.phase }], guard := none }) (v := ?voc38) rfl (by kernel_rfl) (by kernel_rfl) (by kernel_rfl) (fun _ _ _ h => h) (Or.inl ⟨by rfl, ?hyoc38⟩) (by assumption) ?roc38
    case hyoc38 => (intro w hSw; (try dsimp only at hSw); go_simp; try (with_reducible rfl))
    try simp only [Act.put, sI, sZ, sS]
    refine wpAnyH_done (by kernel_rfl) ?_ _
    go_wp2
    go_ret
    exact ⟨rfl, HFW.out⟩
  cases h4 : decide (y < t.h)
  · rw [show decide (Own xs t x y) = false from decide_eq_false (fun h => (of_decide_eq_false h4) h.2.2.2.1)]
    go_enter Try.func67, Try.ntmps67
    go_wp2_with fail
    refine wp_region_held_drew (S := (fun W : World => W.cell? ⟨w.heap.size, 0, none⟩ = some (.int .i64 t.id) ∧ W.cell? ⟨w.heap.size, 2, none⟩ = some (.int .i64 t.x) ∧ W.cell? ⟨w.heap.size, 3, none⟩ = some (.int .i64 t.y) ∧ W.cell? ⟨w.heap.size, 4, none⟩ = some (.int .i64 t.w) ∧ W.cell? ⟨w.heap.size, 5, none⟩ = some (.int .i64 t.h))) (by kernel_rfl) (HSv.out _ (Fr.refl _ _)) (fun hHeld => ?_)
    refine wpAnyH_take (i := 0) (oi := { dst := some 9, op := Op.move (Operand.tmp 2), type := 3, pos := "ref.go:15", after := #[], guard := none }) (v := ?vod1) rfl (by kernel_rfl) (by kernel_rfl) (by kernel_rfl) (fun _ _ _ h => h) (Or.inl ⟨by rfl, ?hyod1⟩) (by assumption) ?rod1
    case hyod1 => (intro w hSw; (try dsimp only at hSw); go_simp; try (with_reducible rfl))
    try simp only [Act.put, sI, sZ, sS]
    refine wpAnyH_take (i := 1) (oi := { dst := some 10, op := Op.binOp BinOp.geq 3 (Operand.tmp 9) (Operand.const (Value.int IntKind.i64 0)) 3, type := 4, pos := "ref.go:15", after := #[{ on := 0, ground := Ground.data }], guard := none }) (v := ?vod2) rfl (by kernel_rfl) (by kernel_rfl) (by kernel_rfl) (fun _ _ _ h => h) (Or.inl ⟨by rfl, ?hyod2⟩) (by assumption) ?rod2
    case hyod2 => (intro w hSw; (try dsimp only at hSw); go_simp; try (with_reducible rfl))
    try simp only [Act.put, sI, sZ, sS]
    refine wpAnyH_take (i := 2) (oi := { dst := some 11, op := Op.move (Operand.tmp 10), type := 4, pos := "ref.go:15", after := #[{ on := 1, ground := Ground.data }], guard := none }) (v := ?vod3) rfl (by kernel_rfl) (by kernel_rfl) (by kernel_rfl) (fun _ _ _ h => h) (Or.inl ⟨by rfl, ?hyod3⟩) (by assumption) ?rod3
    case hyod3 => (intro w hSw; (try dsimp only at hSw); go_simp; try (with_reducible rfl))
    try simp only [Act.put, sI, sZ, sS]
    refine wpAnyH_take (i := 3) (oi := { dst := some 12, op := Op.move (Operand.tmp 2), type := 3, pos := "ref.go:15", after := #[{ on := 2, ground := Ground.guard }], guard := some (2, true) }) (v := ?vod4) rfl (by kernel_rfl) (by kernel_rfl) (by kernel_rfl) (fun _ _ _ h => h) (Or.inl ⟨by rfl, ?hyod4⟩) (by assumption) ?rod4
    case hyod4 => (intro w hSw; (try dsimp only at hSw); go_simp; try (with_reducible rfl))
    try simp only [Act.put, sI, sZ, sS]
    refine wpAnyH_take (i := 4) (oi := { dst := some 13, op := Op.fieldAddr 73 (Operand.tmp 5) 2, type := 0, pos := "ref.go:15", after := #[{ on := 2, ground := Ground.guard }], guard := some (2, true) }) (v := ?vod5) rfl (by kernel_rfl) (by kernel_rfl) (by kernel_rfl) (fun _ _ _ h => h) (Or.inl ⟨by rfl, ?hyod5⟩) (by assumption) ?rod5
    case hyod5 => (intro w hSw; (try dsimp only at hSw); go_simp; try (with_reducible rfl))
    try simp only [Act.put, sI, sZ, sS]
    refine wpAnyH_take (i := 5) (oi := { dst := some 14, op := Op.fieldAddr 23 (Operand.tmp 13) 2, type := 0, pos := "ref.go:15", after := #[{ on := 4, ground := Ground.data }, { on := 2, ground := Ground.guard }], guard := some (2, true) }) (v := ?vod6) rfl (by kernel_rfl) (by kernel_rfl) (by kernel_rfl) (fun _ _ _ h => h) (Or.inl ⟨by rfl, ?hyod6⟩) (by assumption) ?rod6
    case hyod6 => (intro w hSw; (try dsimp only at hSw); go_simp; try (with_reducible rfl))
    try simp only [Act.put, sI, sZ, sS]
    refine wpAnyH_take (i := 6) (oi := { dst := some 15, op := Op.load 3 (Operand.tmp 14), type := 3, pos := "ref.go:15", after := #[{ on := 5, ground := Ground.data }, { on := 2, ground := Ground.guard }], guard := some (2, true) }) (v := ?vod7) rfl (by kernel_rfl) (by kernel_rfl) (by kernel_rfl) (fun _ _ _ h => h) (Or.inl ⟨by rfl, ?hyod7⟩) (by assumption) ?rod7
    case hyod7 => (intro w hSw; (try dsimp only at hSw); go_simp; try (with_reducible rfl))
    try simp only [Act.put, sI, sZ, sS]
    refine wpAnyH_take (i := 7) (oi := { dst := some 16, op := Op.binOp BinOp.lss 3 (Operand.tmp 12) (Operand.tmp 15) 3, type := 4, pos := "ref.go:15", after := #[{ on := 3, ground := Ground.data }, { on := 6, ground := Ground.data }, { on := 2, ground := Ground.guard }], guard := some (2, true) }) (v := ?vod8) rfl (by kernel_rfl) (by kernel_rfl) (by kernel_rfl) (fun _ _ _ h => h) (Or.inl ⟨by rfl, ?hyod8⟩) (by assumption) ?rod8
    case hyod8 => (intro w hSw; (try dsimp only at hSw); go_simp; try (with_reducible rfl))
    try simp only [Act.put, sI, sZ, sS]
    refine wpAnyH_take (i := 8) (oi := { dst := some 17, op := Op.pick (Operand.tmp 11) (Operand.tmp 16) (Operand.const (Value.bool false)), type := 4, pos := "ref.go:15", after := #[{ on := 2, ground := Ground.data }, { on := 7, ground := Ground.data }], guard := none }) (v := ?vod9) rfl (by kernel_rfl) (by kernel_rfl) (by kernel_rfl) (fun _ _ _ h => h) (Or.inl ⟨by rfl, ?hyod9⟩) (by assumption) ?rod9
    case hyod9 => (intro w hSw; (try dsimp only at hSw); go_simp; try (with_reducible rfl))
    try simp only [Act.put, sI, sZ, sS]
    refine wpAnyH_take (i := 9) (oi := { dst := some 18, op := Op.move (Operand.tmp 17), type := 4, pos := "ref.go:15", after := #[{ on := 8, ground := Ground.data }, { on := 2, ground := Ground.chain }], guard := none }) (v := ?vod10) rfl (by kernel_rfl) (by kernel_rfl) (by kernel_rfl) (fun _ _ _ h => h) (Or.inl ⟨by rfl, ?hyod10⟩) (by assumption) ?rod10
    case hyod10 => (intro w hSw; (try dsimp only at hSw); go_simp; try (with_reducible rfl))
    try simp only [Act.put, sI, sZ, sS]
    refine wpAnyH_take (i := 10) (oi := { dst := some 19, op := Op.move (Operand.tmp 3), type := 3, pos := "ref.go:15", after := #[{ on := 9, ground := Ground.guard }], guard := some (9, true) }) (v := ?vod11) rfl (by kernel_rfl) (by kernel_rfl) (by kernel_rfl) (fun _ _ _ h => h) (Or.inl ⟨by rfl, ?hyod11⟩) (by assumption) ?rod11
    case hyod11 => (intro w hSw; (try dsimp only at hSw); go_simp; try (with_reducible rfl))
    try simp only [Act.put, sI, sZ, sS]
    refine wpAnyH_take (i := 11) (oi := { dst := some 20, op := Op.binOp BinOp.geq 3 (Operand.tmp 19) (Operand.const (Value.int IntKind.i64 0)) 3, type := 4, pos := "ref.go:15", after := #[{ on := 10, ground := Ground.data }, { on := 9, ground := Ground.guard }], guard := some (9, true) }) (v := ?vod12) rfl (by kernel_rfl) (by kernel_rfl) (by kernel_rfl) (fun _ _ _ h => h) (Or.inl ⟨by rfl, ?hyod12⟩) (by assumption) ?rod12
    case hyod12 => (intro w hSw; (try dsimp only at hSw); go_simp; try (with_reducible rfl))
    try simp only [Act.put, sI, sZ, sS]
    refine wpAnyH_take (i := 12) (oi := { dst := some 21, op := Op.pick (Operand.tmp 18) (Operand.tmp 20) (Operand.const (Value.bool false)), type := 4, pos := "ref.go:15", after := #[{ on := 9, ground := Ground.data }, { on := 11, ground := Ground.data }], guard := none }) (v := ?vod13) rfl (by kernel_rfl) (by kernel_rfl) (by kernel_rfl) (fun _ _ _ h => h) (Or.inl ⟨by rfl, ?hyod13⟩) (by assumption) ?rod13
    case hyod13 => (intro w hSw; (try dsimp only at hSw); go_simp; try (with_reducible rfl))
    try simp only [Act.put, sI, sZ, sS]
    refine wpAnyH_take (i := 13) (oi := { dst := some 22, op := Op.move (Operand.tmp 21), type := 4, pos := "ref.go:15", after := #[{ on := 12, ground := Ground.data }, { on := 9, ground := Ground.chain }], guard := none }) (v := ?vod14) rfl (by kernel_rfl) (by kernel_rfl) (by kernel_rfl) (fun _ _ _ h => h) (Or.inl ⟨by rfl, ?hyod14⟩) (by assumption) ?rod14
    case hyod14 => (intro w hSw; (try dsimp only at hSw); go_simp; try (with_reducible rfl))
    try simp only [Act.put, sI, sZ, sS]
    refine wpAnyH_take (i := 14) (oi := { dst := some 23, op := Op.move (Operand.tmp 3), type := 3, pos := "ref.go:15", after := #[{ on := 13, ground := Ground.guard }], guard := some (13, true) }) (v := ?vod15) rfl (by kernel_rfl) (by kernel_rfl) (by kernel_rfl) (fun _ _ _ h => h) (Or.inl ⟨by rfl, ?hyod15⟩) (by assumption) ?rod15
    case hyod15 => (intro w hSw; (try dsimp only at hSw); go_simp; try (with_reducible rfl))
    try simp only [Act.put, sI, sZ, sS]
    refine wpAnyH_take (i := 15) (oi := { dst := some 24, op := Op.fieldAddr 73 (Operand.tmp 5) 2, type := 0, pos := "ref.go:15", after := #[{ on := 13, ground := Ground.guard }], guard := some (13, true) }) (v := ?vod16) rfl (by kernel_rfl) (by kernel_rfl) (by kernel_rfl) (fun _ _ _ h => h) (Or.inl ⟨by rfl, ?hyod16⟩) (by assumption) ?rod16
    case hyod16 => (intro w hSw; (try dsimp only at hSw); go_simp; try (with_reducible rfl))
    try simp only [Act.put, sI, sZ, sS]
    refine wpAnyH_take (i := 16) (oi := { dst := some 25, op := Op.fieldAddr 23 (Operand.tmp 24) 3, type := 0, pos := "ref.go:15", after := #[{ on := 15, ground := Ground.data }, { on := 13, ground := Ground.guard }], guard := some (13, true) }) (v := ?vod17) rfl (by kernel_rfl) (by kernel_rfl) (by kernel_rfl) (fun _ _ _ h => h) (Or.inl ⟨by rfl, ?hyod17⟩) (by assumption) ?rod17
    case hyod17 => (intro w hSw; (try dsimp only at hSw); go_simp; try (with_reducible rfl))
    try simp only [Act.put, sI, sZ, sS]
    refine wpAnyH_take (i := 17) (oi := { dst := some 26, op := Op.load 3 (Operand.tmp 25), type := 3, pos := "ref.go:15", after := #[{ on := 16, ground := Ground.data }, { on := 13, ground := Ground.guard }], guard := some (13, true) }) (v := ?vod18) rfl (by kernel_rfl) (by kernel_rfl) (by kernel_rfl) (fun _ _ _ h => h) (Or.inl ⟨by rfl, ?hyod18⟩) (by assumption) ?rod18
    case hyod18 => (intro w hSw; (try dsimp only at hSw); go_simp; try (with_reducible rfl))
    try simp only [Act.put, sI, sZ, sS]
    refine wpAnyH_take (i := 18) (oi := { dst := some 27, op := Op.binOp BinOp.lss 3 (Operand.tmp 23) (Operand.tmp 26) 3, type := 4, pos := "ref.go:15", after := #[{ on := 14, ground := Ground.data }, { on := 17, ground := Ground.data }, { on := 13, ground := Ground.guard }], guard := some (13, true) }) (v := ?vod19) rfl (by kernel_rfl) (by kernel_rfl) (by kernel_rfl) (fun _ _ _ h => h) (Or.inl ⟨by rfl, ?hyod19⟩) (by assumption) ?rod19
    case hyod19 => (intro w hSw; (try dsimp only at hSw); go_simp; try (with_reducible rfl))
    try simp only [Act.put, sI, sZ, sS]
    refine wpAnyH_take (i := 19) (oi := { dst := some 28, op := Op.pick (Operand.tmp 22) (Operand.tmp 27) (Operand.const (Value.bool false)), type := 4, pos := "ref.go:15", after := #[{ on := 13, ground := Ground.data }, { on := 18, ground := Ground.data }], guard := none }) (v := ?vod20) rfl (by kernel_rfl) (by kernel_rfl) (by kernel_rfl) (fun _ _ _ h => h) (Or.inl ⟨by rfl, ?hyod20⟩) (by assumption) ?rod20
    case hyod20 => (intro w hSw; (try dsimp only at hSw); go_simp; try (with_reducible rfl))
    try simp only [Act.put, sI, sZ, sS]
    refine wpAnyH_take (i := 20) (oi := { dst := some 29, op := Op.move (Operand.tmp 28), type := 4, pos := "ref.go:15", after := #[{ on := 19, ground := Ground.data }, { on := 13, ground := Ground.chain }], guard := none }) (v := ?vod21) rfl (by kernel_rfl) (by kernel_rfl) (by kernel_rfl) (fun _ _ _ h => h) (Or.inl ⟨by rfl, ?hyod21⟩) (by assumption) ?rod21
    case hyod21 => (intro w hSw; (try dsimp only at hSw); go_simp; try (with_reducible rfl))
    try simp only [Act.put, sI, sZ, sS]
    refine wpAnyH_take (i := 21) (oi := { dst := some 30, op := Op.move (Operand.tmp 0), type := 48, pos := "ref.go:15", after := #[{ on := 20, ground := Ground.guard }], guard := some (20, true) }) (v := undef) rfl (by kernel_rfl) (by kernel_rfl) (by kernel_rfl) (fun _ _ _ h => h) (Or.inr ⟨by rfl, rfl⟩) (by assumption) ?_
    try simp only [Act.put, sI, sZ, sS]
    refine wpAnyH_take (i := 22) (oi := { dst := some 31, op := Op.fieldAddr 73 (Operand.tmp 5) 2, type := 0, pos := "ref.go:15", after := #[{ on := 20, ground := Ground.guard }], guard := some (20, true) }) (v := undef) rfl (by kernel_rfl) (by kernel_rfl) (by kernel_rfl) (fun _ _ _ h => h) (Or.inr ⟨by rfl, rfl⟩) (by assumption) ?_
    try simp only [Act.put, sI, sZ, sS]
    refine wpAnyH_take (i := 23) (oi := { dst := some 32, op := Op.fieldAddr 23 (Operand.tmp 31) 0, type := 0, pos := "ref.go:15", after := #[{ on := 22, ground := Ground.data }, { on := 20, ground := Ground.guard }], guard := some (20, true) }) (v := undef) rfl (by kernel_rfl) (by kernel_rfl) (by kernel_rfl) (fun _ _ _ h => h) (Or.inr ⟨by rfl, rfl⟩) (by assumption) ?_
    try simp only [Act.put, sI, sZ, sS]
    refine wpAnyH_take (i := 24) (oi := { dst := some 33, op := Op.load 3 (Operand.tmp 32), type := 3, pos := "ref.go:15", after := #[{ on := 23, ground := Ground.data }, { on := 20, ground := Ground.guard }], guard := some (20, true) }) (v := undef) rfl (by kernel_rfl) (by kernel_rfl) (by kernel_rfl) (fun _ _ _ h => h) (Or.inr ⟨by rfl, rfl⟩) (by assumption) ?_
    try simp only [Act.put, sI, sZ, sS]
    refine wpAnyH_take (i := 25) (oi := { dst := some 34, op := Op.move (Operand.tmp 2), type := 3, pos := "ref.go:15", after := #[{ on := 20, ground := Ground.guard }], guard := some (20, true) }) (v := undef) rfl (by kernel_rfl) (by kernel_rfl) (by kernel_rfl) (fun _ _ _ h => h) (Or.inr ⟨by rfl, rfl⟩) (by assumption) ?_
    try simp only [Act.put, sI, sZ, sS]
    refine wpAnyH_take (i := 26) (oi := { dst := some 35, op := Op.binOp BinOp.add 3 (Operand.tmp 33) (Operand.tmp 34) 3, type := 3, pos := "ref.go:15", after := #[{ on := 24, ground := Ground.data }, { on := 25, ground := Ground.data }, { on := 20, ground := Ground.guard }], guard := some (20, true) }) (v := undef) rfl (by kernel_rfl) (by kernel_rfl) (by kernel_rfl) (fun _ _ _ h => h) (Or.inr ⟨by rfl, rfl⟩) (by assumption) ?_
    try simp only [Act.put, sI, sZ, sS]
    refine wpAnyH_take (i := 27) (oi := { dst := some 36, op := Op.fieldAddr 73 (Operand.tmp 5) 2, type := 0, pos := "ref.go:15", after := #[{ on := 20, ground := Ground.guard }], guard := some (20, true) }) (v := undef) rfl (by kernel_rfl) (by kernel_rfl) (by kernel_rfl) (fun _ _ _ h => h) (Or.inr ⟨by rfl, rfl⟩) (by assumption) ?_
    try simp only [Act.put, sI, sZ, sS]
    refine wpAnyH_take (i := 28) (oi := { dst := some 37, op := Op.fieldAddr 23 (Operand.tmp 36) 1, type := 0, pos := "ref.go:15", after := #[{ on := 27, ground := Ground.data }, { on := 20, ground := Ground.guard }], guard := some (20, true) }) (v := undef) rfl (by kernel_rfl) (by kernel_rfl) (by kernel_rfl) (fun _ _ _ h => h) (Or.inr ⟨by rfl, rfl⟩) (by assumption) ?_
    try simp only [Act.put, sI, sZ, sS]
    refine wpAnyH_take (i := 29) (oi := { dst := some 38, op := Op.load 3 (Operand.tmp 37), type := 3, pos := "ref.go:15", after := #[{ on := 28, ground := Ground.data }, { on := 20, ground := Ground.guard }], guard := some (20, true) }) (v := undef) rfl (by kernel_rfl) (by kernel_rfl) (by kernel_rfl) (fun _ _ _ h => h) (Or.inr ⟨by rfl, rfl⟩) (by assumption) ?_
    try simp only [Act.put, sI, sZ, sS]
    refine wpAnyH_take (i := 30) (oi := { dst := some 39, op := Op.move (Operand.tmp 3), type := 3, pos := "ref.go:15", after := #[{ on := 20, ground := Ground.guard }], guard := some (20, true) }) (v := undef) rfl (by kernel_rfl) (by kernel_rfl) (by kernel_rfl) (fun _ _ _ h => h) (Or.inr ⟨by rfl, rfl⟩) (by assumption) ?_
    try simp only [Act.put, sI, sZ, sS]
    refine wpAnyH_take (i := 31) (oi := { dst := some 40, op := Op.binOp BinOp.add 3 (Operand.tmp 38) (Operand.tmp 39) 3, type := 3, pos := "ref.go:15", after := #[{ on := 29, ground := Ground.data }, { on := 30, ground := Ground.data }, { on := 20, ground := Ground.guard }], guard := some (20, true) }) (v := undef) rfl (by kernel_rfl) (by kernel_rfl) (by kernel_rfl) (fun _ _ _ h => h) (Or.inr ⟨by rfl, rfl⟩) (by assumption) ?_
    try simp only [Act.put, sI, sZ, sS]
    refine wpAnyH_take (i := 32) (oi := { dst := some 41, op := Op.call { callee := Callee.value (Operand.func 76), args := #[Operand.tmp 30, Operand.tmp 35, Operand.tmp 40], argTypes := #[48, 3, 3] }, type := 3, pos := "ref.go:15", after := #[{ on := 21, ground := Ground.data }, { on := 26, ground := Ground.data }, { on := 31, ground := Ground.data }, { on := 20, ground := Ground.chain }, { on := 20, ground := Ground.guard }], guard := some (20, true) }) (v := undef) rfl (by kernel_rfl) (by kernel_rfl) (by kernel_rfl) (fun _ _ _ h => h) (Or.inr ⟨by rfl, rfl⟩) (by assumption) ?_
    try simp only [Act.put, sI, sZ, sS]
    refine wpAnyH_take (i := 33) (oi := { dst := some 42, op := Op.fieldAddr 73 (Operand.tmp 5) 0, type := 0, pos := "ref.go:15", after := #[{ on := 20, ground := Ground.guard }], guard := some (20, true) }) (v := undef) rfl (by kernel_rfl) (by kernel_rfl) (by kernel_rfl) (fun _ _ _ h => h) (Or.inr ⟨by rfl, rfl⟩) (by assumption) ?_
    try simp only [Act.put, sI, sZ, sS]
    refine wpAnyH_take (i := 34) (oi := { dst := some 43, op := Op.load 3 (Operand.tmp 42), type := 3, pos := "ref.go:15", after := #[{ on := 33, ground := Ground.data }, { on := 20, ground := Ground.guard }], guard := some (20, true) }) (v := undef) rfl (by kernel_rfl) (by kernel_rfl) (by kernel_rfl) (fun _ _ _ h => h) (Or.inr ⟨by rfl, rfl⟩) (by assumption) ?_
    try simp only [Act.put, sI, sZ, sS]
    refine wpAnyH_take (i := 35) (oi := { dst := some 44, op := Op.binOp BinOp.eql 3 (Operand.tmp 41) (Operand.tmp 43) 3, type := 4, pos := "ref.go:15", after := #[{ on := 32, ground := Ground.data }, { on := 34, ground := Ground.data }, { on := 20, ground := Ground.guard }], guard := some (20, true) }) (v := undef) rfl (by kernel_rfl) (by kernel_rfl) (by kernel_rfl) (fun _ _ _ h => h) (Or.inr ⟨by rfl, rfl⟩) (by assumption) ?_
    try simp only [Act.put, sI, sZ, sS]
    refine wpAnyH_take (i := 36) (oi := { dst := some 45, op := Op.pick (Operand.tmp 29) (Operand.tmp 44) (Operand.const (Value.bool false)), type := 4, pos := "ref.go:15", after := #[{ on := 20, ground := Ground.data }, { on := 35, ground := Ground.data }], guard := none }) (v := ?vod37) rfl (by kernel_rfl) (by kernel_rfl) (by kernel_rfl) (fun _ _ _ h => h) (Or.inl ⟨by rfl, ?hyod37⟩) (by assumption) ?rod37
    case hyod37 => (intro w hSw; (try dsimp only at hSw); go_simp; try (with_reducible rfl))
    try simp only [Act.put, sI, sZ, sS]
    refine wpAnyH_take (i := 37) (oi := { dst := some 8, op := Op.assign (Operand.tmp 45), type := 4, pos := "ref.go:15", after := #[{ on := 36, ground := Ground.data }, { on := 32, ground := Ground.chain }, { on := 0, ground := Ground.phase }, { on := 1, ground := Ground.phase }, { on := 2, ground := Ground.phase }, { on := 3, ground := Ground.phase }, { on := 4, ground := Ground.phase }, { on := 5, ground := Ground.phase }, { on := 6, ground := Ground.phase }, { on := 7, ground := Ground.phase }, { on := 8, ground := Ground.phase }, { on := 9, ground := Ground.phase }, { on := 10, ground := Ground.phase }, { on := 11, ground := Ground.phase }, { on := 12, ground := Ground.phase }, { on := 13, ground := Ground.phase }, { on := 14, ground := Ground.phase }, { on := 15, ground := Ground.phase }, { on := 16, ground := Ground.phase }, { on := 17, ground := Ground.phase }, { on := 18, ground := Ground.phase }, { on := 19, ground := Ground.phase }, { on := 20, ground := Ground.phase }, { on := 21, ground := Ground.phase }, { on := 22, ground := Ground.phase }, { on := 23, ground := Ground.phase }, { on := 24, ground := Ground.phase }, { on := 25, ground := Ground.phase }, { on := 26, ground := Ground.phase }, { on := 27, ground := Ground.phase }, { on := 28, ground := Ground.phase }, { on := 29, ground := Ground.phase }, { on := 30, ground := Ground.phase }, { on := 31, ground := Ground.phase }, { on := 32, ground := Ground.phase }, { on := 33, ground := Ground.phase }, { on := 34, ground := Ground.phase }, { on := 35, ground := Ground.phase }, { on := 36, ground := Ground.phase }], guard := none }) (v := ?vod38) rfl (by kernel_rfl) (by kernel_rfl) (by kernel_rfl) (fun _ _ _ h => h) (Or.inl ⟨by rfl, ?hyod38⟩) (by assumption) ?rod38
    case hyod38 => (intro w hSw; (try dsimp only at hSw); go_simp; try (with_reducible rfl))
    try simp only [Act.put, sI, sZ, sS]
    refine wpAnyH_done (by kernel_rfl) ?_ _
    go_wp2
    go_ret
    exact ⟨rfl, HFW.out⟩
  have hr : decide (Own xs t x y) = (ownerOf xs (t.x + x) (t.y + y) == t.id) := by
    have a1 := of_decide_eq_true h1
    have a2 := of_decide_eq_true h2
    have a3 := of_decide_eq_true h3
    have a4 := of_decide_eq_true h4
    cases h5 : (ownerOf xs (t.x + x) (t.y + y) == t.id)
    · exact decide_eq_false (fun h => (beq_eq_false_iff_ne.1 h5) h.2.2.2.2)
    · exact decide_eq_true ⟨a1, a2, a3, a4, beq_iff_eq.1 h5⟩
  rw [hr]
  have wx : IntKind.i64.wrap (t.x + x) = t.x + x := IntWalk.i64_in _ (by have := of_decide_eq_true h1; have := of_decide_eq_true h2; omega)
  have wy : IntKind.i64.wrap (t.y + y) = t.y + y := IntWalk.i64_in _ (by have := of_decide_eq_true h3; have := of_decide_eq_true h4; omega)
  clear hr g2 g3 g4 g5 g6 g7
  have HOw := fun W hW => hid (r12Owner_any W _ xs (t.x + x) (t.y + y) (HV.out.fr hW (fun _ _ h => h)) hl HFI.out)
  go_enter Try.func67, Try.ntmps67
  go_wp2_with fail
  refine wp_region_held_drew (S := (fun W : World => W.cell? ⟨w.heap.size, 0, none⟩ = some (.int .i64 t.id) ∧ W.cell? ⟨w.heap.size, 2, none⟩ = some (.int .i64 t.x) ∧ W.cell? ⟨w.heap.size, 3, none⟩ = some (.int .i64 t.y) ∧ W.cell? ⟨w.heap.size, 4, none⟩ = some (.int .i64 t.w) ∧ W.cell? ⟨w.heap.size, 5, none⟩ = some (.int .i64 t.h))) (by kernel_rfl) (HSv.out _ (Fr.refl _ _)) (fun hHeld => ?_)
  refine wpAnyH_take (i := 0) (oi := { dst := some 9, op := Op.move (Operand.tmp 2), type := 3, pos := "ref.go:15", after := #[], guard := none }) (v := ?voe1) rfl (by kernel_rfl) (by kernel_rfl) (by kernel_rfl) (fun _ _ _ h => h) (Or.inl ⟨by rfl, ?hyoe1⟩) (by assumption) ?roe1
  case hyoe1 => (intro w hSw; (try dsimp only at hSw); go_simp; try (with_reducible rfl))
  try simp only [Act.put, sI, sZ, sS]
  refine wpAnyH_take (i := 1) (oi := { dst := some 10, op := Op.binOp BinOp.geq 3 (Operand.tmp 9) (Operand.const (Value.int IntKind.i64 0)) 3, type := 4, pos := "ref.go:15", after := #[{ on := 0, ground := Ground.data }], guard := none }) (v := ?voe2) rfl (by kernel_rfl) (by kernel_rfl) (by kernel_rfl) (fun _ _ _ h => h) (Or.inl ⟨by rfl, ?hyoe2⟩) (by assumption) ?roe2
  case hyoe2 => (intro w hSw; (try dsimp only at hSw); go_simp; try (with_reducible rfl))
  try simp only [Act.put, sI, sZ, sS]
  refine wpAnyH_take (i := 2) (oi := { dst := some 11, op := Op.move (Operand.tmp 10), type := 4, pos := "ref.go:15", after := #[{ on := 1, ground := Ground.data }], guard := none }) (v := ?voe3) rfl (by kernel_rfl) (by kernel_rfl) (by kernel_rfl) (fun _ _ _ h => h) (Or.inl ⟨by rfl, ?hyoe3⟩) (by assumption) ?roe3
  case hyoe3 => (intro w hSw; (try dsimp only at hSw); go_simp; try (with_reducible rfl))
  try simp only [Act.put, sI, sZ, sS]
  refine wpAnyH_take (i := 3) (oi := { dst := some 12, op := Op.move (Operand.tmp 2), type := 3, pos := "ref.go:15", after := #[{ on := 2, ground := Ground.guard }], guard := some (2, true) }) (v := ?voe4) rfl (by kernel_rfl) (by kernel_rfl) (by kernel_rfl) (fun _ _ _ h => h) (Or.inl ⟨by rfl, ?hyoe4⟩) (by assumption) ?roe4
  case hyoe4 => (intro w hSw; (try dsimp only at hSw); go_simp; try (with_reducible rfl))
  try simp only [Act.put, sI, sZ, sS]
  refine wpAnyH_take (i := 4) (oi := { dst := some 13, op := Op.fieldAddr 73 (Operand.tmp 5) 2, type := 0, pos := "ref.go:15", after := #[{ on := 2, ground := Ground.guard }], guard := some (2, true) }) (v := ?voe5) rfl (by kernel_rfl) (by kernel_rfl) (by kernel_rfl) (fun _ _ _ h => h) (Or.inl ⟨by rfl, ?hyoe5⟩) (by assumption) ?roe5
  case hyoe5 => (intro w hSw; (try dsimp only at hSw); go_simp; try (with_reducible rfl))
  try simp only [Act.put, sI, sZ, sS]
  refine wpAnyH_take (i := 5) (oi := { dst := some 14, op := Op.fieldAddr 23 (Operand.tmp 13) 2, type := 0, pos := "ref.go:15", after := #[{ on := 4, ground := Ground.data }, { on := 2, ground := Ground.guard }], guard := some (2, true) }) (v := ?voe6) rfl (by kernel_rfl) (by kernel_rfl) (by kernel_rfl) (fun _ _ _ h => h) (Or.inl ⟨by rfl, ?hyoe6⟩) (by assumption) ?roe6
  case hyoe6 => (intro w hSw; (try dsimp only at hSw); go_simp; try (with_reducible rfl))
  try simp only [Act.put, sI, sZ, sS]
  refine wpAnyH_take (i := 6) (oi := { dst := some 15, op := Op.load 3 (Operand.tmp 14), type := 3, pos := "ref.go:15", after := #[{ on := 5, ground := Ground.data }, { on := 2, ground := Ground.guard }], guard := some (2, true) }) (v := ?voe7) rfl (by kernel_rfl) (by kernel_rfl) (by kernel_rfl) (fun _ _ _ h => h) (Or.inl ⟨by rfl, ?hyoe7⟩) (by assumption) ?roe7
  case hyoe7 => (intro w hSw; (try dsimp only at hSw); go_simp; try (with_reducible rfl))
  try simp only [Act.put, sI, sZ, sS]
  refine wpAnyH_take (i := 7) (oi := { dst := some 16, op := Op.binOp BinOp.lss 3 (Operand.tmp 12) (Operand.tmp 15) 3, type := 4, pos := "ref.go:15", after := #[{ on := 3, ground := Ground.data }, { on := 6, ground := Ground.data }, { on := 2, ground := Ground.guard }], guard := some (2, true) }) (v := ?voe8) rfl (by kernel_rfl) (by kernel_rfl) (by kernel_rfl) (fun _ _ _ h => h) (Or.inl ⟨by rfl, ?hyoe8⟩) (by assumption) ?roe8
  case hyoe8 => (intro w hSw; (try dsimp only at hSw); go_simp; try (with_reducible rfl))
  try simp only [Act.put, sI, sZ, sS]
  refine wpAnyH_take (i := 8) (oi := { dst := some 17, op := Op.pick (Operand.tmp 11) (Operand.tmp 16) (Operand.const (Value.bool false)), type := 4, pos := "ref.go:15", after := #[{ on := 2, ground := Ground.data }, { on := 7, ground := Ground.data }], guard := none }) (v := ?voe9) rfl (by kernel_rfl) (by kernel_rfl) (by kernel_rfl) (fun _ _ _ h => h) (Or.inl ⟨by rfl, ?hyoe9⟩) (by assumption) ?roe9
  case hyoe9 => (intro w hSw; (try dsimp only at hSw); go_simp; try (with_reducible rfl))
  try simp only [Act.put, sI, sZ, sS]
  refine wpAnyH_take (i := 9) (oi := { dst := some 18, op := Op.move (Operand.tmp 17), type := 4, pos := "ref.go:15", after := #[{ on := 8, ground := Ground.data }, { on := 2, ground := Ground.chain }], guard := none }) (v := ?voe10) rfl (by kernel_rfl) (by kernel_rfl) (by kernel_rfl) (fun _ _ _ h => h) (Or.inl ⟨by rfl, ?hyoe10⟩) (by assumption) ?roe10
  case hyoe10 => (intro w hSw; (try dsimp only at hSw); go_simp; try (with_reducible rfl))
  try simp only [Act.put, sI, sZ, sS]
  refine wpAnyH_take (i := 10) (oi := { dst := some 19, op := Op.move (Operand.tmp 3), type := 3, pos := "ref.go:15", after := #[{ on := 9, ground := Ground.guard }], guard := some (9, true) }) (v := ?voe11) rfl (by kernel_rfl) (by kernel_rfl) (by kernel_rfl) (fun _ _ _ h => h) (Or.inl ⟨by rfl, ?hyoe11⟩) (by assumption) ?roe11
  case hyoe11 => (intro w hSw; (try dsimp only at hSw); go_simp; try (with_reducible rfl))
  try simp only [Act.put, sI, sZ, sS]
  refine wpAnyH_take (i := 11) (oi := { dst := some 20, op := Op.binOp BinOp.geq 3 (Operand.tmp 19) (Operand.const (Value.int IntKind.i64 0)) 3, type := 4, pos := "ref.go:15", after := #[{ on := 10, ground := Ground.data }, { on := 9, ground := Ground.guard }], guard := some (9, true) }) (v := ?voe12) rfl (by kernel_rfl) (by kernel_rfl) (by kernel_rfl) (fun _ _ _ h => h) (Or.inl ⟨by rfl, ?hyoe12⟩) (by assumption) ?roe12
  case hyoe12 => (intro w hSw; (try dsimp only at hSw); go_simp; try (with_reducible rfl))
  try simp only [Act.put, sI, sZ, sS]
  refine wpAnyH_take (i := 12) (oi := { dst := some 21, op := Op.pick (Operand.tmp 18) (Operand.tmp 20) (Operand.const (Value.bool false)), type := 4, pos := "ref.go:15", after := #[{ on := 9, ground := Ground.data }, { on := 11, ground := Ground.data }], guard := none }) (v := ?voe13) rfl (by kernel_rfl) (by kernel_rfl) (by kernel_rfl) (fun _ _ _ h => h) (Or.inl ⟨by rfl, ?hyoe13⟩) (by assumption) ?roe13
  case hyoe13 => (intro w hSw; (try dsimp only at hSw); go_simp; try (with_reducible rfl))
  try simp only [Act.put, sI, sZ, sS]
  refine wpAnyH_take (i := 13) (oi := { dst := some 22, op := Op.move (Operand.tmp 21), type := 4, pos := "ref.go:15", after := #[{ on := 12, ground := Ground.data }, { on := 9, ground := Ground.chain }], guard := none }) (v := ?voe14) rfl (by kernel_rfl) (by kernel_rfl) (by kernel_rfl) (fun _ _ _ h => h) (Or.inl ⟨by rfl, ?hyoe14⟩) (by assumption) ?roe14
  case hyoe14 => (intro w hSw; (try dsimp only at hSw); go_simp; try (with_reducible rfl))
  try simp only [Act.put, sI, sZ, sS]
  refine wpAnyH_take (i := 14) (oi := { dst := some 23, op := Op.move (Operand.tmp 3), type := 3, pos := "ref.go:15", after := #[{ on := 13, ground := Ground.guard }], guard := some (13, true) }) (v := ?voe15) rfl (by kernel_rfl) (by kernel_rfl) (by kernel_rfl) (fun _ _ _ h => h) (Or.inl ⟨by rfl, ?hyoe15⟩) (by assumption) ?roe15
  case hyoe15 => (intro w hSw; (try dsimp only at hSw); go_simp; try (with_reducible rfl))
  try simp only [Act.put, sI, sZ, sS]
  refine wpAnyH_take (i := 15) (oi := { dst := some 24, op := Op.fieldAddr 73 (Operand.tmp 5) 2, type := 0, pos := "ref.go:15", after := #[{ on := 13, ground := Ground.guard }], guard := some (13, true) }) (v := ?voe16) rfl (by kernel_rfl) (by kernel_rfl) (by kernel_rfl) (fun _ _ _ h => h) (Or.inl ⟨by rfl, ?hyoe16⟩) (by assumption) ?roe16
  case hyoe16 => (intro w hSw; (try dsimp only at hSw); go_simp; try (with_reducible rfl))
  try simp only [Act.put, sI, sZ, sS]
  refine wpAnyH_take (i := 16) (oi := { dst := some 25, op := Op.fieldAddr 23 (Operand.tmp 24) 3, type := 0, pos := "ref.go:15", after := #[{ on := 15, ground := Ground.data }, { on := 13, ground := Ground.guard }], guard := some (13, true) }) (v := ?voe17) rfl (by kernel_rfl) (by kernel_rfl) (by kernel_rfl) (fun _ _ _ h => h) (Or.inl ⟨by rfl, ?hyoe17⟩) (by assumption) ?roe17
  case hyoe17 => (intro w hSw; (try dsimp only at hSw); go_simp; try (with_reducible rfl))
  try simp only [Act.put, sI, sZ, sS]
  refine wpAnyH_take (i := 17) (oi := { dst := some 26, op := Op.load 3 (Operand.tmp 25), type := 3, pos := "ref.go:15", after := #[{ on := 16, ground := Ground.data }, { on := 13, ground := Ground.guard }], guard := some (13, true) }) (v := ?voe18) rfl (by kernel_rfl) (by kernel_rfl) (by kernel_rfl) (fun _ _ _ h => h) (Or.inl ⟨by rfl, ?hyoe18⟩) (by assumption) ?roe18
  case hyoe18 => (intro w hSw; (try dsimp only at hSw); go_simp; try (with_reducible rfl))
  try simp only [Act.put, sI, sZ, sS]
  refine wpAnyH_take (i := 18) (oi := { dst := some 27, op := Op.binOp BinOp.lss 3 (Operand.tmp 23) (Operand.tmp 26) 3, type := 4, pos := "ref.go:15", after := #[{ on := 14, ground := Ground.data }, { on := 17, ground := Ground.data }, { on := 13, ground := Ground.guard }], guard := some (13, true) }) (v := ?voe19) rfl (by kernel_rfl) (by kernel_rfl) (by kernel_rfl) (fun _ _ _ h => h) (Or.inl ⟨by rfl, ?hyoe19⟩) (by assumption) ?roe19
  case hyoe19 => (intro w hSw; (try dsimp only at hSw); go_simp; try (with_reducible rfl))
  try simp only [Act.put, sI, sZ, sS]
  refine wpAnyH_take (i := 19) (oi := { dst := some 28, op := Op.pick (Operand.tmp 22) (Operand.tmp 27) (Operand.const (Value.bool false)), type := 4, pos := "ref.go:15", after := #[{ on := 13, ground := Ground.data }, { on := 18, ground := Ground.data }], guard := none }) (v := ?voe20) rfl (by kernel_rfl) (by kernel_rfl) (by kernel_rfl) (fun _ _ _ h => h) (Or.inl ⟨by rfl, ?hyoe20⟩) (by assumption) ?roe20
  case hyoe20 => (intro w hSw; (try dsimp only at hSw); go_simp; try (with_reducible rfl))
  try simp only [Act.put, sI, sZ, sS]
  refine wpAnyH_take (i := 20) (oi := { dst := some 29, op := Op.move (Operand.tmp 28), type := 4, pos := "ref.go:15", after := #[{ on := 19, ground := Ground.data }, { on := 13, ground := Ground.chain }], guard := none }) (v := ?voe21) rfl (by kernel_rfl) (by kernel_rfl) (by kernel_rfl) (fun _ _ _ h => h) (Or.inl ⟨by rfl, ?hyoe21⟩) (by assumption) ?roe21
  case hyoe21 => (intro w hSw; (try dsimp only at hSw); go_simp; try (with_reducible rfl))
  try simp only [Act.put, sI, sZ, sS]
  refine wpAnyH_take (i := 21) (oi := { dst := some 30, op := Op.move (Operand.tmp 0), type := 48, pos := "ref.go:15", after := #[{ on := 20, ground := Ground.guard }], guard := some (20, true) }) (v := ?voe22) rfl (by kernel_rfl) (by kernel_rfl) (by kernel_rfl) (fun _ _ _ h => h) (Or.inl ⟨by rfl, ?hyoe22⟩) (by assumption) ?roe22
  case hyoe22 => (intro w hSw; (try dsimp only at hSw); go_simp; try (with_reducible rfl))
  try simp only [Act.put, sI, sZ, sS]
  refine wpAnyH_take (i := 22) (oi := { dst := some 31, op := Op.fieldAddr 73 (Operand.tmp 5) 2, type := 0, pos := "ref.go:15", after := #[{ on := 20, ground := Ground.guard }], guard := some (20, true) }) (v := ?voe23) rfl (by kernel_rfl) (by kernel_rfl) (by kernel_rfl) (fun _ _ _ h => h) (Or.inl ⟨by rfl, ?hyoe23⟩) (by assumption) ?roe23
  case hyoe23 => (intro w hSw; (try dsimp only at hSw); go_simp; try (with_reducible rfl))
  try simp only [Act.put, sI, sZ, sS]
  refine wpAnyH_take (i := 23) (oi := { dst := some 32, op := Op.fieldAddr 23 (Operand.tmp 31) 0, type := 0, pos := "ref.go:15", after := #[{ on := 22, ground := Ground.data }, { on := 20, ground := Ground.guard }], guard := some (20, true) }) (v := ?voe24) rfl (by kernel_rfl) (by kernel_rfl) (by kernel_rfl) (fun _ _ _ h => h) (Or.inl ⟨by rfl, ?hyoe24⟩) (by assumption) ?roe24
  case hyoe24 => (intro w hSw; (try dsimp only at hSw); go_simp; try (with_reducible rfl))
  try simp only [Act.put, sI, sZ, sS]
  refine wpAnyH_take (i := 24) (oi := { dst := some 33, op := Op.load 3 (Operand.tmp 32), type := 3, pos := "ref.go:15", after := #[{ on := 23, ground := Ground.data }, { on := 20, ground := Ground.guard }], guard := some (20, true) }) (v := ?voe25) rfl (by kernel_rfl) (by kernel_rfl) (by kernel_rfl) (fun _ _ _ h => h) (Or.inl ⟨by rfl, ?hyoe25⟩) (by assumption) ?roe25
  case hyoe25 => (intro w hSw; (try dsimp only at hSw); go_simp; try (with_reducible rfl))
  try simp only [Act.put, sI, sZ, sS]
  refine wpAnyH_take (i := 25) (oi := { dst := some 34, op := Op.move (Operand.tmp 2), type := 3, pos := "ref.go:15", after := #[{ on := 20, ground := Ground.guard }], guard := some (20, true) }) (v := ?voe26) rfl (by kernel_rfl) (by kernel_rfl) (by kernel_rfl) (fun _ _ _ h => h) (Or.inl ⟨by rfl, ?hyoe26⟩) (by assumption) ?roe26
  case hyoe26 => (intro w hSw; (try dsimp only at hSw); go_simp; try (with_reducible rfl))
  try simp only [Act.put, sI, sZ, sS]
  refine wpAnyH_take (i := 26) (oi := { dst := some 35, op := Op.binOp BinOp.add 3 (Operand.tmp 33) (Operand.tmp 34) 3, type := 3, pos := "ref.go:15", after := #[{ on := 24, ground := Ground.data }, { on := 25, ground := Ground.data }, { on := 20, ground := Ground.guard }], guard := some (20, true) }) (v := ?voe27) rfl (by kernel_rfl) (by kernel_rfl) (by kernel_rfl) (fun _ _ _ h => h) (Or.inl ⟨by rfl, ?hyoe27⟩) (by assumption) ?roe27
  case hyoe27 => (intro w hSw; (try dsimp only at hSw); go_simp; try (with_reducible rfl))
  try simp only [Act.put, sI, sZ, sS]
  refine wpAnyH_take (i := 27) (oi := { dst := some 36, op := Op.fieldAddr 73 (Operand.tmp 5) 2, type := 0, pos := "ref.go:15", after := #[{ on := 20, ground := Ground.guard }], guard := some (20, true) }) (v := ?voe28) rfl (by kernel_rfl) (by kernel_rfl) (by kernel_rfl) (fun _ _ _ h => h) (Or.inl ⟨by rfl, ?hyoe28⟩) (by assumption) ?roe28
  case hyoe28 => (intro w hSw; (try dsimp only at hSw); go_simp; try (with_reducible rfl))
  try simp only [Act.put, sI, sZ, sS]
  refine wpAnyH_take (i := 28) (oi := { dst := some 37, op := Op.fieldAddr 23 (Operand.tmp 36) 1, type := 0, pos := "ref.go:15", after := #[{ on := 27, ground := Ground.data }, { on := 20, ground := Ground.guard }], guard := some (20, true) }) (v := ?voe29) rfl (by kernel_rfl) (by kernel_rfl) (by kernel_rfl) (fun _ _ _ h => h) (Or.inl ⟨by rfl, ?hyoe29⟩) (by assumption) ?roe29
  case hyoe29 => (intro w hSw; (try dsimp only at hSw); go_simp; try (with_reducible rfl))
  try simp only [Act.put, sI, sZ, sS]
  refine wpAnyH_take (i := 29) (oi := { dst := some 38, op := Op.load 3 (Operand.tmp 37), type := 3, pos := "ref.go:15", after := #[{ on := 28, ground := Ground.data }, { on := 20, ground := Ground.guard }], guard := some (20, true) }) (v := ?voe30) rfl (by kernel_rfl) (by kernel_rfl) (by kernel_rfl) (fun _ _ _ h => h) (Or.inl ⟨by rfl, ?hyoe30⟩) (by assumption) ?roe30
  case hyoe30 => (intro w hSw; (try dsimp only at hSw); go_simp; try (with_reducible rfl))
  try simp only [Act.put, sI, sZ, sS]
  refine wpAnyH_take (i := 30) (oi := { dst := some 39, op := Op.move (Operand.tmp 3), type := 3, pos := "ref.go:15", after := #[{ on := 20, ground := Ground.guard }], guard := some (20, true) }) (v := ?voe31) rfl (by kernel_rfl) (by kernel_rfl) (by kernel_rfl) (fun _ _ _ h => h) (Or.inl ⟨by rfl, ?hyoe31⟩) (by assumption) ?roe31
  case hyoe31 => (intro w hSw; (try dsimp only at hSw); go_simp; try (with_reducible rfl))
  try simp only [Act.put, sI, sZ, sS]
  refine wpAnyH_take (i := 31) (oi := { dst := some 40, op := Op.binOp BinOp.add 3 (Operand.tmp 38) (Operand.tmp 39) 3, type := 3, pos := "ref.go:15", after := #[{ on := 29, ground := Ground.data }, { on := 30, ground := Ground.data }, { on := 20, ground := Ground.guard }], guard := some (20, true) }) (v := ?voe32) rfl (by kernel_rfl) (by kernel_rfl) (by kernel_rfl) (fun _ _ _ h => h) (Or.inl ⟨by rfl, ?hyoe32⟩) (by assumption) ?roe32
  case hyoe32 => (intro w hSw; (try dsimp only at hSw); go_simp; try (with_reducible rfl))
  try simp only [Act.put, sI, sZ, sS]
  refine wpAnyH_take (i := 33) (oi := { dst := some 42, op := Op.fieldAddr 73 (Operand.tmp 5) 0, type := 0, pos := "ref.go:15", after := #[{ on := 20, ground := Ground.guard }], guard := some (20, true) }) (v := ?voe33) rfl (by kernel_rfl) (by kernel_rfl) (by kernel_rfl) (fun _ _ _ h => h) (Or.inl ⟨by rfl, ?hyoe33⟩) (by assumption) ?roe33
  case hyoe33 => (intro w hSw; (try dsimp only at hSw); go_simp; try (with_reducible rfl))
  try simp only [Act.put, sI, sZ, sS]
  refine wpAnyH_take (i := 34) (oi := { dst := some 43, op := Op.load 3 (Operand.tmp 42), type := 3, pos := "ref.go:15", after := #[{ on := 33, ground := Ground.data }, { on := 20, ground := Ground.guard }], guard := some (20, true) }) (v := ?voe34) rfl (by kernel_rfl) (by kernel_rfl) (by kernel_rfl) (fun _ _ _ h => h) (Or.inl ⟨by rfl, ?hyoe34⟩) (by assumption) ?roe34
  case hyoe34 => (intro w hSw; (try dsimp only at hSw); go_simp; try (with_reducible rfl))
  try simp only [Act.put, sI, sZ, sS]
  refine wpAnyH_ready (rs := [32]) (by kernel_rfl) (by simp) ?_
  refine AllReadyH.cons (o := { dst := some 41, op := Op.call { callee := Callee.value (Operand.func 76), args := #[Operand.tmp 30, Operand.tmp 35, Operand.tmp 40], argTypes := #[48, 3, 3] }, type := 3, pos := "ref.go:15", after := #[{ on := 21, ground := Ground.data }, { on := 26, ground := Ground.data }, { on := 31, ground := Ground.data }, { on := 20, ground := Ground.chain }, { on := 20, ground := Ground.guard }], guard := some (20, true) }) rfl (fun K hK => ?_) AllReadyH.nil
  go_simp
  refine (HOw _ (Fr.refl _ _)).out.mono ?_
  rintro e' w5 ⟨rfl, hf5⟩
  have HF5 := hid hf5
  clear hHeld hf5
  go_wp2_with fail
  refine hK.out _ _ (HSv.out _ HF5.out) (fun hHeld => ?_)
  clear hK K
  try simp only [Act.put, sI, sZ, sS]
  refine wpAnyH_take (i := 35) (oi := { dst := some 44, op := Op.binOp BinOp.eql 3 (Operand.tmp 41) (Operand.tmp 43) 3, type := 4, pos := "ref.go:15", after := #[{ on := 32, ground := Ground.data }, { on := 34, ground := Ground.data }, { on := 20, ground := Ground.guard }], guard := some (20, true) }) (v := ?voe35) rfl (by kernel_rfl) (by kernel_rfl) (by kernel_rfl) (fun _ _ _ h => h) (Or.inl ⟨by rfl, ?hyoe35⟩) (by assumption) ?roe35
  case hyoe35 => (intro w hSw; (try dsimp only at hSw); go_simp; try (with_reducible rfl))
  try simp only [Act.put, sI, sZ, sS]
  refine wpAnyH_take (i := 36) (oi := { dst := some 45, op := Op.pick (Operand.tmp 29) (Operand.tmp 44) (Operand.const (Value.bool false)), type := 4, pos := "ref.go:15", after := #[{ on := 20, ground := Ground.data }, { on := 35, ground := Ground.data }], guard := none }) (v := ?voe36) rfl (by kernel_rfl) (by kernel_rfl) (by kernel_rfl) (fun _ _ _ h => h) (Or.inl ⟨by rfl, ?hyoe36⟩) (by assumption) ?roe36
  case hyoe36 => (intro w hSw; (try dsimp only at hSw); go_simp; try (with_reducible rfl))
  try simp only [Act.put, sI, sZ, sS]
  refine wpAnyH_take (i := 37) (oi := { dst := some 8, op := Op.assign (Operand.tmp 45), type := 4, pos := "ref.go:15", after := #[{ on := 36, ground := Ground.data }, { on := 32, ground := Ground.chain }, { on := 0, ground := Ground.phase }, { on := 1, ground := Ground.phase }, { on := 2, ground := Ground.phase }, { on := 3, ground := Ground.phase }, { on := 4, ground := Ground.phase }, { on := 5, ground := Ground.phase }, { on := 6, ground := Ground.phase }, { on := 7, ground := Ground.phase }, { on := 8, ground := Ground.phase }, { on := 9, ground := Ground.phase }, { on := 10, ground := Ground.phase }, { on := 11, ground := Ground.phase }, { on := 12, ground := Ground.phase }, { on := 13, ground := Ground.phase }, { on := 14, ground := Ground.phase }, { on := 15, ground := Ground.phase }, { on := 16, ground := Ground.phase }, { on := 17, ground := Ground.phase }, { on := 18, ground := Ground.phase }, { on := 19, ground := Ground.phase }, { on := 20, ground := Ground.phase }, { on := 21, ground := Ground.phase }, { on := 22, ground := Ground.phase }, { on := 23, ground := Ground.phase }, { on := 24, ground := Ground.phase }, { on := 25, ground := Ground.phase }, { on := 26, ground := Ground.phase }, { on := 27, ground := Ground.phase }, { on := 28, ground := Ground.phase }, { on := 29, ground := Ground.phase }, { on := 30, ground := Ground.phase }, { on := 31, ground := Ground.phase }, { on := 32, ground := Ground.phase }, { on := 33, ground := Ground.phase }, { on := 34, ground := Ground.phase }, { on := 35, ground := Ground.phase }, { on := 36, ground := Ground.phase }], guard := none }) (v := ?voe37) rfl (by kernel_rfl) (by kernel_rfl) (by kernel_rfl) (fun _ _ _ h => h) (Or.inl ⟨by rfl, ?hyoe37⟩) (by assumption) ?roe37
  case hyoe37 => (intro w hSw; (try dsimp only at hSw); go_simp; try (with_reducible rfl))
  try simp only [Act.put, sI, sZ, sS]
  refine wpAnyH_done (by kernel_rfl) ?_ _
  go_wp2
  go_ret
  exact ⟨rfl, HFW.out.trans HF5.out⟩
end Go.Proofs.Ytnengimekcnfhaa
