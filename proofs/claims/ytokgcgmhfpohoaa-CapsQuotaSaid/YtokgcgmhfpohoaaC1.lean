import Derived.Test.YtokgcgmhfpohoaaProg
import Derived.Test.YtokgcgmhfpohoaaK4
import Derived.LoopTactic
set_option linter.unusedSimpArgs false
set_option linter.unusedVariables false
namespace Go.Proofs.Ytokgcgmhfpohoaa
open Go.RowKit Go.Proofs.YtokgcgmhfpohoaaW.PrintWords
structure Slot where
  gen : Int
  env : Int
  kind : Int
  obj : Int
  rights : Int
  of : Int
  used : Bool
def Slot.cells (s : Slot) : List Value := [.int .i64 s.gen, .int .i64 s.env, .int .i64 s.kind, .int .i64 s.obj, .int .i64 s.rights, .int .i64 s.of, .bool s.used]
theorem Slot.cells_len (s : Slot) : s.cells.length = 7 := rfl
/-- The table at block b, its slots at block g. -/
structure Tab (w : World) (b g : Nat) (q : Int) (l : List Slot) : Prop where
  head : Blk w b 63 [.slice (some ⟨g, 0, none⟩) l.length l.length, .int .i64 q]
  row : Blk w g 65 (l.flatMap Slot.cells)
  ne : b ≠ g
theorem slots_at {w : World} {g : Nat} {T : TypeId} {l : List Slot} (h : Blk w g T (l.flatMap Slot.cells)) (k : Nat) (hk : k < l.length) :
    w.cell? ⟨g, k * 7, none⟩ = some (.int .i64 l[k].gen) ∧ w.cell? ⟨g, k * 7 + 1, none⟩ = some (.int .i64 l[k].env) ∧ w.cell? ⟨g, k * 7 + 2, none⟩ = some (.int .i64 l[k].kind) ∧ w.cell? ⟨g, k * 7 + 3, none⟩ = some (.int .i64 l[k].obj) ∧
    w.cell? ⟨g, k * 7 + 4, none⟩ = some (.int .i64 l[k].rights) ∧ w.cell? ⟨g, k * 7 + 5, none⟩ = some (.int .i64 l[k].of) ∧ w.cell? ⟨g, k * 7 + 6, none⟩ = some (.bool l[k].used) := by
  refine ⟨h.cell (k * 7 + 0) ?_, h.cell _ ?_, h.cell _ ?_, h.cell _ ?_, h.cell _ ?_, h.cell _ ?_, h.cell _ ?_⟩
  all_goals (rw [flat_get Slot.cells_len l k _ hk (by omega)]; rfl)
theorem slot_set {l : List Slot} (k j : Nat) (hk : k < l.length) (hj : j < 7) (v : Value) (x : Slot) (hx : x.cells = l[k].cells.set j v) : (l.flatMap Slot.cells).set (k * 7 + j) v = (l.set k x).flatMap Slot.cells := flat_set Slot.cells_len l k j hk hj v x hx
theorem Tab.fr {w w1 : World} {b g : Nat} {q : Int} {l : List Slot} {S : Nat → Prop} (h : Tab w b g q l) (hf : Fr S w w1) (hb : ¬ S b) (hg : ¬ S g) : Tab w1 b g q l := ⟨h.head.fr hf hb, h.row.fr hf hg, h.ne⟩
theorem Tab.fr0 {w w1 : World} {b g : Nat} {q : Int} {l : List Slot} (h : Tab w b g q l) (hf : Fr NoB w w1) : Tab w1 b g q l := h.fr hf (fun h => h) (fun h => h)
theorem Tab.move {w w1 : World} {b g : Nat} {q : Int} {l : List Slot} (h : Tab w b g q l) (hb : w1.heap[b]? = w.heap[b]?) (hg : w1.heap[g]? = w.heap[g]?) : Tab w1 b g q l := ⟨hb.trans h.head, hg.trans h.row, h.ne⟩
def cntEnv (env : Int) (l : List Slot) : Nat := l.countP fun s => s.used && decide (s.env = env)
set_option maxHeartbeats 1000000 in
theorem Count_any (w : World) (b g : Nat) (q : Int) (l : List Slot) (env : Int) (ht : Tab w b g q l) (hl : l.length ≤ 4096) :
    Calls Try.prog 14 #[.pointer (some ⟨b, 0, none⟩), .int .i64 env] w fun e w' => e = .returned (.int .i64 (cntEnv env l)) ∧ Fr NoB w w' := by
  have h0 := ht.head.cell 0 rfl
  go_enter Try.func14, Try.ntmps14
  go_wp2
  go_loopw [5, 13] (fun v5 v13 wr => ∃ k : Nat, k ≤ l.length ∧ v13 = .int .i64 k ∧ v5 = .int .i64 (cntEnv env (l.take k)) ∧ Fr NoB w wr) (fun _ v13 _ => l.length - (intOf v13).toNat)
  case atStart => exact ⟨0, Nat.zero_le _, rfl, rfl, Fr.refl _ _⟩
  case round =>
    obtain ⟨k, hk, rfl, rfl, hf⟩ := hrel
    by_cases hlt : k < l.length
    · obtain ⟨c0, c1, c2, c3, c4, c5, c6⟩ := slots_at (ht.fr0 hf).row k hlt
      have hs : cntEnv env (l.take (k + 1)) = cntEnv env (l.take k) + if l[k].used && decide (l[k].env = env) then 1 else 0 := by
        unfold cntEnv
        rw [List.take_succ_eq_append_getElem hlt, List.countP_append, List.countP_singleton]
      have hle : cntEnv env (l.take k) ≤ k := by
        have := List.countP_le_length (p := fun s : Slot => s.used && decide (s.env = env)) (l := l.take k)
        rw [List.length_take] at this
        unfold cntEnv; omega
      generalize l[k] = x at *
      have HS := hid hs
      clear hs h0
      generalize cntEnv env (l.take k) = n at *
      cases hu : x.used
      · have HU := hid hu
        rw [hu] at c6
        clear hu
        go_wp2
        go_roundw
        case rel => exact ⟨k + 1, by omega, by go_num, by rw [HS.out, HU.out]; simp, hf.alloc _⟩
        case measure => simp [intOf]; omega
      · have HU := hid hu
        rw [hu] at c6
        clear hu
        by_cases he : x.env = env
        · have he' : (x.env == env) = true := by simpa using he
          have HE := hid he
          clear he
          go_wp2
          go_roundw
          case rel => exact ⟨k + 1, by omega, by go_num, by rw [HS.out, HU.out, HE.out]; simp, hf.alloc _⟩
          case measure => simp [intOf]; omega
        · have he' : (x.env == env) = false := by simpa using he
          have HE := hid he
          clear he
          go_wp2
          go_roundw
          case rel => exact ⟨k + 1, by omega, by go_num, by rw [HS.out, HU.out]; simp [HE.out], hf.alloc _⟩
          case measure => simp [intOf]; omega
    · obtain rfl : k = l.length := by omega
      go_wp2
      go_ret
      exact ⟨by rw [List.take_length]; rfl, hf⟩
end Go.Proofs.Ytokgcgmhfpohoaa
