import Derived.Test.YtnengimekcnfhaaDoorProg
import Derived.Test.YtnengimekcnfhaaDoorK7
import Derived.LoopTactic
import Derived.Deep.LoopGhost
import Derived.Deep.DeepMust
import Derived.StillTailTactics
import Derived.IntWalk
set_option linter.unusedSimpArgs false
set_option linter.unusedVariables false
set_option maxRecDepth 20000
namespace Go.Proofs.YtnengimekcnfhaaDoor
open Go.RowKit Go.Proofs.YtnengimekcnfhaaDoorW.PrintWords
structure Wn where
  id : Int
  env : Int
  x : Int
  y : Int
  w : Int
  h : Int
  hid : Bool
def Wn.cells (t : Wn) : List Value := [.int .i64 t.id, .int .i64 t.env, .int .i64 t.x, .int .i64 t.y, .int .i64 t.w, .int .i64 t.h, .bool t.hid]
theorem Wn.cells_len (t : Wn) : t.cells.length = 7 := rfl
def Wn.v (t : Wn) : Value := .agg #[.int .i64 t.id, .int .i64 t.env, .int .i64 t.x, .int .i64 t.y, .int .i64 t.w, .int .i64 t.h, .bool t.hid]
def Wn.zero : Value := .agg #[.int .i64 0, .int .i64 0, .int .i64 0, .int .i64 0, .int .i64 0, .int .i64 0, .bool false]
theorem infoWn : (Tryd.prog.info? 58).map (fun i => (i.zero, i.size, i.bytes)) = some (some Wn.zero, 7, 56) := by kernel_rfl
theorem zeroWn (w : World) : (zeroValue 58).run Tryd.prog w = .ok Wn.zero w := by kernel_rfl
theorem sizeWn (w : World) : (Go.sizeOf 58).run Tryd.prog w = .ok 7 w := by kernel_rfl
theorem Wn.one (t : Wn) : ∀ u ∈ t.cells, u.oneCell' = true := by
  intro u hu
  simp only [Wn.cells, List.mem_cons, List.not_mem_nil, or_false] at hu
  rcases hu with rfl | rfl | rfl | rfl | rfl | rfl | rfl <;> rfl
/-- The elements at block g, with room for more. -/
def WnV (w : World) (g : Nat) (xs : List Wn) (rest : List Value) (c : Nat) : Prop := Vec Wn.cells 7 w g 58 xs rest c
theorem WnV.cells {w : World} {g : Nat} {xs : List Wn} {rest : List Value} {c : Nat} (h : WnV w g xs rest c) (k : Nat) (hk : k < xs.length) :
    w.cell? ⟨g, k * 7, none⟩ = some (.int .i64 xs[k].id) ∧ w.cell? ⟨g, k * 7 + 1, none⟩ = some (.int .i64 xs[k].env) ∧ w.cell? ⟨g, k * 7 + 2, none⟩ = some (.int .i64 xs[k].x) ∧ w.cell? ⟨g, k * 7 + 3, none⟩ = some (.int .i64 xs[k].y) ∧ w.cell? ⟨g, k * 7 + 4, none⟩ = some (.int .i64 xs[k].w) ∧ w.cell? ⟨g, k * 7 + 5, none⟩ = some (.int .i64 xs[k].h) ∧ w.cell? ⟨g, k * 7 + 6, none⟩ = some (.bool xs[k].hid) :=
  ⟨Vec.cell h Wn.cells_len k hk 0 (by omega) rfl, Vec.cell h Wn.cells_len k hk 1 (by omega) rfl, Vec.cell h Wn.cells_len k hk 2 (by omega) rfl, Vec.cell h Wn.cells_len k hk 3 (by omega) rfl, Vec.cell h Wn.cells_len k hk 4 (by omega) rfl, Vec.cell h Wn.cells_len k hk 5 (by omega) rfl, Vec.cell h Wn.cells_len k hk 6 (by omega) rfl⟩
theorem zerosWn (n : Nat) : ∀ u ∈ (List.replicate n ()).flatMap (fun _ => [Value.int .i64 0, .int .i64 0, .int .i64 0, .int .i64 0, .int .i64 0, .int .i64 0, .bool false]), u.oneCell' = true := by
  intro u hu
  obtain ⟨_, _, hx⟩ := List.mem_flatMap.1 hu
  simp only [List.mem_cons, List.not_mem_nil, or_false] at hx
  rcases hx with rfl | rfl | rfl | rfl | rfl | rfl | rfl <;> rfl
/-- A slice of timers: nil, or the timers at a block of its own. -/
def WnS (w : World) (v : Value) (xs : List Wn) : Prop :=
  (v = .slice none 0 0 ∧ xs = []) ∨ ∃ g c rest, v = .slice (some ⟨g, 0, none⟩) xs.length c ∧ WnV w g xs rest c ∧ xs.length ≤ c ∧ c ≤ maxLen
theorem WnS.fr {S : Nat → Prop} {w w1 : World} {v : Value} {xs : List Wn} (h : WnS w v xs) (hf : Fr S w w1) (hs : ∀ k, OwnB v k → ¬ S k) : WnS w1 v xs := by
  rcases h with h | ⟨g, c, rest, rfl, h1, h2, h3⟩
  · exact .inl h
  · exact .inr ⟨g, c, rest, rfl, Vec.fr h1 hf (hs g rfl), h2, h3⟩
/-- What a function value answers, in whatever world that comes of w by writes to S. -/
def WnPred (fn : Nat) (lb : Array Value) (p : Wn → Bool) (S : Nat → Prop) (w : World) : Prop :=
  (∀ args w, (callFunc fn args).run Tryd.prog w = .ok (.enter fn args) w) ∧ ∀ (W : World) (x : Wn), Fr S w W → Calls Tryd.prog fn (#[x.v] ++ lb) W fun e w' => e = .returned (.bool (p x)) ∧ Fr NoB W w'
theorem WnPred.fr {fn : Nat} {lb : Array Value} {p : Wn → Bool} {S : Nat → Prop} {w w1 : World} (h : WnPred fn lb p S w) (hf : Fr S w w1) : WnPred fn lb p S w1 := ⟨h.1, fun W x hW => h.2 W x (hf.trans hW)⟩
theorem WnPred.mono {fn : Nat} {lb : Array Value} {p : Wn → Bool} {S S2 : Nat → Prop} {w : World} (h : WnPred fn lb p S w) (hs : ∀ k, S2 k → S k) : WnPred fn lb p S2 w := ⟨h.1, fun W x hW => h.2 W x (hW.mono hs)⟩
def wIx (p : Wn → Bool) (xs : List Wn) : Int := if xs.any p then (xs.findIdx p : Int) else -1
theorem wIx_hit {p : Wn → Bool} {xs : List Wn} {k : Nat} (hk : k < xs.length) (h0 : (xs.take k).any p = false) (h : p xs[k] = true) : wIx p xs = k := by
  have h1 : xs.any p = true := List.any_eq_true.2 ⟨_, List.getElem_mem hk, h⟩
  have h2 : xs.findIdx p = k := by
    rw [List.findIdx_eq hk]
    refine ⟨h, fun j hj => ?_⟩
    have h3 := List.any_eq_false.1 h0 xs[j] (by
      rw [List.mem_take_iff_getElem]
      exact ⟨j, by omega, rfl⟩)
    simpa using h3
  unfold wIx
  rw [if_pos h1, h2]
theorem wIx_none {p : Wn → Bool} {xs : List Wn} (h0 : xs.any p = false) : wIx p xs = -1 := by
  unfold wIx
  rw [h0]
  rfl
theorem WnV.frozen {w : World} {g : Nat} {xs : List Wn} {rest : List Value} {c : Nat} (h : WnV w g xs rest c) (j : Nat) : w.frozen? ⟨g, j, none⟩ = false := Blk.frozen (Vec.blk h) j
theorem WnV.lt {w : World} {g : Nat} {xs : List Wn} {rest : List Value} {c : Nat} (h : WnV w g xs rest c) : g < w.heap.size := Blk.lt (Vec.blk h)
/-- A call answers a slice with timers xs; it has written to v's block alone. -/
def WnTo (v : Value) (xs : List Wn) (w : World) (e : Ending) (w' : World) : Prop := ∃ v', e = .returned v' ∧ WnS w' v' xs ∧ Fr (OwnB v) w w' ∧ ∀ k, OwnB v' k → OwnB v k ∨ w.heap.size ≤ k
theorem zerosWn_len (n : Nat) : ((List.replicate n ()).flatMap (fun _ => [Value.int .i64 0, .int .i64 0, .int .i64 0, .int .i64 0, .int .i64 0, .int .i64 0, .bool false])).length = n * 7 := by
  rw [flat_len (n := 7) (fun _ => rfl), List.length_replicate]
/-- The world behind clear(s[m:]). -/
theorem WnV.cleared {w : World} {g : Nat} {zs : List Wn} {rest : List Value} {c m : Nat} (h : WnV w g zs rest c) (hm : m ≤ zs.length) {w1 : World} {L : List Value} (hL : L = zs.flatMap Wn.cells ++ rest)
    (hB : Hid (Blk w1 g 58 (L.take (m * 7) ++ (List.replicate (zs.length - m) ()).flatMap (fun _ => [Value.int .i64 0, .int .i64 0, .int .i64 0, .int .i64 0, .int .i64 0, .int .i64 0, .bool false]) ++ L.drop (m * 7 + ((List.replicate (zs.length - m) ()).flatMap (fun _ => [Value.int .i64 0, .int .i64 0, .int .i64 0, .int .i64 0, .int .i64 0, .int .i64 0, .bool false])).length)))) :
    WnV w1 g (zs.take m) ((List.replicate (zs.length - m) ()).flatMap (fun _ => [Value.int .i64 0, .int .i64 0, .int .i64 0, .int .i64 0, .int .i64 0, .int .i64 0, .bool false]) ++ rest) c := by
  subst hL
  have h1 := hB.out
  rw [flat_take Wn.cells_len zs rest m hm, zerosWn_len, show m * 7 + (zs.length - m) * 7 = zs.length * 7 by omega, flat_drop Wn.cells_len zs rest zs.length (Nat.le_refl _), List.drop_length, List.flatMap_nil, List.nil_append, List.append_assoc] at h1
  refine ⟨h1, ?_⟩
  have := Vec.len h
  rw [List.length_append, zerosWn_len, List.length_take, Nat.min_eq_left hm]
  omega
def WnRow (w : World) (base : Nat) (v : Value) (xs : List Wn) : Prop := Row Wn.cells 7 58 w base v xs
theorem WnS.of_row {w : World} {base : Nat} {v : Value} {xs : List Wn} (h : WnRow w base v xs) : WnS w v xs := by
  by_cases h0 : 0 < xs.length
  · obtain ⟨g, c, rest, h1, h2, h3, h4, h5⟩ := Vec.of_row h h0
    exact .inr ⟨g, c, rest, h1, h2, h4, h5⟩
  · obtain rfl : xs = [] := List.eq_nil_of_length_eq_zero (by omega)
    rcases h.2 with ⟨h1, h2⟩ | ⟨g, c, cur, h1, h2, h3, h4, h5, h6, h7⟩
    · exact .inl ⟨h1, rfl⟩
    · refine .inr ⟨g, c, cur.toList, h1, ⟨?_, ?_⟩, by simp, h5⟩
      · exact h3
      · simp [← h6]
theorem WnS.row {w : World} {v : Value} {xs : List Wn} (h : WnS w v xs) : WnRow w 0 v xs := by
  rcases h with ⟨rfl, rfl⟩ | ⟨g, c, rest, rfl, h1, h2, h3⟩
  · exact Row.nil ..
  · exact Vec.row h1 Wn.cells_len (Nat.zero_le _) h2 h3
/-- A call answers a row of its own. -/
def WnRowTo (xs : List Wn) (w : World) (e : Ending) (w' : World) : Prop := ∃ v', e = .returned v' ∧ WnRow w' w.heap.size v' xs ∧ Fr NoB w w'
/-- They lie at an address. -/
def WnA (w : World) (ad : Addr) (xs : List Wn) : Prop := ∀ j u, (xs.flatMap Wn.cells)[j]? = some u → w.cell? (ad.add j) = some u
theorem WnA.fr {S : Nat → Prop} {w w1 : World} {ad : Addr} {xs : List Wn} (h : WnA w ad xs) (hf : Fr S w w1) (hs : ¬ S ad.block) : WnA w1 ad xs := fun j u hj => by
  have h1 := h j u hj
  have e : (ad.add j).block = ad.block := by unfold Addr.add; split <;> rfl
  have hlt := cell_lt h1
  rw [← h1]
  exact World.cell?_of_block (hf.block _ hlt (by rw [e]; exact hs))
theorem w_flat_single (t : Wn) : [t].flatMap Wn.cells = t.cells := by simp
theorem cut_loWn (g n c k : Nat) (hk : k ≤ n) (hkc : k < c) (W : World) : (Instr.slice 52 (.slice (some ⟨g, 0, none⟩) n c) (some (.int .i64 k)) none none).run Tryd.prog W = .ok (.slice (some ⟨g, k * 7, none⟩) (n - k) (c - k)) W := by
  obtain ⟨i0, hi, hz0, hz1, hz2⟩ := info_parts infoWn
  obtain ⟨ad, hcut, had⟩ := cut_lo (P := Tryd.prog) 52 58 i0 Tryd.underlying52 hi g n c k hk
  rw [hcut W, had hkc, hz1]
theorem w_cut_end (A : Option Addr) (n c : Nat) : ∃ A', ∀ W, (Instr.slice 52 (.slice A n c) (some (.int .i64 n)) none none).run Tryd.prog W = .ok (.slice A' 0 (c - n)) W := by
  refine ⟨if c = n then A else A.map (·.add (n * 7)), fun W => ?_⟩
  have he : Tryd.prog.elem 52 = 58 := by simp [Program.elem, Tryd.underlying52]
  rw [run_slice_l W 52 A n c (by rw [he]; exact Tryd.underlying52) .i64 n (by omega) (by omega), he, sizeWn]
  simp [sliced, Result.andThen]
theorem w_overlaps_no (w : World) (a b o la ca lb cb : Nat) (tA tB : TypeId) (l l' : List Value) (ha : Blk w a tA l) (hb : Blk w b tB l') (hl : 0 < l'.length) (hne : a ≠ b) :
    (callFunc 35 #[.slice (some ⟨a, 0, none⟩) la ca, .slice (some ⟨b, o, none⟩) lb cb]).run Tryd.prog w = .ok (.value (.bool false)) w := by
  rw [run_callFunc_extern Tryd.func35 (by kernel_rfl) (by kernel_rfl) (by kernel_rfl) (e := Extern.SlicesOverlaps.overlaps #[52, 52] #[4]) (by kernel_rfl),
    Lib.run_overlaps_apart w 52 4 58 Tryd.underlying52 7 sizeWn ⟨a, 0, none⟩ ⟨b, o, none⟩ la ca lb cb hne tA tB _ _ ha.shape hb.shape (by omega) (ha.frozen 0) (ha.frozen _)]
  rfl
set_option maxHeartbeats 4000000 in
theorem w_ins_end (w : World) (v : Value) (xs : List Wn) (t : Wn) (bt : Nat) (hV : WnS w v xs) (hl : xs.length + 1 ≤ 4096) (hb : Blk w bt 58 t.cells) :
    Calls Tryd.prog 19 #[v, .int .i64 xs.length, .slice (some ⟨bt, 0, none⟩) 1 1] w (WnTo v (xs ++ [t]) w) := by
  have HR := hid (WnS.row hV)
  have HS : Hid (∀ j u, ([t].flatMap Wn.cells)[j]? = some u → w.cell? ((⟨bt, 0, none⟩ : Addr).add j) = some u) := fun j u hj => by
    rw [w_flat_single] at hj
    exact hb.cells 0 t.cells (fun j v hj => by rwa [Nat.zero_add]) j u hj
  have HL1 : Hid ([t].length = 1) := rfl
  have h64 : Hid ((xs.length + 1) * 56 ≤ 140737488355328) := (show _ ≤ _ by omega)
  have key : ∀ (A : Option Addr) (c : Nat), v = .slice A xs.length c → Calls Tryd.prog 19 #[v, .int .i64 xs.length, .slice (some ⟨bt, 0, none⟩) 1 1] w (WnTo v (xs ++ [t]) w) := by
    rintro A c rfl
    clear hV
    obtain ⟨A', hcut⟩ := w_cut_end A xs.length c
    go_enter Tryd.func19, Tryd.ntmps19
    go_wp2_with (at_builtin; go_must (refine row_apps (f := Wn.cells) Wn.cells_len Wn.one 0 rfl (.tmp 23) (.tmp 24) 52 58 Wn.zero 56 rfl Tryd.underlying52 infoWn rfl (by omega) (by omega) (.slice A xs.length c) xs [t] ⟨bt, 0, none⟩ 1 1 rfl rfl HL1 HS.out HR.out (by omega) h64.out ?_); intro v1 w1 hv1 hf1 hat)
    go_ret
    refine ⟨_, rfl, WnS.of_row hv1, hf1, fun k hk => ?_⟩
    have hk' : v1.ownBlock = some k := hk
    rcases hat with h1 | h1
    · exact .inl (h1.symm.trans hk')
    · rw [h1] at hk'
      exact .inr (Nat.le_of_eq (Option.some.inj hk'))
  rcases hV with ⟨rfl, rfl⟩ | ⟨g, c, rest, rfl, _⟩
  · exact key none 0 rfl
  · exact key _ c rfl
/-- t put in at i, the rows told as lists of cells. -/
theorem w_put_cells (xs : List Wn) (t : Wn) (i : Nat) (hi : i ≤ xs.length) : (xs.take i ++ t :: xs.drop i).flatMap Wn.cells = (xs.take i).flatMap Wn.cells ++ t.cells ++ (xs.drop i).flatMap Wn.cells := by
  rw [List.flatMap_append, List.flatMap_cons, List.append_assoc]
theorem w_put_len (xs : List Wn) (t : Wn) (i : Nat) (hi : i ≤ xs.length) : (xs.take i ++ t :: xs.drop i).length = xs.length + 1 := by
  rw [List.length_append, List.length_cons, List.length_drop, List.length_take]
  omega
/-- The two copies of an Insert where there is room. -/
theorem WnV.shifted {w : World} {g : Nat} {xs : List Wn} {rest : List Value} {c : Nat} (hV : WnV w g xs rest c) (i : Nat) (hi : i < xs.length) (hc : xs.length + 1 ≤ c) (t : Wn) {w2 : World} {L1 L2 : List Value}
    (h1 : L1 = (xs.flatMap Wn.cells ++ rest).take ((i + 1) * 7) ++ (xs.drop i).flatMap Wn.cells ++ (xs.flatMap Wn.cells ++ rest).drop ((i + 1) * 7 + ((xs.drop i).flatMap Wn.cells).length))
    (h2 : L2 = L1.take (i * 7) ++ t.cells ++ L1.drop (i * 7 + t.cells.length)) (hB : Blk w2 g 58 L2) : WnV w2 g (xs.take i ++ t :: xs.drop i) (rest.drop 7) c := by
  have hl := Vec.len hV
  have hr : 7 ≤ rest.length := by omega
  refine ⟨?_, ?_⟩
  · rw [w_put_cells xs t i (by omega)]
    refine hB.eq ?_
    subst h1
    subst h2
    have e1 : ((xs.drop i).flatMap Wn.cells).length = (xs.length - i) * 7 := by rw [flat_len Wn.cells_len, List.length_drop]
    have e2 : (i + 1) * 7 + ((xs.drop i).flatMap Wn.cells).length = (xs.flatMap Wn.cells).length + 7 := by rw [e1, flat_len Wn.cells_len]; omega
    have e3 := flat_take Wn.cells_len xs rest (i + 1) (by omega)
    have e4 : ((xs.take (i + 1)).flatMap Wn.cells).length = i * 7 + 7 := by rw [flat_len Wn.cells_len, List.length_take, Nat.min_eq_left (by omega)]; omega
    have e5 : ((xs.take (i + 1)).flatMap Wn.cells).take (i * 7) = (xs.take i).flatMap Wn.cells := by
      have := flat_take Wn.cells_len (xs.take (i + 1)) [] i (by rw [List.length_take]; omega)
      rw [List.append_nil, List.take_take, Nat.min_eq_left (by omega)] at this
      exact this
    have e6 : (xs.flatMap Wn.cells ++ rest).drop ((xs.flatMap Wn.cells).length + 7) = rest.drop 7 := by rw [← List.drop_drop, List.drop_left]
    rw [e2, e6, e3, Wn.cells_len, List.append_assoc ((xs.take (i + 1)).flatMap Wn.cells), List.take_append_of_le_length (by omega), e5, List.drop_left' e4]
    simp only [List.append_assoc]
  · rw [w_put_len xs t i (by omega), List.length_drop]
    omega
set_option maxHeartbeats 4000000 in
theorem w_ins_room (w : World) (g c : Nat) (xs : List Wn) (rest : List Value) (i : Nat) (t : Wn) (bt : Nat) (hV : WnV w g xs rest c) (hc : xs.length + 1 ≤ c) (hcm : c ≤ maxLen) (hi : i < xs.length) (hl : xs.length + 1 ≤ 4096) (hb : Blk w bt 58 t.cells) (hne : bt ≠ g) :
    Calls Tryd.prog 19 #[.slice (some ⟨g, 0, none⟩) xs.length c, .int .i64 i, .slice (some ⟨bt, 0, none⟩) 1 1] w (WnTo (.slice (some ⟨g, 0, none⟩) xs.length c) (xs.take i ++ t :: xs.drop i) w) := by
  obtain ⟨i0, hi0, hz0, hz1, hz2⟩ := info_parts infoWn
  unfold maxLen at hcm
  have s1 := cut_loWn g xs.length c i (by omega) (by omega)
  have s2 := cut_loWn g (xs.length + 1) c (i + 1) (by omega) (by omega)
  rw [show ((i + 1 : Nat) : Int) = (i : Int) + 1 by omega] at s2
  have hw : IntKind.i64.wrap ((i : Int) + 1) = (i : Int) + 1 := IntWalk.i64_in _ (by omega)
  have s3 := cut_loWn g (xs.length + 1) c i (by omega) (by omega)
  have hov := fun la ca lb cb => w_overlaps_no w bt g ((i + 1) * 7) la ca lb cb 58 58 t.cells _ hb (Vec.blk hV) (by rw [List.length_append, flat_len Wn.cells_len]; omega) hne
  have HV := hid hV
  have hVd : WnV w.drew g xs rest c := Vec.fr hV (Fr.refl NoB w).drew (fun h => h)
  have HB0 := hid (Vec.blk hVd)
  have HB := hid hb.drew
  have hdl : Hid (((xs.drop i).flatMap Wn.cells).length = (xs.length - i) * i0.size) := (show _ = _ by rw [flat_len Wn.cells_len, List.length_drop, hz1])
  have hfit : Hid ((i + 1) * 7 + ((xs.drop i).flatMap Wn.cells).length ≤ (xs.flatMap Wn.cells ++ rest).length) := by
    show _ ≤ _
    have := Vec.len hV
    rw [List.length_append, flat_len Wn.cells_len, flat_len Wn.cells_len, List.length_drop]
    omega
  have hsrc : Hid (∀ j u, ((xs.drop i).flatMap Wn.cells)[j]? = some u → w.drew.cell? ((⟨g, i * 7, none⟩ : Addr).add j) = some u) := Vec.src hVd Wn.cells_len i (by omega) (xs.drop i) (List.prefix_refl _)
  have ht1 : Hid (t.cells.length = 1 * i0.size) := (show _ = _ by rw [hz1, Wn.cells_len])
  have hmin : Hid (Nat.min (xs.length + 1 - i) (xs.length - i) = xs.length - i) := (show _ = _ from Nat.min_eq_right (by omega))
  have hmin2 : Hid (Nat.min 1 (xs.length + 1 - i) = 1) := (show _ = _ from Nat.min_eq_left (by omega))
  obtain ⟨L1, hL1⟩ : ∃ L1, L1 = (xs.flatMap Wn.cells ++ rest).take ((i + 1) * 7) ++ (xs.drop i).flatMap Wn.cells ++ (xs.flatMap Wn.cells ++ rest).drop ((i + 1) * 7 + ((xs.drop i).flatMap Wn.cells).length) := ⟨_, rfl⟩
  have hfit2 : Hid (i * 7 + t.cells.length ≤ L1.length) := by
    show _ ≤ _
    have h5 := hfit.out
    rw [hL1, Wn.cells_len, List.length_append, List.length_append, List.length_take, List.length_drop, Nat.min_eq_left (by omega)]
    omega
  have HL1 := hid hL1
  clear hL1 hV hVd hb hz0 hz1 hz2
  have hgt : decide ((xs.length : Int) + 1 > (c : Int)) = false := by simp; omega
  have h64 : (xs.length : Int) + 1 ≤ 9223372036854775807 := by omega
  have e1 : ((xs.length : Int) + 1).toNat = xs.length + 1 := by omega
  have e2 : ((i : Int) + 1).toNat = i + 1 := by omega
  have hei : ((i : Int) == (xs.length : Int)) = false := by rw [beq_eq_false_iff_ne]; omega
  have hei' : decide ((i : Int) = (xs.length : Int)) = false := by rw [decide_eq_false_iff_not]; omega
  go_enter Tryd.func19, Tryd.ntmps19
  go_wp2_with fail
  refine wp_region_still_tail 8 (by kernel_rfl) (by kernel_rfl) ?_
  change wpStill _ _ (World.drew _) _ _ _
  simp only [List.take_succ_cons, List.take_zero, List.drop_succ_cons, List.drop_zero]
  iterate 8 still_step
  refine wpStill_nil ?_
  change wpList _ _ _ _ _ (World.drew _)
  go_wp2_with first
    | ((with_reducible refine at_bi .copy (d := some 77) ?_); go_must (refine wpList_copy_blk rfl (.tmp 73) (.tmp 76) 52 52 rfl 58 i0 Tryd.underlying52 hi0 g ((i + 1) * 7) (xs.length - i) (c - (i + 1)) ⟨g, i * 7, none⟩ (xs.length + 1 - i) (c - i) (xs.length - i) rfl rfl hmin.out 58 _ ((xs.drop i).flatMap Wn.cells) HB0 hdl.out hsrc.out (flat_one Wn.one _) hfit.out ?_; intro w2 hB2 hf2; rw [← HL1.out] at hB2; have hs2 := (HB.out.fr hf2 (show ¬ At g bt from hne)).cells 0 t.cells (fun j v hj => by rwa [Nat.zero_add]); have HS2 := hid hs2; clear hs2))
    | ((with_reducible refine at_bi .copy (d := some 82) ?_); go_must (refine wpList_copy_blk rfl (.tmp 80) (.tmp 81) 52 52 rfl 58 i0 Tryd.underlying52 hi0 g (i * 7) (xs.length + 1 - i) (c - i) ⟨bt, 0, none⟩ 1 1 1 rfl rfl hmin2.out 58 _ t.cells hB2 ht1.out HS2.out (Wn.one t) hfit2.out ?_; intro w3 hB3 hf3))
  go_ret
  have hV3 := WnV.shifted HV.out i hi hc t HL1.out rfl hB3.out
  refine ⟨_, rfl, .inr ⟨g, c, _, by rw [w_put_len xs t i (by omega)]; rfl, hV3, by rw [w_put_len xs t i (by omega)]; omega, by unfold maxLen; omega⟩, (((Fr.refl _ w).drew.trans hf2).trans hf3).mono (fun k hk => congrArg some hk.symm), fun k hk => .inl ?_⟩
  exact hk
/-- The rows behind the two copies of an Insert that grows. -/
theorem WnV.grown {w2 : World} {H : Nat} {xs : List Wn} {L0 L1 L2 : List Value} {c : Nat} (i : Nat) (hi : i < xs.length) (hc : xs.length + 1 ≤ c) (t : Wn) (h0 : (xs.take i).length * 7 + L0.length = c * 7)
    (h1 : L1 = ((xs.take i).flatMap Wn.cells ++ L0).take (i * 7) ++ t.cells ++ ((xs.take i).flatMap Wn.cells ++ L0).drop (i * 7 + t.cells.length))
    (h2 : L2 = L1.take ((i + 1) * 7) ++ (xs.drop i).flatMap Wn.cells ++ L1.drop ((i + 1) * 7 + ((xs.drop i).flatMap Wn.cells).length)) (hB : Blk w2 H 58 L2) : ∃ rest, WnV w2 H (xs.take i ++ t :: xs.drop i) rest c := by
  have hl : (xs.take i).length = i := by rw [List.length_take]; omega
  have h3 : ((xs.take i).flatMap Wn.cells).length = i * 7 := by rw [flat_len Wn.cells_len, hl]
  have h4 : ((xs.drop i).flatMap Wn.cells).length = (xs.length - i) * 7 := by rw [flat_len Wn.cells_len, List.length_drop]
  rw [List.take_left' h3] at h1
  have h5 : ((xs.take i).flatMap Wn.cells ++ t.cells).length = (i + 1) * 7 := by rw [List.length_append, h3, Wn.cells_len]; omega
  rw [h1, List.take_left' h5] at h2
  refine ⟨L1.drop ((i + 1) * 7 + ((xs.drop i).flatMap Wn.cells).length), ?_, ?_⟩
  · rw [w_put_cells xs t i (by omega), h1]
    exact hB.eq h2
  · rw [w_put_len xs t i (by omega), List.length_drop, h4, h1, List.length_append, h5, List.length_drop, List.length_append, h3, Wn.cells_len]
    omega
set_option maxHeartbeats 4000000 in
theorem w_ins_grow (w : World) (g c : Nat) (xs : List Wn) (rest : List Value) (i : Nat) (t : Wn) (bt : Nat) (hV : WnV w g xs rest c) (hc : ¬ xs.length + 1 ≤ c) (hxc : xs.length ≤ c) (hi : i < xs.length) (hl : xs.length + 1 ≤ 4096) (hb : Blk w bt 58 t.cells) :
    Calls Tryd.prog 19 #[.slice (some ⟨g, 0, none⟩) xs.length c, .int .i64 i, .slice (some ⟨bt, 0, none⟩) 1 1] w (WnTo (.slice (some ⟨g, 0, none⟩) xs.length c) (xs.take i ++ t :: xs.drop i) w) := by
  obtain ⟨i0, hi0, hz0, hz1, hz2⟩ := info_parts infoWn
  have s1 := cut_loWn g xs.length c i (by omega) (by omega)
  have hgl := WnV.lt hV
  have HV := hid hV
  have HB := hid hb
  have hbl := hb.lt
  have hw : IntKind.i64.wrap ((i : Int) + 1) = (i : Int) + 1 := IntWalk.i64_in _ (by omega)
  have hdl : Hid (((xs.drop i).flatMap Wn.cells).length = (xs.length - i) * i0.size) := (show _ = _ by rw [flat_len Wn.cells_len, List.length_drop, hz1])
  have ht1 : Hid (t.cells.length = 1 * i0.size) := (show _ = _ by rw [hz1, Wn.cells_len])
  have hmin : Hid (Nat.min (xs.length - i) (xs.length - i) = xs.length - i) := (show _ = _ from Nat.min_self _)
  have hmin2 : Hid (Nat.min 1 (xs.length + 1 - i) = 1) := (show _ = _ from Nat.min_eq_left (by omega))
  have hgt : decide ((xs.length : Int) + 1 > (c : Int)) = true := by simp; omega
  have hkx : Hid ((xs.length : Int) + 1 - (i : Int) = ((xs.length + 1 - i : Nat) : Int)) := (show _ = _ by omega)
  have hik : Hid (i + (xs.length + 1 - i) = xs.length + 1) := (show _ = _ by omega)
  have hik2 : i + (xs.length + 1 - i) ≤ xs.length + 1 := by omega
  have hcl : c < xs.length + 1 := by omega
  have hei : ((i : Int) == (xs.length : Int)) = false := by rw [beq_eq_false_iff_ne]; omega
  have hei' : decide ((i : Int) = (xs.length : Int)) = false := by rw [decide_eq_false_iff_not]; omega
  have htl : Hid (((xs.take i).flatMap Wn.cells).length = i * 7) := (show _ = _ by rw [flat_len Wn.cells_len, List.length_take, Nat.min_eq_left (by omega)])
  have hti : Hid ((xs.take i).length = i) := (show _ = _ by rw [List.length_take, Nat.min_eq_left (by omega)])
  have hdi : Hid (((xs.drop i).flatMap Wn.cells).length = (xs.length - i) * 7) := (show _ = _ by rw [flat_len Wn.cells_len, List.length_drop])
  clear hV hb hz0 hz1 hz2 hc
  go_enter Tryd.func19, Tryd.ntmps19
  go_wp2_with first
    | (at_builtin; go_must (refine wpList_append_zeros (f := Wn.cells) Wn.cells_len rfl (.tmp 34) (.tmp 39) 52 3 58 Wn.zero 56 .i64 rfl Tryd.underlying52 Tryd.underlying3 infoWn rfl (by omega) (by omega) g i c (xs.length + 1 - i) (xs.length + 1) _ rfl rfl hkx.out hik.out xs rest HV.out (by omega) (by omega) hcl (by omega) ?_); go_must (intro c1 L w1 hc1 hcm1 hV1 hf1; unfold maxLen at hcm1; have p1 := cut_loWn w.heap.size (xs.length + 1) c1 i (by omega) (by omega); have p2 := cut_loWn w.heap.size (xs.length + 1) c1 (i + 1) (by omega) (by omega); rw [show ((i + 1 : Nat) : Int) = (i : Int) + 1 by omega] at p2; have hB1 := hid (Vec.blk hV1.out); have hlen := hid (Vec.len hV1.out); have hs1 := (HB.out.fr hf1 (fun h => h)).cells 0 t.cells (fun j v hj => by rwa [Nat.zero_add]); have HS1 := hid hs1; clear hs1; have hfitA : Hid (i * 7 + t.cells.length ≤ ((xs.take i).flatMap Wn.cells ++ L).length) := (show _ ≤ _ by have h7 := hlen.out; rw [hti.out] at h7; rw [List.length_append, htl.out, Wn.cells_len]; omega)))
    | ((with_reducible refine at_bi .copy (d := some 45) ?_); go_must (refine wpList_copy_blk rfl (.tmp 43) (.tmp 44) 52 52 rfl 58 i0 Tryd.underlying52 hi0 w.heap.size (i * 7) (xs.length + 1 - i) (c1 - i) ⟨bt, 0, none⟩ 1 1 1 rfl rfl hmin2.out 58 _ t.cells hB1 ht1.out HS1.out (Wn.one t) hfitA.out ?_; intro w2 hB2 hf2))
  obtain ⟨L1, hL1⟩ : ∃ L1, L1 = ((xs.take i).flatMap Wn.cells ++ L).take (i * 7) ++ t.cells ++ ((xs.take i).flatMap Wn.cells ++ L).drop (i * 7 + t.cells.length) := ⟨_, rfl⟩
  rw [← hL1] at hB2
  have HL1 := hid hL1
  have hB3 := hid hB2.out.drew
  have hVd : WnV w2.drew g xs rest c := Vec.fr (Vec.fr HV.out hf1 (fun h => h)) hf2.drew (fun h => by have : g = w.heap.size := h; omega)
  have hsrc : Hid (∀ j u, ((xs.drop i).flatMap Wn.cells)[j]? = some u → w2.drew.cell? ((⟨g, i * 7, none⟩ : Addr).add j) = some u) := Vec.src hVd Wn.cells_len i (by omega) (xs.drop i) (List.prefix_refl _)
  have hfit3 : Hid ((i + 1) * 7 + ((xs.drop i).flatMap Wn.cells).length ≤ L1.length) := by
    show _ ≤ _
    have h7 := hlen.out
    rw [hti.out] at h7
    rw [hdi.out, hL1, List.length_append, List.length_append, List.length_take, List.length_drop, List.length_append, htl.out, Wn.cells_len, Nat.min_eq_left (by omega)]
    omega
  clear hL1 hVd
  refine wp_region_still_tail 8 (by kernel_rfl) (by kernel_rfl) ?_
  change wpStill _ _ (World.drew _) _ _ _
  simp only [List.take_succ_cons, List.take_zero, List.drop_succ_cons, List.drop_zero]
  iterate 8 still_step
  refine wpStill_nil ?_
  change wpList _ _ _ _ _ (World.drew _)
  go_wp2_with ((with_reducible refine at_bi .copy (d := some 54) ?_); go_must (refine wpList_copy_blk rfl (.tmp 50) (.tmp 53) 52 52 rfl 58 i0 Tryd.underlying52 hi0 w.heap.size ((i + 1) * 7) (xs.length - i) (c1 - (i + 1)) ⟨g, i * 7, none⟩ (xs.length - i) (c - i) (xs.length - i) rfl rfl hmin.out 58 _ ((xs.drop i).flatMap Wn.cells) hB3 hdl.out hsrc.out (flat_one Wn.one _) hfit3.out ?_; intro w3 hB4 hf3))
  go_ret
  obtain ⟨r3, hV3⟩ := WnV.grown i hi hc1 t hlen.out HL1.out rfl hB4.out
  refine ⟨_, rfl, .inr ⟨_, c1, r3, by rw [w_put_len xs t i (by omega)]; rfl, hV3, by rw [w_put_len xs t i (by omega)]; omega, by unfold maxLen; omega⟩, ?_, fun k hk => .inr ?_⟩
  · exact (hf1.then_ (hf2.drew.trans hf3) (fun k hk => .inr (by have : k = w.heap.size := hk; omega))).mono (fun _ h => h.elim)
  · have hk' : some w.heap.size = some k := hk
    exact Nat.le_of_eq (Option.some.inj hk')
/-- slices.Insert of one timer. -/
theorem w_ins_any (w : World) (v : Value) (xs : List Wn) (i : Nat) (t : Wn) (bt : Nat) (hV : WnS w v xs) (hi : i ≤ xs.length) (hl : xs.length + 1 ≤ 4096) (hb : Blk w bt 58 t.cells) (hne : ¬ OwnB v bt) :
    Calls Tryd.prog 19 #[v, .int .i64 i, .slice (some ⟨bt, 0, none⟩) 1 1] w (WnTo v (xs.take i ++ t :: xs.drop i) w) := by
  by_cases h : i = xs.length
  · subst h
    rw [List.take_length, List.drop_length]
    exact w_ins_end w v xs t bt hV hl hb
  · rcases hV with ⟨rfl, rfl⟩ | ⟨g, c, rest, rfl, hV, hxc, hcm⟩
    · simp at hi
      simp at h
      omega
    · by_cases hc : xs.length + 1 ≤ c
      · exact w_ins_room w g c xs rest i t bt hV hc hcm (by omega) hl hb (fun e => hne (congrArg some e.symm))
      · exact w_ins_grow w g c xs rest i t bt hV hc hxc (by omega) hl hb
end Go.Proofs.YtnengimekcnfhaaDoor
