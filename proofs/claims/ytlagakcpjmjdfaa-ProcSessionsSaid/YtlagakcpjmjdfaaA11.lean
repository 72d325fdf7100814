import Derived.Test.YtlagakcpjmjdfaaA10
import Derived.Shelf.Lay
import Derived.Shelf.Sort.Plain
import Derived.Sort.OwnSortedInts
import Derived.Shelf.Slices.CompactI
import Derived.Shelf.Slices.In.SortNone
set_option linter.unusedSimpArgs false
set_option linter.unusedVariables false
set_option maxRecDepth 20000
namespace Go.Proofs.Ytlagakcpjmjdfaa
open Go.RowKit Go.Proofs.YtlagakcpjmjdfaaW.PrintWords
open Go.Shelf Go.Sort
shelf_lay Lays.n189 Nm 189 at Try as lays189
/-! Numbers in a slice; sorted; without repeats. -/
def ic (n : Int) : List Value := [.int .i64 n]
theorem ic_len (n : Int) : (ic n).length = 1 := rfl
theorem ic_one (n : Int) : ∀ u ∈ ic n, u.oneCell' = true := by
  intro u hu
  simp only [ic, List.mem_cons, List.not_mem_nil, or_false] at hu
  subst hu
  rfl
theorem infoI : (Try.prog.info? 3).map (fun i => (i.zero, i.size, i.bytes)) = some (some (.int .i64 0), 1, 8) := by kernel_rfl
theorem zeroI (w : World) : (zeroValue 3).run Try.prog w = .ok (.int .i64 0) w := by kernel_rfl
theorem ic_flat (l : List Int) : l.flatMap ic = l.map (Value.int .i64) := by
  induction l with
  | nil => rfl
  | cons a l ih => simp [ic, ih]
def srt (l : List Int) : List Int := l.mergeSort fun x y => decide (x ≤ y)
theorem sort_own (w : World) (base g c : Nat) (zs : List Int) (h : Row ic 1 3 w base (.slice (some ⟨g, 0, none⟩) zs.length c) zs) (hl : zs.length ≤ 4096) :
    Calls Try.prog 53 #[.slice (some ⟨g, 0, none⟩) zs.length c] w fun e w' => e = .returned (.tuple #[]) ∧ Row ic 1 3 w' base (.slice (some ⟨g, 0, none⟩) zs.length c) (srt zs) ∧ Fr (At g) w w' := by
  rcases h.2 with ⟨h0, _⟩ | ⟨g', c', cur, hv, hbase, hb, h1, h2, h3, h4⟩
  · cases h0
  · cases hv
    have hH : Holds (Value.int .i64) w g 0 zs.toArray := holds_of_blockI hb (by rw [← ic_flat]; simpa using h4)
    refine (Any.slices_Sort_int lays189 g 0 c zs w hH (Array.getElem?_eq_some_iff.1 hb).1 (by omega)).mono ?_
    rintro e w' ⟨rfl, n, os, rfl⟩
    refine ⟨rfl, ?_, (Fr.of_grown (grownBy_sortedI _)).mono (fun j e => (Option.some.inj e).symm)⟩
    have hl2 : (srt zs).length = zs.length := by simp [srt]
    unfold Row
    rw [ic_flat, hl2]
    exact ownsRow_sortedI hl2 hbase hb h1 h2 h3
shelf_lay Lays2.n20 Nm2 20 at Try as lays20
theorem sort_nil (w : World) : Calls Try.prog 53 #[.slice none 0 0] w fun e w' => e = .returned (.tuple #[]) ∧ w' = w := Any.slices_Sort_int_none lays189 none 0 w
theorem comp_nil (w : World) : Calls Try.prog 54 #[.slice none 0 0] w fun e w' => e = .returned (.slice none 0 0) ∧ w' = w := Any.slices_Compact_int_empty lays20 none 0 w
theorem compact_len (zs : List Int) : (Lib.compact zs).length ≤ zs.length := by
  unfold Lib.compact Lib.compactUpTo
  rw [List.length_map]
  exact Nat.le_trans (List.length_filter_le _ _) (by rw [List.length_range]; exact Nat.le_refl _)
theorem comp_own (w : World) (base g c : Nat) (zs : List Int) (h : Row ic 1 3 w base (.slice (some ⟨g, 0, none⟩) zs.length c) zs) (hl : zs.length ≤ 4096) :
    Calls Try.prog 54 #[.slice (some ⟨g, 0, none⟩) zs.length c] w fun e w' => e = .returned (.slice (some ⟨g, 0, none⟩) (Lib.compact zs).length c) ∧ Row ic 1 3 w' base (.slice (some ⟨g, 0, none⟩) (Lib.compact zs).length c) (Lib.compact zs) ∧ Fr (At g) w w' := by
  rcases h.2 with ⟨h0, _⟩ | ⟨g', c', cur, hv, hbase, hb, h1, h2, h3, h4⟩
  · cases h0
  · cases hv
    have hH : Holds (Value.int .i64) w g 0 zs.toArray := holds_of_blockI hb (by rw [← ic_flat]; simpa using h4)
    refine (Any.slices_Compact_int lays20 g 0 c zs w hH (by omega) h1).mono ?_
    rintro e w' ⟨rfl, n, rfl⟩
    have hc := compact_len zs
    have hl2 : (Lib.compact zs ++ List.replicate (zs.length - (Lib.compact zs).length) 0).length = zs.length := by rw [List.length_append, List.length_replicate]; omega
    have e0 : ∀ d : Array Int, putRow (Value.int .i64) (Sort.ahead w n) g 0 d = grow (putRow (Value.int .i64) (Sort.ahead w n) g 0 d) #[] := fun d => (grow_empty _).symm
    rw [e0]
    refine ⟨rfl, ?_, (Fr.of_grown (grownBy_sortedI _)).mono (fun j e => (Option.some.inj e).symm)⟩
    have h5 := ownsRow_sortedI (base := base) (n := n) (os := #[]) hl2 hbase hb h1 h2 h3
    rcases h5.2 with ⟨h0, _⟩ | ⟨g', c', cur', hv', hbase', hb', h1', h2', h3', h4'⟩
    · cases h0
    · cases hv'
      unfold Row
      rw [ic_flat]
      refine ⟨by simp, .inr ⟨g, c, cur', rfl, hbase', hb', by omega, h2', h3', ?_⟩⟩
      rw [List.map_append] at h4'
      have h6 := congrArg (List.take (Lib.compact zs).length) h4'
      rw [List.take_take, List.take_left' (by simp)] at h6
      rw [Nat.mul_one]
      rw [Nat.min_eq_left (by omega)] at h6
      exact h6
def grps (l : List Pr) : List Int := Lib.compact (srt (l.map (·.grp)))
theorem grps_len (l : List Pr) : (grps l).length ≤ l.length := Nat.le_trans (compact_len _) (by simp [srt])
theorem Row.lower {α : Type} {f : α → List Value} {sz : Nat} {e : TypeId} {w : World} {base b2 : Nat} {v : Value} {xs : List α} (h : Row f sz e w base v xs) (hb : b2 ≤ base) : Row f sz e w b2 v xs := ⟨h.1, h.2.imp id (fun ⟨g, c, cur, h1, h2, h3⟩ => ⟨g, c, cur, h1, Nat.le_trans hb h2, h3⟩)⟩
set_option maxHeartbeats 4000000 in
theorem pGrp_any (w : World) (tb n : Nat) (S : Nat → Prop) (t : Tb) (h : Tab w tb S t n) (hl : t.l.length ≤ 4096) :
    Calls Try.prog 33 #[.pointer (some ⟨tb, 0, none⟩)] w fun e w' => ∃ v, e = .returned v ∧ Row ic 1 3 w' w.heap.size v (grps t.l) ∧ Fr NoB w w' := by
  obtain ⟨v, bs, mb, mn, hT, hS, hmn⟩ := h
  obtain ⟨A, c, hv, hc⟩ := hT.row.shape
  subst hv
  have c0 := hT.blk.cell 0 rfl
  have HT := hid hT
  have HL := hid hT.len
  have hbl : bs.length ≤ 4096 := by have := hT.len; omega
  clear hT hS hmn
  go_enter Try.func33, Try.ntmps33
  go_wp2
  go_loopw [3, 11] (fun v3 v11 wr => ∃ k : Nat, k ≤ bs.length ∧ v11 = .int .i64 k ∧ Hid (Row ic 1 3 wr w.heap.size v3 ((t.l.take k).map (·.grp))) ∧ Hid (Fr NoB w wr)) (fun _ v11 _ => bs.length - (intOf v11).toNat)
  case atStart => exact ⟨0, Nat.zero_le _, rfl, Row.nil _ _ _ _ _, Fr.refl _ _⟩
  case round =>
    obtain ⟨k, hk, rfl, HR, HF⟩ := hrel
    by_cases hkm : k < bs.length
    · have hkl : k < t.l.length := by have := HL.out; omega
      have hT := HT.out.frd HF.out
      rcases hT.row with ⟨h0, h00⟩ | ⟨g, cc, rest, h0, hV, h2, h3⟩
      · rw [h00] at hkm; simp at hkm
      · obtain rfl : A = some ⟨g, 0, none⟩ := by injection h0
        clear h0
        have d0 := PV.cell hV k hkm
        have hB := hT.prc k hkm hkl
        have hts : (t.l.take (k + 1)).map (·.grp) = (t.l.take k).map (·.grp) ++ [t.l[k].grp] := by rw [List.take_succ_eq_append_getElem hkl, List.map_append]; rfl
        have HTS := hid hts
        have hln : ((t.l.take k).map (·.grp)).length = k := by rw [List.length_map, List.length_take]; omega
        have h8 := le8 (((t.l.take k).map (·.grp)).length + 1) (by omega)
        have HL8 := hid h8
        clear hT hV h8 hln hts
        generalize t.l[k] = q at *
        generalize (t.l.take k).map (·.grp) = L at *
        generalize bs[k] = a at *
        have q2 := hB.cell 2 rfl
        have HSZ := hid HF.out.size
        clear hB
        go_wp2_with (at_builtin; go_must (refine row_app (f := ic) ic_len ic_one w.heap.size rfl (.tmp 15) (.tmp 20) 41 3 (.int .i64 0) 8 rfl Try.underlying41 infoI rfl (by omega) (by omega) _ L q.grp rfl rfl HR.out HSZ.out HL8.out ?_); intro v5 w5 hR5 hf5 hat5)
        have HR5 := hid hR5
        have HF5 : Hid (Fr NoB w w5) := hid (HF.out.then_ hf5 (fun j hj => .inr (HR.out.lt j hj).1))
        clear hR5 hf5 hat5
        go_roundw
        case rel => exact ⟨k + 1, by omega, by go_num, by rw [HTS.out]; exact HR5.out, HF5.out⟩
        case measure => simp [intOf]; omega
    · have hR := HR.out
      have hlk : t.l.length ≤ k := by have := HL.out; omega
      rw [List.take_of_length_le hlk] at hR
      rcases hR.2 with ⟨h0, h00⟩ | ⟨g, cc, cur, h0, hbase, hrest⟩
      · have hz : t.l = [] := by cases ht : t.l; rfl; rw [ht] at h00; simp at h00
        have hg : grps t.l = [] := by rw [hz]; exact List.eq_nil_of_length_eq_zero (Nat.le_zero.1 (grps_len []))
        have HG := hid hg
        clear hz hg hR h00 hlk
        subst h0
        go_wp2_with fail
        refine (sort_nil _).mono ?_
        rintro e' w5 ⟨rfl, rfl⟩
        go_wp2_with fail
        refine (comp_nil _).mono ?_
        rintro e' w6 ⟨rfl, rfl⟩
        go_wp2
        go_ret
        exact ⟨.slice none 0 0, rfl, by rw [HG.out]; exact Row.nil _ _ _ _ _, HF.out⟩
      · subst h0
        have hlen : (t.l.map (·.grp)).length ≤ 4096 := by rw [List.length_map]; have := HL.out; omega
        have hgr : grps t.l = Lib.compact (srt (t.l.map (·.grp))) := rfl
        have HGR := hid hgr
        have HR2 := hid hR
        have HLe := hid hlen
        have HBs := hid hbase
        clear hR hrest hlk hbase hgr hlen
        generalize t.l.map (·.grp) = zs at *
        have HSo := hid (sort_own wr w.heap.size g cc zs HR2.out HLe.out)
        have HSL : Hid ((srt zs).length = zs.length) := hid (by simp [srt])
        go_wp2_with fail
        refine HSo.out.mono ?_
        rintro e' w5 ⟨rfl, hR5, hf5⟩
        have hco : Calls Try.prog 54 #[.slice (some ⟨g, 0, none⟩) zs.length cc] w5 (fun e w' => e = .returned (.slice (some ⟨g, 0, none⟩) (Lib.compact (srt zs)).length cc) ∧ Row ic 1 3 w' w.heap.size (.slice (some ⟨g, 0, none⟩) (Lib.compact (srt zs)).length cc) (Lib.compact (srt zs)) ∧ Fr (At g) w5 w') := by
          have h := comp_own w5 w.heap.size g cc (srt zs) (by rw [HSL.out]; exact hR5) (by rw [HSL.out]; exact HLe.out)
          rw [HSL.out] at h
          exact h
        have HCo := hid hco
        have HF5 := hid (HF.out.then_ hf5 (fun j e => .inr (by have e' : j = g := e; rw [e']; exact HBs.out)))
        clear hR5 hf5 hco
        go_wp2_with fail
        refine HCo.out.mono ?_
        rintro e' w6 ⟨rfl, hR6, hf6⟩
        have HR6 := hid hR6
        have HF6 := hid (HF5.out.then_ hf6 (fun j e => .inr (by have e' : j = g := e; rw [e']; exact HBs.out)))
        clear hR6 hf6
        go_wp2
        go_ret
        exact ⟨_, rfl, by rw [HGR.out]; exact HR6.out, HF6.out⟩
end Go.Proofs.Ytlagakcpjmjdfaa
