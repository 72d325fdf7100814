import Derived.Test.YtlagakcpjmjdfaaA4
import Derived.Deep.Cut
set_option linter.unusedSimpArgs false
set_option linter.unusedVariables false
set_option maxRecDepth 20000
namespace Go.Proofs.Ytlagakcpjmjdfaa
open Go.RowKit Go.Proofs.YtlagakcpjmjdfaaW.PrintWords
theorem le8 (n : Nat) (h : n ≤ 6000) : n * 8 ≤ 140737488355328 := by omega
def forkT (t : Tb) (pid : Int) : Tb × Int × Int := match t.l.find? (isPid pid) with
  | none => (t, 0, 5)
  | some p => (⟨t.l ++ [{ p with pid := t.nx, par := pid }], t.nx + 1, t.f⟩, t.nx, 0)
theorem PT.grow {w w1 : World} {tb mb mn a : Nat} {v v' : Value} {bs : List Nat} {l : List Pr} {nx nx' : Int} {f : Int → Int} {q : Pr} (h : PT w tb v bs l nx mb mn f) (hf : Fr (fun k => k = tb ∨ OwnB v k) w w1) (hb : Blk w1 tb 66 [v', .int .i64 nx', .map (some mb)]) (hr : PV w1 v' (bs ++ [a])) (hq : Blk w1 a 51 q.cells) (ha : w.heap.size ≤ a) :
    PT w1 tb v' (bs ++ [a]) (l ++ [q]) nx' mb mn f := by
  have hlt : ∀ i (hi : i < bs.length), bs[i] < w.heap.size := fun i hi => (h.prc i hi (by have := h.len; omega)).lt
  refine ⟨hb, hr, by rw [List.length_append, List.length_append, h.len]; rfl, fun k h1 h2 => ?_, ?_, h.map.fr hf (fun e => e.elim (fun e => h.map.not_blk h.blk e) (fun e => ?_))⟩
  · by_cases hk : k < bs.length
    · rw [List.getElem_append_left hk, List.getElem_append_left (by have := h.len; omega)]
      obtain ⟨a1, a2, a3⟩ := h.apart k hk
      exact (h.prc k hk (by have := h.len; omega)).fr hf (fun e => e.elim (fun e => a1 e.symm) a2)
    · have e1 : k = bs.length := by rw [List.length_append, List.length_singleton] at h1; omega
      subst e1
      rw [List.getElem_append_right (Nat.le_refl _), List.getElem_append_right (by rw [h.len]; exact Nat.le_refl _)]
      simpa [h.len] using hq
  · rw [List.nodup_append]
    refine ⟨h.nd, by simp, fun x hx y hy e => ?_⟩
    obtain ⟨i, hi, rfl⟩ := List.getElem_of_mem hx
    have := hlt i hi
    rw [List.mem_singleton] at hy
    omega
  · rcases h.row with ⟨rfl, rfl⟩ | ⟨g, c, rest, rfl, h1, _⟩
    · cases e
    · obtain rfl : g = mb := Option.some.inj e
      exact h.map.not_blk h1.blk rfl
def NumTo (w : World) (tb : Nat) (S : Nat → Prop) (n : Nat) (r : Tb × Int × Int) (e : Ending) (w' : World) : Prop := e = .returned (.tuple #[.int .i64 r.2.1, .int .i64 r.2.2]) ∧ TabTo w tb S r.1 n w'
set_option maxHeartbeats 2000000 in
theorem pFork_any (w : World) (tb n : Nat) (S : Nat → Prop) (t : Tb) (pid : Int) (h : Tab w tb S t n) (hl : t.l.length ≤ 200) (hn0 : 0 ≤ t.nx) (hn1 : t.nx ≤ 100000) :
    Calls Try.prog 8 #[.pointer (some ⟨tb, 0, none⟩), .int .i64 pid] w (NumTo w tb S n (forkT t pid)) := by
  have H0 := hid h
  rcases h.find (by omega) pid with ⟨hq, hF⟩ | ⟨i, a, p, hq, hix, hpp, hF, hB, hP⟩
  · have hr : forkT t pid = (t, 0, 5) := by unfold forkT; rw [hq]
    rw [hr]
    have HF := hid hF
    clear hr hq hF h
    go_enter Try.func8, Try.ntmps8
    go_wp2_with fail
    refine (HF.out _ (Fr.refl _ _)).mono ?_
    rintro e' w1 ⟨rfl, hf1⟩
    have HF1 := hid hf1
    clear hf1
    go_wp2
    go_ret2
    exact ⟨rfl, H0.out.still HF1.out⟩
  · have hr : forkT t pid = (⟨t.l ++ [{ p with pid := t.nx, par := pid }], t.nx + 1, t.f⟩, t.nx, 0) := by unfold forkT; rw [hq]
    rw [hr]
    have HF := hid hF
    have HB := hid hB
    obtain ⟨v, bs, mb, mn, hT, hS, hmn⟩ := h
    have HT := hid hT
    have HS := hid hS
    have hbl : bs.length ≤ 200 := by have := hT.len; omega
    obtain ⟨A, c, hv, hc⟩ := hT.row.shape
    have HV := hid hv
    subst hv
    have hbn : ((bs.length : Int) == 256) = false := by rw [beq_eq_false_iff_ne]; omega
    have hw1 : IntKind.i64.wrap (t.nx + 1) = t.nx + 1 := IntWalk.i64_in _ (by omega)
    clear hr hq hix hF hB hP hT hS hpp
    go_enter Try.func8, Try.ntmps8
    go_wp2_with fail
    refine (HF.out _ (Fr.refl _ _)).mono ?_
    rintro e' w1 ⟨rfl, hf1⟩
    have HT1 := hid (HT.out.frd hf1)
    have hB1 := HB.out _ hf1
    have c0 := hB1.cell 0 rfl
    have c1 := hB1.cell 1 rfl
    have c2 := hB1.cell 2 rfl
    have c3 := hB1.cell 3 rfl
    have c4 := hB1.cell 4 rfl
    have c5 := hB1.cell 5 rfl
    have d0 := HT1.out.blk.cell 0 rfl
    have d1 := HT1.out.blk.cell 1 rfl
    have d2 := HT1.out.blk.frozen 1
    have d3 := HT1.out.blk.frozen 0
    have dl := HT1.out.blk.lt
    have bl := hB1.lt
    have HF1 := hid hf1
    clear hB1 hf1
    have HF2 : Hid (Fr (At tb) w1 (w1.setCell ⟨tb, 1, none⟩ (.int .i64 (t.nx + 1)))) := hid ((Fr.refl (At tb) w1).setAt 1 _)
    have hf3 : Fr (At tb) w1 (((w1.setCell ⟨tb, 1, none⟩ (.int .i64 (t.nx + 1))).alloc (.cells #[.int .i64 t.nx, .int .i64 pid, .int .i64 p.grp, .int .i64 p.ses, .int .i64 p.tty, .bool p.deaf] 51)).alloc (.cells #[.pointer (some ⟨w1.heap.size, 0, none⟩)] 62)) := (HF2.out.alloc _).alloc _
    have hnew : Blk (((w1.setCell ⟨tb, 1, none⟩ (.int .i64 (t.nx + 1))).alloc (.cells #[.int .i64 t.nx, .int .i64 pid, .int .i64 p.grp, .int .i64 p.ses, .int .i64 p.tty, .bool p.deaf] 51)).alloc (.cells #[.pointer (some ⟨w1.heap.size, 0, none⟩)] 62)) w1.heap.size 51 ({ p with pid := t.nx, par := pid } : Pr).cells := by
      have := (Blk.new (w1.setCell ⟨tb, 1, none⟩ (.int .i64 (t.nx + 1))) 51 ({ p with pid := t.nx, par := pid } : Pr).cells).alloc (.cells #[.pointer (some ⟨w1.heap.size, 0, none⟩)] 62)
      rwa [sz_setCell] at this
    have hnow : ¬ OwnB (.slice A bs.length c) tb := HT1.out.row.not_blk HT1.out.blk (by decide)
    have hrow : Row ptc 1 62 _ 0 (.slice A bs.length c) bs := (HT1.out.row.fr hf3 (fun k hk e => hnow (by have e' : k = tb := e; rw [← e']; exact hk))).row
    have hsrc : ∀ j u, ([w1.heap.size].flatMap ptc)[j]? = some u → (((w1.setCell ⟨tb, 1, none⟩ (.int .i64 (t.nx + 1))).alloc (.cells #[.int .i64 t.nx, .int .i64 pid, .int .i64 p.grp, .int .i64 p.ses, .int .i64 p.tty, .bool p.deaf] 51)).alloc (.cells #[.pointer (some ⟨w1.heap.size, 0, none⟩)] 62)).cell? ((⟨w1.heap.size + 1, 0, none⟩ : Addr).add j) = some u := by
      have h5 := Blk.new ((w1.setCell ⟨tb, 1, none⟩ (.int .i64 (t.nx + 1))).alloc (.cells #[.int .i64 t.nx, .int .i64 pid, .int .i64 p.grp, .int .i64 p.ses, .int .i64 p.tty, .bool p.deaf] 51)) 62 [.pointer (some ⟨w1.heap.size, 0, none⟩)]
      rw [World.size_alloc, sz_setCell] at h5
      exact Blk.cells h5 0 _ (fun j v hj => by rw [Nat.zero_add]; exact hj)
    have HTm : Hid (PT w1 tb (.slice A bs.length c) bs t.l t.nx mb mn t.f) := HT1
    have HF3 := hid hf3
    have HN := hid hnew
    have HR := hid hrow
    have HSr := hid hsrc
    have HM : Hid ([w1.heap.size].length = 1) := hid rfl
    have hl8 := le8 (bs.length + 1) (by omega)
    have HL8 := hid hl8
    clear hf3 hnew hrow hsrc hl8 HF2 hnow
    have HOW : Hid (¬ OwnB (.slice A bs.length c) tb) := hid (HT1.out.row.not_blk HT1.out.blk (by decide))
    have HOW2 : Hid (¬ OwnB (.slice A bs.length c) w1.heap.size) := hid (fun hk => Nat.lt_irrefl _ (HT1.out.row.lt _ hk))
    have HTB : Hid (Blk (((w1.setCell ⟨tb, 1, none⟩ (.int .i64 (t.nx + 1))).alloc (.cells #[.int .i64 t.nx, .int .i64 pid, .int .i64 p.grp, .int .i64 p.ses, .int .i64 p.tty, .bool p.deaf] 51)).alloc (.cells #[.pointer (some ⟨w1.heap.size, 0, none⟩)] 62)) tb 66 [.slice A bs.length c, .int .i64 (t.nx + 1), .map (some mb)]) := hid (((HT1.out.blk.set 1 (.int .i64 (t.nx + 1))).alloc _).alloc _)
    go_wp2_with (at_builtin; go_must (refine row_apps (f := ptc) ptc_len ptc_one 0 rfl (.tmp 42) (.tmp 43) 63 62 (.pointer none) 8 rfl Try.underlying63 infoPt rfl (by omega) (by omega) _ bs [w1.heap.size] ⟨w1.heap.size + 1, 0, none⟩ 1 1 rfl rfl HM HSr.out HR.out (Nat.zero_le _) HL8.out ?_); intro v5 w5 hR5 hf5 hat5; obtain ⟨A5, c55, rfl, _⟩ := Row.shape hR5; rw [List.length_append, List.length_singleton] at hR5 hat5 ⊢; have HR5 := hid hR5; have HAT := hid hat5; have HF5 := hid hf5; have hb5 := HTB.out.fr hf5 HOW.out; have e0 := hb5.cell 0 rfl; have e3 := hb5.frozen 0; have el := hb5.lt; have HB5 := hid hb5; have hn5 := HN.out.fr hf5 HOW2.out; have e4 := hn5.cell 0 rfl; have HN5 := hid hn5; clear hR5 hf5 hat5 hb5 hn5)
    have hne : tb ≠ w1.heap.size := by have := HT1.out.blk.lt; omega
    have hpv : PV w5 (.slice A5 (bs.length + 1) c55) (bs ++ [w1.heap.size]) := (PV.of_row (by have h := HR5.out; exact h)).elim id (fun h => absurd h (by simp))
    have hnot : ¬ OwnB (.slice A5 (bs.length + 1) c55) tb := hpv.not_blk HB5.out (by decide)
    have hff : Fr (At tb) w5 (w5.setCell ⟨tb, 0, none⟩ (.slice A5 (bs.length + 1) c55)) := (Fr.refl (At tb) w5).setAt 0 _
    have hfa : Fr (fun k => k = tb ∨ OwnB (.slice A bs.length c) k) w1 (w5.setCell ⟨tb, 0, none⟩ (.slice A5 (bs.length + 1) c55)) := ((HF3.out.mono (S2 := fun k => k = tb ∨ OwnB (.slice A bs.length c) k) (fun k hk => .inl hk)).then_ HF5.out (fun k hk => .inl (.inr hk))).then_ hff (fun k hk => .inl (.inl hk))
    have hG := HTm.out.grow (q := { p with pid := t.nx, par := pid }) hfa (HB5.out.set 0 (.slice A5 (bs.length + 1) c55)) (hpv.fr hff (fun k hk e => hnot (by have e' : k = tb := e; rw [← e']; exact hk))) (HN5.out.fr hff (fun e => hne e.symm)) (Nat.le_refl _)
    have hTo : TabTo w tb S ⟨t.l ++ [{ p with pid := t.nx, par := pid }], t.nx + 1, t.f⟩ n (w5.setCell ⟨tb, 0, none⟩ (.slice A5 (bs.length + 1) c55)) := by
      refine (TabTo.of hG (by assumption) (hfa.mono (fun k hk => HS.out k (hk.elim .inl (fun h => .inr (.inl h))))) (fun k hk => ?_)).from HF1.out
      rcases hk with h | h | h | h
      · exact .inl (HS.out k (.inl h))
      · rcases HAT.out with h6 | h6
        · exact .inl (HS.out k (.inr (.inl (h6.symm.trans h))))
        · have e7 := Option.some.inj (h6.symm.trans h)
          refine .inr ?_
          have h8 := HF3.out.size
          omega
      · rw [List.mem_append, List.mem_singleton] at h
        exact h.elim (fun h => .inl (HS.out k (.inr (.inr (.inl h))))) (fun h => .inr (by omega))
      · exact .inl (HS.out k (.inr (.inr (.inr h))))
    have HTo := hid hTo
    clear hTo hG hfa hff hnot hpv
    go_wp2
    go_ret2
    exact ⟨rfl, HTo.out⟩
end Go.Proofs.Ytlagakcpjmjdfaa
