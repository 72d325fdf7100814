import Derived.Test.YtlagakcpjmjdfaaM1
import Derived.Test.YtlagakcpjmjdfaaK7
import Derived.LoopTactic
import Derived.Deep.LoopGhost
import Derived.Deep.DeepMust
import Derived.Deep.QuietTactic
import Derived.BigQuiet
import Derived.StillTailTactics
import Derived.IntWalk
set_option linter.unusedSimpArgs false
set_option linter.unusedVariables false
set_option maxRecDepth 20000
namespace Go.Proofs.Ytlagakcpjmjdfaa
open Go.RowKit Go.Proofs.YtlagakcpjmjdfaaW.PrintWords
/-- A process. -/
structure Pr where
  pid : Int
  par : Int
  grp : Int
  ses : Int
  tty : Int
  deaf : Bool
deriving DecidableEq
def Pr.cells (p : Pr) : List Value := [.int .i64 p.pid, .int .i64 p.par, .int .i64 p.grp, .int .i64 p.ses, .int .i64 p.tty, .bool p.deaf]
def ptc (a : Nat) : List Value := [.pointer (some ⟨a, 0, none⟩)]
theorem ptc_len (a : Nat) : (ptc a).length = 1 := rfl
theorem ptc_one (a : Nat) : ∀ u ∈ ptc a, u.oneCell' = true := by
  intro u hu
  simp only [ptc, List.mem_cons, List.not_mem_nil, or_false] at hu
  subst hu
  rfl
theorem infoPt : (Try.prog.info? 62).map (fun i => (i.zero, i.size, i.bytes)) = some (some (.pointer none), 1, 8) := by kernel_rfl
theorem zeroPt (w : World) : (zeroValue 62).run Try.prog w = .ok (.pointer none) w := by kernel_rfl
/-- Pointers in a slice: nil, or a block of its own. -/
def PV (w : World) (v : Value) (bs : List Nat) : Prop :=
  (v = .slice none 0 0 ∧ bs = []) ∨ ∃ g c rest, v = .slice (some ⟨g, 0, none⟩) bs.length c ∧ Vec ptc 1 w g 62 bs rest c ∧ bs.length ≤ c ∧ c ≤ maxLen
theorem PV.fr {S : Nat → Prop} {w w1 : World} {v : Value} {bs : List Nat} (h : PV w v bs) (hf : Fr S w w1) (hs : ∀ k, OwnB v k → ¬ S k) : PV w1 v bs := by
  rcases h with h | ⟨g, c, rest, rfl, h1, h2, h3⟩
  · exact .inl h
  · exact .inr ⟨g, c, rest, rfl, Vec.fr h1 hf (hs g rfl), h2, h3⟩
theorem PV.cell {w : World} {g c : Nat} {rest : List Value} {bs : List Nat} (h : Vec ptc 1 w g 62 bs rest c) (k : Nat) (hk : k < bs.length) : w.cell? ⟨g, k, none⟩ = some (.pointer (some ⟨bs[k], 0, none⟩)) := by
  have := Vec.cell h ptc_len k hk 0 (by omega) rfl
  rwa [Nat.mul_one, Nat.add_zero] at this
theorem PV.shape {w : World} {v : Value} {bs : List Nat} (h : PV w v bs) : ∃ A c, v = .slice A bs.length c ∧ bs.length ≤ c := by
  rcases h with ⟨rfl, rfl⟩ | ⟨g, c, rest, rfl, _, h2, _⟩
  · exact ⟨none, 0, rfl, Nat.le_refl _⟩
  · exact ⟨_, _, rfl, h2⟩
theorem PV.not_blk {w : World} {v : Value} {bs : List Nat} {b : Nat} {T : TypeId} {l : List Value} (h : PV w v bs) (hb : Blk w b T l) (he : 62 ≠ T) : ¬ OwnB v b := by
  rcases h with ⟨rfl, rfl⟩ | ⟨g, c, rest, rfl, h1, h2, h3⟩
  · intro hk; cases hk
  · intro hk
    obtain rfl : g = b := Option.some.inj hk
    have h4 := h1.blk
    unfold Blk at h4 hb
    rw [hb] at h4
    injection h4 with h4
    injection h4 with _ h4
    exact he h4.symm
theorem PV.lt {w : World} {v : Value} {bs : List Nat} (h : PV w v bs) (k : Nat) (hk : OwnB v k) : k < w.heap.size := by
  rcases h with ⟨rfl, rfl⟩ | ⟨g, c, rest, rfl, h1, h2, h3⟩
  · cases hk
  · obtain rfl : g = k := Option.some.inj hk
    exact h1.blk.lt
theorem PV.row {w : World} {v : Value} {bs : List Nat} (h : PV w v bs) : Row ptc 1 62 w 0 v bs := by
  rcases h with ⟨rfl, rfl⟩ | ⟨g, c, rest, rfl, h1, h2, h3⟩
  · exact Row.nil _ _ _ _ _
  · exact Vec.row h1 ptc_len (Nat.zero_le _) h2 h3
theorem PV.of_row {w : World} {base : Nat} {v : Value} {bs : List Nat} (h : Row ptc 1 62 w base v bs) : PV w v bs ∨ bs = [] := by
  by_cases h0 : 0 < bs.length
  · obtain ⟨g, c, rest, rfl, h1, _, h2, h3⟩ := Vec.of_row h h0
    exact .inl (.inr ⟨g, c, rest, rfl, h1, h2, h3⟩)
  · exact .inr (by cases bs; rfl; simp at h0)
def ixP (q : Pr → Bool) (l : List Pr) : Int := if l.any q then (l.findIdx q : Int) else -1
theorem ixP_hit {q : Pr → Bool} {l : List Pr} {k : Nat} (hk : k < l.length) (h0 : (l.take k).any q = false) (h : q l[k] = true) : ixP q l = k := by
  have h1 : l.any q = true := List.any_eq_true.2 ⟨_, List.getElem_mem hk, h⟩
  have h2 : l.findIdx q = k := by
    rw [List.findIdx_eq hk]
    refine ⟨h, fun j hj => ?_⟩
    have h3 := List.any_eq_false.1 h0 l[j] (by
      rw [List.mem_take_iff_getElem]
      exact ⟨j, by omega, rfl⟩)
    simpa using h3
  unfold ixP
  rw [if_pos h1, h2]
theorem ixP_none {q : Pr → Bool} {l : List Pr} (h0 : l.any q = false) : ixP q l = -1 := by
  unfold ixP
  rw [h0]
  rfl
/-- What a function value answers of processes that lie at blocks. -/
def PredP (fn : Nat) (lb : Array Value) (q : Pr → Bool) (bs : List Nat) (l : List Pr) (w : World) : Prop :=
  (∀ args w, (callFunc fn args).run Try.prog w = .ok (.enter fn args) w) ∧ ∀ (W : World), Fr NoB w W → ∀ k (h1 : k < bs.length) (h2 : k < l.length), Calls Try.prog fn (#[.pointer (some ⟨bs[k], 0, none⟩)] ++ lb) W fun e w' => e = .returned (.bool (q l[k])) ∧ Fr NoB W w'
set_option maxHeartbeats 2000000 in
theorem pix_any (w : World) (v : Value) (fn : Nat) (lb : Array Value) (q : Pr → Bool) (bs : List Nat) (l : List Pr) (hV : PV w v bs) (hbl : bs.length = l.length) (hP : PredP fn lb q bs l w) (hl : l.length ≤ 4096) :
    Calls Try.prog 49 #[v, .func (.func fn) #[] lb] w fun e' w' => e' = .returned (.int .i64 (ixP q l)) ∧ Fr NoB w w' := by
  obtain ⟨eg, hP⟩ := hP
  rcases hV with ⟨rfl, rfl⟩ | ⟨g, c, rest, rfl, hV, hxc, hcm⟩
  · have hl0 : l = [] := by cases l; rfl; simp at hbl
    have HR : Hid (ixP q l = -1) := hid (by rw [hl0]; rfl)
    clear hl0 hbl hP
    go_enter Try.func49, Try.ntmps49
    go_wp2
    go_loopw [8] (fun v8 wr => v8 = .int .i64 0 ∧ Hid (Fr NoB w wr)) (fun v8 _ => 0)
    case atStart => exact ⟨rfl, Fr.refl _ _⟩
    case round =>
      obtain ⟨rfl, HF⟩ := hrel
      go_wp2
      go_ret
      exact ⟨by rw [HR.out]; rfl, HF.out⟩
  · have HB := hid hbl
    have hbb : bs.length ≤ 4096 := by omega
    have HV := hid hV
    have HP := hid hP
    clear hbl hV hP
    go_enter Try.func49, Try.ntmps49
    go_wp2
    go_loopw [8] (fun v8 wr => ∃ k : Nat, k ≤ bs.length ∧ v8 = .int .i64 k ∧ Hid ((l.take k).any q = false) ∧ Hid (Fr NoB w wr)) (fun v8 _ => bs.length - (intOf v8).toNat)
    case atStart => exact ⟨0, Nat.zero_le _, rfl, rfl, Fr.refl _ _⟩
    case round =>
      obtain ⟨k, hk, rfl, HP0, HF⟩ := hrel
      by_cases hkm : k < bs.length
      · have hkl : k < l.length := by have := HB.out; omega
        have c0 := PV.cell (Vec.fr HV.out HF.out (fun h => h)) k hkm
        have hhit := ixP_hit (q := q) hkl HP0.out
        have hmiss : (l.take (k + 1)).any q = q l[k] := by rw [List.take_succ_eq_append_getElem hkl, List.any_append, HP0.out]; simp
        have hcall := HP.out wr HF.out k hkm hkl
        have HH := hid hhit
        have HM := hid hmiss
        have HC := hid hcall
        clear hhit hmiss hcall
        generalize l[k] = x at *
        generalize bs[k] = a at *
        go_wp2_with fail
        refine (HC.out).mono ?_
        rintro e' w1 ⟨rfl, hf1⟩
        have HF1 := hid (HF.out.trans hf1)
        clear hf1
        cases hx : q x
        · have HX := hid hx
          clear hx
          go_wp2
          go_roundw
          case rel => exact ⟨k + 1, by omega, by go_num, HM.out.trans HX.out, HF1.out⟩
          case measure => simp [intOf]; omega
        · have HX := hid hx
          clear hx
          go_wp2
          go_ret
          exact ⟨by rw [HH.out HX.out]; rfl, HF1.out⟩
      · have hp0 := HP0.out
        rw [List.take_of_length_le (by have := HB.out; omega)] at hp0
        have HPN := hid (ixP_none hp0)
        clear hp0
        go_wp2
        go_ret
        exact ⟨by rw [HPN.out]; rfl, HF.out⟩
theorem ixP_nonneg (q : Pr → Bool) (l : List Pr) : decide (0 ≤ ixP q l) = l.any q := by
  unfold ixP
  cases h : l.any q <;> simp <;> omega
theorem pcf_any (w : World) (v : Value) (fn : Nat) (lb : Array Value) (q : Pr → Bool) (bs : List Nat) (l : List Pr) (hV : PV w v bs) (hbl : bs.length = l.length) (hP : PredP fn lb q bs l w) (hl : l.length ≤ 4096) :
    Calls Try.prog 60 #[v, .func (.func fn) #[] lb] w fun e' w' => e' = .returned (.bool (l.any q)) ∧ Fr NoB w w' := by
  have HI := hid (ixP_nonneg q l)
  have HX := hid (pix_any w v fn lb q bs l hV hbl hP hl)
  clear hV hP hbl
  go_enter Try.func60, Try.ntmps60
  go_wp2_with (go_at_call 49; refine HX.out.mono ?_; rintro e' w1 ⟨rfl, hf1⟩)
  go_ret
  exact ⟨by rw [← HI.out]; rfl, hf1⟩
/-- A table of processes: block tb; the pointers' slice v to blocks bs; the processes l; the next number; the map of terminals at mb. -/
structure PT (w : World) (tb : Nat) (v : Value) (bs : List Nat) (l : List Pr) (nx : Int) (mb mn : Nat) (f : Int → Int) : Prop where
  blk : Blk w tb 66 [v, .int .i64 nx, .map (some mb)]
  row : PV w v bs
  len : bs.length = l.length
  prc : ∀ k (h1 : k < bs.length) (h2 : k < l.length), Blk w bs[k] 51 l[k].cells
  nd : bs.Nodup
  map : MapI w mb mn f
theorem PT.fr {S : Nat → Prop} {w w1 : World} {tb mb mn : Nat} {v : Value} {bs : List Nat} {l : List Pr} {nx : Int} {f : Int → Int} (h : PT w tb v bs l nx mb mn f) (hf : Fr S w w1) (h1 : ¬ S tb) (h2 : ∀ k, OwnB v k → ¬ S k) (h3 : ∀ b ∈ bs, ¬ S b) (h4 : ¬ S mb) : PT w1 tb v bs l nx mb mn f :=
  ⟨h.blk.fr hf h1, h.row.fr hf h2, h.len, fun k a b => (h.prc k a b).fr hf (h3 _ (List.getElem_mem a)), h.nd, h.map.fr hf h4⟩
theorem PT.frd {w w1 : World} {tb mb mn : Nat} {v : Value} {bs : List Nat} {l : List Pr} {nx : Int} {f : Int → Int} (h : PT w tb v bs l nx mb mn f) (hf : Fr NoB w w1) : PT w1 tb v bs l nx mb mn f :=
  h.fr hf (fun h => h) (fun _ _ h => h) (fun _ _ h => h) (fun h => h)
def isPid (pid : Int) (p : Pr) : Bool := p.pid == pid
theorem pFind1_any (w : World) (a b : Nat) (p : Pr) (pid : Int) (h : Blk w a 51 p.cells) (hb : w.cell? ⟨b, 0, none⟩ = some (.int .i64 pid)) :
    Calls Try.prog 50 #[.pointer (some ⟨a, 0, none⟩), .pointer (some ⟨b, 0, none⟩)] w fun e w' => e = .returned (.bool (isPid pid p)) ∧ Fr NoB w w' := by
  have c0 := h.cell 0 rfl
  clear h
  go_enter Try.func50, Try.ntmps50
  go_wp2
  go_quiet (fail)
  go_wp2
  go_ret
  exact ⟨rfl, (Fr.refl _ w).drewN _⟩
/-- The process with a number: its block. -/
def PtrTo (bs : List Nat) (q : Pr → Bool) (l : List Pr) : Value := if l.any q then .pointer (some ⟨bs.getD (l.findIdx q) 0, 0, none⟩) else .pointer none
theorem pFind_any (w : World) (tb mb mn : Nat) (v : Value) (bs : List Nat) (l : List Pr) (nx : Int) (f : Int → Int) (pid : Int) (h : PT w tb v bs l nx mb mn f) (hl : l.length ≤ 4096) :
    Calls Try.prog 28 #[.pointer (some ⟨tb, 0, none⟩), .int .i64 pid] w fun e w' => e = .returned (PtrTo bs (isPid pid) l) ∧ Fr NoB w w' := by
  have hf0 : Fr NoB w (w.alloc (.cells #[.int .i64 pid] 3)) := (Fr.refl _ _).alloc _
  have hbx := Blk.new w 3 [.int .i64 pid]
  have h1 := h.frd hf0
  have hix := pix_any _ v 50 #[.pointer (some ⟨w.heap.size, 0, none⟩)] (isPid pid) bs l h1.row h1.len ⟨fun args w => by kernel_rfl, fun W hW k a b => pFind1_any W bs[k] w.heap.size l[k] pid ((h1.prc k a b).fr hW (fun h => h)) ((hbx.fr hW (fun h => h)).cell 0 rfl)⟩ hl
  have c0 := h1.blk.cell 0 rfl
  have HIX := hid hix
  have HF0 := hid hf0
  have HT := hid h1
  have hlen := h.len
  have HL := hid hlen
  obtain ⟨A, c, hv, hc⟩ := h1.row.shape
  subst hv
  clear h h1 hix hf0 hbx hlen
  cases hq : l.any (isPid pid)
  · have HR : Hid (ixP (isPid pid) l = -1) := hid (ixP_none hq)
    have HP : Hid (PtrTo bs (isPid pid) l = .pointer none) := hid (by unfold PtrTo; rw [hq]; rfl)
    clear hq
    rw [HP.out]
    rw [HR.out] at HIX
    go_enter Try.func28, Try.ntmps28
    go_wp2_with fail
    refine HIX.out.mono ?_
    rintro e' w1 ⟨rfl, hf1⟩
    have HF1 := hid (HF0.out.trans hf1)
    clear hf1
    go_wp2
    go_ret
    exact ⟨rfl, HF1.out⟩
  · have hi : l.findIdx (isPid pid) < l.length := List.findIdx_lt_length_of_exists (by simpa using hq)
    have HR : Hid (ixP (isPid pid) l = (l.findIdx (isPid pid) : Nat)) := hid (by unfold ixP; rw [if_pos hq])
    have HP : Hid (PtrTo bs (isPid pid) l = .pointer (some ⟨bs.getD (l.findIdx (isPid pid)) 0, 0, none⟩)) := hid (by unfold PtrTo; rw [if_pos hq])
    clear hq
    rw [HP.out]
    rw [HR.out] at HIX
    generalize l.findIdx (isPid pid) = i at *
    have hib : i < bs.length := by have := HL.out; omega
    have hg : Hid (bs.getD i 0 = bs[i]) := hid (by rw [List.getD_eq_getElem?_getD, List.getElem?_eq_getElem hib]; rfl)
    rcases HT.out.row with ⟨h0, h00⟩ | ⟨g, cc, rest, h0, hV, h2, h3⟩
    · rw [h00] at hib; simp at hib
    · obtain rfl : A = some ⟨g, 0, none⟩ := by injection h0
      have HV := hid hV
      clear h0 hV
      go_enter Try.func28, Try.ntmps28
      go_wp2_with fail
      refine HIX.out.mono ?_
      rintro e' w1 ⟨rfl, hf1⟩
      have c1 := (HT.out.blk.fr hf1 (fun h => h)).cell 0 rfl
      have c2 := PV.cell (Vec.fr HV.out hf1 (fun h => h)) i hib
      have HF1 := hid (HF0.out.trans hf1)
      clear hf1
      go_wp2
      go_ret
      exact ⟨by rw [hg.out]; rfl, HF1.out⟩
end Go.Proofs.Ytlagakcpjmjdfaa
