import Derived.Test.YtlagakcpjmjdfaaA5
set_option linter.unusedSimpArgs false
set_option linter.unusedVariables false
set_option maxRecDepth 20000
namespace Go.Proofs.Ytlagakcpjmjdfaa
open Go.RowKit Go.Proofs.YtlagakcpjmjdfaaW.PrintWords
/-! each: what is done with each process of a session: its terminal is set. -/
def giveL (s tty : Int) (l : List Pr) : List Pr := l.map fun p => if p.ses = s then { p with tty := tty } else p
theorem giveL_len (s tty : Int) (l : List Pr) : (giveL s tty l).length = l.length := by simp [giveL]
/-- A function value that sets a process's terminal. -/
def SetsTty (fn : Nat) (lb : Array Value) (tty : Int) (w : World) (bad : Nat → Prop) : Prop :=
  (∀ args w, (callFunc fn args).run Try.prog w = .ok (.enter fn args) w) ∧ ∀ (W : World) (a : Nat) (p : Pr), Fr bad w W → Blk W a 51 p.cells → Calls Try.prog fn (#[.pointer (some ⟨a, 0, none⟩)] ++ lb) W fun e w' => e = .returned (.tuple #[]) ∧ w' = W.setCell ⟨a, 4, none⟩ (.int .i64 tty)
set_option maxHeartbeats 2000000 in
theorem pEach_any (w : World) (tb mb mn : Nat) (v : Value) (bs : List Nat) (l : List Pr) (nx : Int) (f : Int → Int) (s tty : Int) (fn : Nat) (lb : Array Value) (h : PT w tb v bs l nx mb mn f) (hl : l.length ≤ 4096) (hP : SetsTty fn lb tty w (fun k => k ∈ bs)) :
    Calls Try.prog 31 #[.pointer (some ⟨tb, 0, none⟩), .int .i64 s, .func (.func fn) #[] lb] w fun e w' => e = .returned (.tuple #[]) ∧ PT w' tb v bs (giveL s tty l) nx mb mn f ∧ Fr (fun k => k ∈ bs) w w' := by
  obtain ⟨eg, hP⟩ := hP
  have HP := hid hP
  have c0 := h.blk.cell 0 rfl
  have HT := hid h
  obtain ⟨A, c, hv, hc⟩ := h.row.shape
  subst hv
  have HL := hid h.len
  have hbl : bs.length ≤ 4096 := by have := h.len; omega
  clear h hP
  go_enter Try.func31, Try.ntmps31
  go_wp2
  go_loopw [13] (fun v13 wr => ∃ k : Nat, k ≤ bs.length ∧ v13 = .int .i64 k ∧ Hid (PT wr tb (.slice A bs.length c) bs (giveL s tty (l.take k) ++ l.drop k) nx mb mn f ∧ Fr (fun k => k ∈ bs) w wr)) (fun v13 _ => bs.length - (intOf v13).toNat)
  case atStart => exact ⟨0, Nat.zero_le _, rfl, by simpa [giveL] using HT.out, Fr.refl _ _⟩
  case round =>
    obtain ⟨k, hk, rfl, HR⟩ := hrel
    by_cases hkm : k < bs.length
    · have hkl : k < l.length := by have := HL.out; omega
      obtain ⟨hT, hf⟩ := HR.out
      rcases hT.row with ⟨h0, h00⟩ | ⟨g, cc, rest, h0, hV, h2, h3⟩
      · rw [h00] at hkm; simp at hkm
      · obtain rfl : A = some ⟨g, 0, none⟩ := by injection h0
        clear h0
        have d0 := PV.cell hV k hkm
        have hlen : (giveL s tty (l.take k)).length = k := by rw [giveL_len, List.length_take]; omega
        have hk2 : k < (giveL s tty (l.take k) ++ l.drop k).length := by rw [List.length_append, hlen, List.length_drop]; omega
        have hget : (giveL s tty (l.take k) ++ l.drop k)[k] = l[k] := by
          rw [List.getElem_append_right (by omega)]
          simp [hlen]
        have hB := hT.prc k hkm hk2
        rw [hget] at hB
        have hset : ∀ q : Pr, (giveL s tty (l.take k) ++ l.drop k).set k q = giveL s tty (l.take k) ++ q :: l.drop (k + 1) := fun q => by
          rw [List.set_append_right _ _ (by omega), hlen, Nat.sub_self]
          rw [List.drop_eq_getElem_cons hkl]
          rfl
        have hsucc : ∀ q : Pr, q = (if l[k].ses = s then { l[k] with tty := tty } else l[k]) → giveL s tty (l.take (k + 1)) ++ l.drop (k + 1) = giveL s tty (l.take k) ++ q :: l.drop (k + 1) := fun q hq => by
          rw [List.take_succ_eq_append_getElem hkl]
          unfold giveL
          rw [List.map_append, hq]
          simp
        have hnoset : giveL s tty (l.take k) ++ l.drop k = giveL s tty (l.take k) ++ l[k] :: l.drop (k + 1) := by rw [List.drop_eq_getElem_cons hkl]
        have HSet := hid hset
        have HSucc := hid hsucc
        have HNo := hid hnoset
        have HT1 := hid hT
        have HF1 := hid hf
        have HPut := hid fun (q : Pr) w2 => hT.put (w1 := w2) k hkm q
        have hmem : bs[k] ∈ bs := List.getElem_mem hkm
        have HB := hid hB
        have q3 := hB.cell 3 rfl
        have q4 := hB.cell 4 rfl
        clear hT hf hlen hk2 hget hB hset hsucc hnoset hV
        generalize l[k] = q at *
        generalize bs[k] = a at *
        have HMem := hid hmem
        clear hmem
        by_cases hs : q.ses = s
        · have hs2 : (q.ses == s) = true := by simpa using hs
          have HSuc := hid (HSucc.out { q with tty := tty } (by rw [if_pos hs]))
          clear hs
          go_wp2_with fail
          refine (HP.out wr a q HF1.out HB.out).mono ?_
          rintro e' w2 ⟨rfl, rfl⟩
          have hfr : Fr (At a) wr (wr.setCell ⟨a, 4, none⟩ (.int .i64 tty)) := (Fr.refl (At a) wr).setAt 4 _
          have hp2 := HPut.out { q with tty := tty } _ hfr (HB.out.set 4 (.int .i64 tty))
          rw [HSet.out, ← HSuc.out] at hp2
          have HP2 := hid hp2
          have HF2 := hid (HF1.out.trans (hfr.mono (fun j e => by have e' : j = a := e; rw [e']; exact HMem.out)))
          clear hp2 hfr
          go_wp2
          go_roundw
          case rel => exact ⟨k + 1, by omega, by go_num, HP2.out, HF2.out⟩
          case measure => simp [intOf]; omega
        · have hs2 : (q.ses == s) = false := by simpa using hs
          have HSuc := hid (HSucc.out q (by rw [if_neg hs]))
          clear hs
          have hp2 := HT1.out
          rw [HNo.out, ← HSuc.out] at hp2
          have HP2 := hid hp2
          clear hp2
          go_wp2
          go_roundw
          case rel => exact ⟨k + 1, by omega, by go_num, HP2.out, HF1.out⟩
          case measure => simp [intOf]; omega
    · obtain ⟨hT, hf⟩ := HR.out
      have hkl : l.length ≤ k := by have := HL.out; omega
      rw [List.take_of_length_le hkl, List.drop_of_length_le hkl, List.append_nil] at hT
      have HT1 := hid hT
      have HF1 := hid hf
      clear hT hf
      go_wp2
      refine bodyPost_end (v := .tuple #[]) (results_none rfl _ _ _) rfl ?_
      exact ⟨rfl, HT1.out, HF1.out⟩
theorem pAtt1_any (W : World) (a b : Nat) (p : Pr) (tty : Int) (h : Blk W a 51 p.cells) (hb : W.cell? ⟨b, 0, none⟩ = some (.int .i64 tty)) :
    Calls Try.prog 32 #[.pointer (some ⟨a, 0, none⟩), .pointer (some ⟨b, 0, none⟩)] W fun e w' => e = .returned (.tuple #[]) ∧ w' = W.setCell ⟨a, 4, none⟩ (.int .i64 tty) := by
  have c4 := h.cell 4 rfl
  have f4 := h.frozen 4
  have l4 := h.lt
  clear h
  go_enter Try.func32, Try.ntmps32
  go_wp2
  go_end0
  exact ⟨rfl, rfl⟩
theorem pLose1_any (W : World) (a : Nat) (p : Pr) (h : Blk W a 51 p.cells) :
    Calls Try.prog 55 #[.pointer (some ⟨a, 0, none⟩)] W fun e w' => e = .returned (.tuple #[]) ∧ w' = W.setCell ⟨a, 4, none⟩ (.int .i64 0) := by
  have c4 := h.cell 4 rfl
  have f4 := h.frozen 4
  have l4 := h.lt
  clear h
  go_enter Try.func55, Try.ntmps55
  go_wp2
  go_end0
  exact ⟨rfl, rfl⟩
theorem PT.mapFr {w w1 : World} {tb mb mn : Nat} {v : Value} {bs : List Nat} {l : List Pr} {nx : Int} {f : Int → Int} (h : PT w tb v bs l nx mb mn f) (hf : Fr (At mb) w w1) {mn' : Nat} {f' : Int → Int} (hm : MapI w1 mb mn' f') : PT w1 tb v bs l nx mb mn' f' := by
  have hne : ∀ g c rest, v = .slice (some ⟨g, 0, none⟩) bs.length c → Vec ptc 1 w g 62 bs rest c → g ≠ mb := fun g c rest _ hV e => h.map.not_blk hV.blk e.symm
  refine ⟨h.blk.fr hf (fun e => h.map.not_blk h.blk e.symm), h.row.fr hf (fun k hk e => ?_), h.len, fun k a b => (h.prc k a b).fr hf (fun e => h.map.not_blk (h.prc k a b) e.symm), h.nd, hm⟩
  rcases h.row with ⟨rfl, _⟩ | ⟨g, c, rest, rfl, hV, _⟩
  · cases hk
  · obtain rfl : g = k := Option.some.inj hk
    exact hne g c rest rfl hV e
set_option maxHeartbeats 2000000 in
/-- lose: a session has no terminal any more. -/
theorem pLose_any (w : World) (tb mb mn : Nat) (v : Value) (bs : List Nat) (l : List Pr) (nx : Int) (f : Int → Int) (s tty : Int) (h : PT w tb v bs l nx mb mn f) (hl : l.length ≤ 4096) (ht : J64 tty) :
    Calls Try.prog 36 #[.pointer (some ⟨tb, 0, none⟩), .int .i64 s, .int .i64 tty] w fun e w' => e = .returned (.tuple #[]) ∧ PT w' tb v bs (giveL s 0 l) nx mb mn (fun j => if j = tty then 0 else f j) ∧ Fr (fun k => k ∈ bs ∨ k = mb) w w' := by
  have HE := hid (pEach_any w tb mb mn v bs l nx f s 0 55 #[] h hl ⟨fun args w => by kernel_rfl, fun W a p _ hB => pLose1_any W a p hB⟩)
  have HJ := hid ht
  clear h ht
  go_enter Try.func36, Try.ntmps36
  go_wp2_with fail
  refine HE.out.mono ?_
  rintro e' w1 ⟨rfl, hT, hf⟩
  have HT := hid hT
  have HF := hid hf
  have c2 := hT.blk.cell 2 rfl
  clear hT hf
  go_wp2_with (refine MapI.del HT.out.map rfl (.tmp 12) (.tmp 13) rfl tty HJ.out rfl rfl ?_; intro w2 hm2 hf2; have HM2 := hid hm2; have HF2 := hid hf2; clear hm2 hf2)
  go_end0
  exact ⟨rfl, HT.out.mapFr HF2.out HM2.out, (HF.out.mono (fun k hk => .inl hk)).then_ HF2.out (fun k hk => .inl (.inr hk))⟩
end Go.Proofs.Ytlagakcpjmjdfaa
