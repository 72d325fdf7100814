import Derived.Test.YtlpjehmanodhpaaN18
set_option linter.unusedSimpArgs false
set_option linter.unusedVariables false
namespace Go.Proofs.Ytlpjehmanodhpaa
open Go.RowKit Go.Proofs.YtlpjehmanodhpaaW.PrintWords
/-- The reference's parser, as it lies in memory. -/
structure RL where
  p : List Int
  wA : Option Addr
  wc : Nat
  st : Int
  by_ : Int
  q : SqV
  bad : Bool
  tv : Value
def RL.cells (x : RL) : List Value := [.int .i64 x.st, .int .i64 x.by_, .slice x.wA x.p.length x.wc, .int .i64 x.q.kind, .int .i32 x.q.r, .int .u8 x.q.priv, .string x.q.inter, .slice x.q.pA x.q.pn x.q.pc, .int .u8 x.q.final, .string x.q.text, .bool x.bad, x.tv]
structure RP (w : World) (b base : Nat) (x : RL) (ts : List SqV) : Prop where
  blk : Blk w b 36 x.cells
  row : Row SqV.cells 7 30 w base x.tv ts
/-- A function's end: the parser is x', and has told ts'. -/
def RTo (b base : Nat) (x x' : RL) (ts' : List SqV) (w : World) (e : Ending) (w' : World) : Prop :=
  e = .returned (.tuple #[]) ∧ ∃ tv', RP w' b base { x' with tv := tv' } ts' ∧ Fr (PW b x.tv) w w' ∧ ∀ k, OwnB tv' k → OwnB x.tv k ∨ w.heap.size ≤ k
theorem RP.ne {w : World} {b base : Nat} {x : RL} {ts : List SqV} (h : RP w b base x ts) : ¬ OwnB x.tv b := Row.not_blk h.row h.blk (by decide)
def RL.to (x : RL) (s : Int) : RL := { x with st := s, by_ := 0, q := SqV.zero, bad := false }
set_option maxHeartbeats 1000000 in
theorem rto_any (w : World) (b base : Nat) (x : RL) (ts : List SqV) (s : Int) (h : RP w b base x ts) :
    Calls Try.prog 15 #[.pointer (some ⟨b, 0, none⟩), .int .i64 s] w (RTo b base x (x.to s) ts w) := by
  have hblk := h.blk
  have HR := hid h.row
  have HN := hid h.ne
  obtain ⟨p, wA, wc, st, by_, q, bad, tv⟩ := x
  simp only at HR HN
  clear h
  have c0 := hblk.cell 0 rfl
  have c1 := hblk.cell 1 rfl
  have c3 := hblk.cell 3 rfl
  have c4 := hblk.cell 4 rfl
  have c5 := hblk.cell 5 rfl
  have c6 := hblk.cell 6 rfl
  have c7 := hblk.cell 7 rfl
  have c8 := hblk.cell 8 rfl
  have c9 := hblk.cell 9 rfl
  have c10 := hblk.cell 10 rfl
  have f0 := hblk.frozen 0
  have f1 := hblk.frozen 1
  have f3 := hblk.frozen 3
  have f4 := hblk.frozen 4
  have f5 := hblk.frozen 5
  have f6 := hblk.frozen 6
  have f7 := hblk.frozen 7
  have f8 := hblk.frozen 8
  have f9 := hblk.frozen 9
  have f10 := hblk.frozen 10
  have hlt := hblk.lt
  have HB := hid hblk
  clear hblk
  go_enter Try.func15, Try.ntmps15
  go_wp2
  go_end0
  refine ⟨rfl, tv, ⟨?_, ?_⟩, ?_, fun k hk => .inl hk⟩
  · exact ((((((((((HB.out.set 0 (.int .i64 s)).set 1 (.int .i64 0)).set 3 (.int .i64 0)).set 4 (.int .i32 0)).set 5 (.int .u8 0)).set 6 (.string ByteArray.empty)).set 7 (.slice none 0 0)).set 8 (.int .u8 0)).set 9 (.string ByteArray.empty)).set 10 (.bool false))
  · have hf : Fr (At b) w w := Fr.refl _ _
    exact Row.fr HR.out ((((((((((hf.setAt 0 (.int .i64 s)).setAt 1 (.int .i64 0)).setAt 3 (.int .i64 0)).setAt 4 (.int .i32 0)).setAt 5 (.int .u8 0)).setAt 6 (.string ByteArray.empty)).setAt 7 (.slice none 0 0)).setAt 8 (.int .u8 0)).setAt 9 (.string ByteArray.empty)).setAt 10 (.bool false)) (fun k hk he => HN.out (by have he' : k = b := he; subst he'; exact hk))
  · have hf : Fr (At b) w w := Fr.refl _ _
    exact ((((((((((hf.setAt 0 (.int .i64 s)).setAt 1 (.int .i64 0)).setAt 3 (.int .i64 0)).setAt 4 (.int .i32 0)).setAt 5 (.int .u8 0)).setAt 6 (.string ByteArray.empty)).setAt 7 (.slice none 0 0)).setAt 8 (.int .u8 0)).setAt 9 (.string ByteArray.empty)).setAt 10 (.bool false)).mono (fun k hk => .inl hk)
set_option maxHeartbeats 4000000 in
theorem rtell_any (w : World) (b base : Nat) (x : RL) (ts : List SqV) (s : SqV) (h : RP w b base x ts) (hb : base ≤ w.heap.size) (hl : ts.length ≤ 1000000) :
    Calls Try.prog 13 #[.pointer (some ⟨b, 0, none⟩), s.v] w (RTo b base x x (ts ++ [s]) w) := by
  have hblk := h.blk
  have hrow := h.row
  have hne := h.ne
  obtain ⟨A, c, hv, hcap⟩ := Row.shape hrow
  obtain ⟨p, wA, wc, st, by_, q, bad, tv⟩ := x
  simp only at hv hrow hne
  subst hv
  clear h
  have c15 := hblk.cell 11 rfl
  have f15 := hblk.frozen 11
  have hlt := hblk.lt
  have hl88 : Hid ((ts.length + 1) * 80 ≤ 140737488355328) := hid (by omega)
  have HB := hid hblk
  have HR := hid hrow
  have HN := hid hne
  have HM : Hid ([s].length = 1) := rfl
  have hsv : s.v = .agg #[.int .i64 s.kind, .int .i32 s.r, .int .u8 s.priv, .string s.inter, .slice s.pA s.pn s.pc, .int .u8 s.final, .string s.text] := rfl
  rw [hsv]
  clear hblk hrow hne hsv hcap
  have HF : Hid (Fr NoB w ((w.alloc (.cells #[.int .i64 s.kind, .int .i32 s.r, .int .u8 s.priv, .string s.inter, .slice s.pA s.pn s.pc, .int .u8 s.final, .string s.text] 30)).alloc (.cells #[.int .i64 s.kind, .int .i32 s.r, .int .u8 s.priv, .string s.inter, .slice s.pA s.pn s.pc, .int .u8 s.final, .string s.text] 30)).drew) := (((Fr.refl NoB w).alloc _).alloc _).drew
  have HRW := hid (Row.fr HR.out HF.out (fun _ _ h => h))
  have hsrc : ∀ j u, ([s].flatMap SqV.cells)[j]? = some u → ((w.alloc (.cells #[.int .i64 s.kind, .int .i32 s.r, .int .u8 s.priv, .string s.inter, .slice s.pA s.pn s.pc, .int .u8 s.final, .string s.text] 30)).alloc (.cells #[.int .i64 s.kind, .int .i32 s.r, .int .u8 s.priv, .string s.inter, .slice s.pA s.pn s.pc, .int .u8 s.final, .string s.text] 30)).drew.cell? ((⟨w.heap.size + 1, 0, none⟩ : Addr).add j) = some u := fun j u hj => by
    rw [tell_one] at hj
    have hn := (Blk.new (w.alloc (.cells #[.int .i64 s.kind, .int .i32 s.r, .int .u8 s.priv, .string s.inter, .slice s.pA s.pn s.pc, .int .u8 s.final, .string s.text] 30)) 30 s.cells).drew
    rw [World.size_alloc] at hn
    exact hn.cells 0 s.cells (fun j v hj => by rwa [Nat.zero_add]) j u hj
  have HS := hid hsrc
  have HSZ : Hid (base ≤ ((w.alloc (.cells #[.int .i64 s.kind, .int .i32 s.r, .int .u8 s.priv, .string s.inter, .slice s.pA s.pn s.pc, .int .u8 s.final, .string s.text] 30)).alloc (.cells #[.int .i64 s.kind, .int .i32 s.r, .int .u8 s.priv, .string s.inter, .slice s.pA s.pn s.pc, .int .u8 s.final, .string s.text] 30)).drew.heap.size) := Nat.le_trans hb HF.out.size
  clear hsrc
  go_enter Try.func13, Try.ntmps13
  go_wp2
  go_region_law (refine step_row_apps (f := SqV.cells) SqV.len SqV.one base rfl (.tmp 8) (.tmp 10) 31 30 SqV.zero.v 80 rfl Try.underlying31 infoSeq rfl (by omega) (by omega) (.slice A ts.length c) ts [s] ⟨w.heap.size + 1, 0, none⟩ 1 1 rfl rfl HM HS.out HRW.out HSZ.out hl88.out ?_; intro v1 w1 hr1 hf1 hat; obtain ⟨A1, c1, rfl, _⟩ := Row.shape hr1; have hb1 := (HB.out.fr HF.out (fun h => h)).fr hf1 HN.out; have p1 := hb1.cell 11 rfl; have p2 := hb1.frozen 11; have p3 := hb1.lt)
  all_goals
    go_wp2
    go_end0
    have hne1 := Row.not_blk hr1 hb1 (by decide)
    have hat1 := hat
    rw [List.length_append, List.length_singleton] at hr1 hne1 hat1
    refine ⟨rfl, .slice A1 (ts.length + 1) c1, ⟨hb1.set 11 _, ?_⟩, ?_, fun k hk => ?_⟩
    · exact Row.fr hr1 ((Fr.refl (At b) w1).setAt 11 _) (fun k hk he => hne1 (by have he' : k = b := he; subst he'; exact hk))
    · exact ((HF.out.mono (S2 := PW b (.slice A ts.length c)) (fun _ h => h.elim)).then_ hf1 (fun k hk => .inl (.inr hk))).setCell (p := ⟨b, 11, none⟩) (.inl (.inl rfl)) _
    · rcases hat1 with h1 | h1
      · exact .inl (h1.symm.trans (show (Value.slice A1 (ts.length + 1) c1).ownBlock = some k from hk))
      · have hk' : (Value.slice A1 (ts.length + 1) c1).ownBlock = some k := hk
        rw [h1] at hk'
        have := HF.out.size
        have := Option.some.inj hk'
        exact .inr (by omega)
end Go.Proofs.Ytlpjehmanodhpaa
set_option linter.unusedSimpArgs false
set_option linter.unusedVariables false
namespace Go.Proofs.Ytlpjehmanodhpaa
open Go.RowKit Go.Proofs.YtlpjehmanodhpaaW.PrintWords
theorem RP.fr {S : Nat → Prop} {w w1 : World} {b base : Nat} {x : RL} {ts : List SqV} (h : RP w b base x ts) (hf : Fr S w w1) (hb : ¬ S b) (hv : ∀ k, OwnB x.tv k → ¬ S k) : RP w1 b base x ts :=
  ⟨h.blk.fr hf hb, h.row.fr hf hv⟩
set_option maxHeartbeats 2000000 in
theorem rrunes_any (w : World) (b base : Nat) (x : RL) (ts : List SqV) (A : Option Addr) (c : Nat) (l : List Int) (h : RP w b base x ts) (hb : base ≤ w.heap.size) (hl : l.length ≤ 1000) (ht : ts.length ≤ 1000) (hC : Kd.C (Kd.int .u8) w A l.length l) (hcap : l.length ≤ c) (hr : ∀ x ∈ l, 0 ≤ x ∧ x ≤ 255) (hp : (pall l).length ≤ 10000) :
    Calls Try.prog 27 #[.pointer (some ⟨b, 0, none⟩), .slice A l.length c] w (RTo b base x x (ts ++ (pall l).map prV) w) := by
  have HALL := hid (refAll_any w A c l hC hcap hr (by omega))
  have HP := hid h
  have hlt0 := h.blk.lt
  clear hC h
  go_enter Try.func27, Try.ntmps27
  go_wp2_with fail
  refine HALL.out.mono ?_
  rintro e' w1 ⟨v, rfl, hv, hf⟩
  have haddr := fun A1 c1 (e : v = .slice A1 (pall l).length c1) => runes_addr (A := A1) (n := (pall l).length) (c := c1) (by rw [← e]; exact hv)
  obtain ⟨A1, c1, rfl, hcc, hC1⟩ := Kd.R_reads hv
  have HC := hid hC1
  have hA1 := haddr A1 c1 rfl
  have HA : Hid (∀ ad, A1 = some ad → ad.block ≠ b ∧ ¬ OwnB x.tv ad.block) := fun ad hA => by
    have h1 := hA1 ad hA
    refine ⟨by omega, fun hk => ?_⟩
    have := (Row.lt HP.out.row _ hk).2
    omega
  have HP1 := hid (HP.out.fr hf (fun h => h) (fun _ _ h => h))
  have HF1 := hid hf
  clear hv haddr hA1 hC1 hf
  generalize hq : pall l = q at *
  clear hq
  go_wp2
  go_loopw [5] (fun v5 wr => ∃ (k : Nat) (tv : Value), k ≤ q.length ∧ v5 = .int .i64 k ∧ Hid (RP wr b base { x with tv := tv } (ts ++ (q.take k).map prV)) ∧ Hid (Fr (PW b x.tv) w1 wr) ∧ Hid (∀ j, OwnB tv j → OwnB x.tv j ∨ w1.heap.size ≤ j)) (fun v5 _ => q.length - (intOf v5).toNat)
  case atStart => exact ⟨0, x.tv, Nat.zero_le _, rfl, by simpa using HP1, Fr.refl _ _, fun j hj => .inl hj⟩
  case round =>
    obtain ⟨k, tv, hk, rfl, HPk, HFw, HO⟩ := hrel
    by_cases hkl : k < q.length
    · obtain ⟨ad, hAd, hcell⟩ := C_at HC.out k hkl
      obtain ⟨hn1, hn2⟩ := HA.out ad hAd
      have hcell2 := cell_to hcell HFw.out (by rw [add_block]; exact fun h => h.elim hn1 hn2)
      have htell := rtell_any wr b base { x with tv := tv } _ { SqV.zero with kind := 1, r := q[k] } HPk.out (Nat.le_trans hb (Nat.le_trans HF1.out.size HFw.out.size)) (by rw [List.length_append, List.length_map, List.length_take]; omega)
      have hnext : ts ++ (q.take (k + 1)).map prV = (ts ++ (q.take k).map prV) ++ [{ SqV.zero with kind := 1, r := q[k] }] := by
        rw [List.take_succ_eq_append_getElem hkl, List.map_append, List.append_assoc]
        rfl
      have HT := hid htell
      have HN := hid hnext
      clear htell hnext hcell hn1 hn2
      subst hAd
      generalize q[k] = r at *
      go_wp2_with fail
      refine HT.out.mono ?_
      rintro e' w2 ⟨rfl, tv2, hp2, hf2, ho2⟩
      have HP2 : Hid (RP w2 b base { x with tv := tv2 } (ts ++ (q.take (k + 1)).map prV)) := by
        rw [HN.out]
        exact hp2
      have HF2 : Hid (Fr (PW b x.tv) w1 w2) := HFw.out.then_ hf2 (fun j hj => by
        rcases hj with hj | hj
        · exact .inl (.inl hj)
        · exact (HO.out j hj).imp (fun h => .inr h) id)
      have HO2 : Hid (∀ j, OwnB tv2 j → OwnB x.tv j ∨ w1.heap.size ≤ j) := fun j hj => by
        rcases ho2 j hj with h4 | h4
        · exact HO.out j h4
        · exact .inr (Nat.le_trans HFw.out.size h4)
      clear hp2 hf2 ho2
      go_wp2
      go_roundw
      case rel => exact ⟨k + 1, tv2, by omega, by go_num, HP2, HF2, HO2⟩
      case measure => simp [intOf]; omega
    · obtain rfl : k = q.length := by omega
      rw [List.take_length] at HPk
      go_wp2
      go_end0
      exact ⟨rfl, tv, HPk.out, (HF1.out.mono (fun _ h => h.elim)).trans HFw.out, fun j hj => (HO.out j hj).imp id (fun h => Nat.le_trans HF1.out.size h)⟩
end Go.Proofs.Ytlpjehmanodhpaa
set_option linter.unusedSimpArgs false
set_option linter.unusedVariables false
namespace Go.Proofs.Ytlpjehmanodhpaa
open Go.RowKit Go.Proofs.YtlpjehmanodhpaaW.PrintWords
theorem RTo.trans {w w1 w2 : World} {b base : Nat} {x x1 x2 : RL} {ts2 : List SqV} {tv1 : Value} {e : Ending} (hf : Fr (PW b x.tv) w w1) (ho : ∀ k, OwnB tv1 k → OwnB x.tv k ∨ w.heap.size ≤ k) (h : RTo b base { x1 with tv := tv1 } x2 ts2 w1 e w2) : RTo b base x x2 ts2 w e w2 := by
  obtain ⟨he, tv2, h1, h2, h3⟩ := h
  refine ⟨he, tv2, h1, hf.then_ h2 (fun k hk => ?_), fun k hk => ?_⟩
  · rcases hk with hk | hk
    · exact .inl (.inl hk)
    · exact (ho k hk).imp (fun h => .inr h) id
  · rcases h3 k hk with h4 | h4
    · exact ho k h4
    · exact .inr (Nat.le_trans hf.size h4)
theorem RP.setW {w : World} {b base : Nat} {x : RL} {ts : List SqV} (h : RP w b base x ts) (p : List Int) (A : Option Addr) (c : Nat) : RP (w.setCell ⟨b, 2, none⟩ (.slice A p.length c)) b base { x with p := p, wA := A, wc := c } ts :=
  ⟨h.blk.set 2 (.slice A p.length c), h.row.fr ((Fr.refl (At b) w).setAt 2 _) (fun k hk he => h.ne (by have he' : k = b := he; subst he'; exact hk))⟩
set_option maxHeartbeats 1000000 in
theorem rflush_any (w : World) (b base : Nat) (x : RL) (ts : List SqV) (h : RP w b base x ts) (hb : base ≤ w.heap.size) (hl : x.p.length ≤ 1000) (ht : ts.length ≤ 1000) (hC : Kd.C (Kd.int .u8) w x.wA x.p.length x.p) (hcap : x.p.length ≤ x.wc) (hr : ∀ y ∈ x.p, 0 ≤ y ∧ y ≤ 255) (hp : (pall x.p).length ≤ 10000) :
    Calls Try.prog 14 #[.pointer (some ⟨b, 0, none⟩)] w (RTo b base x { x with p := [], wA := none, wc := 0 } (ts ++ (pall x.p).map prV) w) := by
  have c2 := h.blk.cell 2 rfl
  have hlt := h.blk.lt
  have HR := hid (rrunes_any w b base x ts x.wA x.wc x.p h hb hl ht hC hcap hr hp)
  clear h hC
  go_enter Try.func14, Try.ntmps14
  go_wp2_with fail
  refine HR.out.mono ?_
  rintro e' w2 ⟨rfl, tv2, hp2, hf2, ho2⟩
  have d2 := hp2.blk.cell 2 rfl
  have g2 := hp2.blk.frozen 2
  have dlt := hp2.blk.lt
  have HP := hid (hp2.setW [] none 0)
  have HF := hid hf2
  have HO := hid ho2
  have HNE := hid hp2.ne
  clear hp2 hf2 ho2
  go_wp2
  go_end0
  exact ⟨rfl, tv2, HP.out, HF.out.setCell (p := ⟨b, 2, none⟩) (.inl (.inl rfl)) _, HO.out⟩
end Go.Proofs.Ytlpjehmanodhpaa
set_option linter.unusedSimpArgs false
set_option linter.unusedVariables false
namespace Go.Proofs.Ytlpjehmanodhpaa
open Go.RowKit Go.Proofs.YtlpjehmanodhpaaW.PrintWords
def RL.inter (x : RL) (c : Int) : RL := if 2 ≤ x.q.inter.size then { x with bad := true } else { x with q := { x.q with inter := x.q.inter ++ one c } }
set_option maxHeartbeats 1000000 in
theorem rinter_any (w : World) (b base : Nat) (x : RL) (ts : List SqV) (c : Int) (h : RP w b base x ts) (h3 : x.q.inter.size ≤ 100) (hc0 : 0 ≤ c) (hc1 : c ≤ 255) :
    Calls Try.prog 18 #[.pointer (some ⟨b, 0, none⟩), .int .u8 c] w (RTo b base x (x.inter c) ts w) := by
  have HP := hid h
  have c6 := h.blk.cell 6 rfl
  have c10 := h.blk.cell 10 rfl
  have f6 := h.blk.frozen 6
  have f10 := h.blk.frozen 10
  have hlt := h.blk.lt
  have HB := hid h.blk
  by_cases h2 : 2 ≤ x.q.inter.size
  · have ha : x.inter c = { x with bad := true } := by unfold RL.inter; rw [if_pos h2]
    rw [ha]
    have t1 : decide ((x.q.inter.size : Int) ≥ 2) = true := by simp; omega
    clear h ha h2
    go_enter Try.func18, Try.ntmps18
    go_wp2
    go_end0
    exact ⟨rfl, x.tv, ⟨HB.out.set 10 _, HP.out.row.fr ((Fr.refl (At b) w).setAt 10 _) (fun k hk he => HP.out.ne (by have he' : k = b := he; subst he'; exact hk))⟩, ((Fr.refl (At b) w).setAt 10 _).mono (fun k hk => .inl hk), fun k hk => .inl hk⟩
  · have ha : x.inter c = { x with q := { x.q with inter := x.q.inter ++ one c } } := by unfold RL.inter; rw [if_neg h2]
    rw [ha]
    have t1 : decide ((x.q.inter.size : Int) ≥ 2) = false := by simp; omega
    have hno : ¬ 9223372036854775807 < x.q.inter.size + (one c).size := by rw [one_size]; omega
    have hw1 : (w.alloc (.cells #[.int .u8 c] 5)).drew.cell? ⟨w.heap.size, 0, none⟩ = some (.int .u8 c) := (Blk.new w 5 [.int .u8 c]).drew.cell 0 rfl
    have hconv := conv_one _ _ c hw1
    clear h ha h2
    go_enter Try.func18, Try.ntmps18
    go_wp2
    go_region
    all_goals
      go_wp2
      go_end0
      exact ⟨rfl, x.tv, ⟨((HB.out.set 6 (.string (x.q.inter ++ one c))).alloc (.cells #[.int .u8 c] 5)).drew, HP.out.row.fr ((((Fr.refl (At b) w).setAt 6 (.string (x.q.inter ++ one c))).alloc (.cells #[.int .u8 c] 5)).drew) (fun k hk he => HP.out.ne (by have he' : k = b := he; subst he'; exact hk))⟩, ((((Fr.refl (At b) w).setAt 6 (.string (x.q.inter ++ one c))).alloc (.cells #[.int .u8 c] 5)).drew).mono (fun k hk => .inl hk), fun k hk => .inl hk⟩
theorem rother_any (w : World) (c : Int) : Calls Try.prog 19 #[.int .u8 c] w fun e w' => e = .returned (.bool (isOther c)) ∧ w' = w := by
  unfold isOther
  cases h1 : c == 91 <;> cases h2 : c == 93 <;> cases h3 : c == 80 <;> cases h4 : c == 88 <;> cases h5 : c == 94 <;> cases h6 : c == 95
  all_goals first
    | (exfalso; simp only [beq_iff_eq] at h1 h2 h3 h4 h5 h6; omega)
    | (go_enter Try.func19, Try.ntmps19
       go_wp2
       go_ret
       exact ⟨rfl, rfl⟩)
theorem RTo.noB {w w1 w2 : World} {b base : Nat} {x x2 : RL} {ts2 : List SqV} {e : Ending} (hf : Fr NoB w w1) (h : RTo b base x x2 ts2 w1 e w2) : RTo b base x x2 ts2 w e w2 :=
  RTo.trans (x1 := x) (tv1 := x.tv) (hf.mono (fun _ h => h.elim)) (fun k hk => .inl hk) h
set_option maxHeartbeats 2000000 in
theorem rend_any (w : World) (b base : Nat) (x : RL) (ts : List SqV) (kind c : Int) (h : RP w b base x ts) (hb : base ≤ w.heap.size) (hl : ts.length ≤ 1000000) :
    Calls Try.prog 20 #[.pointer (some ⟨b, 0, none⟩), .int .i64 kind, .int .u8 c] w (RTo b base x (x.to 0) (ts ++ if x.bad then [] else [{ x.q with kind := kind, final := c }]) w) := by
  have hblk := h.blk
  have HP := hid h
  have k3 := hblk.cell 3 rfl
  have k4 := hblk.cell 4 rfl
  have k5 := hblk.cell 5 rfl
  have k6 := hblk.cell 6 rfl
  have k7 := hblk.cell 7 rfl
  have k8 := hblk.cell 8 rfl
  have k9 := hblk.cell 9 rfl
  have k10 := hblk.cell 10 rfl
  have hlt := hblk.lt
  clear h hblk
  cases hbad : x.bad
  · rw [hbad] at k10
    rw [if_neg (by simp)]
    clear hbad
    have hf0 := (Fr.refl NoB w).alloc (.cells #[.int .i64 kind, .int .i32 x.q.r, .int .u8 x.q.priv, .string x.q.inter, .slice x.q.pA x.q.pn x.q.pc, .int .u8 c, .string x.q.text] 30)
    have hp0 := HP.out.fr hf0 (fun h => h) (fun _ _ h => h)
    have HF0 := hid hf0
    have HT := hid (rtell_any _ b base x ts { x.q with kind := kind, final := c } hp0 (Nat.le_trans hb hf0.size) hl)
    clear hf0 hp0
    go_enter Try.func20, Try.ntmps20
    go_wp2_with fail
    refine HT.out.mono ?_
    rintro e' w2 ⟨rfl, tv2, hp2, hf2, ho2⟩
    have HTo := hid (rto_any w2 b base { x with tv := tv2 } _ 0 hp2)
    have HF2 := hid hf2
    have HO2 := hid ho2
    clear hp2 hf2 ho2
    go_wp2_with fail
    refine HTo.out.mono ?_
    intro e' w3 h3
    obtain ⟨rfl, h4⟩ := RTo.noB HF0.out (RTo.trans (x2 := x.to 0) (x1 := x) HF2.out HO2.out h3)
    have H4 := hid h4
    clear h3 h4
    go_wp2
    go_end0
    exact ⟨rfl, H4.out⟩
  · rw [hbad] at k10
    rw [if_pos rfl]
    clear hbad
    have hf0 := (Fr.refl NoB w).alloc (.cells #[.int .i64 kind, .int .i32 x.q.r, .int .u8 x.q.priv, .string x.q.inter, .slice x.q.pA x.q.pn x.q.pc, .int .u8 c, .string x.q.text] 30)
    have hp0 := HP.out.fr hf0 (fun h => h) (fun _ _ h => h)
    have HF0 := hid hf0
    have HTo := hid (rto_any _ b base x ts 0 hp0)
    clear hf0 hp0
    go_enter Try.func20, Try.ntmps20
    go_wp2_with fail
    refine HTo.out.mono ?_
    intro e' w3 h3
    obtain ⟨rfl, h4⟩ := RTo.noB HF0.out h3
    have H4 := hid h4
    clear h3 h4
    go_wp2
    go_end0
    rw [List.append_nil]
    exact ⟨rfl, H4.out⟩
end Go.Proofs.Ytlpjehmanodhpaa
