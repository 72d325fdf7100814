import Derived.Test.YtlpjehmanodhpaaK7
import Derived.Test.YtlpjehmanodhpaaU1
import Derived.Deep.RegionHeld3
set_option linter.unusedSimpArgs false
set_option linter.unusedVariables false
namespace Go.Proofs.Ytlpjehmanodhpaa
open Go.RowKit Go.Proofs.YtlpjehmanodhpaaW.PrintWords
/-- What is told, as it lies in memory. -/
structure SqV where
  kind : Int
  r : Int
  priv : Int
  inter : ByteArray
  pA : Option Addr
  pn : Nat
  pc : Nat
  final : Int
  text : ByteArray
def SqV.pv (s : SqV) : Value := .slice s.pA s.pn s.pc
def SqV.cells (s : SqV) : List Value := [.int .i64 s.kind, .int .i32 s.r, .int .u8 s.priv, .string s.inter, .slice s.pA s.pn s.pc, .int .u8 s.final, .string s.text]
def SqV.v (s : SqV) : Value := .agg #[.int .i64 s.kind, .int .i32 s.r, .int .u8 s.priv, .string s.inter, .slice s.pA s.pn s.pc, .int .u8 s.final, .string s.text]
theorem SqV.len (s : SqV) : s.cells.length = 7 := rfl
theorem SqV.one (t : SqV) : ∀ u ∈ t.cells, u.oneCell' = true := by
  intro u hu
  simp only [SqV.cells, List.mem_cons, List.not_mem_nil, or_false] at hu
  rcases hu with rfl | rfl | rfl | rfl | rfl | rfl | rfl <;> rfl
def SqV.zero : SqV := ⟨0, 0, 0, ByteArray.empty, none, 0, 0, 0, ByteArray.empty⟩
theorem infoSeq : (Try.prog.info? 30).map (fun i => (i.zero, i.size, i.bytes)) = some (some SqV.zero.v, 7, 80) := by kernel_rfl
/-- A parser, as it lies in memory. -/
structure Lo where
  p : List Int
  st : Int
  by_ : Int
  q : SqV
  bad : Bool
  tv : Value
def Lo.rest (x : Lo) : List Value := [.int .i64 x.st, .int .i64 x.by_, .int .i64 x.q.kind, .int .i32 x.q.r, .int .u8 x.q.priv, .string x.q.inter, .slice x.q.pA x.q.pn x.q.pc, .int .u8 x.q.final, .string x.q.text, .bool x.bad, x.tv]
structure PL (w : World) (b base : Nat) (x : Lo) (ts : List SqV) : Prop where
  blk : DBlk w b 33 x.rest x.p
  row : Row SqV.cells 7 30 w base x.tv ts
/-- What a parser's function writes to. -/
def PW (b : Nat) (tv : Value) : Nat → Prop := fun k => k = b ∨ OwnB tv k
/-- A function's end: the parser is x', and has told ts'. -/
def PTo (b base : Nat) (x x' : Lo) (ts' : List SqV) (w : World) (e : Ending) (w' : World) : Prop :=
  e = .returned (.tuple #[]) ∧ ∃ tv', PL w' b base { x' with tv := tv' } ts' ∧ Fr (PW b x.tv) w w' ∧ ∀ k, OwnB tv' k → OwnB x.tv k ∨ w.heap.size ≤ k
theorem PL.ne {w : World} {b base : Nat} {x : Lo} {ts : List SqV} (h : PL w b base x ts) : ¬ OwnB x.tv b := by
  obtain ⟨d, _, hb⟩ := h.blk
  exact Row.not_blk h.row hb (by decide)
theorem tell_one {s : SqV} : [s].flatMap SqV.cells = s.cells := by simp
set_option maxHeartbeats 4000000 in
theorem tell_any (w : World) (b base : Nat) (x : Lo) (ts : List SqV) (s : SqV) (h : PL w b base x ts) (hb : base ≤ w.heap.size) (hl : ts.length ≤ 1000000) :
    Calls Try.prog 29 #[.pointer (some ⟨b, 0, none⟩), s.v] w (PTo b base x x (ts ++ [s]) w) := by
  obtain ⟨d, hd, hblk⟩ := h.blk
  have hrow := h.row
  have hne := h.ne
  obtain ⟨A, c, hv, hcap⟩ := Row.shape hrow
  obtain ⟨p, st, by_, q, bad, tv⟩ := x
  simp only at hv hrow hne hblk hd
  subst hv
  clear h
  have c15 := hblk.cell 15 rfl
  have f15 := hblk.frozen 15
  have hlt := hblk.lt
  have hl88 : Hid ((ts.length + 1) * 80 ≤ 140737488355328) := hid (by omega)
  have HB := hid hblk
  have HR := hid hrow
  have HN := hid hne
  have HM : Hid ([s].length = 1) := rfl
  have hsv : s.v = .agg #[.int .i64 s.kind, .int .i32 s.r, .int .u8 s.priv, .string s.inter, .slice s.pA s.pn s.pc, .int .u8 s.final, .string s.text] := rfl
  rw [hsv]
  clear hblk hrow hne hsv hcap
  have HF : Hid (Fr NoB w ((w.alloc (.cells #[.int .i64 s.kind, .int .i32 s.r, .int .u8 s.priv, .string s.inter, .slice s.pA s.pn s.pc, .int .u8 s.final, .string s.text] 30)).alloc (.cells #[.int .i64 s.kind, .int .i32 s.r, .int .u8 s.priv, .string s.inter, .slice s.pA s.pn s.pc, .int .u8 s.final, .string s.text] 30)).drew) := (((Fr.refl NoB w).alloc _).alloc _).drew
  have HRW := hid (Row.fr HR.out HF.out (fun _ _ h => h))
  have hsrc : ∀ j u, ([s].flatMap SqV.cells)[j]? = some u → ((w.alloc (.cells #[.int .i64 s.kind, .int .i32 s.r, .int .u8 s.priv, .string s.inter, .slice s.pA s.pn s.pc, .int .u8 s.final, .string s.text] 30)).alloc (.cells #[.int .i64 s.kind, .int .i32 s.r, .int .u8 s.priv, .string s.inter, .slice s.pA s.pn s.pc, .int .u8 s.final, .string s.text] 30)).drew.cell? ((⟨w.heap.size + 1, 0, none⟩ : Addr).add j) = some u := fun j u hj => by
    rw [tell_one] at hj
    have hn := (Blk.new (w.alloc (.cells #[.int .i64 s.kind, .int .i32 s.r, .int .u8 s.priv, .string s.inter, .slice s.pA s.pn s.pc, .int .u8 s.final, .string s.text] 30)) 30 s.cells).drew
    rw [World.size_alloc] at hn
    exact hn.cells 0 s.cells (fun j v hj => by rwa [Nat.zero_add]) j u hj
  have HS := hid hsrc
  have HSZ : Hid (base ≤ ((w.alloc (.cells #[.int .i64 s.kind, .int .i32 s.r, .int .u8 s.priv, .string s.inter, .slice s.pA s.pn s.pc, .int .u8 s.final, .string s.text] 30)).alloc (.cells #[.int .i64 s.kind, .int .i32 s.r, .int .u8 s.priv, .string s.inter, .slice s.pA s.pn s.pc, .int .u8 s.final, .string s.text] 30)).drew.heap.size) := Nat.le_trans hb HF.out.size
  clear hsrc
  go_enter Try.func29, Try.ntmps29
  go_wp2
  go_region_law (refine step_row_apps (f := SqV.cells) SqV.len SqV.one base rfl (.tmp 8) (.tmp 10) 31 30 SqV.zero.v 80 rfl Try.underlying31 infoSeq rfl (by omega) (by omega) (.slice A ts.length c) ts [s] ⟨w.heap.size + 1, 0, none⟩ 1 1 rfl rfl HM HS.out HRW.out HSZ.out hl88.out ?_; intro v1 w1 hr1 hf1 hat; obtain ⟨A1, c1, rfl, _⟩ := Row.shape hr1; have hb1 := (HB.out.fr HF.out (fun h => h)).fr hf1 HN.out; have p1 := hb1.cell 15 rfl; have p2 := hb1.frozen 15; have p3 := hb1.lt)
  all_goals
    go_wp2
    go_end0
    have hne1 := Row.not_blk hr1 hb1 (by decide)
    have hat1 := hat
    rw [List.length_append, List.length_singleton] at hr1 hne1 hat1
    refine ⟨rfl, .slice A1 (ts.length + 1) c1, ⟨⟨d, hd, hb1.set 15 _⟩, ?_⟩, ?_, fun k hk => ?_⟩
    · exact Row.fr hr1 ((Fr.refl (At b) w1).setAt 15 _) (fun k hk he => hne1 (by have he' : k = b := he; subst he'; exact hk))
    · exact ((HF.out.mono (S2 := PW b (.slice A ts.length c)) (fun _ h => h.elim)).then_ hf1 (fun k hk => .inl (.inr hk))).setCell (p := ⟨b, 15, none⟩) (.inl (.inl rfl)) _
    · rcases hat1 with h1 | h1
      · exact .inl (h1.symm.trans (show (Value.slice A1 (ts.length + 1) c1).ownBlock = some k from hk))
      · have hk' : (Value.slice A1 (ts.length + 1) c1).ownBlock = some k := hk
        rw [h1] at hk'
        have := HF.out.size
        have := Option.some.inj hk'
        exact .inr (by omega)
theorem add_block (a : Addr) (i : Nat) : (a.add i).block = a.block := by unfold Addr.add; split <;> rfl
theorem PL.fr {S : Nat → Prop} {w w1 : World} {b base : Nat} {x : Lo} {ts : List SqV} (h : PL w b base x ts) (hf : Fr S w w1) (hb : ¬ S b) (hv : ∀ k, OwnB x.tv k → ¬ S k) : PL w1 b base x ts :=
  ⟨h.blk.move (hf.block _ h.blk.lt hb), h.row.fr hf hv⟩
theorem PTo.trans {w w1 w2 : World} {b base : Nat} {x x1 x2 : Lo} {ts2 : List SqV} {tv1 : Value} {e : Ending} (hf : Fr (PW b x.tv) w w1) (ho : ∀ k, OwnB tv1 k → OwnB x.tv k ∨ w.heap.size ≤ k) (h : PTo b base { x1 with tv := tv1 } x2 ts2 w1 e w2) : PTo b base x x2 ts2 w e w2 := by
  obtain ⟨he, tv2, h1, h2, h3⟩ := h
  refine ⟨he, tv2, h1, hf.then_ h2 (fun k hk => ?_), fun k hk => ?_⟩
  · rcases hk with hk | hk
    · exact .inl (.inl hk)
    · exact (ho k hk).imp (fun h => .inr h) id
  · rcases h3 k hk with h4 | h4
    · exact ho k h4
    · exact .inr (Nat.le_trans hf.size h4)
def Lo.to (x : Lo) (s : Int) : Lo := { x with st := s, by_ := 0, q := SqV.zero, bad := false }
set_option maxHeartbeats 1000000 in
theorem to_any (w : World) (b base : Nat) (x : Lo) (ts : List SqV) (s : Int) (h : PL w b base x ts) :
    Calls Try.prog 24 #[.pointer (some ⟨b, 0, none⟩), .int .i64 s] w (PTo b base x (x.to s) ts w) := by
  obtain ⟨d, hd, hblk⟩ := h.blk
  have HR := hid h.row
  have HN := hid h.ne
  obtain ⟨p, st, by_, q, bad, tv⟩ := x
  simp only at hblk hd HR HN
  clear h
  have c5 := hblk.cell 5 rfl
  have c6 := hblk.cell 6 rfl
  have c7 := hblk.cell 7 rfl
  have c8 := hblk.cell 8 rfl
  have c9 := hblk.cell 9 rfl
  have c10 := hblk.cell 10 rfl
  have c11 := hblk.cell 11 rfl
  have c12 := hblk.cell 12 rfl
  have c13 := hblk.cell 13 rfl
  have c14 := hblk.cell 14 rfl
  have f5 := hblk.frozen 5
  have f6 := hblk.frozen 6
  have f7 := hblk.frozen 7
  have f8 := hblk.frozen 8
  have f9 := hblk.frozen 9
  have f10 := hblk.frozen 10
  have f11 := hblk.frozen 11
  have f12 := hblk.frozen 12
  have f13 := hblk.frozen 13
  have f14 := hblk.frozen 14
  have hlt := hblk.lt
  have HB := hid hblk
  clear hblk
  go_enter Try.func24, Try.ntmps24
  go_wp2
  go_end0
  refine ⟨rfl, tv, ⟨⟨d, hd, ?_⟩, ?_⟩, ?_, fun k hk => .inl hk⟩
  · exact ((((((((((HB.out.set 5 (.int .i64 s)).set 6 (.int .i64 0)).set 7 (.int .i64 0)).set 8 (.int .i32 0)).set 9 (.int .u8 0)).set 10 (.string ByteArray.empty)).set 11 (.slice none 0 0)).set 12 (.int .u8 0)).set 13 (.string ByteArray.empty)).set 14 (.bool false))
  · have hf : Fr (At b) w w := Fr.refl _ _
    exact Row.fr HR.out ((((((((((hf.setAt 5 (.int .i64 s)).setAt 6 (.int .i64 0)).setAt 7 (.int .i64 0)).setAt 8 (.int .i32 0)).setAt 9 (.int .u8 0)).setAt 10 (.string ByteArray.empty)).setAt 11 (.slice none 0 0)).setAt 12 (.int .u8 0)).setAt 13 (.string ByteArray.empty)).setAt 14 (.bool false)) (fun k hk he => HN.out (by have he' : k = b := he; subst he'; exact hk))
  · have hf : Fr (At b) w w := Fr.refl _ _
    exact ((((((((((hf.setAt 5 (.int .i64 s)).setAt 6 (.int .i64 0)).setAt 7 (.int .i64 0)).setAt 8 (.int .i32 0)).setAt 9 (.int .u8 0)).setAt 10 (.string ByteArray.empty)).setAt 11 (.slice none 0 0)).setAt 12 (.int .u8 0)).setAt 13 (.string ByteArray.empty)).setAt 14 (.bool false)).mono (fun k hk => .inl hk)
set_option maxHeartbeats 1000000 in
theorem print_any (w : World) (b base : Nat) (x : Lo) (ts : List SqV) (A : Option Addr) (c : Nat) (l : List Int) (h : PL w b base x ts) (hb : base ≤ w.heap.size) (hl : ts.length + l.length ≤ 1000000) (hC : Kd.C (Kd.int .i32) w A l.length l) (hA : ∀ ad, A = some ad → ad.block ≠ b ∧ ¬ OwnB x.tv ad.block) :
    Calls Try.prog 22 #[.pointer (some ⟨b, 0, none⟩), .slice A l.length c] w (PTo b base x x (ts ++ l.map fun r => { SqV.zero with kind := 1, r := r }) w) := by
  have HC := hid hC
  have HA := hid hA
  have HP := hid h
  clear hC hA h
  go_enter Try.func22, Try.ntmps22
  go_wp2
  go_loopw [5, 8] (fun _ v8 wr => ∃ (k : Nat) (tv : Value), k ≤ l.length ∧ v8 = .int .i64 k ∧ Hid (PL wr b base { x with tv := tv } (ts ++ (l.take k).map fun r => { SqV.zero with kind := 1, r := r })) ∧ Hid (Fr (PW b x.tv) w wr) ∧ Hid (∀ j, OwnB tv j → OwnB x.tv j ∨ w.heap.size ≤ j)) (fun _ v8 _ => l.length - (intOf v8).toNat)
  case atStart => exact ⟨0, x.tv, Nat.zero_le _, rfl, by simpa using HP, Fr.refl _ _, fun j hj => .inl hj⟩
  case round =>
    obtain ⟨k, tv, hk, rfl, HP, HF, HO⟩ := hrel
    by_cases hkl : k < l.length
    · obtain ⟨ad, hAd, hcell⟩ := C_at HC.out k hkl
      obtain ⟨hn1, hn2⟩ := HA.out ad hAd
      have hcell2 := (World.cell?_of_block (w' := wr) (by rw [add_block]; exact HF.out.block ad.block (by have := cell_lt hcell; rwa [add_block] at this) (fun h => h.elim hn1 hn2))).trans hcell
      have htell := tell_any wr b base { x with tv := tv } _ { SqV.zero with kind := 1, r := l[k] } HP.out (Nat.le_trans hb HF.out.size) (by rw [List.length_append, List.length_map, List.length_take]; omega)
      have hnext : ts ++ (l.take (k + 1)).map (fun r => { SqV.zero with kind := 1, r := r }) = (ts ++ (l.take k).map fun r => { SqV.zero with kind := 1, r := r }) ++ [{ SqV.zero with kind := 1, r := l[k] }] := by
        rw [List.take_succ_eq_append_getElem hkl, List.map_append, List.append_assoc]
        rfl
      have HT := hid htell
      have HN := hid hnext
      clear htell hnext hcell hn1 hn2
      subst hAd
      generalize l[k] = r at *
      go_wp2_with fail
      refine HT.out.mono ?_
      rintro e' w2 ⟨rfl, tv2, hp2, hf2, ho2⟩
      have HP2 : Hid (PL w2 b base { x with tv := tv2 } (ts ++ (l.take (k + 1)).map (fun r => { SqV.zero with kind := 1, r := r }))) := by
        rw [HN.out]
        exact hp2
      have HF2 : Hid (Fr (PW b x.tv) w w2) := HF.out.then_ hf2 (fun j hj => by
        rcases hj with hj | hj
        · exact .inl (.inl hj)
        · exact (HO.out j hj).imp (fun h => .inr h) id)
      have HO2 : Hid (∀ j, OwnB tv2 j → OwnB x.tv j ∨ w.heap.size ≤ j) := fun j hj => by
        rcases ho2 j hj with h4 | h4
        · exact HO.out j h4
        · exact .inr (Nat.le_trans HF.out.size h4)
      clear hp2 hf2 ho2
      go_wp2
      go_roundw
      case rel => exact ⟨k + 1, tv2, by omega, by go_num, HP2, HF2, HO2⟩
      case measure => simp [intOf]; omega
    · obtain rfl : k = l.length := by omega
      rw [List.take_length] at HP
      go_wp2
      go_end0
      exact ⟨rfl, tv, HP.out, HF.out, HO.out⟩
end Go.Proofs.Ytlpjehmanodhpaa
