import Derived.Test.YtlpjehmanodhpaaN22
import Derived.Test.YtlpjehmanodhpaaN20
set_option linter.unusedSimpArgs false
set_option linter.unusedVariables false
namespace Go.Proofs.Ytlpjehmanodhpaa
open Go.RowKit Go.Proofs.YtlpjehmanodhpaaW.PrintWords
/-- Bytes that wait are their own: read alone they wait. -/
def PS (p : List Int) : Prop := prun ([], []) p = (p, [])
theorem PS.nil : PS [] := rfl
theorem PS.run {p : List Int} (h : PS p) (c : Int) : prun ([], []) (p ++ [c]) = pstep p c := by
  rw [prun_snoc, h]
  exact Prod.ext rfl (List.nil_append _)
theorem PS.pall {p : List Int} (h : PS p) : pall p = pflush p := by
  unfold PS at h
  unfold Go.Proofs.Ytlpjehmanodhpaa.pall
  rw [h]
  rfl
theorem begin_one {c : Int} (h : firstOk c = true) : beginR c = [] := by
  have h2 : 194 ≤ c ∧ c ≤ 244 := of_decide_eq_true h
  unfold beginR
  rw [if_neg (by omega), if_pos h]
theorem PS.one {c : Int} (h : firstOk c = true) : PS [c] := by
  have h1 : prun ([], []) [c] = pstep [] c := PS.run PS.nil c
  unfold PS
  rw [h1]
  show (pbegin c, beginR c) = _
  rw [begin_one h]
  unfold pbegin
  rw [if_pos h]
/-- What the bytes that wait, and one more, are read as: the rest waits, what is ahead of it is told. -/
theorem PS.cut {p : List Int} (h : PS p) (c : Int) : PS (pstep p c).1 ∧ waitsOf (p ++ [c]) = (pstep p c).1.length ∧ (pstep p c).1.length ≤ p.length + 1 ∧
    (p ++ [c]).drop (p.length + 1 - (pstep p c).1.length) = (pstep p c).1 ∧ Go.Proofs.Ytlpjehmanodhpaa.pall ((p ++ [c]).take (p.length + 1 - (pstep p c).1.length)) = (pstep p c).2 := by
  have h1 := h.run c
  have hw : waitsOf (p ++ [c]) = (pstep p c).1.length := by unfold waitsOf; rw [h1]
  have hall : Go.Proofs.Ytlpjehmanodhpaa.pall (p ++ [c]) = (pstep p c).2 ++ pflush (pstep p c).1 := by unfold Go.Proofs.Ytlpjehmanodhpaa.pall; rw [h1]
  have hnil : ∀ o : List Int, pstep p c = ([], o) → PS (pstep p c).1 ∧ (pstep p c).1.length ≤ p.length + 1 ∧ (p ++ [c]).drop (p.length + 1 - (pstep p c).1.length) = (pstep p c).1 ∧ Go.Proofs.Ytlpjehmanodhpaa.pall ((p ++ [c]).take (p.length + 1 - (pstep p c).1.length)) = (pstep p c).2 := fun o ho => by
    rw [ho] at hall ⊢
    refine ⟨PS.nil, Nat.zero_le _, ?_, ?_⟩
    · exact List.drop_of_length_le (by simp)
    · rw [List.take_of_length_le (by simp), hall]
      simp [pflush]
  have hfirst : ∀ o : List Int, pstep p c = (pbegin c, o ++ beginR c) → pflush p = o → PS (pstep p c).1 ∧ (pstep p c).1.length ≤ p.length + 1 ∧ (p ++ [c]).drop (p.length + 1 - (pstep p c).1.length) = (pstep p c).1 ∧ Go.Proofs.Ytlpjehmanodhpaa.pall ((p ++ [c]).take (p.length + 1 - (pstep p c).1.length)) = (pstep p c).2 := fun o ho hp => by
    cases hk : firstOk c
    · exact hnil (o ++ beginR c) (by rw [ho]; unfold pbegin; rw [hk]; rfl)
    · have hb : pbegin c = [c] := by unfold pbegin; rw [hk]; rfl
      rw [ho, hb, begin_one hk]
      refine ⟨PS.one hk, by simp, ?_, ?_⟩
      · exact List.drop_left' (by simp)
      · rw [List.take_left' (by simp), h.pall, hp]
        simp
  have hfin : PS (pstep p c).1 ∧ (pstep p c).1.length ≤ p.length + 1 ∧ (p ++ [c]).drop (p.length + 1 - (pstep p c).1.length) = (pstep p c).1 ∧ Go.Proofs.Ytlpjehmanodhpaa.pall ((p ++ [c]).take (p.length + 1 - (pstep p c).1.length)) = (pstep p c).2 := by
    cases p with
    | nil => exact hfirst [] rfl rfl
    | cons a t =>
      by_cases hf : fits a t c = true
      · by_cases hn : (t.length : Int) + 2 = need a
        · exact hnil _ (show pstep (a :: t) c = ([], [val (a :: t ++ [c])]) by simp [pstep, hf, hn])
        · have hs : pstep (a :: t) c = (a :: t ++ [c], []) := by simp [pstep, hf, hn]
          rw [hs] at h1 ⊢
          refine ⟨h1, by simp, ?_, ?_⟩
          · simp
          · simp
            rfl
      · exact hfirst [65533] (by simp [pstep, hf]) rfl
  exact ⟨hfin.1, hw, hfin.2.1, hfin.2.2.1, hfin.2.2.2⟩
theorem C_fr {S : Nat → Prop} {k : IntKind} {w w1 : World} {A : Option Addr} {n : Nat} {xs : List Int} (h : (Kd.int k).C w A n xs) (hf : Fr S w w1) (hs : ∀ ad, A = some ad → 0 < n → ¬ S ad.block) : (Kd.int k).C w1 A n xs :=
  Kd.C_of_reads (d := (0 : Int)) (h1 := fun _ => rfl) (by
    obtain ⟨h1, h2, h3⟩ := Kd.reads_of_C (d := (0 : Int)) h
    refine ⟨h1, h2, fun hn => ?_⟩
    obtain ⟨ad, e, hc⟩ := h3 hn
    exact ⟨ad, e, fun j hj => cell_to (hc j hj) hf (by rw [add_block]; exact hs ad e hn)⟩)
theorem C_nil (k : IntKind) (w : World) (A : Option Addr) : (Kd.int k).C w A 0 [] :=
  Kd.C_of_reads (d := (0 : Int)) (h1 := fun _ => rfl) ⟨rfl, Nat.zero_le _, fun h => absurd h (Nat.lt_irrefl 0)⟩
/-- A byte in ground, of the reference. -/
def GTo (b base : Nat) (x : RL) (ts : List SqV) (c : Int) (w : World) (e : Ending) (w' : World) : Prop :=
  ∃ A' c', RTo b base x { x with p := (groundP x.p c).1, wA := A', wc := c' } (ts ++ (groundP x.p c).2) w e w' ∧ Kd.C (Kd.int .u8) w' A' (groundP x.p c).1.length (groundP x.p c).1 ∧ (groundP x.p c).1.length ≤ c' ∧ ∀ ad, A' = some ad → 0 < (groundP x.p c).1.length → w.heap.size ≤ ad.block
set_option maxHeartbeats 4000000 in
theorem rground_low (w : World) (b base : Nat) (x : RL) (ts : List SqV) (c : Int) (h : RP w b base x ts) (hb : base ≤ w.heap.size) (hl : x.p.length ≤ 3) (ht : ts.length ≤ 900) (hC : Kd.C (Kd.int .u8) w x.wA x.p.length x.p) (hcap : x.p.length ≤ x.wc) (hr : ∀ y ∈ x.p, 0 ≤ y ∧ y ≤ 255) (hps : PS x.p) (hc : c < 32 ∨ c = 127) :
    Calls Try.prog 16 #[.pointer (some ⟨b, 0, none⟩), .int .u8 c] w (GTo b base x ts c w) := by
  have hpl := pflush_len x.p
  have HF := rflush_any w b base x ts h hb (by omega) (by omega) hC hcap hr (by rw [hps.pall]; omega)
  rw [hps.pall] at HF
  have hlt := h.blk.lt
  have HF' := hid HF
  clear HF h hC
  have hg : groundP x.p c = ([], (pflush x.p).map prV ++ if c < 32 then [exV c] else []) := by unfold groundP; rw [if_pos hc]
  unfold GTo
  rw [hg]
  clear hg
  by_cases h32 : c < 32
  · rw [if_pos h32]
    have t1 : decide (c < 32) = true := decide_eq_true h32
    clear hc h32
    go_enter Try.func16, Try.ntmps16
    go_wp2_with fail
    refine HF'.out.mono ?_
    rintro e' w2 ⟨rfl, tv2, hp2, hf2, ho2⟩
    have hsz := hf2.size
    have HT := hid (rtell_any w2 b base _ _ (exV c) hp2 (Nat.le_trans hb hsz) (by rw [List.length_append, List.length_map]; omega))
    have HF2 := hid hf2
    have HO2 := hid ho2
    clear hp2 hf2 ho2
    go_wp2_with fail
    refine HT.out.mono ?_
    intro e' w3 h3
    obtain ⟨rfl, h4⟩ := RTo.trans (x1 := { x with p := [], wA := none, wc := 0 }) HF2.out HO2.out h3
    rw [List.append_assoc] at h4
    have H4 := hid h4
    clear h3 h4
    go_wp2
    refine bodyPost_ret (v := .tuple #[]) (results_none rfl _ _ _) rfl ?_
    exact ⟨none, 0, ⟨rfl, H4.out⟩, C_nil _ _ _, Nat.le_refl _, fun ad h _ => by cases h⟩
  · rw [if_neg h32, List.append_nil]
    have t1 : decide (c < 32) = false := decide_eq_false h32
    obtain rfl : c = 127 := by omega
    clear hc h32
    go_enter Try.func16, Try.ntmps16
    go_wp2_with fail
    refine HF'.out.mono ?_
    intro e' w2 h3
    obtain ⟨rfl, h4⟩ := h3
    have H4 := hid h4
    clear h4
    go_wp2
    refine bodyPost_ret (v := .tuple #[]) (results_none rfl _ _ _) rfl ?_
    exact ⟨none, 0, ⟨rfl, H4.out⟩, C_nil _ _ _, Nat.le_refl _, fun ad h _ => by cases h⟩
theorem add_add (ad : Addr) (i j : Nat) : (ad.add i).add j = ad.add (i + j) := by
  by_cases hi : i = 0
  · subst hi
    rw [Nat.zero_add]
    rfl
  · by_cases hj : j = 0
    · subst hj
      rfl
    · rw [add_pos ad hi, add_pos _ hj, add_pos ad (by omega)]
      simp only [Nat.add_assoc]
/-- The end of a row of numbers that is read, and its block. -/
theorem cut_tail {P : Program} {k : IntKind} (t e : TypeId) (z : Value) (bytes : Nat) (ht : P.underlying t = some (.slice e)) (hinfo : (P.info? e).map (fun i => (i.zero, i.size, i.bytes)) = some (some z, 1, bytes)) (ad : Addr) (c : Nat) (xs : List Int) (j : Nat) (hj : j ≤ xs.length) (hc : xs.length ≤ c) :
    ∃ ad' : Addr, ad'.block = ad.block ∧ (∀ W : World, (Instr.slice t (.slice (some ad) xs.length c) (some (.int .i64 j)) none none).run P W = .ok (.slice (some ad') (xs.length - j) (c - j)) W) ∧
      (∀ w : World, (Kd.int k).C w (some ad) xs.length xs → (Kd.int k).C w (some ad') (xs.length - j) (xs.drop j)) := by
  obtain ⟨i, hi, _, hsz, _⟩ := info_parts hinfo
  have he : P.elem t = e := by simp [Program.elem, ht]
  refine ⟨if c = j then ad else ad.add j, ?_, fun W => ?_, fun w h => ?_⟩
  · split
    · rfl
    · exact add_block _ _
  · rw [run_slice_l W t _ xs.length c (by rw [he]; exact ht) .i64 j (by omega) (by omega), he]
    simp only [sizeOf, typeInfo, Int.toNat_natCast]
    by_cases h : c = j <;> simp [hi, hsz, h, sliced, Result.andThen]
  · obtain ⟨h1, h2, h3⟩ := Kd.reads_of_C (d := (0 : Int)) h
    refine Kd.C_of_reads (d := (0 : Int)) (h1 := fun _ => rfl) ⟨List.length_drop, by omega, fun hn => ?_⟩
    rw [if_neg (by omega)]
    refine ⟨_, rfl, fun q hq => ?_⟩
    obtain ⟨ad2, e2, hcc⟩ := h3 (by omega)
    obtain rfl := Option.some.inj e2
    have h4 := hcc (j + q) (by omega)
    rw [add_add, h4]
    simp [List.getD_eq_getElem?_getD, List.getElem?_drop]
theorem cut_head {P : Program} {k : IntKind} (t e : TypeId) (z : Value) (bytes : Nat) (ht : P.underlying t = some (.slice e)) (hinfo : (P.info? e).map (fun i => (i.zero, i.size, i.bytes)) = some (some z, 1, bytes)) (A : Option Addr) (c : Nat) (xs : List Int) (j : Nat) (hm : j ≤ xs.length) (hc : xs.length ≤ c) :
    (∀ W : World, (Instr.slice t (.slice A xs.length c) none (some (.int .i64 j)) none).run P W = .ok (.slice A j c) W) ∧
      (∀ w : World, (Kd.int k).C w A xs.length xs → (Kd.int k).C w A j (xs.take j)) := by
  obtain ⟨i0, hi, _, hsz, _⟩ := info_parts hinfo
  have h := print_take_of (P := P) (Value.int k) 0 t e .i64 ht hi hsz A c xs j (by omega) (by omega) hc
  have hl : (xs.take (j : Int).toNat).length = j := by rw [List.length_take]; omega
  rw [hl] at h
  exact ⟨h.1, fun w h2 => Kd.C_of_reads (h1 := fun _ => rfl) (h.2.1 w (Kd.reads_of_C h2))⟩
/-- A row of numbers of the call's own that has some: its address. -/
theorem R_ptr {k : IntKind} {e : TypeId} {w : World} {base : Nat} {ok : Nat → Prop} {v : Value} {l : List Int} (h : Kd.R (Kd.int k) e w base ok v l) (h0 : 0 < l.length) : ∃ g c, v = .slice (some ⟨g, 0, none⟩) l.length c ∧ base ≤ g ∧ l.length ≤ c ∧ Kd.C (Kd.int k) w (some ⟨g, 0, none⟩) l.length l := by
  obtain ⟨A, c, rfl, hcc, hC⟩ := Kd.R_reads h
  obtain ⟨_, inner, hown, _⟩ := h
  rcases hown.2 with ⟨h1, h2⟩ | ⟨g, c', cur, h1, h2, _⟩
  · injection h1 with e1 e2 e3
    omega
  · injection h1 with e1 e2 e3
    subst e1
    exact ⟨g, c, rfl, h2, hcc, hC⟩
set_option maxHeartbeats 4000000 in
theorem rground_go (w : World) (b base : Nat) (x : RL) (ts : List SqV) (c : Int) (h : RP w b base x ts) (hb : base ≤ w.heap.size) (hl : x.p.length ≤ 3) (ht : ts.length ≤ 900) (hC : Kd.C (Kd.int .u8) w x.wA x.p.length x.p) (hcap : x.p.length ≤ x.wc) (hr : ∀ y ∈ x.p, 0 ≤ y ∧ y ≤ 255) (hps : PS x.p) (hc0 : 32 ≤ c) (hc1 : c ≤ 255) (hc : c ≠ 127) :
    Calls Try.prog 16 #[.pointer (some ⟨b, 0, none⟩), .int .u8 c] w (GTo b base x ts c w) := by
  obtain ⟨hp1, hp2, hp3, hp4, hp5⟩ := hps.cut c
  have hg : groundP x.p c = ((pstep x.p c).1, (pstep x.p c).2.map prV) := by unfold groundP; rw [if_neg (by omega)]
  have hpl := pstep_len x.p c
  unfold GTo
  rw [hg]
  clear hg
  have t1 : decide (c < 32) = false := decide_eq_false (by omega)
  have t2 : (c == 127) = false := by rw [beq_eq_false_iff_ne]; exact hc
  have c2 := h.blk.cell 2 rfl
  have hlt := h.blk.lt
  have HP := hid h
  have HC := hid hC
  have hrL : ∀ y ∈ x.p ++ [c], 0 ≤ y ∧ y ≤ 255 := fun y hy => by
    rcases List.mem_append.1 hy with h | h
    · exact hr y h
    · rw [List.mem_singleton.1 h]; omega
  have hLL : (x.p ++ [c]).length = x.p.length + 1 := by simp
  have hnil : Kd.R (Kd.int .u8) 5 (w.alloc (.cells #[] 5)) w.heap.size (fun _ => True) (.slice (some ⟨w.heap.size, 0, none⟩) 0 0) [] := lit_R .u8 5 rfl [] (Nat.le_refl _) (by simp)
  generalize pstep x.p c = s at *
  generalize hL : x.p ++ [c] = L at *
  have HL := hid hL
  have HRL := hid hrL
  obtain ⟨m, hm⟩ : ∃ m, m = s.1.length := ⟨_, rfl⟩
  rw [← hm] at hp2 hp3 hp4 hp5 ⊢
  obtain ⟨n, hn⟩ : ∃ n, n = x.p.length := ⟨_, rfl⟩
  rw [← hn] at hl hp3 hp4 hp5 hLL c2 hcap HC
  have HN := hid hn
  have H2 := hid hp2
  have H4 := hid hp4
  have H5 := hid hp5
  have HM := hid hm
  have HLL := hid hLL
  clear h hC hr hL hrL hp2 hp4 hp5 hps hp1 hm hn hLL
  go_enter Try.func16, Try.ntmps16
  go_wp2_with (first
    | (at_builtin; refine app_row (k := .u8) w.heap.size (s := .tmp 20) 22 5 1 Try.underlying22 info_u8 (by decide) rfl rfl (.slice (some ⟨w.heap.size, 0, none⟩) 0 0) [] x.p x.wA n x.wc rfl rfl hnil (Kd.C_alloc HC.out _) (by simp) (by simp; omega) ?_; intro v4 w4 hv4 hf4; have hF4 : Hid (Fr NoB w w4) := ((Fr.refl _ _).alloc _).ge hf4 (Nat.le_refl _); have hs4 := hF4.out.size)
    | (at_builtin; refine app_row (k := .u8) w.heap.size (s := .tmp 25) 22 5 1 Try.underlying22 info_u8 (by decide) rfl rfl v4 ([] ++ x.p) [c] (some ⟨w4.heap.size, 0, none⟩) 1 1 rfl rfl (Kd.R_alloc hv4 _) (lit_C .u8 5 w4 [c] (by simp)) (by rw [World.size_alloc]; omega) (by have := HN.out; simp; omega) ?_; intro v5 w5 hv5 hf5; have hF5 : Hid (Fr NoB w w5) := (hF4.out.alloc _).ge hf5 (Nat.le_refl _); have hs5 := hF5.out.size; rw [List.nil_append, HL.out] at hv5; obtain ⟨g, c5, rfl, hg5, hcc5, hC5⟩ := R_ptr hv5 (by have := HLL.out; omega); have HG5 := hid hg5; have HC5 := hid hC5)
    | fail)
  have hl5 : L.length ≤ 4 := by have := HLL.out; omega
  refine (refWaits_any w5 (some ⟨g, 0, none⟩) c5 L HC5.out hcc5 HRL.out (by omega)).mono ?_
  rintro e' w6 ⟨rfl, hf6⟩
  rw [H2.out]
  have hm5 : m ≤ L.length := by have := HLL.out; omega
  obtain ⟨q, hq⟩ : ∃ q, q = L.length - m := ⟨_, rfl⟩
  have hqi : (q : Int) = (L.length : Int) - (m : Int) := by omega
  obtain ⟨hcut1, hC1⟩ := cut_head (P := Try.prog) (k := .u8) 22 5 _ _ Try.underlying22 info_u8 (some ⟨g, 0, none⟩) c5 L q (by omega) hcc5
  obtain ⟨ad', had, hcut2, hC2⟩ := cut_tail (P := Try.prog) (k := .u8) 22 5 _ _ Try.underlying22 info_u8 ⟨g, 0, none⟩ c5 L q (by omega) hcc5
  rw [hqi] at hcut1 hcut2
  have HC6 := hid (Kd.C_below HC5.out hf6.below0)
  have HCT := hC1 w6 HC6.out
  have hTl : (L.take q).length = q := by rw [List.length_take]; omega
  have HF6 := hid (hF5.out.trans hf6)
  have hqe : q = n + 1 - m := by have := HLL.out; omega
  have hpT : pall (L.take q) = s.2 := by rw [hqe]; exact H5.out
  have hpD : L.drop q = s.1 := by rw [hqe]; exact H4.out
  have hRT : ∀ y ∈ L.take q, 0 ≤ y ∧ y ≤ 255 := fun y hy => HRL.out y (List.mem_of_mem_take hy)
  have HRU := rrunes_any w6 b base x ts (some ⟨g, 0, none⟩) c5 (L.take q) (HP.out.fr HF6.out (fun h => h) (fun _ _ h => h)) (Nat.le_trans hb HF6.out.size) (by rw [hTl]; omega) (by omega) (by rw [hTl]; exact HCT) (by rw [hTl]; omega) hRT (by rw [hpT]; omega)
  rw [hTl, hpT] at HRU
  have hml : L.length - q = m := by omega
  rw [hml, hpD] at hC2
  rw [hml] at hcut2
  have HRU' := hid HRU
  have HC2 := hid hC2
  have hmc : Hid (m ≤ c5 - q) := hid (by omega)
  have HGg : Hid (g ≠ b ∧ ¬ OwnB x.tv g ∧ g < w6.heap.size) := by
    have hlg : g < w6.heap.size := by
      obtain ⟨ad2, e2, hc2⟩ := C_at HC6.out 0 (by have := HLL.out; omega)
      have := cell_lt hc2
      rw [add_block] at this
      obtain rfl := Option.some.inj e2
      exact this
    refine ⟨?_, fun hk => ?_, hlg⟩
    · have := HG5.out; omega
    · have := (Row.lt HP.out.row _ hk).2
      have := HG5.out
      omega
  obtain ⟨z5, hz5⟩ : ∃ z, z = c5 - q := ⟨_, rfl⟩
  rw [← hz5] at hcut2 hmc
  clear HRU hC2 hC1 HCT hRT hpT hpD hTl hqe hml hC5 hf6 hz5
  go_wp2_with fail
  rw [← hq]
  refine HRU'.out.mono ?_
  rintro e' w7 ⟨rfl, tv7, hp7, hf7, ho7⟩
  have d2 := hp7.blk.cell 2 rfl
  have g2 := hp7.blk.frozen 2
  have dlt := hp7.blk.lt
  have hsl : s.1.length = m := HM.out.symm
  have HPW := hid (hp7.setW s.1 (some ad') z5)
  rw [hsl] at HPW
  have HF7 := hid hf7
  have HO7 := hid ho7
  have HNE := hid hp7.ne
  have HAD := hid had
  clear hp7 hf7 ho7 had hsl
  go_wp2
  go_end0
  have hCw : Kd.C (Kd.int .u8) w7 (some ad') m s.1 := HC2.out w7 (C_fr HC6.out HF7.out (fun ad e _ h => by
    obtain rfl := Option.some.inj e
    rcases h with h | h
    · exact HGg.out.1 h
    · exact HGg.out.2.1 h))
  refine ⟨some ad', z5, ⟨rfl, tv7, HPW.out, ?_, fun k hk => ?_⟩, ?_, hmc.out, fun ad e _ => ?_⟩
  · exact ((HF6.out.mono (fun _ h => h.elim)).trans HF7.out).setCell (p := ⟨b, 2, none⟩) (.inl (.inl rfl)) _
  · exact (HO7.out k hk).imp id (fun h => Nat.le_trans HF6.out.size h)
  · exact C_fr hCw ((Fr.refl (At b) w7).setAt 2 _) (fun ad e _ h => by
      obtain rfl := Option.some.inj e
      exact HGg.out.1 (by rw [← show ad'.block = g from HAD.out]; exact h))
  · obtain rfl := Option.some.inj e
    rw [show ad'.block = g from HAD.out]
    exact HG5.out
end Go.Proofs.Ytlpjehmanodhpaa
set_option linter.unusedSimpArgs false
set_option linter.unusedVariables false
namespace Go.Proofs.Ytlpjehmanodhpaa
open Go.RowKit Go.Proofs.YtlpjehmanodhpaaW.PrintWords
/-- What the reference's parser in memory reads as. -/
structure RAbs (x : RL) (a : Ab) : Prop where
  p : x.p = a.p
  st : x.st = a.st
  by_ : x.by_ = a.by_
  kind : x.q.kind = 0
  r : x.q.r = 0
  priv : x.q.priv = a.priv
  inter : x.q.inter = a.inter
  final : x.q.final = 0
  text : x.q.text = a.text
  bad : x.bad = a.bad
structure RF (w : World) (b base : Nat) (x : RL) (ts : List SqV) (a : Ab) : Prop where
  rp : RP w b base x ts
  vp : VP w x.q a.params
  ab : RAbs x a
  cw : Kd.C (Kd.int .u8) w x.wA x.p.length x.p
  cap : x.p.length ≤ x.wc
  far : ∀ ad, x.wA = some ad → 0 < x.p.length → ad.block ≠ b
/-- Blocks that the reference's parser reads: of the bytes that wait, of parameters, of what is told. -/
def RB (x : RL) (k : Nat) : Prop := OwnB x.q.pv k ∨ OwnB x.tv k ∨ (0 < x.p.length ∧ ∃ ad, x.wA = some ad ∧ ad.block = k)
def ROut (b base : Nat) (x : RL) (ts : List SqV) (o : Ab × List Sq) (w : World) (e : Ending) (w' : World) : Prop :=
  e = .returned (.tuple #[]) ∧ ∃ (x' : RL) (ss : List SqV), RF w' b base x' (ts ++ ss) o.1 ∧ Fa2 (TellOk w') ss o.2 ∧ Fr (PW b x.tv) w w' ∧ (∀ k, RB x' k → RB x k ∨ w.heap.size ≤ k) ∧
    (∀ s ∈ ss, ∀ k, OwnB s.pv k → RB x k ∨ w.heap.size ≤ k) ∧ ∀ k, OwnB x'.tv k → OwnB x.tv k ∨ w.heap.size ≤ k
theorem VP.congr {w : World} {q q' : SqV} {ps : List Int} (h : VP w q ps) (e : q'.pv = q.pv) : VP w q' ps := by
  unfold SqV.pv at e
  injection e with e1 e2 e3
  rcases h with ⟨h1, h2, h3, h4⟩ | ⟨g, rest, h1, h2, h3, h4, h5⟩
  · exact .inl ⟨e1.trans h1, e2.trans h2, e3.trans h3, h4⟩
  · exact .inr ⟨g, rest, e1.trans h1, e2.trans h2, by rw [e3]; exact h3, by rw [e3]; exact h4, by rw [e3]; exact h5⟩
theorem VP.nil' {w : World} {q : SqV} (e : q.pv = .slice none 0 0) : VP w q [] := by
  unfold SqV.pv at e
  injection e with e1 e2 e3
  exact .inl ⟨e1, e2, e3, rfl⟩
theorem own_none {v : Value} (e : v = .slice none 0 0) (k : Nat) : ¬ OwnB v k := fun h => by
  unfold OwnB at h
  rw [e] at h
  cases h
theorem RF.vp_to {w w1 : World} {b base : Nat} {x : RL} {ts : List SqV} {a : Ab} (h : RF w b base x ts a) (hf : Fr (PW b x.tv) w w1) : VP w1 x.q a.params :=
  h.vp.fr hf (fun k hk hp => by
    rcases hp with rfl | hp
    · exact h.vp.ne h.rp.blk (by decide) hk
    · exact h.vp.row_ne h.rp.row k hp hk)
/-- A told thing, out of a parser: its parameters are the parser's, or none. -/
def SqOk (x : RL) (a : Ab) (s : SqV) (t : Sq) : Prop := s.kind = t.kind ∧ s.r = t.r ∧ s.priv = t.priv ∧ s.inter = t.inter ∧ s.final = t.final ∧ s.text = t.text ∧ ((s.pv = .slice none 0 0 ∧ t.params = []) ∨ (s.pv = x.q.pv ∧ t.params = a.params))
theorem SqOk.of_NoPs {x : RL} {a : Ab} {s : SqV} {t : Sq} (h : NoPs s t) : SqOk x a s t := by
  obtain ⟨h1, h2, h3, h4, h5, h6, h7, h8, h9, h10⟩ := h
  exact ⟨h1, h2, h3, h4, h5, h6, .inl ⟨by unfold SqV.pv; rw [h7, h8, h9], h10⟩⟩
theorem Fa2.mem {α β : Type} {R : α → β → Prop} {l : List α} {m : List β} (h : Fa2 R l m) : ∀ s ∈ l, ∃ t, R s t := by
  induction h with
  | nil => intro s hs; cases hs
  | cons h _ ih =>
    intro s hs
    rcases List.mem_cons.1 hs with rfl | h5
    · exact ⟨_, h⟩
    · exact ih s h5
theorem ROut.of {b base : Nat} {x x' : RL} {ts ss : List SqV} {a : Ab} {o : Ab × List Sq} {w w' : World} {e : Ending} (hf : RF w b base x ts a) (h : RTo b base x x' (ts ++ ss) w e w') (hp : x'.p = [])
    (hq : (x'.q.pv = x.q.pv ∧ o.1.params = a.params) ∨ (x'.q.pv = .slice none 0 0 ∧ o.1.params = [])) (ha : RAbs x' o.1) (hs : Fa2 (SqOk x a) ss o.2) : ROut b base x ts o w e w' := by
  obtain ⟨he, tv', h1, h2, h3⟩ := h
  have hv := hf.vp_to h2
  refine ⟨he, { x' with tv := tv' }, ss, ⟨h1, ?_, ⟨ha.p, ha.st, ha.by_, ha.kind, ha.r, ha.priv, ha.inter, ha.final, ha.text, ha.bad⟩, ?_, ?_, ?_⟩, ?_, h2, ?_, ?_, h3⟩
  · rcases hq with ⟨q1, q2⟩ | ⟨q1, q2⟩
    · rw [q2]
      exact hv.congr q1
    · rw [q2]
      exact VP.nil' q1
  · show Kd.C (Kd.int .u8) w' x'.wA x'.p.length x'.p
    rw [hp]
    exact C_nil _ _ _
  · show x'.p.length ≤ _
    rw [hp]
    exact Nat.zero_le _
  · intro ad _ h0
    have h0' : 0 < x'.p.length := h0
    rw [hp] at h0'
    exact absurd h0' (Nat.lt_irrefl 0)
  · refine hs.imp fun s _ t h => ?_
    obtain ⟨y1, y2, y3, y4, y5, y6, y7⟩ := h
    refine ⟨y1, y2, y3, y4, y5, y6, ?_⟩
    rcases y7 with ⟨y7, y8⟩ | ⟨y7, y8⟩
    · rw [y8]; exact VP.nil' y7
    · rw [y8]; exact hv.congr y7
  · intro k hk
    rcases hk with hk | hk | ⟨hk, _⟩
    · have hk' : OwnB x'.q.pv k := hk
      rcases hq with ⟨q1, q2⟩ | ⟨q1, q2⟩
      · rw [q1] at hk'
        exact .inl (.inl hk')
      · exact absurd hk' (own_none q1 k)
    · exact (h3 k hk).imp (fun h => .inr (.inl h)) id
    · have h0' : 0 < x'.p.length := hk
      rw [hp] at h0'
      exact absurd h0' (Nat.lt_irrefl 0)
  · intro s hs' k hk
    obtain ⟨t, ht⟩ := hs.mem s hs'
    rcases ht.2.2.2.2.2.2 with ⟨y7, y8⟩ | ⟨y7, y8⟩
    · exact absurd hk (own_none y7 k)
    · rw [y7] at hk
      exact .inl (.inl hk)
theorem ROut.trans {w w1 w2 : World} {b base : Nat} {x x1 : RL} {ts : List SqV} {o : Ab × List Sq} {e : Ending} (hf : Fr (PW b x.tv) w w1) (ho : ∀ k, OwnB x1.tv k → OwnB x.tv k ∨ w.heap.size ≤ k) (hr : ∀ k, RB x1 k → RB x k ∨ w.heap.size ≤ k) (h : ROut b base x1 ts o w1 e w2) : ROut b base x ts o w e w2 := by
  obtain ⟨he, x', ss, h1, h2, h3, h4, h5, h6⟩ := h
  have hsz := hf.size
  refine ⟨he, x', ss, h1, h2, hf.then_ h3 (fun k hk => ?_), fun k hk => ?_, fun s hs k hk => ?_, fun k hk => ?_⟩
  · rcases hk with hk | hk
    · exact .inl (.inl hk)
    · exact (ho k hk).imp (fun h => .inr h) id
  · rcases h4 k hk with h | h
    · exact hr k h
    · exact .inr (Nat.le_trans hsz h)
  · rcases h5 s hs k hk with h | h
    · exact hr k h
    · exact .inr (Nat.le_trans hsz h)
  · rcases h6 k hk with h | h
    · exact ho k h
    · exact .inr (Nat.le_trans hsz h)
theorem RP.setBy {w : World} {b base : Nat} {x : RL} {ts : List SqV} (h : RP w b base x ts) (n : Int) : RP (w.setCell ⟨b, 1, none⟩ (.int .i64 n)) b base { x with by_ := n } ts :=
  ⟨h.blk.set 1 (.int .i64 n), h.row.fr ((Fr.refl (At b) w).setAt 1 _) (fun k hk he => h.ne (by have he' : k = b := he; subst he'; exact hk))⟩
theorem RF.setBy {w : World} {b base : Nat} {x : RL} {ts : List SqV} {a : Ab} (h : RF w b base x ts a) (hp : x.p = []) (n : Int) : RF (w.setCell ⟨b, 1, none⟩ (.int .i64 n)) b base { x with by_ := n } ts { a with by_ := n } :=
  ⟨h.rp.setBy n, h.vp_to (((Fr.refl (At b) w).setAt 1 _).mono (fun k hk => .inl hk)), ⟨h.ab.p, h.ab.st, rfl, h.ab.kind, h.ab.r, h.ab.priv, h.ab.inter, h.ab.final, h.ab.text, h.ab.bad⟩, by show Kd.C (Kd.int .u8) _ x.wA x.p.length x.p; rw [hp]; exact C_nil _ _ _, h.cap, h.far⟩
theorem RF.set4 {w : World} {b base : Nat} {x : RL} {ts : List SqV} {a : Ab} (h : RF w b base x ts a) (hp : x.p = []) (m : Nat) (hm : m ≤ a.params.length) : RF (w.setCell ⟨b, 7, none⟩ (.slice x.q.pA m x.q.pc)) b base { x with q := { x.q with pn := m } } ts { a with params := a.params.take m } :=
  ⟨⟨h.rp.blk.set 7 (.slice x.q.pA m x.q.pc), h.rp.row.fr ((Fr.refl (At b) w).setAt 7 _) (fun k hk he => h.rp.ne (by have he' : k = b := he; subst he'; exact hk))⟩, (h.vp_to (((Fr.refl (At b) w).setAt 7 _).mono (fun k hk => .inl hk))).take m hm, ⟨h.ab.p, h.ab.st, h.ab.by_, h.ab.kind, h.ab.r, h.ab.priv, h.ab.inter, h.ab.final, h.ab.text, h.ab.bad⟩, by show Kd.C (Kd.int .u8) _ x.wA x.p.length x.p; rw [hp]; exact C_nil _ _ _, h.cap, h.far⟩
theorem rinter_out {w w1 : World} {b base : Nat} {x : RL} {ts : List SqV} {a : Ab} {c : Int} {e : Ending} (h : RF w b base x ts a) (hp : x.p = []) (hi : a.inter.size ≤ 2) (he : RTo b base x (x.inter c) ts w e w1) : ROut b base x ts (stepA (a.inter_ c)) w e w1 := by
  have hin := h.ab.inter
  have hap : a.p = [] := by rw [← h.ab.p]; exact hp
  unfold RL.inter at he
  unfold Ab.inter_
  rw [hin] at he
  by_cases h2 : a.inter.size = 2
  · rw [if_pos (by omega)] at he
    rw [if_pos h2, stepA_bad rfl]
    exact ROut.of (ss := []) (x' := { x with bad := true }) h (by rw [List.append_nil]; exact he) hp (.inl ⟨rfl, rfl⟩) ⟨h.ab.p, h.ab.st, h.ab.by_, h.ab.kind, h.ab.r, h.ab.priv, h.ab.inter, h.ab.final, h.ab.text, rfl⟩ .nil
  · rw [if_neg (by omega)] at he
    rw [if_neg h2, stepA_ok rfl]
    exact ROut.of (ss := []) (x' := { x with q := { x.q with inter := a.inter ++ one c } }) h (by rw [List.append_nil]; exact he) hp (.inl ⟨rfl, rfl⟩) ⟨h.ab.p, h.ab.st, h.ab.by_, h.ab.kind, h.ab.r, h.ab.priv, rfl, h.ab.final, h.ab.text, h.ab.bad⟩ .nil
theorem rend_out {w w1 : World} {b base : Nat} {x : RL} {ts : List SqV} {a : Ab} {kind c : Int} {e : Ending} (h : RF w b base x ts a) (hp : x.p = []) (he : RTo b base x (x.to 0) (ts ++ if x.bad then [] else [{ x.q with kind := kind, final := c }]) w e w1) : ROut b base x ts (a.end_ kind c) w e w1 := by
  have hb := h.ab.bad
  have ht : x.q.text = a.text := h.ab.text
  unfold Ab.end_
  rw [hb] at he
  refine ROut.of h he hp (.inr ⟨rfl, rfl⟩) ⟨h.ab.p, rfl, rfl, rfl, rfl, rfl, rfl, rfl, rfl, rfl⟩ ?_
  cases a.bad
  · exact .cons ⟨rfl, h.ab.r, h.ab.priv, h.ab.inter, rfl, ht, .inr ⟨rfl, rfl⟩⟩ .nil
  · exact .nil
theorem own_len {A : Option Addr} {n m c k : Nat} (h : OwnB (.slice A n c) k) : OwnB (.slice A m c) k := by
  cases A
  · cases h
  · exact h
theorem at_pw {w : World} {b : Nat} {v : Value} {w1 : World} (h : Fr (At b) w w1) : Fr (PW b v) w w1 := h.mono (fun k hk => .inl hk)
set_option maxHeartbeats 4000000 in
theorem rctl_inter (w : World) (b base : Nat) (x : RL) (ts : List SqV) (a : Ab) (c : Int) (h : RF w b base x ts a) (hb : base ≤ w.heap.size) (ht : ts.length ≤ 900) (hp : x.p = []) (hi : a.inter.size ≤ 2) (hb0 : 0 ≤ x.by_) (hb2 : x.by_ ≤ 1000000) (hc0 : 32 ≤ c) (hc1 : c < 48) :
    Calls Try.prog 17 #[.pointer (some ⟨b, 0, none⟩), .int .u8 c] w (ROut b base x ts (stepA (Ab.inter_ { a with by_ := a.by_ + 1 } c)) w) := by
  have c1 := h.rp.blk.cell 1 rfl
  have f1 := h.rp.blk.frozen 1
  have hlt := h.rp.blk.lt
  have HF1 := hid (h.setBy hp (x.by_ + 1))
  have HFr : Hid (Fr (At b) w (w.setCell ⟨b, 1, none⟩ (.int .i64 (x.by_ + 1)))) := (Fr.refl (At b) w).setAt 1 _
  have hb1 : base ≤ (w.setCell ⟨b, 1, none⟩ (.int .i64 (x.by_ + 1))).heap.size := by rw [sz_setCell]; exact hb
  have t1 : decide (c < 48) = true := decide_eq_true hc1
  have HI := hid (rinter_any _ b base { x with by_ := x.by_ + 1 } ts c HF1.out.rp (by show x.q.inter.size ≤ 100; rw [h.ab.inter]; omega) (by omega) (by omega))
  have hby := h.ab.by_
  have HBY := hid hby
  clear h hby
  go_enter Try.func17, Try.ntmps17
  go_wp2_with fail
  refine HI.out.mono ?_
  intro e' w2 h2
  obtain rfl : e' = .returned (.tuple #[]) := h2.1
  have H2 : Hid (ROut b base x ts (stepA (Ab.inter_ { a with by_ := x.by_ + 1 } c)) w (.returned (.tuple #[])) w2) := ROut.trans (x1 := { x with by_ := x.by_ + 1 }) (at_pw HFr.out) (fun k hk => .inl hk) (fun k hk => .inl hk) (rinter_out HF1.out hp hi h2)
  rw [HBY.out] at H2
  clear h2
  go_wp2
  refine bodyPost_ret (v := .tuple #[]) (results_none rfl _ _ _) rfl ?_
  exact H2.out
set_option maxHeartbeats 4000000 in
theorem rctl_end (w : World) (b base : Nat) (x : RL) (ts : List SqV) (a : Ab) (c : Int) (h : RF w b base x ts a) (hb : base ≤ w.heap.size) (ht : ts.length ≤ 900) (hp : x.p = []) (hpl : a.params.length ≤ 17) (hb0 : 0 ≤ x.by_) (hb2 : x.by_ ≤ 1000000) (hc0 : 64 ≤ c) (hc1 : c < 127) :
    Calls Try.prog 17 #[.pointer (some ⟨b, 0, none⟩), .int .u8 c] w (ROut b base x ts (Ab.end_ { a with by_ := a.by_ + 1, params := a.params.take 16 } 4 c) w) := by
  have c1 := h.rp.blk.cell 1 rfl
  have f1 := h.rp.blk.frozen 1
  have hlt := h.rp.blk.lt
  have HF1 := hid (h.setBy hp (x.by_ + 1))
  have HFr : Hid (Fr (At b) w (w.setCell ⟨b, 1, none⟩ (.int .i64 (x.by_ + 1)))) := (Fr.refl (At b) w).setAt 1 _
  have hb1 : base ≤ (w.setCell ⟨b, 1, none⟩ (.int .i64 (x.by_ + 1))).heap.size := by rw [sz_setCell]; exact hb
  have t1 : decide (c < 48) = false := decide_eq_false (by omega)
  have t2 : decide (c ≥ 64) = true := decide_eq_true (by omega)
  have hby := h.ab.by_
  obtain ⟨n1, n2, n3⟩ := h.vp.cap
  have c7 := HF1.out.rp.blk.cell 7 rfl
  have f7 := HF1.out.rp.blk.frozen 7
  have hlt1 := HF1.out.rp.blk.lt
  have hn3 : x.q.pc ≤ 9223372036854775807 := n3
  have HBY := hid hby
  have HP := hid hp
  rw [← hby]
  by_cases h16 : 16 < a.params.length
  · have t3 : decide ((x.q.pn : Int) > 16) = true := decide_eq_true (by omega)
    have hcut := cutp x.q.pA x.q.pn x.q.pc 16 (by omega)
    have HF2 := hid (HF1.out.set4 hp 16 (by show 16 ≤ a.params.length; omega))
    have HFr2 : Hid (Fr (At b) w ((w.setCell ⟨b, 1, none⟩ (.int .i64 (x.by_ + 1))).setCell ⟨b, 7, none⟩ (.slice x.q.pA 16 x.q.pc))) := HFr.out.setAt 7 _
    have HE := hid (rend_any _ b base _ ts 4 c HF2.out.rp (by rw [sz_setCell]; exact hb1) (by omega))
    have h16c : 16 ≤ x.q.pc := by omega
    clear h hby n1 n2 n3 h16 hp
    go_enter Try.func17, Try.ntmps17
    go_wp2_with fail
    refine HE.out.mono ?_
    intro e' w2 h2
    obtain rfl : e' = .returned (.tuple #[]) := h2.1
    have H2 : Hid (ROut b base x ts (Ab.end_ { a with by_ := x.by_ + 1, params := a.params.take 16 } 4 c) w (.returned (.tuple #[])) w2) := ROut.trans (x1 := { x with by_ := x.by_ + 1, q := { x.q with pn := 16 } }) (at_pw HFr2.out) (fun k hk => .inl hk) (fun k hk => .inl (hk.imp own_len id)) (rend_out HF2.out HP.out h2)
    clear h2
    go_wp2
    refine bodyPost_ret (v := .tuple #[]) (results_none rfl _ _ _) rfl ?_
    exact H2.out
  · have t3 : decide ((x.q.pn : Int) > 16) = false := decide_eq_false (by omega)
    have HE := hid (rend_any _ b base _ ts 4 c HF1.out.rp hb1 (by omega))
    have htk : a.params.take 16 = a.params := List.take_of_length_le (by omega)
    rw [htk]
    clear h hby n1 n2 n3 h16 hp htk
    go_enter Try.func17, Try.ntmps17
    go_wp2_with fail
    refine HE.out.mono ?_
    intro e' w2 h2
    obtain rfl : e' = .returned (.tuple #[]) := h2.1
    have H2 : Hid (ROut b base x ts (Ab.end_ { a with by_ := x.by_ + 1 } 4 c) w (.returned (.tuple #[])) w2) := ROut.trans (x1 := { x with by_ := x.by_ + 1 }) (at_pw HFr.out) (fun k hk => .inl hk) (fun k hk => .inl hk) (rend_out HF1.out HP.out h2)
    clear h2
    go_wp2
    refine bodyPost_ret (v := .tuple #[]) (results_none rfl _ _ _) rfl ?_
    exact H2.out
end Go.Proofs.Ytlpjehmanodhpaa
set_option linter.unusedSimpArgs false
set_option linter.unusedVariables false
namespace Go.Proofs.Ytlpjehmanodhpaa
open Go.RowKit Go.Proofs.YtlpjehmanodhpaaW.PrintWords
theorem encs_iC (xs : List Int) : encs (Value.int .i64) xs = xs.flatMap iC := by
  induction xs with
  | nil => rfl
  | cons x xs ih => simpa [encs, iC] using ih
theorem row_of_R {e : Nat} {w : World} {base : Nat} {ok : Nat → Prop} {v : Value} {xs : List Int} (h : Kd.R (Kd.int .i64) e w base ok v xs) : Row iC 1 e w base v xs := by
  have h2 := Kd.own_of_R h
  rw [encs_iC] at h2
  exact h2
theorem VP.C {w : World} {q : SqV} {ps : List Int} (h : VP w q ps) : Kd.C (Kd.int .i64) w q.pA q.pn ps := by
  refine Kd.C_of_reads (d := (0 : Int)) (h1 := fun _ => rfl) ?_
  obtain ⟨n1, n2, n3⟩ := h.cap
  rw [n1]
  refine ⟨rfl, Nat.le_trans n2 n3, fun hn => ?_⟩
  obtain ⟨ad, e, _⟩ := h.pc 0 hn
  refine ⟨ad, e, fun j hj => ?_⟩
  obtain ⟨ad2, e2, hc⟩ := h.pc j hj
  rw [e] at e2
  obtain rfl := Option.some.inj e2
  rw [List.getD_eq_getElem?_getD, List.getElem?_eq_getElem hj]
  exact hc
theorem ROut.params {b base : Nat} {x : RL} {ts : List SqV} {a : Ab} {w w' : World} {n : Int} {ps : List Int} {g c' : Nat} {rest : List Value} (h : RF w b base x ts a) (hp : x.p = []) (hF : Fr (At b) w w')
    (hB : Blk w' b 36 (RL.cells { x with by_ := n, q := { x.q with pA := some ⟨g, 0, none⟩, pn := ps.length, pc := c' } })) (hV : Vec iC 1 w' g 3 ps rest c') (hcap : ps.length ≤ c') (hmx : c' ≤ maxLen) (hg : w.heap.size ≤ g) :
    ROut b base x ts ({ a with by_ := n, params := ps }, []) w (.returned (.tuple #[])) w' := by
  refine ⟨rfl, { x with by_ := n, q := { x.q with pA := some ⟨g, 0, none⟩, pn := ps.length, pc := c' } }, [], ⟨⟨hB, ?_⟩, .inr ⟨g, rest, rfl, rfl, hV, hcap, hmx⟩, ⟨h.ab.p, h.ab.st, rfl, h.ab.kind, h.ab.r, h.ab.priv, h.ab.inter, h.ab.final, h.ab.text, h.ab.bad⟩, ?_, h.cap, h.far⟩, .nil, at_pw hF, fun k hk => ?_, (fun s hs => by cases hs), fun k hk => .inl hk⟩
  · rw [List.append_nil]
    exact h.rp.row.fr hF (fun k hk he => h.rp.ne (by have he' : k = b := he; subst he'; exact hk))
  · show Kd.C (Kd.int .u8) _ x.wA x.p.length x.p
    rw [hp]
    exact C_nil _ _ _
  · rcases hk with hk | hk | hk
    · have hk' : some g = some k := hk
      have := Option.some.inj hk'
      exact .inr (by omega)
    · exact .inl (.inr (.inl hk))
    · exact .inl (.inr (.inr hk))
set_option maxHeartbeats 4000000 in
theorem rctl_bad (w : World) (b base : Nat) (x : RL) (ts : List SqV) (a : Ab) (c : Int) (h : RF w b base x ts a) (hb : base ≤ w.heap.size) (hp : x.p = []) (hb0 : 0 ≤ x.by_) (hb2 : x.by_ ≤ 1000000) (hc0 : 48 ≤ c) (hc1 : c < 64) (hbad : x.q.inter.size ≠ 0 ∨ (60 ≤ c ∧ x.by_ ≠ 0)) :
    Calls Try.prog 17 #[.pointer (some ⟨b, 0, none⟩), .int .u8 c] w (ROut b base x ts ({ a with by_ := a.by_ + 1, bad := true }, []) w) := by
  have c1 := h.rp.blk.cell 1 rfl
  have f1 := h.rp.blk.frozen 1
  have c6 := h.rp.blk.cell 6 rfl
  have c10 := h.rp.blk.cell 10 rfl
  have f10 := h.rp.blk.frozen 10
  have hlt := h.rp.blk.lt
  have t1 : decide (c < 48) = false := decide_eq_false (by omega)
  have t2 : decide (c ≥ 64) = false := decide_eq_false (by omega)
  have hF : Hid (Fr (At b) w ((w.setCell ⟨b, 1, none⟩ (.int .i64 (x.by_ + 1))).setCell ⟨b, 10, none⟩ (.bool true))) := ((Fr.refl (At b) w).setAt 1 _).setAt 10 _
  have H2 : Hid (ROut b base x ts ({ a with by_ := a.by_ + 1, bad := true }, []) w (.returned (.tuple #[])) ((w.setCell ⟨b, 1, none⟩ (.int .i64 (x.by_ + 1))).setCell ⟨b, 10, none⟩ (.bool true))) := by
    refine ROut.of (ss := []) (x' := { x with by_ := x.by_ + 1, bad := true }) h ⟨rfl, x.tv, ⟨(h.rp.blk.set 1 (.int .i64 (x.by_ + 1))).set 10 (.bool true), ?_⟩, at_pw hF.out, fun k hk => .inl hk⟩ hp (.inl ⟨rfl, rfl⟩) ⟨h.ab.p, h.ab.st, by show x.by_ + 1 = a.by_ + 1; rw [h.ab.by_], h.ab.kind, h.ab.r, h.ab.priv, h.ab.inter, h.ab.final, h.ab.text, rfl⟩ .nil
    rw [List.append_nil]
    exact h.rp.row.fr hF.out (fun k hk he => h.rp.ne (by have he' : k = b := he; subst he'; exact hk))
  by_cases hi : x.q.inter.size ≠ 0
  · have t3 : x.q.inter.toList.isEmpty = false := str_ne hi
    clear h hbad hi
    go_enter Try.func17, Try.ntmps17
    go_wp2
    refine bodyPost_ret (v := .tuple #[]) (results_none rfl _ _ _) rfl ?_
    exact H2.out
  · have t3 : x.q.inter.toList.isEmpty = true := str_em (by omega)
    have hb3 : 60 ≤ c ∧ x.by_ ≠ 0 := hbad.resolve_left hi
    have t4 : decide (c ≥ 60) = true := decide_eq_true (by omega)
    have t5 : (x.by_ == 0) = false := by rw [beq_eq_false_iff_ne]; exact hb3.2
    clear h hbad hi hb3
    go_enter Try.func17, Try.ntmps17
    go_wp2
    refine bodyPost_ret (v := .tuple #[]) (results_none rfl _ _ _) rfl ?_
    exact H2.out
set_option maxHeartbeats 4000000 in
theorem rctl_priv (w : World) (b base : Nat) (x : RL) (ts : List SqV) (a : Ab) (c : Int) (h : RF w b base x ts a) (hb : base ≤ w.heap.size) (hp : x.p = []) (hb0 : x.by_ = 0) (hc0 : 60 ≤ c) (hc1 : c < 64) (hi : x.q.inter.size = 0) :
    Calls Try.prog 17 #[.pointer (some ⟨b, 0, none⟩), .int .u8 c] w (ROut b base x ts ({ a with by_ := a.by_ + 1, priv := c }, []) w) := by
  have c1 := h.rp.blk.cell 1 rfl
  have f1 := h.rp.blk.frozen 1
  have c6 := h.rp.blk.cell 6 rfl
  have c5 := h.rp.blk.cell 5 rfl
  have f5 := h.rp.blk.frozen 5
  have hlt := h.rp.blk.lt
  have t1 : decide (c < 48) = false := decide_eq_false (by omega)
  have t2 : decide (c ≥ 64) = false := decide_eq_false (by omega)
  have t4 : decide (c ≥ 60) = true := decide_eq_true (by omega)
  have t3 : x.q.inter.toList.isEmpty = true := str_em hi
  have hF : Hid (Fr (At b) w ((w.setCell ⟨b, 1, none⟩ (.int .i64 1)).setCell ⟨b, 5, none⟩ (.int .u8 c))) := ((Fr.refl (At b) w).setAt 1 _).setAt 5 _
  have hab0 : a.by_ = 0 := by rw [← h.ab.by_]; exact hb0
  have H2 : Hid (ROut b base x ts ({ a with by_ := a.by_ + 1, priv := c }, []) w (.returned (.tuple #[])) ((w.setCell ⟨b, 1, none⟩ (.int .i64 1)).setCell ⟨b, 5, none⟩ (.int .u8 c))) := by
    refine ROut.of (ss := []) (x' := { x with by_ := 1, q := { x.q with priv := c } }) h ⟨rfl, x.tv, ⟨(h.rp.blk.set 1 (.int .i64 1)).set 5 (.int .u8 c), ?_⟩, at_pw hF.out, fun k hk => .inl hk⟩ hp (.inl ⟨rfl, rfl⟩) ⟨h.ab.p, h.ab.st, by show (1 : Int) = a.by_ + 1; omega, h.ab.kind, h.ab.r, rfl, h.ab.inter, h.ab.final, h.ab.text, h.ab.bad⟩ .nil
    rw [List.append_nil]
    exact h.rp.row.fr hF.out (fun k hk he => h.rp.ne (by have he' : k = b := he; subst he'; exact hk))
  rw [hb0] at c1
  clear h hi hab0 hb0
  go_enter Try.func17, Try.ntmps17
  go_wp2
  refine bodyPost_ret (v := .tuple #[]) (results_none rfl _ _ _) rfl ?_
  exact H2.out
end Go.Proofs.Ytlpjehmanodhpaa
set_option linter.unusedSimpArgs false
set_option linter.unusedVariables false
namespace Go.Proofs.Ytlpjehmanodhpaa
open Go.RowKit Go.Proofs.YtlpjehmanodhpaaW.PrintWords
theorem lit2 (w : World) : Row iC 1 3 ((w.alloc (.cells #[.int .i64 (-1)] 3)).alloc (.cells #[.int .i64 (-1)] 3)) w.heap.size (.slice (some ⟨w.heap.size, 0, none⟩) 1 1) [-1] ∧
    ∀ j u, ([(-1 : Int)].flatMap iC)[j]? = some u → ((w.alloc (.cells #[.int .i64 (-1)] 3)).alloc (.cells #[.int .i64 (-1)] 3)).cell? ((⟨w.heap.size + 1, 0, none⟩ : Addr).add j) = some u := by
  constructor
  · have h5 : Row iC 1 3 (w.alloc (.cells #[.int .i64 (-1)] 3)) w.heap.size (.slice (some ⟨w.heap.size, 0, none⟩) 1 1) [-1] := World.ownsRow_lit (base := w.heap.size) (e := 3) (size := 1) w #[.int .i64 (-1)] 1 (Nat.le_refl _) (by simp [maxLen]) (by simp)
    exact h5.fr ((Fr.refl NoB _).alloc _) (fun _ _ h => h)
  · intro j u hj
    have h5 := Blk.new (w.alloc (.cells #[.int .i64 (-1)] 3)) 3 [.int .i64 (-1)]
    rw [World.size_alloc] at h5
    exact h5.cells 0 [.int .i64 (-1)] (fun j v hj => by rwa [Nat.zero_add]) j u hj
set_option maxHeartbeats 4000000 in
theorem rctl_new (w : World) (b base : Nat) (x : RL) (ts : List SqV) (a : Ab) (c : Int) (h : RF w b base x ts a) (hb : base ≤ w.heap.size) (hp : x.p = []) (hb0 : 0 ≤ x.by_) (hb2 : x.by_ ≤ 1000000) (hc0 : 48 ≤ c) (hc1 : c < 60) (hi : x.q.inter.size = 0) (hps : a.params = []) :
    Calls Try.prog 17 #[.pointer (some ⟨b, 0, none⟩), .int .u8 c] w (ROut b base x ts ({ a with by_ := x.by_ + 1, params := paramP [] c }, []) w) := by
  have c1 := h.rp.blk.cell 1 rfl
  have f1 := h.rp.blk.frozen 1
  have c6 := h.rp.blk.cell 6 rfl
  have hlt := h.rp.blk.lt
  have t1 : decide (c < 48) = false := decide_eq_false (by omega)
  have t2 : decide (c ≥ 64) = false := decide_eq_false (by omega)
  have t4 : decide (c ≥ 60) = false := decide_eq_false (by omega)
  have t3 : x.q.inter.toList.isEmpty = true := str_em hi
  obtain ⟨w1, hw1⟩ : ∃ w1, w1 = w.setCell ⟨b, 1, none⟩ (.int .i64 (x.by_ + 1)) := ⟨_, rfl⟩
  have HF1 := hid (h.setBy hp (x.by_ + 1))
  have HFr : Hid (Fr (At b) w w1) := (hw1 ▸ (Fr.refl (At b) w).setAt 1 _)
  rw [← hw1] at HF1
  have hs1 : w1.heap.size = w.heap.size := by rw [hw1, sz_setCell]
  have c7 := HF1.out.rp.blk.cell 7 rfl
  have hlt1 : b < w1.heap.size := by omega
  have hnil : Kd.R (Kd.int .i64) 3 (w1.alloc (.cells #[] 3)) w.heap.size (fun _ => True) (.slice (some ⟨w.heap.size, 0, none⟩) 0 0) [] := lit_R .i64 3 hs1 [] (Nat.le_refl _) (by simp)
  have hC0 : Kd.C (Kd.int .i64) w1 x.q.pA x.q.pn a.params := HF1.out.vp.C
  have HC0 := hid hC0
  have HH := hid h
  have hpn : x.q.pn = 0 := by have := h.vp.cap.1; rw [hps] at this; exact this
  rw [hps, hpn] at HC0
  rw [hpn] at c7
  have HC1 := hid (Kd.C_alloc HC0.out (.cells #[] 3))
  have HFa : Hid (Fr (At b) w (w1.alloc (.cells #[] 3))) := HFr.out.alloc _
  have HBa := hid (HF1.out.rp.blk.alloc (.cells #[] 3))
  have HB : Hid (w.heap.size ≤ (w1.alloc (.cells #[] 3)).heap.size) := HFa.out.size
  clear h hC0 hps hpn hi HC0
  subst hw1
  by_cases h57 : c ≤ 57
  · have t6 : decide (c ≥ 58) = false := decide_eq_false (by omega)
    have hpp : paramP [] c = [c - 48] := by
      unfold paramP stepNum
      rw [if_pos rfl]
      dsimp only
      rw [if_pos h57]
      simp
      omega
    have HPP := hid hpp
    clear hpp
    go_enter Try.func17, Try.ntmps17
    go_wp2_with (first
      | (at_builtin; refine app_row (k := .i64) w.heap.size (s := .tmp 70) 28 3 8 Try.underlying28 infoInt (by decide) rfl rfl (.slice (some ⟨w.heap.size, 0, none⟩) 0 0) [] [] x.q.pA 0 x.q.pc rfl rfl hnil HC1.out HB.out (by simp) ?_; intro v4 w4 hv4 hf4; have hF4 : Hid (Fr (At b) w w4) := HFa.out.ge hf4 (Nat.le_refl _); have hB4 := hid (HBa.out.fr hf4 (fun h => by have h' : w.heap.size ≤ b := h; omega)); obtain ⟨A4, c4, rfl, _, _⟩ := Kd.R_reads hv4; have d7 := hB4.out.cell 7 rfl; have g7 := hB4.out.frozen 7; have dlt := hB4.out.lt)
      | fail)
    go_end0
    rw [HPP.out, show min (max 0 (-1) * 10 + c - 48) 9999 = c - 48 by omega]
    have hsz4 := hF4.out.size
    refine ROut.params (g := w4.heap.size) (c' := 1) (rest := []) HH.out hp ((hF4.out.setAt 7 _).alloc _) ((hB4.out.set 7 _).alloc _) ⟨?_, rfl⟩ (by simp) (by simp [maxLen]) hsz4
    have h5 := Blk.new (w4.setCell ⟨b, 7, none⟩ (.slice (some ⟨w4.heap.size, 0, none⟩) 1 1)) 3 [.int .i64 (c - 48)]
    rw [sz_setCell] at h5
    exact h5
  · have t6 : decide (c ≥ 58) = true := decide_eq_true (by omega)
    have hpp : paramP [] c = [-1, -1] := by unfold paramP; rw [if_neg h57]; rfl
    have HPP := hid hpp
    have HM : Hid ([(-1 : Int)].length = 1) := rfl
    clear hpp
    go_enter Try.func17, Try.ntmps17
    go_wp2_with (first
      | (at_builtin; refine app_row (k := .i64) w.heap.size (s := .tmp 70) 28 3 8 Try.underlying28 infoInt (by decide) rfl rfl (.slice (some ⟨w.heap.size, 0, none⟩) 0 0) [] [] x.q.pA 0 x.q.pc rfl rfl hnil HC1.out HB.out (by simp) ?_; intro v4 w4 hv4 hf4; have hF4 : Hid (Fr (At b) w w4) := HFa.out.ge hf4 (Nat.le_refl _); have hB4 := hid (HBa.out.fr hf4 (fun h => by have h' : w.heap.size ≤ b := h; omega)); obtain ⟨A4, c4, rfl, _, _⟩ := Kd.R_reads hv4; have HL := hid (lit2 w4); have HFb := hid (((Fr.refl NoB w4).alloc (.cells #[.int .i64 (-1)] 3)).alloc (.cells #[.int .i64 (-1)] 3)))
      | (at_builtin; refine row_apps (f := iC) iC_len iC_one w4.heap.size rfl (.tmp 86) (.tmp 87) 28 3 (.int .i64 0) 8 rfl Try.underlying28 infoInt rfl (by omega) (by omega) (.slice (some ⟨w4.heap.size, 0, none⟩) 1 1) [-1] [-1] ⟨w4.heap.size + 1, 0, none⟩ 1 1 rfl rfl HM HL.out.2 HL.out.1 HFb.out.size (by simp) ?_; intro v6 w6 hr6 hf6 hat6; have hB6 := hid ((hB4.out.fr HFb.out (fun h => h)).fr hf6 (fun h => by have h' : some w4.heap.size = some b := h; have := Option.some.inj h'; have := hF4.out.size; omega)); have d7 := hB6.out.cell 7 rfl; have g7 := hB6.out.frozen 7; have dlt := hB6.out.lt; obtain ⟨g6, c6, rest6, rfl, hV6, hg6, hcap6, hmx6⟩ := Vec.of_row hr6 (by simp))
      | fail)
    go_end0
    rw [HPP.out]
    have hsz4 := hF4.out.size
    have hF6 : Fr (At b) w w6 := (hF4.out.then_ (HFb.out.then_ hf6 (fun k hk => .inr (by have hk' : some w4.heap.size = some k := hk; exact Nat.le_of_eq (Option.some.inj hk')))) (fun k hk => hk.elim))
    have hgb : g6 ≠ b := by omega
    exact ROut.params (g := g6) HH.out hp (hF6.setAt 7 _) (hB6.out.set 7 _) (hV6.fr ((Fr.refl (At b) w6).setAt 7 _) (show ¬ At b g6 from hgb)) hcap6 hmx6 (by omega)
set_option maxHeartbeats 8000000 in
theorem rctl_more (w : World) (b base : Nat) (x : RL) (ts : List SqV) (a : Ab) (c : Int) (n : Nat) (h : RF w b base x ts a) (hb : base ≤ w.heap.size) (hp : x.p = []) (hb0 : 0 ≤ x.by_) (hb2 : x.by_ ≤ 1000000) (hc0 : 48 ≤ c) (hc1 : c < 60) (hi : x.q.inter.size = 0) (hn : a.params.length = n + 1) (hn16 : n ≤ 16) (hr : ∀ q ∈ a.params, -1 ≤ q ∧ q ≤ 9999) :
    Calls Try.prog 17 #[.pointer (some ⟨b, 0, none⟩), .int .u8 c] w (ROut b base x ts ({ a with by_ := x.by_ + 1, params := paramP a.params c }, []) w) := by
  have c1 := h.rp.blk.cell 1 rfl
  have f1 := h.rp.blk.frozen 1
  have c6 := h.rp.blk.cell 6 rfl
  have hlt := h.rp.blk.lt
  have t1 : decide (c < 48) = false := decide_eq_false (by omega)
  have t2 : decide (c ≥ 64) = false := decide_eq_false (by omega)
  have t4 : decide (c ≥ 60) = false := decide_eq_false (by omega)
  have t3 : x.q.inter.toList.isEmpty = true := str_em hi
  obtain ⟨w1, hw1⟩ : ∃ w1, w1 = w.setCell ⟨b, 1, none⟩ (.int .i64 (x.by_ + 1)) := ⟨_, rfl⟩
  have HF1 := hid (h.setBy hp (x.by_ + 1))
  have HFr : Hid (Fr (At b) w w1) := (hw1 ▸ (Fr.refl (At b) w).setAt 1 _)
  rw [← hw1] at HF1
  have hs1 : w1.heap.size = w.heap.size := by rw [hw1, sz_setCell]
  have c7 := HF1.out.rp.blk.cell 7 rfl
  have hlt1 : b < w1.heap.size := by omega
  have hnil : Kd.R (Kd.int .i64) 3 (w1.alloc (.cells #[] 3)) w.heap.size (fun _ => True) (.slice (some ⟨w.heap.size, 0, none⟩) 0 0) [] := lit_R .i64 3 hs1 [] (Nat.le_refl _) (by simp)
  have hC0 : Kd.C (Kd.int .i64) w1 x.q.pA x.q.pn a.params := HF1.out.vp.C
  have HC0 := hid hC0
  have HH := hid h
  have hpn : x.q.pn = n + 1 := by rw [h.vp.cap.1, hn]
  have hne0 : a.params ≠ [] := fun e => by rw [e] at hn; simp at hn
  generalize a.params = ps at *
  rw [hpn] at HC0
  rw [hpn] at c7
  have HN := hid hn
  have HNE := hid hne0
  have HR := hid hr
  have HC1 := hid (Kd.C_alloc HC0.out (.cells #[] 3))
  have HFa : Hid (Fr (At b) w (w1.alloc (.cells #[] 3))) := HFr.out.alloc _
  have HBa := hid (HF1.out.rp.blk.alloc (.cells #[] 3))
  have HB : Hid (w.heap.size ≤ (w1.alloc (.cells #[] 3)).heap.size) := HFa.out.size
  have hl8 : Hid (([] : List Int).length + (n + 1) ≤ 17) := hid (by simp; omega)
  clear h hC0 hpn hi HC0 hn hne0 hr
  have hnp : Hid (n < ps.length) := hid (by have := HN.out; omega)
  subst hw1
  by_cases h57 : c ≤ 57
  · have t6 : decide (c ≥ 58) = false := decide_eq_false (by omega)
    have hpp : paramP ps c = stepNum ps c := by unfold paramP; rw [if_neg HNE.out, if_pos h57]
    have HPP := hid hpp
    have hrn := HR.out ps[n] (List.getElem_mem hnp.out)
    have hsn : stepNum ps c = ps.set n (min (max ps[n] 0 * 10 + (c - 48)) 9999) := by
      unfold stepNum
      rw [HN.out, Nat.add_sub_cancel, List.getD_eq_getElem?_getD, List.getElem?_eq_getElem hnp.out]
      rfl
    have HSN := hid hsn
    obtain ⟨q, hq⟩ : ∃ q, q = ps[n] := ⟨_, rfl⟩
    rw [← hq] at hrn HSN
    obtain ⟨hq1, hq2⟩ := hrn
    have HQ := hid hq
    clear hpp hsn hq
    go_enter Try.func17, Try.ntmps17
    go_wp2_with (first
      | (at_builtin; go_loud (refine app_row (k := .i64) w.heap.size (s := .tmp 70) 28 3 8 Try.underlying28 infoInt (by decide) rfl rfl (.slice (some ⟨w.heap.size, 0, none⟩) 0 0) [] ps x.q.pA (n + 1) x.q.pc rfl rfl hnil HC1.out HB.out (by have := hl8.out; omega) ?_; intro v4 w4 hv4 hf4; have hF4 : Hid (Fr (At b) w w4) := HFa.out.ge hf4 (Nat.le_refl _); have hB4 := hid (HBa.out.fr hf4 (fun h => by have h' : w.heap.size ≤ b := h; omega)); have d7 := hB4.out.cell 7 rfl; have g7 := hB4.out.frozen 7; have dlt := hB4.out.lt; rw [List.nil_append] at hv4; obtain ⟨g, c4, rest4, rfl, hV4, hg4, hcap4, hmx4⟩ := Vec.of_row (row_of_R hv4) (by have := HN.out; omega); have HCP := hid hcap4; have HMX := hid hmx4; have HV4 := hid hV4; clear hv4 hcap4 hmx4 hV4; rw [HN.out]; have v0 := HV4.out.cell (u := .int .i64 q) iC_len n hnp.out 0 (by omega) (by rw [show q = _ from HQ.out]; rfl); have vf := HV4.out.blk.frozen n; have glt := HV4.out.blk.lt; rw [Nat.mul_one, Nat.add_zero] at v0))
      | fail)
    go_end0
    rw [HPP.out, HSN.out, show max 0 q * 10 + c - 48 = max q 0 * 10 + (c - 48) by omega, ← HN.out]
    have hgb : g ≠ b := by omega
    have hl : (ps.set n (min (max q 0 * 10 + (c - 48)) 9999)).length = ps.length := List.length_set
    have hB5 := ((hB4.out.other (p := ⟨g, n, none⟩) (fun e => hgb e.symm) (.int .i64 (min (max q 0 * 10 + (c - 48)) 9999))).set 7 (.slice (some ⟨g, 0, none⟩) ps.length c4))
    refine ROut.params (g := g) (c' := c4) (rest := rest4) HH.out hp ((hF4.out.setCell (p := ⟨g, n, none⟩) (.inr hg4) _).setAt 7 _) (by rw [hl]; exact hB5) ((iVec_set HV4.out n hnp.out _).fr ((Fr.refl (At b) _).setAt 7 _) (show ¬ At b g from hgb)) (by rw [hl]; exact HCP.out) HMX.out hg4
  · have t6 : decide (c ≥ 58) = true := decide_eq_true (by omega)
    by_cases hlen : n < 16
    · have t7 : decide ((n : Int) + 1 ≤ 16) = true := decide_eq_true (by omega)
      have hpp : paramP ps c = ps ++ [-1] := by unfold paramP; rw [if_neg HNE.out, if_neg h57, if_pos (by have := HN.out; omega)]
      have HPP := hid hpp
      clear hpp
      have HM : Hid ((-1 : Int) = -1) := rfl
      have HL8 : Hid ((ps.length + 1) * 8 ≤ 140737488355328) := hid (by have := HN.out; omega)
      go_enter Try.func17, Try.ntmps17
      go_wp2_with (first
        | (at_builtin; refine app_row (k := .i64) w.heap.size (s := .tmp 70) 28 3 8 Try.underlying28 infoInt (by decide) rfl rfl (.slice (some ⟨w.heap.size, 0, none⟩) 0 0) [] ps x.q.pA (n + 1) x.q.pc rfl rfl hnil HC1.out HB.out (by have := hl8.out; omega) ?_; intro v4 w4 hv4 hf4; have hF4 : Hid (Fr (At b) w w4) := HFa.out.ge hf4 (Nat.le_refl _); have hB4 := hid (HBa.out.fr hf4 (fun h => by have h' : w.heap.size ≤ b := h; omega)); have d7 := hB4.out.cell 7 rfl; have g7 := hB4.out.frozen 7; have dlt := hB4.out.lt; rw [List.nil_append] at hv4; obtain ⟨g, c4, rest4, rfl, hV4, hg4, hcap4, hmx4⟩ := Vec.of_row (row_of_R hv4) (by have := HN.out; omega); have HCP := hid hcap4; have HMX := hid hmx4; have HV4 := hid hV4; clear hv4 hcap4 hmx4 hV4; rw [HN.out]; have glt := HV4.out.blk.lt; have HRr := hid (Vec.row HV4.out iC_len hg4 HCP.out HMX.out); rw [HN.out] at HRr)
        | (at_builtin; go_loud (refine row_app (f := iC) iC_len iC_one w.heap.size rfl (.tmp 86) (.tmp 87) 28 3 (.int .i64 0) 8 rfl Try.underlying28 infoInt rfl (by omega) (by omega) (.slice (some ⟨g, 0, none⟩) (n + 1) c4) ps (-1) rfl rfl HRr.out hF4.out.size HL8.out ?_; intro v6 w6 hr6 hf6 hat6; have hB6 := hid (hB4.out.fr hf6 (fun h => by have h' : some g = some b := h; have := Option.some.inj h'; omega)); have d7 := hB6.out.cell 7 rfl; have g7 := hB6.out.frozen 7; have dlt := hB6.out.lt; obtain ⟨g6, c6', rest6, rfl, hV6, hg6, hcap6, hmx6⟩ := Vec.of_row hr6 (by simp)))
        | fail)
      go_end0
      rw [HPP.out]
      have hF6 : Fr (At b) w w6 := hF4.out.then_ hf6 (fun k hk => .inr (by have hk' : some g = some k := hk; have := Option.some.inj hk'; omega))
      have hgb : g6 ≠ b := by omega
      exact ROut.params (g := g6) HH.out hp (hF6.setAt 7 _) (by rw [List.length_append]; exact hB6.out.set 7 (.slice (some ⟨g6, 0, none⟩) (ps.length + 1) c6')) (hV6.fr ((Fr.refl (At b) w6).setAt 7 _) (show ¬ At b g6 from hgb)) hcap6 hmx6 hg6
    · have t7 : decide ((n : Int) + 1 ≤ 16) = false := decide_eq_false (by omega)
      have hpp : paramP ps c = ps := by unfold paramP; rw [if_neg HNE.out, if_neg h57, if_neg (by have := HN.out; omega)]
      have HPP := hid hpp
      clear hpp
      go_enter Try.func17, Try.ntmps17
      go_wp2_with (first
        | (at_builtin; refine app_row (k := .i64) w.heap.size (s := .tmp 70) 28 3 8 Try.underlying28 infoInt (by decide) rfl rfl (.slice (some ⟨w.heap.size, 0, none⟩) 0 0) [] ps x.q.pA (n + 1) x.q.pc rfl rfl hnil HC1.out HB.out (by have := hl8.out; omega) ?_; intro v4 w4 hv4 hf4; have hF4 : Hid (Fr (At b) w w4) := HFa.out.ge hf4 (Nat.le_refl _); have hB4 := hid (HBa.out.fr hf4 (fun h => by have h' : w.heap.size ≤ b := h; omega)); have d7 := hB4.out.cell 7 rfl; have g7 := hB4.out.frozen 7; have dlt := hB4.out.lt; rw [List.nil_append] at hv4; obtain ⟨g, c4, rest4, rfl, hV4, hg4, hcap4, hmx4⟩ := Vec.of_row (row_of_R hv4) (by have := HN.out; omega); have HCP := hid hcap4; have HMX := hid hmx4; have HV4 := hid hV4; clear hv4 hcap4 hmx4 hV4; rw [HN.out]; have glt := HV4.out.blk.lt)
        | fail)
      go_end0
      rw [HPP.out, ← HN.out]
      have hgb : g ≠ b := by omega
      exact ROut.params (g := g) HH.out hp (hF4.out.setAt 7 _) (hB4.out.set 7 _) (HV4.out.fr ((Fr.refl (At b) w4).setAt 7 _) (show ¬ At b g from hgb)) HCP.out HMX.out hg4
end Go.Proofs.Ytlpjehmanodhpaa
