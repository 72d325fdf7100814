import Derived.Test.YtgjgmaeickhhfaaL16
set_option linter.unusedSimpArgs false
set_option linter.unusedVariables false
namespace Go.Proofs.Ytgjgmaeickhhfaa
open Go.RowKit Go.Proofs.YtgjgmaeickhhfaaW.PrintWords
/-- What is done with a clock. -/
structure Ac where
  do_ : Int
  env : Int
  id : Int
  ticks : Int
def Ac.cells (a : Ac) : List Value := [.int .i64 a.do_, .int .i64 a.env, .int .i64 a.id, .int .i64 a.ticks]
theorem Ac.cells_len (a : Ac) : a.cells.length = 4 := rfl
/-- Acts that are read. -/
def AV (w : World) (A : Option Addr) (l : List Ac) : Prop := ∀ k (hk : k < l.length), ∃ ad : Addr, A = some ad ∧ ad.block < w.heap.size ∧ ∀ j v, (l[k].cells)[j]? = some v → w.cell? (ad.add (k * 4 + j)) = some v
theorem add_block (a : Addr) (i : Nat) : (a.add i).block = a.block := by unfold Addr.add; split <;> rfl
theorem AV.cells {w w1 : World} {A : Option Addr} {l : List Ac} (h : AV w A l) (hf : Fr NoB w w1) (k : Nat) (hk : k < l.length) : ∃ ad : Addr, A = some ad ∧ w1.cell? (ad.add (k * 4)) = some (.int .i64 l[k].do_) ∧ w1.cell? ⟨(ad.add (k * 4)).block, (ad.add (k * 4)).off + 1, none⟩ = some (.int .i64 l[k].env) ∧ w1.cell? ⟨(ad.add (k * 4)).block, (ad.add (k * 4)).off + 2, none⟩ = some (.int .i64 l[k].id) ∧ w1.cell? ⟨(ad.add (k * 4)).block, (ad.add (k * 4)).off + 3, none⟩ = some (.int .i64 l[k].ticks) := by
  obtain ⟨ad, hA, hg, hc⟩ := h k hk
  have hm : ∀ j v, (l[k].cells)[j]? = some v → w1.cell? (ad.add (k * 4 + j)) = some v := fun j v hj => (World.cell?_of_block (by rw [add_block]; exact hf.block ad.block hg (fun h => h))).trans (hc j v hj)
  refine ⟨ad, hA, hm 0 _ rfl, ?_, ?_, ?_⟩
  · have := hm 1 _ rfl
    rwa [← Addr.add_add] at this
  · have := hm 2 _ rfl
    rwa [← Addr.add_add] at this
  · have := hm 3 _ rfl
    rwa [← Addr.add_add] at this
theorem PS.frNo {w0 w : World} {b : Nat} {now : Int} {ks : List Tm} {D : Nat → Prop} (h : PS w0 w b now ks D) : Fr NoB w0 w := by
  obtain ⟨v, _, _, h3, _⟩ := h
  exact h3
theorem XV.take {w : World} {A : Option Addr} {c : Nat} {xs : List Tm} (h : XV w A c xs) (n : Nat) : XV w A c (xs.take n) := by
  refine ⟨Nat.le_trans (List.length_take_le' ..) h.cap, fun hA => by rw [h.nil hA]; simp, fun ad hA => ⟨(h.at_ ad hA).1, fun j u hj => (h.at_ ad hA).2 j u ?_⟩⟩
  have hl := (List.getElem?_eq_some_iff.1 hj).1
  conv => lhs; rw [← List.take_append_drop n xs, List.flatMap_append]
  rw [List.getElem?_append_left hl]
  exact hj
theorem xv_cut (A : Option Addr) (c n : Nat) (xs : List Tm) (hs : ∀ ad, A = some ad → ad.spot = none) (hn : n ≤ xs.length) :
    ∃ A', (∀ W, (Instr.slice 26 (.slice A xs.length c) (some (.int .i64 n)) none none).run Try.prog W = .ok (.slice A' (xs.drop n).length (c - n)) W) ∧ (∀ w, XV w A c xs → XV w A' (c - n) (xs.drop n)) ∧ ∀ k, DA A' k → DA A k := by
  refine ⟨if c = n then A else A.map (·.add (n * 3)), fun W => ?_, fun w h => ?_, fun k hk => ?_⟩
  · have he : Try.prog.elem 26 = 33 := by simp [Program.elem, Try.underlying26]
    rw [run_slice_l W 26 A xs.length c (by rw [he]; exact Try.underlying26) .i64 n (by omega) (by omega), he, sizeTm]
    simp [sliced, Result.andThen]
  · have hc := h.cap
    refine ⟨by rw [List.length_drop]; omega, fun hA => ?_, fun ad hA => ?_⟩
    · by_cases hcn : c = n
      · rw [List.drop_of_length_le (by omega)]
      · rw [if_neg hcn] at hA
        have : A = none := by cases A <;> simp_all
        rw [h.nil this]
        simp
    · by_cases hcn : c = n
      · rw [if_pos hcn] at hA
        refine ⟨(h.at_ ad hA).1, fun j u hj => ?_⟩
        rw [List.drop_of_length_le (by omega)] at hj
        simp at hj
      · rw [if_neg hcn] at hA
        obtain ⟨a0, h1, rfl⟩ := Option.map_eq_some_iff.1 hA
        obtain ⟨h2, h3⟩ := h.at_ a0 h1
        refine ⟨?_, fun j u hj => ?_⟩
        · unfold Addr.add
          split
          · exact h2
          · rfl
        · rw [Addr.add_add]
          refine h3 _ u ?_
          have := flat_drop Tm.cells_len xs [] n hn
          rw [List.append_nil, List.append_nil] at this
          rw [← List.getElem?_drop, this]
          exact hj
  · obtain ⟨ad, hA, rfl⟩ := hk
    by_cases hcn : c = n
    · rw [if_pos hcn] at hA
      exact ⟨ad, hA, rfl⟩
    · rw [if_neg hcn] at hA
      obtain ⟨a0, h1, rfl⟩ := Option.map_eq_some_iff.1 hA
      refine ⟨a0, h1, ?_⟩
      unfold Addr.add
      split <;> rfl
set_option maxRecDepth 100000 in
set_option maxHeartbeats 8000000 in
theorem plays_walk (A : Option Addr) (c : Nat) (l : List Ac) (w : World) (hV : AV w A l) (hlc : l.length ≤ c) :
    Calls Try.prog 6 #[.slice A l.length c] w fun e w' => e = .returned (.bool true) ∧ Below w.heap.size w w' := by
  have HV := hid hV
  clear hV
  by_cases hbig : l.length > 100
  · go_enter Try.func6, Try.ntmps6
    go_wp2_with fail
    refine (awake_any w).mono ?_
    rintro e' w8 ⟨rfl, hf⟩
    go_wp2
    go_ret
    exact ⟨rfl, hf.below0⟩
  have hl : l.length ≤ 100 := by omega
  have hb40 : decide ((l.length : Int) > 100) = false := by simp; omega
  clear hbig
  go_enter Try.func6, Try.ntmps6
  go_wp2_with fail
  refine (cNew w).mono ?_
  rintro e' w1 ⟨rfl, k1⟩
  have hp1 : PS w w1 w.heap.size 0 [] (DA none) := by
    obtain ⟨v, g1, g2, g3⟩ := k1
    exact ⟨v, g1, g2, g3, fun k hk => by obtain ⟨ad, h1, _⟩ := hk; cases h1⟩
  have HP1 := hid hp1
  clear hp1 k1
  go_wp2_with fail
  go_loopw [4, 5, 6, 7, 8, 9, 10, 11] (fun v4 v5 v6 _ _ _ _ _ wr => ∃ (k n : Nat) (xs : List Tm) (A4 : Option Addr) (c4 : Nat), k ≤ l.length ∧ n ≤ k ∧ v6 = .int .i64 k ∧ v5 = .int .i64 n ∧ v4 = .slice A4 xs.length c4 ∧ Hid (Good k xs) ∧ Hid (XV wr A4 c4 xs) ∧ Hid (PS w wr w.heap.size n xs (DA A4))) (fun _ _ v6 _ _ _ _ _ _ => l.length - (intOf v6).toNat)
  case atStart => exact ⟨0, 0, [], none, 0, by omega, by omega, rfl, rfl, rfl, Good.zero, XV.none_ _, HP1⟩
  case round =>
    obtain ⟨k, n, xs, A4, c4, hk, hn, rfl, rfl, rfl, HG, HX, HP⟩ := hrel
    by_cases hkl : k < l.length
    · obtain ⟨ad, rfl, a0, a1, a2, a3⟩ := HV.out.cells HP.out.frNo k hkl
      generalize l[k] = a at *
      have hadd := HP.out.add (w1 := wr.alloc (.cells #[.int .i64 a.do_, .int .i64 a.env, .int .i64 a.id, .int .i64 a.ticks] 40)) (E := fun j => j = wr.heap.size) ((Fr.refl NoB wr).alloc _) (fun j hj => by rw [World.size_alloc]; have : j = wr.heap.size := hj; omega)
      obtain ⟨hp0, hk0⟩ := hadd
      have hx0 := HX.out.keep (hk0.mono (E := DA A4) (fun _ h => h)) (fun _ h => h)
      have hb0 : Blk (wr.alloc (.cells #[.int .i64 a.do_, .int .i64 a.env, .int .i64 a.id, .int .i64 a.ticks] 40)) wr.heap.size 40 a.cells := Blk.new wr 40 a.cells
      have hbx : ∀ W, KD (fun j => DA A4 j ∨ j = wr.heap.size) (wr.alloc (.cells #[.int .i64 a.do_, .int .i64 a.env, .int .i64 a.id, .int .i64 a.ticks] 40)) W → W.cell? ⟨wr.heap.size, 0, none⟩ = some (.int .i64 a.do_) ∧ W.cell? ⟨wr.heap.size, 1, none⟩ = some (.int .i64 a.env) ∧ W.cell? ⟨wr.heap.size, 2, none⟩ = some (.int .i64 a.id) ∧ W.cell? ⟨wr.heap.size, 3, none⟩ = some (.int .i64 a.ticks) := fun W hW => by
        have hb : Blk W wr.heap.size 40 a.cells := (hW _ (.inr rfl)).trans hb0
        exact ⟨hb.cell 0 rfl, hb.cell 1 rfl, hb.cell 2 rfl, hb.cell 3 rfl⟩
      have HBX := hid hbx
      clear hbx
      have hlen := HG.out.len
      by_cases h0 : a.do_ = 0
      · have n0 : (a.do_ == 0) = true := by rw [beq_iff_eq]; exact h0
        have hse := refSet_eq HG.out (by omega) a.env a.id a.ticks
        have hset := pSet a.env a.id a.ticks hp0 (by omega) HG.out.sorted (by omega) (by omega)
        rw [hse] at hset
        have hrs := rSet_any (wr.alloc (.cells #[.int .i64 a.do_, .int .i64 a.env, .int .i64 a.id, .int .i64 a.ticks] 40)) a.env a.id a.ticks
        by_cases hq : refSet a.env a.id a.ticks = 0
        · obtain ⟨hi, hsl⟩ := setL_ok (now := n) hq hse
          have HG5 : Hid (Good (k + 1) (setL n xs a.env a.id a.ticks)) := HG.out.set _ _ _ _
          rw [hsl] at HG5 hset
          rw [hq] at hset hrs
          have htk : ¬ (a.ticks < 1 ∨ a.ticks > 1073741824) := fun ht => by
            unfold refSet at hq
            by_cases h8 : a.env < 0 ∨ a.id < 0
            · rw [if_pos h8] at hq; omega
            · rw [if_neg h8, if_pos ht] at hq; omega
          have hfl : (outT a.env a.id xs).length ≤ xs.length := List.length_filter_le _ _
          have hro := refOut_id (e := a.env) (xs := xs) hi
          have HRO := hid hro
          generalize hoL : outT a.env a.id xs = oL at *
          generalize hys : refPut ⟨a.env, a.id, (n : Int) + a.ticks⟩ oL = ys at *
          have HYS := hid hys
          have HS := hid hset
          have HR := hid hrs
          have HX4 := hid hx0
          have hsum : IntKind.i64.wrap ((n : Int) + a.ticks) = (n : Int) + a.ticks := IntWalk.i64_in _ (by omega)
          clear hset hrs hp0 hk0 hx0 hb0 h0 hq hse hsl hro hoL hys
          obtain ⟨z0, z1, z2, z3⟩ := HBX.out _ (KD.refl _ _)
          go_wp2_with fail
          refine HR.out.mono ?_
          rintro e' _ ⟨rfl, rfl⟩
          go_wp2_with fail
          refine HS.out.mono ?_
          rintro e' w2 ⟨rfl, hp2, hk2⟩
          have HP2 := hid hp2
          have HK2 := hid hk2
          have HX2 := hid (HX4.out.keep hk2 (fun _ h => .inl h))
          clear hp2 hk2 z0 z1 z2 z3
          have HPd : Hid (PS w w2.drew w.heap.size n ys (fun j => DA A4 j ∨ j = wr.heap.size)) := (HP2.out.noB (Fr.refl NoB w2).drew).1
          have HSv : Hid (∀ W, KD (fun j => DA A4 j ∨ j = wr.heap.size) w2 W → PS w W w.heap.size n ys (fun j => DA A4 j ∨ j = wr.heap.size) → Hid (PS w W w.heap.size n ys (fun j => DA A4 j ∨ j = wr.heap.size)) ∧ W.cell? ⟨wr.heap.size, 1, none⟩ = some (.int .i64 a.env) ∧ W.cell? ⟨wr.heap.size, 2, none⟩ = some (.int .i64 a.id) ∧ W.cell? ⟨wr.heap.size, 3, none⟩ = some (.int .i64 a.ticks)) := fun W hW hp => ⟨hp, (HBX.out W (HK2.out.trans hW)).2⟩
          have hO := pOut a.env a.id HPd.out (HX2.out.keep (D := fun j => DA A4 j ∨ j = wr.heap.size) (w1 := w2.drew) (fun _ _ => rfl) (fun _ h => .inl h)) (by omega)
          rw [HRO.out] at hO
          have HO := hid hO
          have HPt : Hid (∀ w5 D5 A8 c8, PS w w5 w.heap.size n ys D5 → XV w5 A8 c8 oL → Calls Try.prog 16 #[.slice A8 oL.length c8, .agg #[.int .i64 a.env, .int .i64 a.id, .int .i64 ((n : Int) + a.ticks)]] w5 (XTo w w.heap.size n ys ys D5 w5)) := fun w5 D5 A8 c8 hp hx => by
            have h8 := pPut ⟨a.env, a.id, (n : Int) + a.ticks⟩ hp hx (by omega)
            rw [HYS.out] at h8
            exact h8
          clear hO
          go_wp2
          go_region_held3 (fun W => Hid (PS w W w.heap.size n ys (fun j => DA A4 j ∨ j = wr.heap.size)) ∧ W.cell? ⟨wr.heap.size, 1, none⟩ = some (.int .i64 a.env) ∧ W.cell? ⟨wr.heap.size, 2, none⟩ = some (.int .i64 a.id) ∧ W.cell? ⟨wr.heap.size, 3, none⟩ = some (.int .i64 a.ticks)) (first | exact HSv.out _ (fun _ _ => rfl) HPd.out | exact HSv.out _ hk5 (hp5.sub (fun _ h => .inl h)) | exact HSv.out _ (KD.trans hk5 (hk6.mono (fun _ h => .inl h))) (hp6.sub (fun _ h => .inl (.inl h))) | fail) (first | (go_at_call 17; refine HO.out.mono ?_; rintro e' w5 ⟨A8, c8, rfl, hx5, hp5, hk5⟩) | (go_at_call 16; refine (HPt.out w5 _ A8 c8 hp5 hx5).mono ?_; rintro e' w6 ⟨A5, c5, rfl, hx6, hp6, hk6⟩) | fail)
          have HP5 := hid (hp6.sub (E := DA A5) (fun _ h => .inr h))
          have HX5 := hid hx6
          clear hx5 hp5 hk5 hx6 hp6 hk6
          obtain ⟨m, rfl⟩ : ∃ m, m = n := ⟨_, rfl⟩
          go_wp2_with fail
          refine (pNow HP5.out).mono ?_
          rintro e' _ ⟨rfl, rfl⟩
          go_wp2_with fail
          refine (pAll HP5.out (by have := HG5.out.len; omega)).mono ?_
          rintro e' w7 ⟨A7, c7, rfl, hx7, hp7, hk7⟩
          have HX6 := hid (HX5.out.keep hk7 (fun _ h => h))
          have HX7 := hid hx7
          have HP6 := hid (hp7.sub (E := DA A5) (fun _ h => .inl h))
          clear hx7 hp7 hk7
          go_wp2_with fail
          refine (rSame_any w7 A7 A5 c7 c5 ys HX7.out HX6.out (by have := HG5.out.len; omega)).mono ?_
          rintro e' w8 ⟨rfl, hf8⟩
          have HP7 := hid (HP6.out.noB hf8).1
          have HX8 := hid (HX6.out.frNo hf8)
          clear hf8
          go_wp2
          go_roundw
          case rel => exact ⟨k + 1, m, ys, A5, c5, by omega, by omega, by go_num, rfl, rfl, HG5, HX8, HP7⟩
          case measure => simp [intOf]; omega
        · have hsl := setL_no (now := n) hq hse
          rw [hsl] at hset
          have HG5 : Hid (Good (k + 1) xs) := HG.out.sub (List.Sublist.refl _) (by omega)
          have hq' : (refSet a.env a.id a.ticks == 0) = false := by rw [beq_eq_false_iff_ne]; exact hq
          generalize refSet a.env a.id a.ticks = q at *
          have HS := hid hset
          have HR := hid hrs
          have HX4 := hid hx0
          clear hset hrs hp0 hk0 hx0 hb0 h0 hq hse hsl
          obtain ⟨z0, z1, z2, z3⟩ := HBX.out _ (KD.refl _ _)
          go_wp2_with fail
          refine HR.out.mono ?_
          rintro e' _ ⟨rfl, rfl⟩
          go_wp2_with fail
          refine HS.out.mono ?_
          rintro e' w2 ⟨rfl, hp2, hk2⟩
          have HP5 := hid (hp2.sub (E := DA A4) (fun _ h => .inl h))
          have HX5 := hid (HX4.out.keep hk2 (fun _ h => .inl h))
          clear hp2 hk2 z0 z1 z2 z3
          obtain ⟨m, rfl⟩ : ∃ m, m = n := ⟨_, rfl⟩
          obtain ⟨A5, rfl⟩ : ∃ A5, A5 = A4 := ⟨_, rfl⟩
          obtain ⟨c5, rfl⟩ : ∃ c5, c5 = c4 := ⟨_, rfl⟩
          obtain ⟨ys, rfl⟩ : ∃ ys, ys = xs := ⟨_, rfl⟩
          go_wp2_with fail
          refine (pNow HP5.out).mono ?_
          rintro e' _ ⟨rfl, rfl⟩
          go_wp2_with fail
          refine (pAll HP5.out (by have := HG5.out.len; omega)).mono ?_
          rintro e' w7 ⟨A7, c7, rfl, hx7, hp7, hk7⟩
          have HX6 := hid (HX5.out.keep hk7 (fun _ h => h))
          have HX7 := hid hx7
          have HP6 := hid (hp7.sub (E := DA A5) (fun _ h => .inl h))
          clear hx7 hp7 hk7
          go_wp2_with fail
          refine (rSame_any w7 A7 A5 c7 c5 ys HX7.out HX6.out (by have := HG5.out.len; omega)).mono ?_
          rintro e' w8 ⟨rfl, hf8⟩
          have HP7 := hid (HP6.out.noB hf8).1
          have HX8 := hid (HX6.out.frNo hf8)
          clear hf8
          go_wp2
          go_roundw
          case rel => exact ⟨k + 1, m, ys, A5, c5, by omega, by omega, by go_num, rfl, rfl, HG5, HX8, HP7⟩
          case measure => simp [intOf]; omega
      have n0 : (a.do_ == 0) = false := by rw [beq_eq_false_iff_ne]; exact h0
      by_cases h1 : a.do_ = 1
      · have n1 : (a.do_ == 1) = true := by rw [beq_iff_eq]; exact h1
        have hcl : ∀ w1 D1, PS w w1 w.heap.size n xs D1 → _ := fun w1 D1 hp => pCancel (w0 := w) (w := w1) (b := w.heap.size) (now := n) (ks := xs) (D := D1) a.env a.id hp (by omega)
        rw [miss_len] at hcl
        by_cases hi : a.id ≥ 0
        · have hi' : decide (a.id ≥ 0) = true := by simpa using hi
          have hout := pOut a.env a.id hp0 hx0 (by omega)
          rw [refOut_id hi] at hout
          have hy : (xs.filter fun x => !(isIt a.env a.id x)) = outT a.env a.id xs := rfl
          rw [hy] at hcl
          have HG5 : Hid (Good (k + 1) (outT a.env a.id xs)) := HG.out.sub List.filter_sublist (by omega)
          have hfl : (outT a.env a.id xs).length ≤ xs.length := List.length_filter_le _ _
          generalize outT a.env a.id xs = ys at *
          have HO := hid hout
          have HCL := hid hcl
          clear hout hcl hy hp0 hk0 hx0 hb0 h0 h1 hi
          obtain ⟨z0, z1, z2, z3⟩ := HBX.out _ (KD.refl _ _)
          go_wp2_with fail
          refine HO.out.mono ?_
          rintro e' w2 ⟨A5, c5, rfl, hx5, hp5, hk5⟩
          obtain ⟨z0, z1, z2, z3⟩ := HBX.out w2 hk5
          have HX4 := hid hx5
          have HP4 := hid hp5
          clear hx5 hp5 hk5
          go_wp2_with fail
          refine (HCL.out _ _ HP4.out).mono ?_
          cases hB : (((ys.length : Nat) : Int) != (xs.length : Int))
          all_goals
            rintro e' w3 ⟨rfl, hp6, hk6⟩
            have HP5 := hid (hp6.sub (E := DA A5) (fun _ h => .inr h))
            have HX5 := hid (HX4.out.keep hk6 (fun _ h => .inr h))
            clear hp6 hk6 z0 z1 z2 z3
            obtain ⟨m, rfl⟩ : ∃ m, m = n := ⟨_, rfl⟩
            go_wp2_with fail
            refine (pNow HP5.out).mono ?_
            rintro e' _ ⟨rfl, rfl⟩
            go_wp2_with fail
            refine (pAll HP5.out (by have := HG5.out.len; omega)).mono ?_
            rintro e' w7 ⟨A7, c7, rfl, hx7, hp7, hk7⟩
            have HX6 := hid (HX5.out.keep hk7 (fun _ h => h))
            have HX7 := hid hx7
            have HP6 := hid (hp7.sub (E := DA A5) (fun _ h => .inl h))
            clear hx7 hp7 hk7
            go_wp2_with fail
            refine (rSame_any w7 A7 A5 c7 c5 ys HX7.out HX6.out (by have := HG5.out.len; omega)).mono ?_
            rintro e' w8 ⟨rfl, hf8⟩
            have HP7 := hid (HP6.out.noB hf8).1
            have HX8 := hid (HX6.out.frNo hf8)
            clear hf8
            go_wp2
            go_roundw
            case rel => exact ⟨k + 1, m, ys, A5, c5, by omega, by omega, by go_num, rfl, rfl, HG5, HX8, HP7⟩
            case measure => simp [intOf]; omega
        · have hi' : decide (a.id ≥ 0) = false := by simpa using hi
          have hy : (xs.filter fun x => !(isIt a.env a.id x)) = xs := outT_neg HG.out (by omega)
          have hy2 : outT a.env a.id xs = xs := hy
          rw [hy, hy2] at hcl
          rw [show (((xs.length : Nat) : Int) != (xs.length : Int)) = false by simp] at hcl
          have HG5 : Hid (Good (k + 1) xs) := HG.out.sub (List.Sublist.refl _) (by omega)
          have HCL := hid hcl
          have HP4 := hid hp0
          have HX4 := hid hx0
          clear hcl hy hy2 hp0 hk0 hx0 hb0 h0 h1 hi
          obtain ⟨z0, z1, z2, z3⟩ := HBX.out _ (KD.refl _ _)
          go_wp2_with fail
          refine (HCL.out _ _ HP4.out).mono ?_
          rintro e' w3 ⟨rfl, hp6, hk6⟩
          have HP5 := hid (hp6.sub (E := DA A4) (fun _ h => .inl h))
          have HX5 := hid (HX4.out.keep hk6 (fun _ h => .inl h))
          clear hp6 hk6 z0 z1 z2 z3
          obtain ⟨m, rfl⟩ : ∃ m, m = n := ⟨_, rfl⟩
          obtain ⟨A5, rfl⟩ : ∃ A5, A5 = A4 := ⟨_, rfl⟩
          obtain ⟨c5, rfl⟩ : ∃ c5, c5 = c4 := ⟨_, rfl⟩
          obtain ⟨ys, rfl⟩ : ∃ ys, ys = xs := ⟨_, rfl⟩
          go_wp2_with fail
          refine (pNow HP5.out).mono ?_
          rintro e' _ ⟨rfl, rfl⟩
          go_wp2_with fail
          refine (pAll HP5.out (by have := HG5.out.len; omega)).mono ?_
          rintro e' w7 ⟨A7, c7, rfl, hx7, hp7, hk7⟩
          have HX6 := hid (HX5.out.keep hk7 (fun _ h => h))
          have HX7 := hid hx7
          have HP6 := hid (hp7.sub (E := DA A5) (fun _ h => .inl h))
          clear hx7 hp7 hk7
          go_wp2_with fail
          refine (rSame_any w7 A7 A5 c7 c5 ys HX7.out HX6.out (by have := HG5.out.len; omega)).mono ?_
          rintro e' w8 ⟨rfl, hf8⟩
          have HP7 := hid (HP6.out.noB hf8).1
          have HX8 := hid (HX6.out.frNo hf8)
          clear hf8
          go_wp2
          go_roundw
          case rel => exact ⟨k + 1, m, ys, A5, c5, by omega, by omega, by go_num, rfl, rfl, HG5, HX8, HP7⟩
          case measure => simp [intOf]; omega
      have n1 : (a.do_ == 1) = false := by rw [beq_eq_false_iff_ne]; exact h1
      by_cases h2 : a.do_ = 2
      · have n2 : (a.do_ == 2) = true := by rw [beq_iff_eq]; exact h2
        have hml : (xs.takeWhile (dueP ((n : Int) + 1))).length ≤ xs.length := (List.takeWhile_prefix _).length_le
        have hlo : ∀ j (hj : j < xs.length), j < (xs.takeWhile (dueP ((n : Int) + 1))).length → xs[j].at_ ≤ (n : Int) + 1 := fun j hj h => by
          have q1 : (xs.takeWhile (dueP ((n : Int) + 1)))[j] = xs[j] := (List.takeWhile_prefix _).getElem h
          have q3 := List.all_eq_true.1 (List.all_takeWhile (p := dueP ((n : Int) + 1)) (l := xs)) _ (List.getElem_mem h)
          rw [q1] at q3
          simpa [dueP] using q3
        have hhi : ∀ (hj : (xs.takeWhile (dueP ((n : Int) + 1))).length < xs.length), ¬ xs[(xs.takeWhile (dueP ((n : Int) + 1))).length].at_ ≤ (n : Int) + 1 := fun hj => by
          have := tw_stop (dueP ((n : Int) + 1)) xs hj
          simpa [dueP] using this
        have htick := fun W D hp => pTick (w0 := w) (w := W) (b := w.heap.size) (now := n) (ks := xs) (D := D) hp (by omega) (by omega) (by omega)
        have htake := tw_take (dueP ((n : Int) + 1)) xs
        have hdrop := tw_drop (dueP ((n : Int) + 1)) xs
        rw [← htake, ← hdrop] at htick
        generalize hmm : (xs.takeWhile (dueP ((n : Int) + 1))).length = mm at *
        have hsp : ∀ ad, A4 = some ad → ad.spot = none := fun ad hA => (HX.out.at_ ad hA).1
        obtain ⟨A5, hcut, hcx, hcd⟩ := xv_cut A4 c4 mm xs hsp hml
        have HG5 : Hid (Good (k + 1) (xs.drop mm)) := HG.out.sub (List.drop_sublist _ _) (by omega)
        generalize xs.drop mm = ys at *
        have hto := cut_hi A4 xs.length c4 mm (Nat.le_trans hml hx0.cap)
        have htl : (xs.take mm).length = mm := by rw [List.length_take]; omega
        have htx : ∀ W, XV W A4 c4 xs → XV W A4 c4 (xs.take mm) := fun W h => h.take mm
        generalize xs.take mm = ts at *
        have HTL := hid htl
        have HTX := hid htx
        have HTk := hid htick
        have HSm : Hid (∀ W A6 c6, XV W A6 c6 ts → XV W A4 c4 xs → Calls Try.prog 18 #[.slice A6 ts.length c6, .slice A4 mm c4] W fun e' w' => e' = .returned (.bool true) ∧ Fr NoB W w') := fun W A6 c6 hx6 hx => by
          have h8 := rSame_any W A6 A4 c6 c4 ts hx6 (HTX.out W hx) (by rw [HTL.out]; omega)
          rw [HTL.out] at h8 ⊢
          exact h8
        have HLO := hid hlo
        have HHI := hid hhi
        have HCX := hid hcx
        have HCD := hid hcd
        have HX4 := hid hx0
        have HP4 := hid hp0
        clear htick hlo hhi hcx hcd htl htx htake hdrop hmm hp0 hk0 hx0 hb0 h0 h1 h2
        obtain ⟨z0, z1, z2, z3⟩ := HBX.out _ (KD.refl _ _)
        go_wp2_with fail
        generalize hW0 : wr.alloc (.cells #[.int .i64 a.do_, .int .i64 a.env, .int .i64 a.id, .int .i64 a.ticks] 40) = W0 at HX4 HP4 ⊢
        go_loop [10] (fun v10 => ∃ j : Nat, j ≤ mm ∧ v10 = .int .i64 j) (fun v10 => mm - (intOf v10).toNat)
        case atStart => exact ⟨0, by omega, rfl⟩
        case round =>
          obtain ⟨j, hj, rfl⟩ := hrel
          by_cases hjm : j < mm
          · have hjx : j < xs.length := by omega
            obtain ⟨g4, o4, rfl, d0, d1, d2⟩ := HX4.out.cells j hjx
            have hat := HLO.out j hjx hjm
            generalize xs[j].at_ = at1 at d2 hat
            have t1 : decide ((j : Int) < (xs.length : Int)) = true := by simp; omega
            have t2 : decide (at1 ≤ (n : Int) + 1) = true := by simp [hat]
            clear hat d0 d1
            go_wp2
            go_round
            case rel => exact ⟨j + 1, by omega, by go_num⟩
            case measure => simp [intOf]; omega
          · obtain rfl : j = mm := by omega
            have HPd : Hid (PS w W0.drew w.heap.size n xs (fun j => DA A4 j ∨ j = wr.heap.size)) := (HP4.out.noB (Fr.refl NoB W0).drew).1
            have HXd : Hid (XV W0.drew A4 c4 xs) := HX4.out.frNo (Fr.refl NoB W0).drew
            by_cases hjx : j < xs.length
            · obtain ⟨g4, o4, rfl, d0, d1, d2⟩ := HX4.out.cells j hjx
              have hat := HHI.out hjx
              generalize xs[j].at_ = at1 at d2 hat
              have t1 : decide ((j : Int) < (xs.length : Int)) = true := by simp; omega
              have t2 : decide (at1 ≤ (n : Int) + 1) = false := by simpa using hat
              clear hat d0 d1
              go_wp2
              go_region_held3 (fun _ => True) (exact trivial) (first | (go_at_call 10; refine (HTk.out _ _ HPd.out).mono ?_; rintro e' w6 ⟨A6, c6, rfl, hx6, hp6, hk6⟩) | (go_at_call 18; refine (HSm.out w6 A6 c6 hx6 (HXd.out.keep hk6 (fun _ h => .inl h))).mono ?_; rintro e' w7 ⟨rfl, hf7⟩) | fail)
              have HX7 := hid ((HXd.out.keep hk6 (fun _ h => .inl h)).frNo hf7)
              have HP7 := hid (hp6.noB hf7).1
              have HX5 := hid (HCX.out w7 HX7.out)
              have HP5 : Hid (PS w w7 w.heap.size ((n : Int) + 1) ys (DA A5)) := HP7.out.sub (E := DA A5) (fun _ h => .inl (.inl (HCD.out _ h)))
              obtain ⟨c5, hc5⟩ : ∃ c5, c5 = c4 - j := ⟨_, rfl⟩
              rw [← hc5] at HX5 hcut
              clear hx6 hp6 hk6 hf7 z0 z1 z2 z3 hc5 HX7 HP7
              go_wp2_with fail
              refine (pNow HP5.out).mono ?_
              rintro e' _ ⟨rfl, rfl⟩
              go_wp2_with fail
              refine (pAll HP5.out (by have := HG5.out.len; omega)).mono ?_
              rintro e' w7 ⟨A7, c7, rfl, hx7, hp7, hk7⟩
              have HX6 := hid (HX5.out.keep hk7 (fun _ h => h))
              have HX7 := hid hx7
              have HP6 := hid (hp7.sub (E := DA A5) (fun _ h => .inl h))
              clear hx7 hp7 hk7
              go_wp2_with fail
              refine (rSame_any w7 A7 A5 c7 c5 ys HX7.out HX6.out (by have := HG5.out.len; omega)).mono ?_
              rintro e' w8 ⟨rfl, hf8⟩
              have HP7 := hid (HP6.out.noB hf8).1
              have HX8 := hid (HX6.out.frNo hf8)
              clear hf8
              go_wp2
              go_roundw
              case rel => exact ⟨k + 1, n + 1, ys, A5, c5, by omega, by omega, by go_num, by go_num, rfl, HG5, HX8, HP7⟩
              case measure => simp [intOf]; omega
            · have t1 : decide ((j : Int) < (xs.length : Int)) = false := by simp; omega
              go_wp2
              go_region_held3 (fun _ => True) (exact trivial) (first | (go_at_call 10; refine (HTk.out _ _ HPd.out).mono ?_; rintro e' w6 ⟨A6, c6, rfl, hx6, hp6, hk6⟩) | (go_at_call 18; refine (HSm.out w6 A6 c6 hx6 (HXd.out.keep hk6 (fun _ h => .inl h))).mono ?_; rintro e' w7 ⟨rfl, hf7⟩) | fail)
              have HX7 := hid ((HXd.out.keep hk6 (fun _ h => .inl h)).frNo hf7)
              have HP7 := hid (hp6.noB hf7).1
              have HX5 := hid (HCX.out w7 HX7.out)
              have HP5 : Hid (PS w w7 w.heap.size ((n : Int) + 1) ys (DA A5)) := HP7.out.sub (E := DA A5) (fun _ h => .inl (.inl (HCD.out _ h)))
              obtain ⟨c5, hc5⟩ : ∃ c5, c5 = c4 - j := ⟨_, rfl⟩
              rw [← hc5] at HX5 hcut
              clear hx6 hp6 hk6 hf7 z0 z1 z2 z3 hc5 HX7 HP7
              go_wp2_with fail
              refine (pNow HP5.out).mono ?_
              rintro e' _ ⟨rfl, rfl⟩
              go_wp2_with fail
              refine (pAll HP5.out (by have := HG5.out.len; omega)).mono ?_
              rintro e' w7 ⟨A7, c7, rfl, hx7, hp7, hk7⟩
              have HX6 := hid (HX5.out.keep hk7 (fun _ h => h))
              have HX7 := hid hx7
              have HP6 := hid (hp7.sub (E := DA A5) (fun _ h => .inl h))
              clear hx7 hp7 hk7
              go_wp2_with fail
              refine (rSame_any w7 A7 A5 c7 c5 ys HX7.out HX6.out (by have := HG5.out.len; omega)).mono ?_
              rintro e' w8 ⟨rfl, hf8⟩
              have HP7 := hid (HP6.out.noB hf8).1
              have HX8 := hid (HX6.out.frNo hf8)
              clear hf8
              go_wp2
              go_roundw
              case rel => exact ⟨k + 1, n + 1, ys, A5, c5, by omega, by omega, by go_num, by go_num, rfl, HG5, HX8, HP7⟩
              case measure => simp [intOf]; omega
      have n2 : (a.do_ == 2) = false := by rw [beq_eq_false_iff_ne]; exact h2
      by_cases h3 : a.do_ = 3
      · have n3 : (a.do_ == 3) = true := by rw [beq_iff_eq]; exact h3
        have hout := pOut a.env (-1) hp0 hx0 (by omega)
        rw [refOut_all] at hout
        have hmiss : missI (fun t => t.env == a.env) xs = (xs.length : Int) - ((xs.filter fun x => !(x.env == a.env)).length : Int) := rfl
        have hkl : ∀ w1 D1, PS w w1 w.heap.size n xs D1 → _ := fun w1 D1 hp => pKill (w0 := w) (w := w1) (b := w.heap.size) (now := n) (ks := xs) (D := D1) a.env hp (by omega)
        rw [hmiss] at hkl
        have HG5 : Hid (Good (k + 1) (xs.filter fun x => !(x.env == a.env))) := HG.out.sub List.filter_sublist (by omega)
        have hfl : (xs.filter fun x => !(x.env == a.env)).length ≤ xs.length := List.length_filter_le _ _
        generalize (xs.filter fun x => !(x.env == a.env)) = ys at *
        have HO := hid hout
        have HKL := hid hkl
        clear hout hkl hmiss hp0 hk0 hx0 hb0 h0 h1 h2 h3
        go_wp2_with fail
        refine HO.out.mono ?_
        rintro e' w2 ⟨A5, c5, rfl, hx5, hp5, hk5⟩
        obtain ⟨z0, z1, z2, z3⟩ := HBX.out w2 hk5
        have HX4 := hid hx5
        have HP4 := hid hp5
        clear hx5 hp5 hk5
        go_wp2_with fail
        refine (HKL.out _ _ HP4.out).mono ?_
        rintro e' w3 ⟨rfl, hp6, hk6⟩
        have HP5 := hid (hp6.sub (E := DA A5) (fun _ h => .inr h))
        have HX5 := hid (HX4.out.keep hk6 (fun _ h => .inr h))
        clear hp6 hk6 z0 z1 z2 z3
        obtain ⟨m, rfl⟩ : ∃ m, m = n := ⟨_, rfl⟩
        go_wp2_with fail
        refine (pNow HP5.out).mono ?_
        rintro e' _ ⟨rfl, rfl⟩
        go_wp2_with fail
        refine (pAll HP5.out (by have := HG5.out.len; omega)).mono ?_
        rintro e' w7 ⟨A7, c7, rfl, hx7, hp7, hk7⟩
        have HX6 := hid (HX5.out.keep hk7 (fun _ h => h))
        have HX7 := hid hx7
        have HP6 := hid (hp7.sub (E := DA A5) (fun _ h => .inl h))
        clear hx7 hp7 hk7
        go_wp2_with fail
        refine (rSame_any w7 A7 A5 c7 c5 ys HX7.out HX6.out (by have := HG5.out.len; omega)).mono ?_
        rintro e' w8 ⟨rfl, hf8⟩
        have HP7 := hid (HP6.out.noB hf8).1
        have HX8 := hid (HX6.out.frNo hf8)
        clear hf8
        go_wp2
        go_roundw
        case rel => exact ⟨k + 1, m, ys, A5, c5, by omega, by omega, by go_num, rfl, rfl, HG5, HX8, HP7⟩
        case measure => simp [intOf]; omega
      have n3 : (a.do_ == 3) = false := by rw [beq_eq_false_iff_ne]; exact h3
      · have HP5 := hid (hp0.sub (E := DA A4) (fun _ h => .inl h))
        have HX5 := hid hx0
        have HG5 : Hid (Good (k + 1) xs) := HG.out.sub (List.Sublist.refl _) (by omega)
        clear hp0 hk0 hx0 hb0 h0 h1 h2 h3
        obtain ⟨m, rfl⟩ : ∃ m, m = n := ⟨_, rfl⟩
        obtain ⟨A5, rfl⟩ : ∃ A5, A5 = A4 := ⟨_, rfl⟩
        obtain ⟨c5, rfl⟩ : ∃ c5, c5 = c4 := ⟨_, rfl⟩
        obtain ⟨ys, rfl⟩ : ∃ ys, ys = xs := ⟨_, rfl⟩
        go_wp2_with fail
        refine (pNow HP5.out).mono ?_
        rintro e' _ ⟨rfl, rfl⟩
        go_wp2_with fail
        refine (pAll HP5.out (by have := HG5.out.len; omega)).mono ?_
        rintro e' w7 ⟨A7, c7, rfl, hx7, hp7, hk7⟩
        have HX6 := hid (HX5.out.keep hk7 (fun _ h => h))
        have HX7 := hid hx7
        have HP6 := hid (hp7.sub (E := DA A5) (fun _ h => .inl h))
        clear hx7 hp7 hk7
        go_wp2_with fail
        refine (rSame_any w7 A7 A5 c7 c5 ys HX7.out HX6.out (by have := HG5.out.len; omega)).mono ?_
        rintro e' w8 ⟨rfl, hf8⟩
        have HP7 := hid (HP6.out.noB hf8).1
        have HX8 := hid (HX6.out.frNo hf8)
        clear hf8
        go_wp2
        go_roundw
        case rel => exact ⟨k + 1, m, ys, A5, c5, by omega, by omega, by go_num, rfl, rfl, HG5, HX8, HP7⟩
        case measure => simp [intOf]; omega
    · obtain rfl : k = l.length := by omega
      go_wp2_with fail
      refine (awake_any wr).mono ?_
      rintro e' w8 ⟨rfl, hf⟩
      go_wp2
      go_ret
      exact ⟨rfl, (HP.out.frNo.trans hf).below0⟩
end Go.Proofs.Ytgjgmaeickhhfaa
