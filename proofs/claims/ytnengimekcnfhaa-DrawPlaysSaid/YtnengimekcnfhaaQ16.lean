/- DrawPlays: whatever windows there are, and whatever is drawn into them, each answer, and all cells, are the document's. Conditions: none beyond the statement's. -/
import Derived.Test.YtnengimekcnfhaaQ14
import Derived.Test.YtnengimekcnfhaaQ15
import Derived.Test.YtnengimekcnfhaaQ11
import Derived.Test.YtnengimekcnfhaaE2
import Derived.Test.YtnengimekcnfhaaP3
set_option linter.unusedSimpArgs false
set_option linter.unusedVariables false
set_option maxRecDepth 20000
namespace Go.Proofs.Ytnengimekcnfhaa
open Go.RowKit Go.Shelf Go.Proofs.YtnengimekcnfhaaW.PrintWords
/-- The law's loop: program's frame and stack, the document's grid and windows: the same cells. -/
structure PP (w W : World) (f g gb b B9 : Nat) (v10 v : Value) (xs : List Wn) (nx : Int) (cs : List Cl) (m : Nat) : Prop where
  de : ∃ nv ns, DE W f g gb 10 10 b cs nv ns v xs nx ∧ (∀ j, OwnB nv j → w.heap.size ≤ j) ∧ ns.length ≤ m
  gr : ∃ g2 c2, Blk W B9 59 [.int .i64 10, .int .i64 10, .slice (some ⟨g2, 0, none⟩) 100 c2] ∧ RG W g2 c2 cs ∧ g2 ≠ gb
  all : WnS W v10 xs
  fr : Fr NoB w W
  old : w.heap.size ≤ f ∧ w.heap.size ≤ gb ∧ gb < W.heap.size
theorem flat_le {α β : Type} (f : α → List β) (n : Nat) (l : List α) (h : ∀ a ∈ l, (f a).length ≤ n) : (l.flatMap f).length ≤ l.length * n := by
  induction l with
  | nil => simp
  | cons a l ih =>
    have h1 := h a (by simp)
    have h2 := ih (fun b hb => h b (by simp [hb]))
    rw [List.flatMap_cons, List.length_append, List.length_cons, Nat.add_mul]
    omega
theorem ifl_le {β : Type} (p : Prop) [Decidable p] (x : β) : (if p then [x] else []).length ≤ 1 := by split <;> simp
theorem refL_len (xs : List Wn) (d : Dr) (cs : List Cl) (hF : ∀ q ∈ xs, FitsIn 10 10 q.r) (hl : d.l.length ≤ 1000) : (refL xs d cs).length ≤ 1000 := by
  unfold refL
  cases hg : getW xs d.id with
  | none => simp
  | some t =>
    obtain ⟨_, _, _, h3, h4, h5, h6⟩ := hF t (getW_mem hg)
    have h5' : t.r.x + t.w ≤ 10 := h5
    have h6' : t.r.y + t.h ≤ 10 := h6
    have hw : t.w.toNat ≤ 10 := by omega
    have hh : t.h.toNat ≤ 10 := by omega
    simp only
    split
    · unfold refCL
      split
      · exact Nat.le_trans (refC_len ..) hl
      · simp
    · split
      · unfold refFL
        split
        · unfold refF
          refine Nat.le_trans (flat_le _ 10 _ (fun a _ => ?_)) (by rw [List.length_range]; omega)
          unfold refR
          refine Nat.le_trans (flat_le _ 1 _ (fun a _ => ifl_le _ _)) (by rw [List.length_range]; omega)
        · simp
      · unfold refKL
        split
        · unfold refK
          refine Nat.le_trans (flat_le _ 10 _ (fun a _ => ?_)) (by rw [List.length_range]; omega)
          unfold refKR
          refine Nat.le_trans (flat_le _ 1 _ (fun a _ => ifl_le _ _)) (by rw [List.length_range]; omega)
        · simp
/-- Windows and notes lie apart: they are of other types. -/
theorem own_apart {w : World} {v nv : Value} {xs : List Wn} {ns : List Wr} {j : Nat} (h1 : WnS w v xs) (h2 : WrRow w nv ns) (hj : OwnB v j) (hk : OwnB nv j) : False := by
  rcases h1 with ⟨rfl, rfl⟩ | ⟨g, c, rest, rfl, h3, _⟩
  · cases hj
  · obtain rfl : g = j := Option.some.inj hj
    exact h2.not_blk h3.blk (by decide) hk
set_option maxHeartbeats 8000000 in
theorem drawPlays_any (w : World) (A : Option Addr) (cap : Nat) (l : List Ac) (B : Option Addr) (cap2 : Nat) (d : List Dr) (hl : AcA w A l) (hcap : l.length ≤ cap) (hd : DrA w B d) (hok : ∀ q ∈ d, q.Ok w) (hcap2 : d.length ≤ cap2) :
    Calls Try.prog 5 #[.slice A l.length cap, .slice B d.length cap2] w fun e w' => e = .returned (.bool true) ∧ Fr NoB w w' := by
  have HAw := fun w9 => hid (awake_any w9)
  have HGr := hid (great_any w A l.length cap B cap2 d hd)
  have HL := hid hl
  have HD := hid hd
  have HOK := hid hok
  have HNf := fun w9 => hid (fNew_ok w9 10 10 (by decide) (by decide) (by decide) (by decide))
  have HNs := fun w9 => hid (sNew_ok w9 10 10 (by decide) (by decide) (by decide) (by decide))
  clear hl hd hok
  go_enter Try.func5, Try.ntmps5
  go_wp2_with fail
  refine HGr.out.mono ?_
  rintro e' w' ⟨hw, bl, rfl, hgr⟩
  have hw2 := hw.symm
  subst hw2
  clear hw
  cases bl
  rotate_left
  · clear hgr
    go_wp2_with fail
    refine (HAw _).out.mono ?_
    rintro e' w1 ⟨rfl, hf⟩
    have HF := hid hf
    clear hf
    go_wp2
    go_ret
    exact ⟨rfl, HF.out⟩
  obtain ⟨g1, g2, g3⟩ := hgr rfl
  have HG3 := hid g3
  clear hgr g3
  go_wp2_with fail
  refine (HNf _).out.mono ?_
  rintro e' w2 ⟨f, g, gb, rfl, hfd, hf, hF0, hg0, hG0⟩
  have HFD2 := hid hfd
  have HF2 := hid hf
  clear hf hfd
  go_wp2_with fail
  refine (HNs _).out.mono ?_
  rintro e' w3 ⟨b, rfl, hsk, hf, hb⟩
  have HSK3 := hid hsk
  have HF3 := hid (HF2.out.trans hf)
  have HFD3 := hid (HFD2.out.frd hf)
  have HBW := hid (Nat.le_trans HF2.out.size hb)
  clear hf hsk
  have HPl := hid (play_any w3 10 10 b A cap l (by decide) (by decide) (by decide) (by decide) HSK3.out (HL.out.fr HF3.out (fun _ _ _ h => h)) (by omega) hcap (fun ad e h0 => by
    obtain ⟨ad', e', h1, _⟩ := HL.out 0 h0
    rw [e] at e'
    obtain rfl := Option.some.inj e'
    have := HBW.out
    omega))
  go_wp2_with fail
  refine HPl.out.mono ?_
  rintro e' w4 ⟨v10, v, xs, nx, rfl, hPI, hGd⟩
  have HSK4 := hid hPI.sk
  have HALL := hid hPI.row
  have HF4 := hid (HF3.out.then_ hPI.fr (fun k hk => .inr (by have e : k = b := hk; rw [e]; exact HBW.out)))
  have HFD4 := hid (HFD3.out.fr hPI.fr (fun e => absurd (blk_type (show Blk w3 b _ _ from e ▸ HFD3.out.blk) HSK3.out.blk) (by decide)) (fun e => absurd (blk_type (show Blk w3 b _ _ from e ▸ HFD3.out.gd.blk) HSK3.out.blk) (by decide)) (fun e => absurd (blk_type (show Blk w3 b _ _ from e ▸ HFD3.out.gd.cel) HSK3.out.blk) (by decide)) (fun k h => nomatch h))
  have HGD := hid hGd
  have HFIT : Hid (∀ q ∈ xs, FitsIn 10 10 q.r ∧ 1 ≤ q.id) := hid fun q hq => ⟨(fits_iff 10 10 (by decide) (by decide) (by decide) (by decide) q.r).1 (hGd.fit q hq).1, (hGd.fit q hq).2.1⟩
  obtain ⟨A10, c10, hv10, _, _⟩ := hPI.row.shape
  subst hv10
  clear hPI hGd
  go_wp2_with fail
  refine (r6New_any w4).mono ?_
  rintro e' w5 ⟨gb0, c0, rfl, hrg, hf5, hge⟩
  have HRG5 := hid hrg
  have HF5 := hid hf5
  have HGE := hid hge
  clear hrg hf5 hge
  unfold gV
  go_wp2_with fail
  have HP0 : Hid (PP w (w5.alloc (.cells #[.int .i64 10, .int .i64 10, .slice (some ⟨gb0, 0, none⟩) 100 c0] 59)) f g gb b w5.heap.size (.slice A10 xs.length c10) v xs nx (List.replicate (10 * 10) Cl.zero) 0) := by
    have hfa : Fr NoB w5 (w5.alloc (.cells #[.int .i64 10, .int .i64 10, .slice (some ⟨gb0, 0, none⟩) 100 c0] 59)) := (Fr.refl _ _).alloc _
    have hfb := HF5.out.trans hfa
    have hgl := HFD4.out.gd.cel.lt
    refine ⟨⟨_, [], ⟨HFD4.out.frd hfb, HSK4.out.frd hfb, HFIT.out, by have := HGD.out.len; omega, by decide, by decide, by simp⟩, (fun j h => nomatch h), Nat.le_refl _⟩, ⟨gb0, c0, Blk.new w5 59 _, HRG5.out.frd hfa, fun e => by have := HGE.out; omega⟩, HALL.out.fr hfb (fun _ _ h => h), HF4.out.trans hfb, hF0, hG0, Nat.lt_of_lt_of_le hgl hfb.size⟩
  have hxl : Hid (xs.length ≤ 200) := hid (by have := HGD.out.len; omega)
  clear HRG5
  go_loopw [10] (fun v10' wr => ∃ k : Nat, k ≤ d.length ∧ v10' = .int .i64 k ∧ Hid (∃ cs, PP w wr f g gb b w5.heap.size (.slice A10 xs.length c10) v xs nx cs (k * 1000))) (fun v10' _ => d.length - (intOf v10').toNat)
  case atStart => exact ⟨0, Nat.zero_le _, rfl, _, HP0.out⟩
  case round =>
    obtain ⟨k, hk, rfl, HR⟩ := hrel
    obtain ⟨cs, hP⟩ := HR.out
    have HP := hid hP
    by_cases hkm : k < d.length
    · obtain ⟨ad, rfl, c0, cj⟩ := (HD.out.fr hP.fr (fun _ _ _ h => h)).cells k hkm
      clear c0 cj
      have hoq := HOK.out _ (List.getElem_mem hkm)
      have hl20 := HG3.out k hkm
      obtain ⟨g2, k2, hB9, hR9, hne⟩ := hP.gr
      have HNE := hid hne
      have HB9 := hid hB9
      have HRg := hid hR9
      have HSv : Hid (∀ W, Fr NoB wr W → W.cell? ⟨w5.heap.size, 0, none⟩ = some (.int .i64 10) ∧ W.cell? ⟨w5.heap.size, 1, none⟩ = some (.int .i64 10) ∧ W.cell? ⟨w5.heap.size, 2, none⟩ = some (.slice (some ⟨g2, 0, none⟩) 100 k2) ∧ W.cell? (ad.add (k * 9)) = some (.int .i64 d[k].do_) ∧ W.cell? ⟨(ad.add (k * 9)).block, (ad.add (k * 9)).off + 1, none⟩ = some (.int .i64 d[k].id) ∧ W.cell? ⟨(ad.add (k * 9)).block, (ad.add (k * 9)).off + 2, none⟩ = some (.int .i64 d[k].x) ∧ W.cell? ⟨(ad.add (k * 9)).block, (ad.add (k * 9)).off + 3, none⟩ = some (.int .i64 d[k].y) ∧ W.cell? ⟨(ad.add (k * 9)).block, (ad.add (k * 9)).off + 4, none⟩ = some (.int .i64 d[k].r.x) ∧ W.cell? ⟨(ad.add (k * 9)).block, (ad.add (k * 9)).off + 5, none⟩ = some (.int .i64 d[k].r.y) ∧ W.cell? ⟨(ad.add (k * 9)).block, (ad.add (k * 9)).off + 6, none⟩ = some (.int .i64 d[k].r.w) ∧ W.cell? ⟨(ad.add (k * 9)).block, (ad.add (k * 9)).off + 7, none⟩ = some (.int .i64 d[k].r.h) ∧ W.cell? ⟨(ad.add (k * 9)).block, (ad.add (k * 9)).off + 8, none⟩ = some (.slice d[k].lA d[k].l.length d[k].lc)) := hid fun W hW => by
        obtain ⟨ad', e', c0, cj⟩ := (HD.out.fr (HP.out.fr.trans hW) (fun _ _ _ h => h)).cells k hkm
        obtain rfl := Option.some.inj e'
        exact ⟨(HB9.out.fr hW (fun h => h)).cell 0 rfl, (HB9.out.fr hW (fun h => h)).cell 1 rfl, (HB9.out.fr hW (fun h => h)).cell 2 rfl, c0 _ rfl, cj 1 _ (by decide) rfl, cj 2 _ (by decide) rfl, cj 3 _ (by decide) rfl, cj 4 _ (by decide) rfl, cj 5 _ (by decide) rfl, cj 6 _ (by decide) rfl, cj 7 _ (by decide) rfl, cj 8 _ (by decide) rfl⟩
      have HSd : Hid (∀ W, Fr NoB w W → W.cell? (ad.add (k * 9)) = some (.int .i64 d[k].do_) ∧ W.cell? ⟨(ad.add (k * 9)).block, (ad.add (k * 9)).off + 1, none⟩ = some (.int .i64 d[k].id) ∧ W.cell? ⟨(ad.add (k * 9)).block, (ad.add (k * 9)).off + 2, none⟩ = some (.int .i64 d[k].x) ∧ W.cell? ⟨(ad.add (k * 9)).block, (ad.add (k * 9)).off + 3, none⟩ = some (.int .i64 d[k].y) ∧ W.cell? ⟨(ad.add (k * 9)).block, (ad.add (k * 9)).off + 4, none⟩ = some (.int .i64 d[k].r.x) ∧ W.cell? ⟨(ad.add (k * 9)).block, (ad.add (k * 9)).off + 5, none⟩ = some (.int .i64 d[k].r.y) ∧ W.cell? ⟨(ad.add (k * 9)).block, (ad.add (k * 9)).off + 6, none⟩ = some (.int .i64 d[k].r.w) ∧ W.cell? ⟨(ad.add (k * 9)).block, (ad.add (k * 9)).off + 7, none⟩ = some (.int .i64 d[k].r.h) ∧ W.cell? ⟨(ad.add (k * 9)).block, (ad.add (k * 9)).off + 8, none⟩ = some (.slice d[k].lA d[k].l.length d[k].lc)) := hid fun W hW => by
        obtain ⟨ad', e', c0, cj⟩ := (HD.out.fr hW (fun _ _ _ h => h)).cells k hkm
        obtain rfl := Option.some.inj e'
        exact ⟨c0 _ rfl, cj 1 _ (by decide) rfl, cj 2 _ (by decide) rfl, cj 3 _ (by decide) rfl, cj 4 _ (by decide) rfl, cj 5 _ (by decide) rfl, cj 6 _ (by decide) rfl, cj 7 _ (by decide) rfl, cj 8 _ (by decide) rfl⟩
      have HFD := hid (Fr.drew (Fr.refl NoB wr))
      have b9l := hB9.lt
      generalize d[k] = q at *
      have HOQ := hid hoq
      have HWant : Hid (∀ W, Fr NoB wr W → Calls Try.prog 19 #[gV g2 k2, .slice A10 xs.length c10, .agg #[.int .i64 q.do_, .int .i64 q.id, .int .i64 q.x, .int .i64 q.y, .int .i64 q.r.x, .int .i64 q.r.y, .int .i64 q.r.w, .int .i64 q.r.h, .slice q.lA q.l.length q.lc]] W (WantTo g2 (refL xs q cs) (foundE xs q.id) cs W)) := hid fun W hW => want_any W g2 k2 cs _ xs q (HRg.out.frd hW) (HP.out.all.fr hW (fun _ _ h => h)) (by have := hxl.out; omega) (fun z hz => (HFIT.out z hz).1) ⟨HOQ.out.x, HOQ.out.y, HOQ.out.r, HOQ.out.ca.fr (HP.out.fr.trans hW) (fun _ _ _ h => h), fun ad e h0 => Nat.lt_of_lt_of_le (HOQ.out.lt ad e h0) (HP.out.fr.trans hW).size, HOQ.out.cap⟩ (by omega)
      unfold gV at HWant
      clear hP hoq hB9 hR9 hne
      go_wp2_with fail
      refine wp_region_held_drew (S := (fun W : World => W.cell? ⟨w5.heap.size, 0, none⟩ = some (.int .i64 10) ∧ W.cell? ⟨w5.heap.size, 1, none⟩ = some (.int .i64 10) ∧ W.cell? ⟨w5.heap.size, 2, none⟩ = some (.slice (some ⟨g2, 0, none⟩) 100 k2) ∧ W.cell? (ad.add (k * 9)) = some (.int .i64 q.do_) ∧ W.cell? ⟨(ad.add (k * 9)).block, (ad.add (k * 9)).off + 1, none⟩ = some (.int .i64 q.id) ∧ W.cell? ⟨(ad.add (k * 9)).block, (ad.add (k * 9)).off + 2, none⟩ = some (.int .i64 q.x) ∧ W.cell? ⟨(ad.add (k * 9)).block, (ad.add (k * 9)).off + 3, none⟩ = some (.int .i64 q.y) ∧ W.cell? ⟨(ad.add (k * 9)).block, (ad.add (k * 9)).off + 4, none⟩ = some (.int .i64 q.r.x) ∧ W.cell? ⟨(ad.add (k * 9)).block, (ad.add (k * 9)).off + 5, none⟩ = some (.int .i64 q.r.y) ∧ W.cell? ⟨(ad.add (k * 9)).block, (ad.add (k * 9)).off + 6, none⟩ = some (.int .i64 q.r.w) ∧ W.cell? ⟨(ad.add (k * 9)).block, (ad.add (k * 9)).off + 7, none⟩ = some (.int .i64 q.r.h) ∧ W.cell? ⟨(ad.add (k * 9)).block, (ad.add (k * 9)).off + 8, none⟩ = some (.slice q.lA q.l.length q.lc))) (by kernel_rfl) (HSv.out _ HFD.out) (fun hHeld => ?_)
      refine wpAnyH_take (i := 0) (oi := { dst := some 48, op := Op.load 59 (Operand.tmp 9), type := 59, pos := "law.go:98", after := #[], guard := none }) (v := ?vpa1) rfl (by kernel_rfl) (by kernel_rfl) (by kernel_rfl) (fun _ _ _ h => h) (Or.inl ⟨by rfl, ?hypa1⟩) (by assumption) ?rpa1
      case hypa1 => (intro w hSw; (try dsimp only at hSw); go_simp; try (with_reducible rfl))
      try simp only [Act.put, sI, sZ, sS]
      refine wpAnyH_take (i := 1) (oi := { dst := some 49, op := Op.move (Operand.tmp 7), type := 48, pos := "law.go:98", after := #[], guard := none }) (v := ?vpa2) rfl (by kernel_rfl) (by kernel_rfl) (by kernel_rfl) (fun _ _ _ h => h) (Or.inl ⟨by rfl, ?hypa2⟩) (by assumption) ?rpa2
      case hypa2 => (intro w hSw; (try dsimp only at hSw); go_simp; try (with_reducible rfl))
      try simp only [Act.put, sI, sZ, sS]
      refine wpAnyH_take (i := 2) (oi := { dst := some 50, op := Op.move (Operand.tmp 1), type := 46, pos := "law.go:98", after := #[], guard := none }) (v := ?vpa3) rfl (by kernel_rfl) (by kernel_rfl) (by kernel_rfl) (fun _ _ _ h => h) (Or.inl ⟨by rfl, ?hypa3⟩) (by assumption) ?rpa3
      case hypa3 => (intro w hSw; (try dsimp only at hSw); go_simp; try (with_reducible rfl))
      try simp only [Act.put, sI, sZ, sS]
      refine wpAnyH_take (i := 3) (oi := { dst := some 51, op := Op.move (Operand.tmp 10), type := 3, pos := "law.go:98", after := #[], guard := none }) (v := ?vpa4) rfl (by kernel_rfl) (by kernel_rfl) (by kernel_rfl) (fun _ _ _ h => h) (Or.inl ⟨by rfl, ?hypa4⟩) (by assumption) ?rpa4
      case hypa4 => (intro w hSw; (try dsimp only at hSw); go_simp; try (with_reducible rfl))
      try simp only [Act.put, sI, sZ, sS]
      refine wpAnyH_take (i := 4) (oi := { dst := some 52, op := Op.indexAddr 46 (Operand.tmp 50) (Operand.tmp 51), type := 0, pos := "law.go:98", after := #[{ on := 2, ground := Ground.data }, { on := 3, ground := Ground.data }], guard := none }) (v := ?vpa5) rfl (by kernel_rfl) (by kernel_rfl) (by kernel_rfl) (fun _ _ _ h => h) (Or.inl ⟨by rfl, ?hypa5⟩) (by assumption) ?rpa5
      case hypa5 => (intro w hSw; (try dsimp only at hSw); go_simp; try (with_reducible rfl))
      try simp only [Act.put, sI, sZ, sS]
      refine wpAnyH_take (i := 5) (oi := { dst := some 53, op := Op.load 53 (Operand.tmp 52), type := 53, pos := "law.go:98", after := #[{ on := 4, ground := Ground.data }], guard := none }) (v := ?vpa6) rfl (by kernel_rfl) (by kernel_rfl) (by kernel_rfl) (fun _ _ _ h => h) (Or.inl ⟨by rfl, ?hypa6⟩) (by assumption) ?rpa6
      case hypa6 => (intro w hSw; (try dsimp only at hSw); go_simp; try (with_reducible rfl))
      try simp only [Act.put, sI, sZ, sS]
      refine wpAnyH_ready (rs := [6, 11]) (by kernel_rfl) (by simp) ?_
      refine AllReadyH.cons (o := { dst := some 54, op := Op.call { callee := Callee.value (Operand.func 19), args := #[Operand.tmp 48, Operand.tmp 49, Operand.tmp 53], argTypes := #[59, 48, 53] }, type := 61, pos := "law.go:98", after := #[{ on := 0, ground := Ground.data }, { on := 1, ground := Ground.data }, { on := 5, ground := Ground.data }], guard := none }) rfl (fun K hK => ?_) ?_
      · go_simp
        refine (HWant.out _ HFD.out).mono ?_
        rintro e' w6 ⟨gb6, c6, rfl, hrg6, hf6, hn6⟩
        have HF6 : Hid (Fr NoB wr w6) := Fr.trans HFD.out hf6
        have HRG6 := hid hrg6
        have HN6 : Hid (gb6 ≠ gb) := hid (hn6.elim (fun h => h ▸ HNE.out) (fun h e => by have h2 := Fr.size HFD.out; have h3 := HP.out.old.2.2; omega))
        clear hHeld hrg6 hf6 hn6
        unfold gV
        go_wp2_with fail
        refine hK.out _ _ (HSv.out _ HF6.out) (fun hHeld => ?_)
        clear hK K
        try simp only [Act.put, sI, sZ, sS]
        refine wpAnyH_take (i := 7) (oi := { dst := some 47, op := Op.move (Operand.tmp 54), type := 61, pos := "law.go:98", after := #[{ on := 6, ground := Ground.data }], guard := none }) (v := ?vpa7) rfl (by kernel_rfl) (by kernel_rfl) (by kernel_rfl) (fun _ _ _ h => h) (Or.inl ⟨by rfl, ?hypa7⟩) (by assumption) ?rpa7
        case hypa7 => (intro w hSw; (try dsimp only at hSw); go_simp; try (with_reducible rfl))
        try simp only [Act.put, sI, sZ, sS]
        refine wpAnyH_take (i := 8) (oi := { dst := some 55, op := Op.extract (Operand.tmp 47) 0, type := 59, pos := "law.go:98", after := #[{ on := 7, ground := Ground.data }], guard := none }) (v := ?vpa8) rfl (by kernel_rfl) (by kernel_rfl) (by kernel_rfl) (fun _ _ _ h => h) (Or.inl ⟨by rfl, ?hypa8⟩) (by assumption) ?rpa8
        case hypa8 => (intro w hSw; (try dsimp only at hSw); go_simp; try (with_reducible rfl))
        try simp only [Act.put, sI, sZ, sS]
        refine wpAnyH_take (i := 9) (oi := { dst := some 56, op := Op.extract (Operand.tmp 47) 1, type := 3, pos := "law.go:98", after := #[{ on := 7, ground := Ground.data }, { on := 12, ground := Ground.gcOnly Departure.lateStores }], guard := none }) (v := ?vpa9) rfl (by kernel_rfl) (by kernel_rfl) (by kernel_rfl) (fun _ _ _ h => h) (Or.inl ⟨by rfl, ?hypa9⟩) (by assumption) ?rpa9
        case hypa9 => (intro w hSw; (try dsimp only at hSw); go_simp; try (with_reducible rfl))
        try simp only [Act.put, sI, sZ, sS]
        refine wpAnyH_take (i := 10) (oi := { dst := some 57, op := Op.extract (Operand.tmp 47) 2, type := 31, pos := "law.go:98", after := #[{ on := 7, ground := Ground.data }, { on := 13, ground := Ground.gcOnly Departure.lateStores }], guard := none }) (v := ?vpa10) rfl (by kernel_rfl) (by kernel_rfl) (by kernel_rfl) (fun _ _ _ h => h) (Or.inl ⟨by rfl, ?hypa10⟩) (by assumption) ?rpa10
        case hypa10 => (intro w hSw; (try dsimp only at hSw); go_simp; try (with_reducible rfl))
        try simp only [Act.put, sI, sZ, sS]
        refine wpAnyH_ready (rs := [11]) (by kernel_rfl) (by simp) ?_
        refine AllReadyH.cons (o := { dst := some 11, op := Op.alloc 59, type := 0, pos := "law.go:98", after := #[], guard := none }) rfl (fun K hK => ?_) AllReadyH.nil
        go_simp
        refine hK.out _ _ (HSv.out _ (HF6.out.alloc _)) (fun hHeld => ?_)
        clear hK K
        try simp only [Act.put, sI, sZ, sS]
        refine wpAnyH_ready (rs := [12]) (by kernel_rfl) (by simp) ?_
        refine AllReadyH.cons (o := { dst := none, op := Op.store 59 (Operand.tmp 11) (Operand.tmp 55), type := 0, pos := "law.go:98", after := #[{ on := 11, ground := Ground.data }, { on := 8, ground := Ground.data }, { on := 6, ground := Ground.chain }, { on := 0, ground := Ground.phase }, { on := 1, ground := Ground.phase }, { on := 2, ground := Ground.phase }, { on := 3, ground := Ground.phase }, { on := 4, ground := Ground.phase }, { on := 5, ground := Ground.phase }, { on := 6, ground := Ground.phase }, { on := 7, ground := Ground.phase }, { on := 8, ground := Ground.phase }, { on := 9, ground := Ground.textOnly Departure.lateStores }, { on := 10, ground := Ground.textOnly Departure.lateStores }, { on := 11, ground := Ground.phase }], guard := none }) rfl (fun K hK => ?_) AllReadyH.nil
        go_simp
        refine hK.out _ _ (HSv.out _ (HF6.out.alloc _)) (fun hHeld => ?_)
        clear hK K
        try simp only [Act.put, sI, sZ, sS]
        refine wpAnyH_take (i := 13) (oi := { dst := some 12, op := Op.assign (Operand.tmp 56), type := 3, pos := "law.go:98", after := #[{ on := 9, ground := Ground.data }, { on := 12, ground := Ground.chain }, { on := 0, ground := Ground.phase }, { on := 1, ground := Ground.phase }, { on := 2, ground := Ground.phase }, { on := 3, ground := Ground.phase }, { on := 4, ground := Ground.phase }, { on := 5, ground := Ground.phase }, { on := 6, ground := Ground.phase }, { on := 7, ground := Ground.phase }, { on := 8, ground := Ground.phase }, { on := 9, ground := Ground.phase }, { on := 10, ground := Ground.textOnly Departure.lateStores }, { on := 11, ground := Ground.phase }, { on := 12, ground := Ground.phase }], guard := none }) (v := ?vpa11) rfl (by kernel_rfl) (by kernel_rfl) (by kernel_rfl) (fun _ _ _ h => h) (Or.inl ⟨by rfl, ?hypa11⟩) (by assumption) ?rpa11
        case hypa11 => (intro w hSw; (try dsimp only at hSw); go_simp; try (with_reducible rfl))
        try simp only [Act.put, sI, sZ, sS]
        refine wpAnyH_take (i := 14) (oi := { dst := some 13, op := Op.assign (Operand.tmp 57), type := 31, pos := "law.go:98", after := #[{ on := 10, ground := Ground.data }, { on := 13, ground := Ground.chain }, { on := 0, ground := Ground.phase }, { on := 1, ground := Ground.phase }, { on := 2, ground := Ground.phase }, { on := 3, ground := Ground.phase }, { on := 4, ground := Ground.phase }, { on := 5, ground := Ground.phase }, { on := 6, ground := Ground.phase }, { on := 7, ground := Ground.phase }, { on := 8, ground := Ground.phase }, { on := 9, ground := Ground.phase }, { on := 10, ground := Ground.phase }, { on := 11, ground := Ground.phase }, { on := 12, ground := Ground.phase }, { on := 13, ground := Ground.phase }], guard := none }) (v := ?vpa12) rfl (by kernel_rfl) (by kernel_rfl) (by kernel_rfl) (fun _ _ _ h => h) (Or.inl ⟨by rfl, ?hypa12⟩) (by assumption) ?rpa12
        case hypa12 => (intro w hSw; (try dsimp only at hSw); go_simp; try (with_reducible rfl))
        try simp only [Act.put, sI, sZ, sS]
        refine wpAnyH_done (by kernel_rfl) ?_ _
        have HG9 := hid (Blk.new w6 59 [.int .i64 10, .int .i64 10, .slice (some ⟨gb6, 0, none⟩) 100 c6])
        have HF9 := hid (HF6.out.alloc (.cells #[.int .i64 10, .int .i64 10, .slice (some ⟨gb6, 0, none⟩) 100 c6] 59))
        have HR9 := hid (HRG6.out.frd ((Fr.refl NoB w6).alloc (.cells #[.int .i64 10, .int .i64 10, .slice (some ⟨gb6, 0, none⟩) 100 c6] 59)))
        generalize w6.alloc (.cells #[.int .i64 10, .int .i64 10, .slice (some ⟨gb6, 0, none⟩) 100 c6] 59) = w9 at HG9 HF9 HR9 ⊢
        generalize w6.heap.size = P9 at HG9 ⊢
        clear hHeld
        have p0 := HG9.out.cell 0 rfl
        have p1 := HG9.out.cell 1 rfl
        have p2 := HG9.out.cell 2 rfl
        have pl := HG9.out.lt
        have HB10 := hid (HB9.out.fr HF9.out (fun h => h))
        have n0 := HB10.out.cell 0 rfl
        have n1 := HB10.out.cell 1 rfl
        have n2 := HB10.out.cell 2 rfl
        have n3 := HB10.out.frozen 0
        have n4 := HB10.out.frozen 1
        have n5 := HB10.out.frozen 2
        have nl := HB10.out.lt
        have HS10 := hid ((((Fr.refl (At w5.heap.size) w9).setAt 0 (.int .i64 10)).setAt 1 (.int .i64 10)).setAt 2 (.slice (some ⟨gb6, 0, none⟩) 100 c6))
        have HF10 := hid ((HP.out.fr.trans HF9.out).then_ HS10.out (fun j e => .inr (by have e' : j = w5.heap.size := e; rw [e']; exact Nat.le_trans HF4.out.size HF5.out.size)))
        have HB11 := hid (((HB10.out.set 0 (.int .i64 10)).set 1 (.int .i64 10)).set 2 (.slice (some ⟨gb6, 0, none⟩) 100 c6))
        have HR11 := hid (HR9.out.fr HS10.out (fun e => by obtain ⟨rest, hv⟩ := HR9.out.row; exact absurd (blk_ty (show Blk w9 w5.heap.size _ _ from e ▸ hv.blk) HB10.out) (by decide)))
        obtain ⟨s0, s1, s2, s3, s4, s5, s6, s7, s8⟩ := HSd.out _ HF10.out
        go_wp2_with fail
        generalize (((w9.setCell ⟨w5.heap.size, 0, none⟩ (.int .i64 10)).setCell ⟨w5.heap.size, 1, none⟩ (.int .i64 10)).setCell ⟨w5.heap.size, 2, none⟩ (.slice (some ⟨gb6, 0, none⟩) 100 c6)) = w10 at HS10 HF10 HB11 HR11 s0 s1 s2 s3 s4 s5 s6 s7 s8 ⊢
        obtain ⟨⟨nv, ns, hde, hown, hnl⟩, _, hall, hfr0, ho1, ho2, ho3⟩ := HP.out
        have hd9 := hde.frd HF9.out
        have HDE10 := hid (show DE _ f g gb 10 10 b cs nv ns v xs nx from ⟨hd9.fd.fr HS10.out (fun e => absurd (blk_type (show Blk w9 w5.heap.size _ _ from e ▸ hd9.fd.blk) HB10.out) (by decide)) (fun e => absurd (blk_type (show Blk w9 w5.heap.size _ _ from e ▸ hd9.fd.gd.blk) HB10.out) (by decide)) (fun e => absurd (blk_type (show Blk w9 w5.heap.size _ _ from e ▸ hd9.fd.gd.cel) HB10.out) (by decide)) (fun j hj e => hd9.fd.row.not_blk HB10.out (by decide) (show OwnB nv w5.heap.size from e ▸ hj)), hd9.sk.fr HS10.out (fun e => absurd (blk_type (show Blk w9 w5.heap.size _ _ from e ▸ hd9.sk.blk) HB10.out) (by decide)) (fun j hj e => hd9.sk.row.ne HB10.out (by decide) (show OwnB v w5.heap.size from e ▸ hj)), hd9.fit, hd9.len, hd9.w2, hd9.h2, hd9.ns⟩)
        have HALL10 := hid (hall.fr HF9.out (fun _ _ h => h))
        have HALL11 := hid (HALL10.out.fr HS10.out (fun j hj e => HALL10.out.ne HB10.out (by decide) (show OwnB (.slice A10 xs.length c10) w5.heap.size from e ▸ hj)))
        have HOK10 : Hid (q.Ok _) := hid ⟨HOQ.out.x, HOQ.out.y, HOQ.out.r, HOQ.out.ca.fr HF10.out (fun _ _ _ h => h), fun ad e h0 => Nat.lt_of_lt_of_le (HOQ.out.lt ad e h0) HF10.out.size, HOQ.out.cap⟩
        have hdo := do_any _ f g gb 10 10 b cs nv ns v xs nx q HDE10.out HOK10.out (by omega) (fun ad e h0 hb => by
          have := HOQ.out.lt ad e h0
          rcases hb with h | h | h
          · omega
          · omega
          · have := hown _ h
            omega)
        rw [doS_ref xs q cs ns (fun z hz => (HFIT.out z hz).1) (by omega)] at hdo
        have HDO := hid hdo
        have HOW := hid hown
        have hrl := refL_len xs q cs (fun z hz => (HFIT.out z hz).1) (by omega)
        have hn1 : ns.length ≤ k * 1000 := hnl
        have hlt10 := HB11.out.lt
        have hFB : Hid (∀ j, FB f gb nv j → (w.heap.size ≤ j)) := hid (fun j hj => by
          rcases hj with h | h | h
          · omega
          · omega
          · exact hown _ h)
        have hNotB : Hid (¬ FB f gb nv w5.heap.size) := hid (fun hj => by
          rcases hj with h | h | h
          · exact absurd (blk_type (show Blk _ w5.heap.size _ _ from h ▸ HDE10.out.fd.blk) HB11.out) (by decide)
          · exact absurd (blk_type (show Blk _ w5.heap.size _ _ from h ▸ HDE10.out.fd.gd.cel) HB11.out) (by decide)
          · exact HDE10.out.fd.row.not_blk HB11.out (by decide) h)
        have hNotG : Hid (¬ FB f gb nv gb6) := hid (fun hj => by
          obtain ⟨rest, hv⟩ := HR11.out.row
          rcases hj with h | h | h
          · exact absurd (blk_type (show Blk _ gb6 _ _ from h ▸ HDE10.out.fd.blk) hv.blk) (by decide)
          · exact HN6.out h
          · exact HDE10.out.fd.row.not_blk hv.blk (by decide) h)
        have hNotA : Hid (∀ j, OwnB (.slice A10 xs.length c10) j → ¬ FB f gb nv j) := hid (fun j hj hb => by
          rcases hb with h | h | h
          · exact HALL11.out.ne HDE10.out.fd.blk (by decide) (h ▸ hj)
          · exact HALL11.out.ne HDE10.out.fd.gd.cel (by decide) (h ▸ hj)
          · exact own_apart HALL11.out HDE10.out.fd.row hj h)
        clear hde hd9 hall hfr0 hdo hown hnl n0 n1 n2 n3 n4 n5 nl p0 p1 p2 pl
        refine HDO.out.mono ?_
        rintro e' w11 ⟨he, ⟨nv2, hfd2, hown2⟩, hsk2, hf2⟩
        obtain rfl : e' = .returned (.tuple #[.int .i64 (refL xs q cs).length, .int .i64 (foundE xs q.id)]) := he
        have HFD11 := hid hfd2
        have HSK11 := hid hsk2
        have HOWN11 : Hid (∀ j, OwnB nv2 j → w.heap.size ≤ j) := hid (fun j hj => by
          rcases hown2 j hj with h | h
          · exact HOW.out j h
          · have := HF10.out.size
            omega)
        have HF11 := hid (HF10.out.then_ hf2 (fun j hj => .inr (hFB.out j hj)))
        have HB12 := hid (HB11.out.fr hf2 hNotB.out)
        have HR12 := hid (HR11.out.fr hf2 hNotG.out)
        have HALL12 := hid (HALL11.out.fr hf2 hNotA.out)
        clear hfd2 hown2 hsk2 hf2
        have HGrid := fun W hW => hid (fGridX W f g gb _ nv2 _ (HFD11.out.frd hW))
        have HShow := fun W (hW : Fr NoB w11 W) g9 gb9 c9 hx => hid (shows_any W g9 gb9 c9 gb6 c6 _ hx (HR12.out.frd hW))
        unfold gV at HShow
        have HSc : Hid (∀ W, Fr NoB w11 W → W.cell? ⟨w5.heap.size, 0, none⟩ = some (.int .i64 10) ∧ W.cell? ⟨w5.heap.size, 1, none⟩ = some (.int .i64 10) ∧ W.cell? ⟨w5.heap.size, 2, none⟩ = some (.slice (some ⟨gb6, 0, none⟩) 100 c6)) := hid fun W hW => ⟨(HB12.out.fr hW (fun h => h)).cell 0 rfl, (HB12.out.fr hW (fun h => h)).cell 1 rfl, (HB12.out.fr hW (fun h => h)).cell 2 rfl⟩
        have HFD := hid (Fr.drew (Fr.refl NoB w11))
        clear s0 s1 s2 s3 s4 s5 s6 s7 s8
        go_wp2_with fail
        go_region_held3 (fun W : World => W.cell? ⟨w5.heap.size, 0, none⟩ = some (.int .i64 10) ∧ W.cell? ⟨w5.heap.size, 1, none⟩ = some (.int .i64 10) ∧ W.cell? ⟨w5.heap.size, 2, none⟩ = some (.slice (some ⟨gb6, 0, none⟩) 100 c6)) (first | exact HSc.out _ HF13.out | exact HSc.out _ HF12.out | exact HSc.out _ HFD.out | fail) (first | (go_at_call 21; refine (HGrid _ HFD.out).out.mono ?_; rintro e' w12 ⟨g9, gb9, c9, rfl, hx9, hf9⟩; have HX9 := hid hx9; have HF12 := hid (HFD.out.trans hf9); clear hx9 hf9) | (go_at_call 20; refine (HShow _ HF12.out g9 gb9 c9 HX9.out).out.mono ?_; rintro e' w13 ⟨rfl, hf9⟩; have HF13 := hid (HF12.out.trans hf9); clear hf9) | fail)
        go_wp2
        go_roundw
        case rel =>
          refine ⟨k + 1, by omega, by go_num, putsG 10 cs (refL xs q cs), ⟨nv2, ns ++ refL xs q cs, ⟨HFD11.out.frd HF13.out, HSK11.out.frd HF13.out, HFIT.out, by have := hxl.out; omega, by decide, by decide, by rw [List.length_append]; omega⟩, HOWN11.out, by rw [List.length_append]; omega⟩, ⟨gb6, c6, HB12.out.fr HF13.out (fun h => h), HR12.out.frd HF13.out, HN6.out⟩, HALL12.out.fr HF13.out (fun _ _ h => h), HF11.out.trans HF13.out, ho1, ho2, ?_⟩
          have h1 := HFD11.out.gd.cel.lt
          have h2 := HF13.out.size
          omega
        case measure => simp [intOf]; omega
      refine AllReadyH.cons (o := { dst := some 11, op := Op.alloc 59, type := 0, pos := "law.go:98", after := #[], guard := none }) rfl (fun K hK => ?_) ?_
      · go_simp
        refine hK.out _ _ (HSv.out _ (HFD.out.alloc _)) (fun hHeld => ?_)
        clear hK K
        try simp only [Act.put, sI, sZ, sS]
        refine wpAnyH_ready (rs := [6]) (by kernel_rfl) (by simp) ?_
        refine AllReadyH.cons (o := { dst := some 54, op := Op.call { callee := Callee.value (Operand.func 19), args := #[Operand.tmp 48, Operand.tmp 49, Operand.tmp 53], argTypes := #[59, 48, 53] }, type := 61, pos := "law.go:98", after := #[{ on := 0, ground := Ground.data }, { on := 1, ground := Ground.data }, { on := 5, ground := Ground.data }], guard := none }) rfl (fun K hK => ?_) AllReadyH.nil
        go_simp
        refine (HWant.out _ (HFD.out.alloc (.cells #[.int .i64 0, .int .i64 0, .slice none 0 0] 59))).mono ?_
        rintro e' w6 ⟨gb6, c6, rfl, hrg6, hf6, hn6⟩
        have HF6 : Hid (Fr NoB wr w6) := Fr.trans (HFD.out.alloc (.cells #[.int .i64 0, .int .i64 0, .slice none 0 0] 59)) hf6
        have HRG6 := hid hrg6
        have HN6 : Hid (gb6 ≠ gb) := hid (hn6.elim (fun h => h ▸ HNE.out) (fun h e => by have h2 := Fr.size (HFD.out.alloc (.cells #[.int .i64 0, .int .i64 0, .slice none 0 0] 59)); have h3 := HP.out.old.2.2; omega))
        have HZ6 : Hid (Blk w6 wr.heap.size 59 [.int .i64 0, .int .i64 0, .slice none 0 0]) := hid ((Blk.new wr.drew 59 [.int .i64 0, .int .i64 0, .slice none 0 0]).fr hf6 (fun h => h))
        have z0 := HZ6.out.cell 0 rfl
        have z1 := HZ6.out.cell 1 rfl
        have z2 := HZ6.out.cell 2 rfl
        have f0 := HZ6.out.frozen 0
        have f1 := HZ6.out.frozen 1
        have f2 := HZ6.out.frozen 2
        have zl := HZ6.out.lt
        clear hHeld hrg6 hf6 hn6
        unfold gV
        go_wp2_with fail
        refine hK.out _ _ (HSv.out _ HF6.out) (fun hHeld => ?_)
        clear hK K
        try simp only [Act.put, sI, sZ, sS]
        refine wpAnyH_take (i := 7) (oi := { dst := some 47, op := Op.move (Operand.tmp 54), type := 61, pos := "law.go:98", after := #[{ on := 6, ground := Ground.data }], guard := none }) (v := ?vpa13) rfl (by kernel_rfl) (by kernel_rfl) (by kernel_rfl) (fun _ _ _ h => h) (Or.inl ⟨by rfl, ?hypa13⟩) (by assumption) ?rpa13
        case hypa13 => (intro w hSw; (try dsimp only at hSw); go_simp; try (with_reducible rfl))
        try simp only [Act.put, sI, sZ, sS]
        refine wpAnyH_take (i := 8) (oi := { dst := some 55, op := Op.extract (Operand.tmp 47) 0, type := 59, pos := "law.go:98", after := #[{ on := 7, ground := Ground.data }], guard := none }) (v := ?vpa14) rfl (by kernel_rfl) (by kernel_rfl) (by kernel_rfl) (fun _ _ _ h => h) (Or.inl ⟨by rfl, ?hypa14⟩) (by assumption) ?rpa14
        case hypa14 => (intro w hSw; (try dsimp only at hSw); go_simp; try (with_reducible rfl))
        try simp only [Act.put, sI, sZ, sS]
        refine wpAnyH_take (i := 9) (oi := { dst := some 56, op := Op.extract (Operand.tmp 47) 1, type := 3, pos := "law.go:98", after := #[{ on := 7, ground := Ground.data }, { on := 12, ground := Ground.gcOnly Departure.lateStores }], guard := none }) (v := ?vpa15) rfl (by kernel_rfl) (by kernel_rfl) (by kernel_rfl) (fun _ _ _ h => h) (Or.inl ⟨by rfl, ?hypa15⟩) (by assumption) ?rpa15
        case hypa15 => (intro w hSw; (try dsimp only at hSw); go_simp; try (with_reducible rfl))
        try simp only [Act.put, sI, sZ, sS]
        refine wpAnyH_take (i := 10) (oi := { dst := some 57, op := Op.extract (Operand.tmp 47) 2, type := 31, pos := "law.go:98", after := #[{ on := 7, ground := Ground.data }, { on := 13, ground := Ground.gcOnly Departure.lateStores }], guard := none }) (v := ?vpa16) rfl (by kernel_rfl) (by kernel_rfl) (by kernel_rfl) (fun _ _ _ h => h) (Or.inl ⟨by rfl, ?hypa16⟩) (by assumption) ?rpa16
        case hypa16 => (intro w hSw; (try dsimp only at hSw); go_simp; try (with_reducible rfl))
        try simp only [Act.put, sI, sZ, sS]
        refine wpAnyH_ready (rs := [12]) (by kernel_rfl) (by simp) ?_
        refine AllReadyH.cons (o := { dst := none, op := Op.store 59 (Operand.tmp 11) (Operand.tmp 55), type := 0, pos := "law.go:98", after := #[{ on := 11, ground := Ground.data }, { on := 8, ground := Ground.data }, { on := 6, ground := Ground.chain }, { on := 0, ground := Ground.phase }, { on := 1, ground := Ground.phase }, { on := 2, ground := Ground.phase }, { on := 3, ground := Ground.phase }, { on := 4, ground := Ground.phase }, { on := 5, ground := Ground.phase }, { on := 6, ground := Ground.phase }, { on := 7, ground := Ground.phase }, { on := 8, ground := Ground.phase }, { on := 9, ground := Ground.textOnly Departure.lateStores }, { on := 10, ground := Ground.textOnly Departure.lateStores }, { on := 11, ground := Ground.phase }], guard := none }) rfl (fun K hK => ?_) AllReadyH.nil
        go_simp
        refine hK.out _ _ (HSv.out _ (Fr.then_ HF6.out ((((Fr.refl (At wr.heap.size) w6).setAt 0 (.int .i64 10)).setAt 1 (.int .i64 10)).setAt 2 (.slice (some ⟨gb6, 0, none⟩) 100 c6)) (fun j e => .inr (by have e' : j = wr.heap.size := e; omega)))) (fun hHeld => ?_)
        clear hK K
        try simp only [Act.put, sI, sZ, sS]
        refine wpAnyH_take (i := 13) (oi := { dst := some 12, op := Op.assign (Operand.tmp 56), type := 3, pos := "law.go:98", after := #[{ on := 9, ground := Ground.data }, { on := 12, ground := Ground.chain }, { on := 0, ground := Ground.phase }, { on := 1, ground := Ground.phase }, { on := 2, ground := Ground.phase }, { on := 3, ground := Ground.phase }, { on := 4, ground := Ground.phase }, { on := 5, ground := Ground.phase }, { on := 6, ground := Ground.phase }, { on := 7, ground := Ground.phase }, { on := 8, ground := Ground.phase }, { on := 9, ground := Ground.phase }, { on := 10, ground := Ground.textOnly Departure.lateStores }, { on := 11, ground := Ground.phase }, { on := 12, ground := Ground.phase }], guard := none }) (v := ?vpa17) rfl (by kernel_rfl) (by kernel_rfl) (by kernel_rfl) (fun _ _ _ h => h) (Or.inl ⟨by rfl, ?hypa17⟩) (by assumption) ?rpa17
        case hypa17 => (intro w hSw; (try dsimp only at hSw); go_simp; try (with_reducible rfl))
        try simp only [Act.put, sI, sZ, sS]
        refine wpAnyH_take (i := 14) (oi := { dst := some 13, op := Op.assign (Operand.tmp 57), type := 31, pos := "law.go:98", after := #[{ on := 10, ground := Ground.data }, { on := 13, ground := Ground.chain }, { on := 0, ground := Ground.phase }, { on := 1, ground := Ground.phase }, { on := 2, ground := Ground.phase }, { on := 3, ground := Ground.phase }, { on := 4, ground := Ground.phase }, { on := 5, ground := Ground.phase }, { on := 6, ground := Ground.phase }, { on := 7, ground := Ground.phase }, { on := 8, ground := Ground.phase }, { on := 9, ground := Ground.phase }, { on := 10, ground := Ground.phase }, { on := 11, ground := Ground.phase }, { on := 12, ground := Ground.phase }, { on := 13, ground := Ground.phase }], guard := none }) (v := ?vpa18) rfl (by kernel_rfl) (by kernel_rfl) (by kernel_rfl) (fun _ _ _ h => h) (Or.inl ⟨by rfl, ?hypa18⟩) (by assumption) ?rpa18
        case hypa18 => (intro w hSw; (try dsimp only at hSw); go_simp; try (with_reducible rfl))
        try simp only [Act.put, sI, sZ, sS]
        refine wpAnyH_done (by kernel_rfl) ?_ _
        have HS9 := hid ((((Fr.refl (At wr.heap.size) w6).setAt 0 (.int .i64 10)).setAt 1 (.int .i64 10)).setAt 2 (.slice (some ⟨gb6, 0, none⟩) 100 c6))
        have HG9 := hid (((HZ6.out.set 0 (.int .i64 10)).set 1 (.int .i64 10)).set 2 (.slice (some ⟨gb6, 0, none⟩) 100 c6))
        have HF9 : Hid (Fr NoB wr (((w6.setCell ⟨wr.heap.size, 0, none⟩ (.int .i64 10)).setCell ⟨wr.heap.size, 1, none⟩ (.int .i64 10)).setCell ⟨wr.heap.size, 2, none⟩ (.slice (some ⟨gb6, 0, none⟩) 100 c6))) := hid (HF6.out.then_ HS9.out (fun j e => .inr (by have e' : j = wr.heap.size := e; omega)))
        have HR9 := hid (HRG6.out.fr HS9.out (fun e => by obtain ⟨rest, hv⟩ := HRG6.out.row; exact absurd (blk_ty (show Blk w6 wr.heap.size _ _ from e ▸ hv.blk) HZ6.out) (by decide)))
        generalize ((w6.setCell ⟨wr.heap.size, 0, none⟩ (.int .i64 10)).setCell ⟨wr.heap.size, 1, none⟩ (.int .i64 10)).setCell ⟨wr.heap.size, 2, none⟩ (.slice (some ⟨gb6, 0, none⟩) 100 c6) = w9 at HS9 HG9 HF9 HR9 ⊢
        generalize wr.heap.size = P9 at HG9 ⊢
        clear hHeld
        have p0 := HG9.out.cell 0 rfl
        have p1 := HG9.out.cell 1 rfl
        have p2 := HG9.out.cell 2 rfl
        have pl := HG9.out.lt
        have HB10 := hid (HB9.out.fr HF9.out (fun h => h))
        have n0 := HB10.out.cell 0 rfl
        have n1 := HB10.out.cell 1 rfl
        have n2 := HB10.out.cell 2 rfl
        have n3 := HB10.out.frozen 0
        have n4 := HB10.out.frozen 1
        have n5 := HB10.out.frozen 2
        have nl := HB10.out.lt
        have HS10 := hid ((((Fr.refl (At w5.heap.size) w9).setAt 0 (.int .i64 10)).setAt 1 (.int .i64 10)).setAt 2 (.slice (some ⟨gb6, 0, none⟩) 100 c6))
        have HF10 := hid ((HP.out.fr.trans HF9.out).then_ HS10.out (fun j e => .inr (by have e' : j = w5.heap.size := e; rw [e']; exact Nat.le_trans HF4.out.size HF5.out.size)))
        have HB11 := hid (((HB10.out.set 0 (.int .i64 10)).set 1 (.int .i64 10)).set 2 (.slice (some ⟨gb6, 0, none⟩) 100 c6))
        have HR11 := hid (HR9.out.fr HS10.out (fun e => by obtain ⟨rest, hv⟩ := HR9.out.row; exact absurd (blk_ty (show Blk w9 w5.heap.size _ _ from e ▸ hv.blk) HB10.out) (by decide)))
        obtain ⟨s0, s1, s2, s3, s4, s5, s6, s7, s8⟩ := HSd.out _ HF10.out
        go_wp2_with fail
        generalize (((w9.setCell ⟨w5.heap.size, 0, none⟩ (.int .i64 10)).setCell ⟨w5.heap.size, 1, none⟩ (.int .i64 10)).setCell ⟨w5.heap.size, 2, none⟩ (.slice (some ⟨gb6, 0, none⟩) 100 c6)) = w10 at HS10 HF10 HB11 HR11 s0 s1 s2 s3 s4 s5 s6 s7 s8 ⊢
        obtain ⟨⟨nv, ns, hde, hown, hnl⟩, _, hall, hfr0, ho1, ho2, ho3⟩ := HP.out
        have hd9 := hde.frd HF9.out
        have HDE10 := hid (show DE _ f g gb 10 10 b cs nv ns v xs nx from ⟨hd9.fd.fr HS10.out (fun e => absurd (blk_type (show Blk w9 w5.heap.size _ _ from e ▸ hd9.fd.blk) HB10.out) (by decide)) (fun e => absurd (blk_type (show Blk w9 w5.heap.size _ _ from e ▸ hd9.fd.gd.blk) HB10.out) (by decide)) (fun e => absurd (blk_type (show Blk w9 w5.heap.size _ _ from e ▸ hd9.fd.gd.cel) HB10.out) (by decide)) (fun j hj e => hd9.fd.row.not_blk HB10.out (by decide) (show OwnB nv w5.heap.size from e ▸ hj)), hd9.sk.fr HS10.out (fun e => absurd (blk_type (show Blk w9 w5.heap.size _ _ from e ▸ hd9.sk.blk) HB10.out) (by decide)) (fun j hj e => hd9.sk.row.ne HB10.out (by decide) (show OwnB v w5.heap.size from e ▸ hj)), hd9.fit, hd9.len, hd9.w2, hd9.h2, hd9.ns⟩)
        have HALL10 := hid (hall.fr HF9.out (fun _ _ h => h))
        have HALL11 := hid (HALL10.out.fr HS10.out (fun j hj e => HALL10.out.ne HB10.out (by decide) (show OwnB (.slice A10 xs.length c10) w5.heap.size from e ▸ hj)))
        have HOK10 : Hid (q.Ok _) := hid ⟨HOQ.out.x, HOQ.out.y, HOQ.out.r, HOQ.out.ca.fr HF10.out (fun _ _ _ h => h), fun ad e h0 => Nat.lt_of_lt_of_le (HOQ.out.lt ad e h0) HF10.out.size, HOQ.out.cap⟩
        have hdo := do_any _ f g gb 10 10 b cs nv ns v xs nx q HDE10.out HOK10.out (by omega) (fun ad e h0 hb => by
          have := HOQ.out.lt ad e h0
          rcases hb with h | h | h
          · omega
          · omega
          · have := hown _ h
            omega)
        rw [doS_ref xs q cs ns (fun z hz => (HFIT.out z hz).1) (by omega)] at hdo
        have HDO := hid hdo
        have HOW := hid hown
        have hrl := refL_len xs q cs (fun z hz => (HFIT.out z hz).1) (by omega)
        have hn1 : ns.length ≤ k * 1000 := hnl
        have hlt10 := HB11.out.lt
        have hFB : Hid (∀ j, FB f gb nv j → (w.heap.size ≤ j)) := hid (fun j hj => by
          rcases hj with h | h | h
          · omega
          · omega
          · exact hown _ h)
        have hNotB : Hid (¬ FB f gb nv w5.heap.size) := hid (fun hj => by
          rcases hj with h | h | h
          · exact absurd (blk_type (show Blk _ w5.heap.size _ _ from h ▸ HDE10.out.fd.blk) HB11.out) (by decide)
          · exact absurd (blk_type (show Blk _ w5.heap.size _ _ from h ▸ HDE10.out.fd.gd.cel) HB11.out) (by decide)
          · exact HDE10.out.fd.row.not_blk HB11.out (by decide) h)
        have hNotG : Hid (¬ FB f gb nv gb6) := hid (fun hj => by
          obtain ⟨rest, hv⟩ := HR11.out.row
          rcases hj with h | h | h
          · exact absurd (blk_type (show Blk _ gb6 _ _ from h ▸ HDE10.out.fd.blk) hv.blk) (by decide)
          · exact HN6.out h
          · exact HDE10.out.fd.row.not_blk hv.blk (by decide) h)
        have hNotA : Hid (∀ j, OwnB (.slice A10 xs.length c10) j → ¬ FB f gb nv j) := hid (fun j hj hb => by
          rcases hb with h | h | h
          · exact HALL11.out.ne HDE10.out.fd.blk (by decide) (h ▸ hj)
          · exact HALL11.out.ne HDE10.out.fd.gd.cel (by decide) (h ▸ hj)
          · exact own_apart HALL11.out HDE10.out.fd.row hj h)
        clear hde hd9 hall hfr0 hdo hown hnl n0 n1 n2 n3 n4 n5 nl p0 p1 p2 pl
        refine HDO.out.mono ?_
        rintro e' w11 ⟨he, ⟨nv2, hfd2, hown2⟩, hsk2, hf2⟩
        obtain rfl : e' = .returned (.tuple #[.int .i64 (refL xs q cs).length, .int .i64 (foundE xs q.id)]) := he
        have HFD11 := hid hfd2
        have HSK11 := hid hsk2
        have HOWN11 : Hid (∀ j, OwnB nv2 j → w.heap.size ≤ j) := hid (fun j hj => by
          rcases hown2 j hj with h | h
          · exact HOW.out j h
          · have := HF10.out.size
            omega)
        have HF11 := hid (HF10.out.then_ hf2 (fun j hj => .inr (hFB.out j hj)))
        have HB12 := hid (HB11.out.fr hf2 hNotB.out)
        have HR12 := hid (HR11.out.fr hf2 hNotG.out)
        have HALL12 := hid (HALL11.out.fr hf2 hNotA.out)
        clear hfd2 hown2 hsk2 hf2
        have HGrid := fun W hW => hid (fGridX W f g gb _ nv2 _ (HFD11.out.frd hW))
        have HShow := fun W (hW : Fr NoB w11 W) g9 gb9 c9 hx => hid (shows_any W g9 gb9 c9 gb6 c6 _ hx (HR12.out.frd hW))
        unfold gV at HShow
        have HSc : Hid (∀ W, Fr NoB w11 W → W.cell? ⟨w5.heap.size, 0, none⟩ = some (.int .i64 10) ∧ W.cell? ⟨w5.heap.size, 1, none⟩ = some (.int .i64 10) ∧ W.cell? ⟨w5.heap.size, 2, none⟩ = some (.slice (some ⟨gb6, 0, none⟩) 100 c6)) := hid fun W hW => ⟨(HB12.out.fr hW (fun h => h)).cell 0 rfl, (HB12.out.fr hW (fun h => h)).cell 1 rfl, (HB12.out.fr hW (fun h => h)).cell 2 rfl⟩
        have HFD := hid (Fr.drew (Fr.refl NoB w11))
        clear s0 s1 s2 s3 s4 s5 s6 s7 s8
        go_wp2_with fail
        go_region_held3 (fun W : World => W.cell? ⟨w5.heap.size, 0, none⟩ = some (.int .i64 10) ∧ W.cell? ⟨w5.heap.size, 1, none⟩ = some (.int .i64 10) ∧ W.cell? ⟨w5.heap.size, 2, none⟩ = some (.slice (some ⟨gb6, 0, none⟩) 100 c6)) (first | exact HSc.out _ HF13.out | exact HSc.out _ HF12.out | exact HSc.out _ HFD.out | fail) (first | (go_at_call 21; refine (HGrid _ HFD.out).out.mono ?_; rintro e' w12 ⟨g9, gb9, c9, rfl, hx9, hf9⟩; have HX9 := hid hx9; have HF12 := hid (HFD.out.trans hf9); clear hx9 hf9) | (go_at_call 20; refine (HShow _ HF12.out g9 gb9 c9 HX9.out).out.mono ?_; rintro e' w13 ⟨rfl, hf9⟩; have HF13 := hid (HF12.out.trans hf9); clear hf9) | fail)
        go_wp2
        go_roundw
        case rel =>
          refine ⟨k + 1, by omega, by go_num, putsG 10 cs (refL xs q cs), ⟨nv2, ns ++ refL xs q cs, ⟨HFD11.out.frd HF13.out, HSK11.out.frd HF13.out, HFIT.out, by have := hxl.out; omega, by decide, by decide, by rw [List.length_append]; omega⟩, HOWN11.out, by rw [List.length_append]; omega⟩, ⟨gb6, c6, HB12.out.fr HF13.out (fun h => h), HR12.out.frd HF13.out, HN6.out⟩, HALL12.out.fr HF13.out (fun _ _ h => h), HF11.out.trans HF13.out, ho1, ho2, ?_⟩
          have h1 := HFD11.out.gd.cel.lt
          have h2 := HF13.out.size
          omega
        case measure => simp [intOf]; omega
      exact AllReadyH.nil
    · obtain rfl : k = d.length := by omega
      obtain ⟨⟨nv, ns, hde, hown, hnl⟩, _, hall, hfr0, ho1, ho2, ho3⟩ := HP.out
      have HF14 := hid hfr0
      clear hde hown hnl hall hfr0 hP
      have HFn := fun W => hid (dFill_nil W b)
      have HCn := fun W => hid (dCopy_nil W f)
      go_wp2_with fail
      refine (HFn _).out.mono ?_
      rintro e' w15 ⟨rfl, hf15⟩
      have HF15 := hid (HF14.out.trans hf15)
      clear hf15
      go_wp2_with fail
      refine (HCn _).out.mono ?_
      rintro e' w16 ⟨rfl, hf16⟩
      have HF16 := hid (HF15.out.trans hf16)
      clear hf16
      go_wp2_with fail
      refine (HAw _).out.mono ?_
      rintro e' w17 ⟨rfl, hf17⟩
      have HF17 := hid (HF16.out.trans hf17)
      clear hf17
      go_wp2
      go_ret
      exact ⟨rfl, HF17.out⟩
theorem drawPlays_walk (A : Option Addr) (cap : Nat) (l : List Ac) (B : Option Addr) (cap2 : Nat) (d : List Dr) (w : World) (hl : AcA w A l ∧ ∀ q ∈ l, I64 q.do_) (hcap : l.length ≤ cap) (hd : FA Dr.cells 9 w B d ∧ ∀ q ∈ d, q.Ok w) (hcap2 : d.length ≤ cap2) :
    Calls Try.prog 5 #[.slice A l.length cap, .slice B d.length cap2] w fun e w' => e = .returned (.bool true) ∧ Below w.heap.size w w' :=
  (drawPlays_any w A cap l B cap2 d hl.1 hcap hd.1 hd.2 hcap2).mono fun e w' h => ⟨h.1, h.2.below0⟩
end Go.Proofs.Ytnengimekcnfhaa
