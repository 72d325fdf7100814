import Derived.Test.YtnengimekcnfhaaDoorT1
import Derived.Test.YtnengimekcnfhaaDoorU5
import Derived.Test.YtnengimekcnfhaaDoorG1
import Derived.Test.YtnengimekcnfhaaDoorQ0
import Derived.Laws.IdiomStrings
import Derived.Deep.Cut
set_option linter.unusedSimpArgs false
set_option linter.unusedVariables false
set_option maxRecDepth 20000
namespace Go.Proofs.YtnengimekcnfhaaDoor
open Go.RowKit Go.Proofs.YtnengimekcnfhaaDoorW.PrintWords
/-- A pen. -/
structure Pn where
  fg : Int
  bg : Int
  fl : Int
def Pn.cells (p : Pn) : List Value := [.int .i64 p.fg, .int .i64 p.bg, .int .i64 p.fl]
def Pn.v (p : Pn) : Value := .agg #[.int .i64 p.fg, .int .i64 p.bg, .int .i64 p.fl]
def Pn.on (p : Pn) (r : Int) : Cl := ⟨r, p.fg, p.bg, p.fl⟩
def txt1 (p : Pn) (r : Int) : List Cl := if widthZ r = 1 then [p.on r] else if widthZ r = 2 then [p.on r, p.on (-1)] else []
/-- The cells of runes. -/
def txtL (p : Pn) (us : List Int) : List Cl := us.flatMap (txt1 p)
theorem txtL_snoc (p : Pn) (us : List Int) (k : Nat) (h : k < us.length) : txtL p (us.take (k + 1)) = txtL p (us.take k) ++ txt1 p us[k] := by
  unfold txtL
  rw [List.take_succ_eq_append_getElem h, List.flatMap_append]
  simp
theorem txt1_len (p : Pn) (r : Int) : (txt1 p r).length ≤ 2 := by unfold txt1; split; simp; split <;> simp
theorem txtL_len (p : Pn) (us : List Int) : (txtL p us).length ≤ 2 * us.length := by
  unfold txtL
  induction us with
  | nil => simp
  | cons a l ih =>
    have := txt1_len p a
    rw [List.flatMap_cons, List.length_append, List.length_cons]
    omega
theorem widthZ_of (r : Int) : widthZ r = -1 ∨ widthZ r = 0 ∨ widthZ r = 1 ∨ widthZ r = 2 := by
  unfold widthZ
  split
  · exact .inl rfl
  · split
    · exact .inr (.inl rfl)
    · split
      · exact .inr (.inr (.inr rfl))
      · exact .inr (.inr (.inl rfl))
theorem pall_len2 (l : List Int) : (pall l).length ≤ 2 * l.length + 1 := by
  have h1 := prun_len l l.length
  rw [List.take_length] at h1
  have h2 := pflush_len (prun ([], []) l).1
  unfold pall
  rw [List.length_append]
  omega
def bytesOfS (s : ByteArray) : List Int := s.data.toList.map fun c => (c.toNat : Int)
theorem pall_bd : ∀ (l : List Int), (∀ x ∈ l, 0 ≤ x ∧ x ≤ 255) → ∀ u ∈ pall l, 0 ≤ u ∧ u ≤ 8388608
  | [], _ => by intro u hu; simp [pall, prun, pflush] at hu
  | c :: r, h => by
    intro u hu
    rw [pall_step] at hu
    have hn := dec1_N c r
    rcases List.mem_cons.1 hu with rfl | hu
    · exact dec1_V c r (h c (by simp)).1
    · exact pall_bd ((c :: r).drop (dec1 (c :: r)).2) (fun x hx => h x (List.mem_of_mem_drop hx)) u hu
  termination_by l => l.length
  decreasing_by
    simp only [List.length_drop, List.length_cons]
    omega
theorem str_C (w : World) (s : ByteArray) (cap e : Nat) (fz : Nat × Nat) (hs : s.size ≤ 9223372036854775807) : Kd.C (Kd.int .u8) (w.alloc (.cells (bytesRow s cap) e fz)) (some ⟨w.heap.size, 0, none⟩) (bytesOfS s).length (bytesOfS s) := by
  have hl : (bytesOfS s).length = s.data.size := by simp [bytesOfS]
  refine Kd.C_of_reads (d := (0 : Int)) (h1 := fun _ => rfl) ⟨rfl, by rw [hl]; exact hs, fun _ => ⟨_, rfl, fun j hj => ?_⟩⟩
  rw [hl] at hj
  have h1 : (w.alloc (.cells (bytesRow s cap) e fz)).cell? ⟨w.heap.size, j, none⟩ = some (.int .u8 (s.data[j].toNat : Int)) := by
    have h2 : (w.alloc (.cells (bytesRow s cap) e fz)).heap[w.heap.size]? = some (.cells (bytesRow s cap) e fz) := by
      show (w.heap.push _)[_]? = _
      rw [Array.getElem?_push, if_pos rfl]
    simp only [World.cell?, h2]
    simpa using bytesRow_at s cap j hj
  rw [show (⟨w.heap.size, 0, none⟩ : Addr).add j = ⟨w.heap.size, j, none⟩ from by cases j <;> simp [Addr.add]]
  rw [h1]
  simp [bytesOfS, List.getD_eq_getElem?_getD, hj, Array.getElem?_eq_getElem hj]
theorem bytesOfS_bd (s : ByteArray) : ∀ x ∈ bytesOfS s, 0 ≤ x ∧ x ≤ 255 := by
  intro x hx
  unfold bytesOfS at hx
  obtain ⟨c, _, rfl⟩ := List.mem_map.1 hx
  have := c.toNat_lt
  omega
theorem Row.lower {α : Type} {f : α → List Value} {sz : Nat} {e : TypeId} {w : World} {base b2 : Nat} {v : Value} {xs : List α} (h : Row f sz e w base v xs) (hb : b2 ≤ base) : Row f sz e w b2 v xs := ⟨h.1, h.2.imp id (fun ⟨g, c, cur, h1, h2, h3⟩ => ⟨g, c, cur, h1, Nat.le_trans hb h2, h3⟩)⟩
theorem le32 (n : Nat) (h : n ≤ 6000) : n * 32 ≤ 140737488355328 := by omega
/-- A text's cells lie in a slice; the rest is kept. -/
def ClsTo (w : World) (l : List Cl) (e : Ending) (w' : World) : Prop := ∃ v, e = .returned v ∧ Row Cl.cells 4 40 w' w.heap.size v l ∧ Fr NoB w w'
theorem src1 {w : World} {T : TypeId} {b : Nat} {ys : List Cl} (h : Blk w b T (ys.flatMap Cl.cells)) : ∀ j u, (ys.flatMap Cl.cells)[j]? = some u → w.cell? ((⟨b, 0, none⟩ : Addr).add j) = some u :=
  Blk.cells h 0 _ (fun j v hj => by rw [Nat.zero_add]; exact hj)
set_option maxHeartbeats 8000000 in
theorem dText_any (w : World) (s : ByteArray) (p : Pn) (hs : s.size ≤ 1000) (hL : WideLaid w) : Calls Tryd.prog 6 #[.string s, p.v] w (ClsTo w (txtL p (pall (bytesOfS s)))) := by
  have hf1 : Fr NoB w (w.alloc (.cells #[.int .i64 p.fg, .int .i64 p.bg, .int .i64 p.fl] 23)) := (Fr.refl _ _).alloc _
  have hpb : Blk (w.alloc (.cells #[.int .i64 p.fg, .int .i64 p.bg, .int .i64 p.fl] 23)) w.heap.size 23 p.cells := Blk.new w 23 p.cells
  have hll : (bytesOfS s).length ≤ 1000 := by simpa [bytesOfS] using hs
  have HWd := fun W (hW : Fr NoB w W) r => hid (wWidth_any W r (hL.fr hW))
  have hpl := pall_len2 (bytesOfS s)
  have hub := pall_bd (bytesOfS s) (bytesOfS_bd s)
  obtain ⟨us, hus⟩ : ∃ us, us = pall (bytesOfS s) := ⟨_, rfl⟩
  rw [← hus]
  rw [← hus] at hpl hub
  have HUS := hid hus
  have HUB := hid hub
  clear hus hub
  have HF1 := hid hf1
  have HPB1 := hid hpb
  clear hf1 hpb hL
  unfold Pn.v
  go_enter Tryd.func6, Tryd.ntmps6
  go_upto_region 2 with (fail)
  generalize (w.alloc (.cells #[.int .i64 p.fg, .int .i64 p.bg, .int .i64 p.fl] 23)) = w1 at HF1 HPB1 ⊢
  have hrun := run_bytes_of_string (P := Tryd.prog) w1 9 48 5 s Tryd.underlying9 Tryd.underlying48 Tryd.underlying5
  have hsz : s.size = (bytesOfS s).length := by simp [bytesOfS]
  have hcap : s.size ≤ grownCap w1 s.size 0 5 := by unfold grownCap; simp [Question.cut]
  have hC := str_C w1.drew s (grownCap w1 s.size 0 5) 5 ((bytesRow s (grownCap w1 s.size 0 5)).size, (bytesRow s (grownCap w1 s.size 0 5)).size + 1) (by omega)
  have hbd := bytesOfS_bd s
  generalize grownCap w1 s.size 0 5 = cap at hrun hcap hC
  rw [hsz] at hrun hcap
  generalize (.cells (bytesRow s cap) 5 ((bytesRow s cap).size, (bytesRow s cap).size + 1) : Obj) = ob at hrun hC
  have HAll := hid (all_any _ _ cap (bytesOfS s) hC hbd (by omega))
  rw [← HUS.out] at HAll
  have HF2 := hid (HF1.out.drew.alloc ob)
  have HPB := hid (HPB1.out.drew.alloc ob)
  clear hsz hcap hC hbd hs HPB1 HF1
  generalize bytesOfS s = bl at hrun HAll hll hpl HUS ⊢
  clear HUS
  go_wp2_with fail
  refine HAll.out.mono ?_
  rintro e' w3 ⟨v, rfl, hv, hf3⟩
  obtain ⟨A1, c1, rfl, hcc, hC1⟩ := Kd.R_reads hv
  have HC1 := hid hC1
  have HF3 := hid (HF2.out.trans hf3)
  have HPB3 := hid (HPB.out.fr hf3 (fun h => h))
  clear hv hC1 hf3 hrun HAll HPB HF2
  go_wp2_with fail
  go_loopw [5, 12] (fun v5 v12 wr => ∃ k : Nat, k ≤ us.length ∧ v12 = .int .i64 k ∧ Row Cl.cells 4 40 wr w3.heap.size v5 (txtL p (us.take k)) ∧ Hid (Fr NoB w3 wr)) (fun _ v12 _ => us.length - (intOf v12).toNat)
  case atStart => exact ⟨0, Nat.zero_le _, rfl, Row.nil _ _ _ _ _, Fr.refl _ _⟩
  case round =>
    obtain ⟨k, hk, rfl, hR, HF⟩ := hrel
    have HR := hid hR
    clear hR
    by_cases hkm : k < us.length
    · obtain ⟨ad, e, hcell⟩ := C_at (Kd.C_below HC1.out HF.out.below0) k hkm
      cases e
      have HW := hid fun W (hW : Fr NoB w W) => (HWd W hW us[k]).out
      have HTS := hid (txtL_snoc p us k hkm)
      have hln := txtL_len p (us.take k)
      have hlt : (us.take k).length = k := by rw [List.length_take]; omega
      have hl1 : (txtL p (us.take k)).length ≤ 5000 := by omega
      clear hln hlt
      have hcs := widthZ_of us[k]
      have ht1 : txt1 p us[k] = if widthZ us[k] = 1 then [p.on us[k]] else if widthZ us[k] = 2 then [p.on us[k], p.on (-1)] else [] := rfl
      generalize us[k] = r at *
      generalize txtL p (us.take k) = L at *
      obtain ⟨wz, hwz⟩ : ∃ wz, wz = widthZ r := ⟨_, rfl⟩
      rw [← hwz] at hcs ht1
      have HWZ := hid hwz
      clear hwz HWd
      rcases hcs with rfl | rfl | rfl | rfl
      · have HT1 : Hid (txt1 p r = []) := ht1
        clear ht1
        go_wp2_with fail
        refine (HW.out _ (HF3.out.trans HF.out)).mono ?_
        rintro e' w4 ⟨rfl, hf4⟩
        rw [← HWZ.out]
        have HF5 := hid (HF.out.trans hf4)
        have HR5 := hid (by rw [List.append_nil]; exact HR.out.fr hf4 (fun _ _ h => h) : Row Cl.cells 4 40 w4 w3.heap.size u5 (L ++ []))
        clear hf4
        go_wp2
        go_roundw
        case rel => exact ⟨k + 1, by omega, by go_num, by rw [HTS.out, HT1.out]; exact HR5.out, HF5.out⟩
        case measure => simp [intOf]; omega
      · have HT1 : Hid (txt1 p r = []) := ht1
        clear ht1
        go_wp2_with fail
        refine (HW.out _ (HF3.out.trans HF.out)).mono ?_
        rintro e' w4 ⟨rfl, hf4⟩
        rw [← HWZ.out]
        have HF5 := hid (HF.out.trans hf4)
        have HR5 := hid (by rw [List.append_nil]; exact HR.out.fr hf4 (fun _ _ h => h) : Row Cl.cells 4 40 w4 w3.heap.size u5 (L ++ []))
        clear hf4
        go_wp2
        go_roundw
        case rel => exact ⟨k + 1, by omega, by go_num, by rw [HTS.out, HT1.out]; exact HR5.out, HF5.out⟩
        case measure => simp [intOf]; omega
      · have HT1 : Hid (txt1 p r = [p.on r]) := ht1
        clear ht1
        go_wp2_with fail
        refine (HW.out _ (HF3.out.trans HF.out)).mono ?_
        rintro e' w4 ⟨rfl, hf4⟩
        rw [← HWZ.out]
        have HF4 := hid (HF.out.trans hf4)
        have hR4 := HR.out.fr hf4 (fun _ _ h => h)
        have hpb := HPB3.out.fr HF4.out (fun h => h)
        have b0 := hpb.cell 0 rfl
        have b1 := hpb.cell 1 rfl
        have b2 := hpb.cell 2 rfl
        have HSz := hid HF4.out.size
        have hl32 : (L.length + 1) * 32 ≤ 140737488355328 := by omega
        have HR4 := hid hR4
        clear hf4 hpb hR4
        go_wp2_with (at_builtin; go_must (refine row_app (f := Cl.cells) Cl.cells_len Cl.one w3.heap.size rfl (.tmp 20) (.tmp 24) 26 40 Cl.zero.v 32 rfl Tryd.underlying26 infoCl rfl (by omega) (by omega) _ L (p.on r) rfl rfl HR4.out HSz.out hl32 ?_); intro v5 w5 hR5 hf5 hat)
        have HR5 := hid hR5
        have HF5 : Hid (Fr NoB w3 w5) := hid ((HF4.out.then_ hf5 (fun j hj => .inr (HR4.out.lt j hj).1)))
        clear hR5 hf5 hat
        go_roundw
        case rel => exact ⟨k + 1, by omega, by go_num, by rw [HTS.out, HT1.out]; exact HR5.out, HF5.out⟩
        case measure => simp [intOf]; omega
      · have HT1 : Hid (txt1 p r = [p.on r, p.on (-1)]) := ht1
        clear ht1
        go_wp2_with fail
        refine (HW.out _ (HF3.out.trans HF.out)).mono ?_
        rintro e' w4 ⟨rfl, hf4⟩
        rw [← HWZ.out]
        have HF4 := hid (HF.out.trans hf4)
        have hR4 := HR.out.fr hf4 (fun _ _ h => h)
        have hpb := HPB3.out.fr HF4.out (fun h => h)
        have b0 := hpb.cell 0 rfl
        have b1 := hpb.cell 1 rfl
        have b2 := hpb.cell 2 rfl
        have hl32 : (L.length + 2) * 32 ≤ 140737488355328 := by omega
        have hsz : w3.heap.size ≤ (w4.alloc (.cells ([p.on r, p.on (-1)].flatMap Cl.cells).toArray 40)).heap.size := (HF4.out.alloc _).size
        have HSz := hid hsz
        have HS := hid (src1 (Blk.new w4 40 ([p.on r, p.on (-1)].flatMap Cl.cells)))
        have HR4 := hid (hR4.fr ((Fr.refl NoB w4).alloc (.cells ([p.on r, p.on (-1)].flatMap Cl.cells).toArray 40)) (fun _ _ h => h))
        have HM : Hid ([p.on r, p.on (-1)].length = 2) := hid rfl
        clear hf4 hpb hR4 hsz
        go_wp2_with (at_builtin; go_must (refine row_apps (f := Cl.cells) Cl.cells_len Cl.one w3.heap.size rfl (.tmp 28) (.tmp 34) 26 40 Cl.zero.v 32 rfl Tryd.underlying26 infoCl rfl (by omega) (by omega) _ L [p.on r, p.on (-1)] ⟨w4.heap.size, 0, none⟩ 2 2 rfl rfl HM.out HS.out HR4.out HSz.out hl32 ?_); intro v5 w5 hR5 hf5 hat)
        have HR5 := hid hR5
        have HF5 : Hid (Fr NoB w3 w5) := hid (((HF4.out.alloc _).then_ hf5 (fun j hj => .inr (HR4.out.lt j hj).1)))
        clear hR5 hf5 hat
        go_roundw
        case rel => exact ⟨k + 1, by omega, by go_num, by rw [HTS.out, HT1.out]; exact HR5.out, HF5.out⟩
        case measure => simp [intOf]; omega
    · obtain rfl : k = us.length := by omega
      have hR := HR.out
      rw [List.take_length] at hR
      have HRR := hid hR
      clear hR
      go_wp2
      go_ret
      exact ⟨u5, rfl, Row.lower HRR.out HF3.out.size, HF3.out.trans HF.out⟩
set_option maxHeartbeats 8000000 in
theorem rText_any (w : World) (s : ByteArray) (p : Pn) (hs : s.size ≤ 1000) : Calls Tryd.prog 7 #[.string s, p.v] w (ClsTo w (txtL p (pall (bytesOfS s)))) := by
  have hf1 : Fr NoB w (w.alloc (.cells #[.int .i64 p.fg, .int .i64 p.bg, .int .i64 p.fl] 23)) := (Fr.refl _ _).alloc _
  have hpb : Blk (w.alloc (.cells #[.int .i64 p.fg, .int .i64 p.bg, .int .i64 p.fl] 23)) w.heap.size 23 p.cells := Blk.new w 23 p.cells
  have hll : (bytesOfS s).length ≤ 1000 := by simpa [bytesOfS] using hs
  have HWd := fun W r => hid (w3Width_any W r)
  have hpl := pall_len2 (bytesOfS s)
  have hub := pall_bd (bytesOfS s) (bytesOfS_bd s)
  obtain ⟨us, hus⟩ : ∃ us, us = pall (bytesOfS s) := ⟨_, rfl⟩
  rw [← hus]
  rw [← hus] at hpl hub
  have HUS := hid hus
  have HUB := hid hub
  clear hus hub
  have HF1 := hid hf1
  have HPB1 := hid hpb
  clear hf1 hpb
  unfold Pn.v
  go_enter Tryd.func7, Tryd.ntmps7
  go_upto_region 2 with (fail)
  generalize (w.alloc (.cells #[.int .i64 p.fg, .int .i64 p.bg, .int .i64 p.fl] 23)) = w1 at HF1 HPB1 ⊢
  have hrun := run_bytes_of_string (P := Tryd.prog) w1 9 48 5 s Tryd.underlying9 Tryd.underlying48 Tryd.underlying5
  have hsz : s.size = (bytesOfS s).length := by simp [bytesOfS]
  have hcap : s.size ≤ grownCap w1 s.size 0 5 := by unfold grownCap; simp [Question.cut]
  have hC := str_C w1.drew s (grownCap w1 s.size 0 5) 5 ((bytesRow s (grownCap w1 s.size 0 5)).size, (bytesRow s (grownCap w1 s.size 0 5)).size + 1) (by omega)
  have hbd := bytesOfS_bd s
  generalize grownCap w1 s.size 0 5 = cap at hrun hcap hC
  rw [hsz] at hrun hcap
  generalize (.cells (bytesRow s cap) 5 ((bytesRow s cap).size, (bytesRow s cap).size + 1) : Obj) = ob at hrun hC
  have HAll := hid (refAll_any _ _ cap (bytesOfS s) hC hcap hbd (by omega))
  rw [← HUS.out] at HAll
  have HF2 := hid (HF1.out.drew.alloc ob)
  have HPB := hid (HPB1.out.drew.alloc ob)
  clear hsz hcap hC hbd hs HPB1 HF1
  generalize bytesOfS s = bl at hrun HAll hll hpl HUS ⊢
  clear HUS
  go_wp2_with fail
  refine HAll.out.mono ?_
  rintro e' w3 ⟨v, rfl, hv, hf3⟩
  obtain ⟨A1, c1, rfl, hcc, hC1⟩ := Kd.R_reads hv
  have HC1 := hid hC1
  have HF3 := hid (HF2.out.trans hf3)
  have HPB3 := hid (HPB.out.fr hf3 (fun h => h))
  clear hv hC1 hf3 hrun HAll HPB HF2
  go_wp2_with fail
  go_loopw [5, 7] (fun v5 v7 wr => ∃ k : Nat, k ≤ us.length ∧ v7 = .int .i64 k ∧ Row Cl.cells 4 40 wr w3.heap.size v5 (txtL p (us.take k)) ∧ Hid (Fr NoB w3 wr)) (fun _ v7 _ => us.length - (intOf v7).toNat)
  case atStart => exact ⟨0, Nat.zero_le _, rfl, Row.nil _ _ _ _ _, Fr.refl _ _⟩
  case round =>
    obtain ⟨k, hk, rfl, hR, HF⟩ := hrel
    have HR := hid hR
    clear hR
    by_cases hkm : k < us.length
    · obtain ⟨ad, e, hcell⟩ := C_at (Kd.C_below HC1.out HF.out.below0) k hkm
      cases e
      have HC2 : Hid (∀ W, Fr NoB w3 W → W.cell? (ad.add k) = some (.int .i32 us[k])) := hid fun W hW => by
        obtain ⟨ad', e', h⟩ := C_at (Kd.C_below HC1.out hW.below0) k hkm
        cases e'
        exact h
      have HW := hid fun W => (HWd W us[k]).out
      have HTS := hid (txtL_snoc p us k hkm)
      have hln := txtL_len p (us.take k)
      have hlt : (us.take k).length = k := by rw [List.length_take]; omega
      have hl1 : (txtL p (us.take k)).length ≤ 5000 := by omega
      clear hln hlt
      have hcs := widthZ_of us[k]
      have ht1 : txt1 p us[k] = if widthZ us[k] = 1 then [p.on us[k]] else if widthZ us[k] = 2 then [p.on us[k], p.on (-1)] else [] := rfl
      have hi32 : IntKind.i64.wrap us[k] = us[k] := by
        have := HUB.out _ (List.getElem_mem hkm)
        exact IntWalk.i64_in _ (by omega)
      generalize us[k] = r at *
      generalize txtL p (us.take k) = L at *
      obtain ⟨wz, hwz⟩ : ∃ wz, wz = widthZ r := ⟨_, rfl⟩
      rw [← hwz] at hcs ht1
      have HWZ := hid hwz
      clear hwz HWd
      rcases hcs with rfl | rfl | rfl | rfl
      · have HT1 : Hid (txt1 p r = []) := ht1
        clear ht1
        go_wp2_with fail
        refine (HW.out _).mono ?_
        rintro e' w4 ⟨rfl, hf4⟩
        rw [← HWZ.out]
        have HF5 := hid (HF.out.trans hf4)
        have HR5 := hid (by rw [List.append_nil]; exact HR.out.fr hf4 (fun _ _ h => h) : Row Cl.cells 4 40 w4 w3.heap.size u5 (L ++ []))
        clear hf4
        go_wp2
        go_roundw
        case rel => exact ⟨k + 1, by omega, by go_num, by rw [HTS.out, HT1.out]; exact HR5.out, HF5.out⟩
        case measure => simp [intOf]; omega
      · have HT1 : Hid (txt1 p r = []) := ht1
        clear ht1
        go_wp2_with fail
        refine (HW.out _).mono ?_
        rintro e' w4 ⟨rfl, hf4⟩
        rw [← HWZ.out]
        have HF5 := hid (HF.out.trans hf4)
        have HR5 := hid (by rw [List.append_nil]; exact HR.out.fr hf4 (fun _ _ h => h) : Row Cl.cells 4 40 w4 w3.heap.size u5 (L ++ []))
        clear hf4
        go_wp2
        go_roundw
        case rel => exact ⟨k + 1, by omega, by go_num, by rw [HTS.out, HT1.out]; exact HR5.out, HF5.out⟩
        case measure => simp [intOf]; omega
      · have HT1 : Hid (txt1 p r = [p.on r]) := ht1
        clear ht1
        go_wp2_with fail
        refine (HW.out _).mono ?_
        rintro e' w4 ⟨rfl, hf4⟩
        rw [← HWZ.out]
        have HF4 := hid (HF.out.trans hf4)
        have hR4 := HR.out.fr hf4 (fun _ _ h => h)
        have hpb := HPB3.out.fr HF4.out (fun h => h)
        have hc4 := HC2.out _ HF4.out
        have b0 := hpb.cell 0 rfl
        have b1 := hpb.cell 1 rfl
        have b2 := hpb.cell 2 rfl
        have HSz := hid HF4.out.size
        have hl32 : (L.length + 1) * 32 ≤ 140737488355328 := by omega
        have HR4 := hid hR4
        clear hf4 hpb hR4
        have HFa : Hid (Fr NoB w4 (w4.alloc (.cells #[.int .i32 r, .int .i64 p.fg, .int .i64 p.bg, .int .i64 p.fl] 40)).drew) := ((Fr.refl NoB w4).alloc _).drew
        have HRa := hid (HR4.out.fr HFa.out (fun _ _ h => h))
        have HSa := hid (src1 (ys := [p.on r]) ((Blk.new w4 40 [.int .i32 r, .int .i64 p.fg, .int .i64 p.bg, .int .i64 p.fl]).drew))
        have HMa : Hid ([p.on r].length = 1) := hid rfl
        have HSZa := hid (HF4.out.trans HFa.out).size
        go_wp2_with fail
        go_region_law (refine step_row_apps (f := Cl.cells) Cl.cells_len Cl.one w3.heap.size rfl (.tmp 26) (.tmp 33) 26 40 Cl.zero.v 32 rfl Tryd.underlying26 infoCl rfl (by omega) (by omega) u5 L [p.on r] ⟨w4.heap.size, 0, none⟩ 1 1 rfl rfl HMa HSa.out HRa.out HSZa.out hl32 ?_; intro v6 w6 hr6 hf6 hat6)
        all_goals
          have HR5 := hid hr6
          have HF5 : Hid (Fr NoB w3 w6) := hid ((HF4.out.trans HFa.out).then_ hf6 (fun j hj => .inr (HRa.out.lt j hj).1))
          clear hr6 hf6 hat6
          go_wp2
          go_roundw
          case rel => exact ⟨k + 1, by omega, by go_num, by rw [HTS.out, HT1.out]; exact HR5.out, HF5.out⟩
          case measure => simp [intOf]; omega
      · have HT1 : Hid (txt1 p r = [p.on r, p.on (-1)]) := ht1
        clear ht1
        go_wp2_with fail
        refine (HW.out _).mono ?_
        rintro e' w4 ⟨rfl, hf4⟩
        rw [← HWZ.out]
        have HF4 := hid (HF.out.trans hf4)
        have hR4 := HR.out.fr hf4 (fun _ _ h => h)
        have hpb := HPB3.out.fr HF4.out (fun h => h)
        have hc4 := HC2.out _ HF4.out
        have b0 := hpb.cell 0 rfl
        have b1 := hpb.cell 1 rfl
        have b2 := hpb.cell 2 rfl
        have HSz := hid HF4.out.size
        have hl32 : (L.length + 1) * 32 ≤ 140737488355328 := by omega
        have hl33 := le32 _ (show (L ++ [p.on r]).length + 1 ≤ 6000 by rw [List.length_append]; have : [p.on r].length = 1 := rfl; omega)
        have HL33 := hid hl33
        clear hl33
        have HR4 := hid hR4
        clear hf4 hpb hR4
        have HFa : Hid (Fr NoB w4 (w4.alloc (.cells #[.int .i32 r, .int .i64 p.fg, .int .i64 p.bg, .int .i64 p.fl] 40)).drew) := ((Fr.refl NoB w4).alloc _).drew
        have HRa := hid (HR4.out.fr HFa.out (fun _ _ h => h))
        have HSa := hid (src1 (ys := [p.on r]) ((Blk.new w4 40 [.int .i32 r, .int .i64 p.fg, .int .i64 p.bg, .int .i64 p.fl]).drew))
        have HMa : Hid ([p.on r].length = 1) := hid rfl
        have HSZa := hid (HF4.out.trans HFa.out).size
        go_wp2_with fail
        go_region_law (refine step_row_apps (f := Cl.cells) Cl.cells_len Cl.one w3.heap.size rfl (.tmp 26) (.tmp 33) 26 40 Cl.zero.v 32 rfl Tryd.underlying26 infoCl rfl (by omega) (by omega) u5 L [p.on r] ⟨w4.heap.size, 0, none⟩ 1 1 rfl rfl HMa HSa.out HRa.out HSZa.out hl32 ?_; intro v6 w6 hr6 hf6 hat6)
        all_goals
          have HR5 := hid hr6
          have HF5 : Hid (Fr NoB w3 w6) := hid ((HF4.out.trans HFa.out).then_ hf6 (fun j hj => .inr (HRa.out.lt j hj).1))
          clear hr6 hf6 hat6 b0 b1 b2 hc4
          have hpb := HPB3.out.fr HF5.out (fun h => h)
          have b0 := hpb.cell 0 rfl
          have b1 := hpb.cell 1 rfl
          have b2 := hpb.cell 2 rfl
          have HSz5 := hid HF5.out.size
          clear hpb
          go_wp2_with (at_builtin; go_must (refine row_app (f := Cl.cells) Cl.cells_len Cl.one w3.heap.size rfl (.tmp 37) (.tmp 40) 26 40 Cl.zero.v 32 rfl Tryd.underlying26 infoCl rfl (by omega) (by omega) _ (L ++ [p.on r]) (p.on (-1)) rfl rfl HR5.out HSz5.out HL33.out ?_); intro v7 w7 hR7 hf7 hat)
          have HF7 : Hid (Fr NoB w3 w7) := hid ((HF5.out.then_ hf7 (fun j hj => .inr (HR5.out.lt j hj).1)))
          have HR7 := hid hR7
          clear hR7 hf7 hat
          go_roundw
          case rel => exact ⟨k + 1, by omega, by go_num, by rw [HTS.out, HT1.out, show L ++ [p.on r, p.on (-1)] = L ++ [p.on r] ++ [p.on (-1)] by simp]; exact HR7.out, HF7.out⟩
          case measure => simp [intOf]; omega
    · obtain rfl : k = us.length := by omega
      have hR := HR.out
      rw [List.take_length] at hR
      have HRR := hid hR
      clear hR
      go_wp2
      go_ret
      exact ⟨u5, rfl, Row.lower HRR.out HF3.out.size, HF3.out.trans HF.out⟩
end Go.Proofs.YtnengimekcnfhaaDoor
