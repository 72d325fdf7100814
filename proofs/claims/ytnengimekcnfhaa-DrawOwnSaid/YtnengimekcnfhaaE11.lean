import Derived.Test.YtnengimekcnfhaaE7
import Derived.Test.YtnengimekcnfhaaE2
import Derived.Test.YtnengimekcnfhaaP3
set_option linter.unusedSimpArgs false
set_option linter.unusedVariables false
set_option maxRecDepth 20000
namespace Go.Proofs.Ytnengimekcnfhaa
open Go.RowKit Go.Shelf Go.Proofs.YtnengimekcnfhaaW.PrintWords
/-- What a drawing writes is counted, and owned by a window that there is. -/
theorem doS_owned (W H : Nat) (xs : List Wn) (d : Dr) (cs : List Cl) : (doS W H xs d cs []).2.2 = (doS W H xs d cs []).2.1.length ∧ ∀ q ∈ (doS W H xs d cs []).2.1, ownerOf xs q.x q.y = d.id ∧ ∃ t, getW xs d.id = some t := by
  have em : ((cs, [], 0) : List Cl × List Wr × Int).2.2 = ((cs, [], 0) : List Cl × List Wr × Int).2.1.length ∧ ∀ q ∈ ((cs, [], 0) : List Cl × List Wr × Int).2.1, ownerOf xs q.x q.y = d.id ∧ ∃ t, getW xs d.id = some t := ⟨rfl, fun q hq => by cases hq⟩
  have ow : ∀ s, Owned xs d.id [] s → (∃ t, getW xs d.id = some t) → s.2.2 = s.2.1.length ∧ ∀ q ∈ s.2.1, ownerOf xs q.x q.y = d.id ∧ ∃ t, getW xs d.id = some t := by
    rintro s ⟨l, h1, h2, h3⟩ ht
    rw [List.nil_append] at h1
    exact ⟨by rw [h1, h2], fun q hq => ⟨h3 q (h1 ▸ hq), ht⟩⟩
  unfold doS cellsS fillS copyS
  cases hg : getW xs d.id with
  | none =>
    split
    · exact em.imp id (fun h q hq => absurd hq (by simp))
    · split
      · exact em.imp id (fun h q hq => absurd hq (by simp))
      · exact em.imp id (fun h q hq => absurd hq (by simp))
  | some t =>
    rw [hg] at em ow
    split
    · simp only
      split
      · exact ow _ (foldC_owned ..) ⟨t, rfl⟩
      · exact em
    · split
      · simp only
        split
        · exact ow _ (foldF_owned ..) ⟨t, rfl⟩
        · exact em
      · simp only
        split
        · refine ow _ ⟨_, rfl, rfl, ?_⟩ ⟨t, rfl⟩
          exact copyL_own _ _ _ _ _ _ _ _ _ _
        · exact em
theorem Row.len_le {α : Type} {ff : α → List Value} {sz : Nat} {e : TypeId} {w : World} {base : Nat} {v : Value} {xs : List α} (h : Row ff sz e w base v xs) : xs.length ≤ 9223372036854775807 := by
  rcases h.2 with ⟨h1, h2⟩ | ⟨g, c, cur, h1, h2, h3, h4, h5, _⟩
  · omega
  · exact Nat.le_trans h4 h5
set_option maxHeartbeats 8000000 in
theorem drawOwn_any (w : World) (A : Option Addr) (cap : Nat) (l : List Ac) (B : Option Addr) (cap2 : Nat) (d : List Dr) (hl : AcA w A l) (hcap : l.length ≤ cap) (hd : DrA w B d) (hok : ∀ q ∈ d, q.Ok w) (hcap2 : d.length ≤ cap2) :
    Calls Try.prog 4 #[.slice A l.length cap, .slice B d.length cap2] w fun e w' => e = .returned (.bool true) ∧ Fr NoB w w' := by
  have HAw := fun w9 => hid (awake_any w9)
  have HGr := hid (great_any w A l.length cap B cap2 d hd)
  have HL := hid hl
  have HD := hid hd
  have HOK := hid hok
  have HNf := fun w9 => hid (fNew_ok w9 10 10 (by decide) (by decide) (by decide) (by decide))
  have HNs := fun w9 => hid (sNew_ok w9 10 10 (by decide) (by decide) (by decide) (by decide))
  clear hl hd hok
  go_enter Try.func4, Try.ntmps4
  go_wp2_with fail
  refine HGr.out.mono ?_
  rintro e' w' ⟨hw, bl, rfl, hgr⟩
  have hw2 := hw.symm
  subst hw2
  clear hw
  cases bl
  rotate_left
  · clear hgr
    go_wp2_with fail
    refine (HAw _).out.mono ?_
    rintro e' w1 ⟨rfl, hf⟩
    have HF := hid hf
    clear hf
    go_wp2
    go_ret
    exact ⟨rfl, HF.out⟩
  obtain ⟨g1, g2, g3⟩ := hgr rfl
  have HG3 := hid g3
  clear hgr g3
  go_wp2_with fail
  refine (HNf _).out.mono ?_
  rintro e' w2 ⟨f, g, gb, rfl, hfd, hf, hF0, hg0, hG0⟩
  have HFD2 := hid hfd
  have HF2 := hid hf
  clear hf hfd
  go_wp2_with fail
  refine (HNs _).out.mono ?_
  rintro e' w3 ⟨b, rfl, hsk, hf, hb⟩
  have HSK3 := hid hsk
  have HF3 := hid (HF2.out.trans hf)
  have HFD3 := hid (HFD2.out.frd hf)
  have HBW := hid (Nat.le_trans HF2.out.size hb)
  have hlr : ∀ (A' : Option Addr) (m : Nat), 0 < m → True := fun _ _ _ => trivial
  clear hf hsk hlr
  have HPl := hid (play_any w3 10 10 b A cap l (by decide) (by decide) (by decide) (by decide) HSK3.out (HL.out.fr HF3.out (fun _ _ _ h => h)) (by omega) hcap (fun ad e h0 => by
    obtain ⟨ad', e', h1, _⟩ := HL.out 0 h0
    rw [e] at e'
    obtain rfl := Option.some.inj e'
    have := HBW.out
    omega))
  go_wp2_with fail
  refine HPl.out.mono ?_
  rintro e' w4 ⟨v10, v, xs, nx, rfl, hPI, hGd⟩
  have HSK4 := hid hPI.sk
  have HF4 := hid (HF3.out.then_ hPI.fr (fun k hk => .inr (by have e : k = b := hk; rw [e]; exact HBW.out)))
  have HFD4 := hid (HFD3.out.fr hPI.fr (fun e => absurd (blk_type (show Blk w3 b _ _ from e ▸ HFD3.out.blk) HSK3.out.blk) (by decide)) (fun e => absurd (blk_type (show Blk w3 b _ _ from e ▸ HFD3.out.gd.blk) HSK3.out.blk) (by decide)) (fun e => absurd (blk_type (show Blk w3 b _ _ from e ▸ HFD3.out.gd.cel) HSK3.out.blk) (by decide)) (fun k h => nomatch h))
  have HGD := hid hGd
  have HFIT : Hid (∀ q ∈ xs, FitsIn 10 10 q.r ∧ 1 ≤ q.id) := hid fun q hq => ⟨(fits_iff 10 10 (by decide) (by decide) (by decide) (by decide) q.r).1 (hGd.fit q hq).1, (hGd.fit q hq).2.1⟩
  clear hPI hGd
  go_wp2_with fail
  go_loopw [7] (fun v7 wr => ∃ k : Nat, k ≤ d.length ∧ v7 = .int .i64 k ∧ Hid (∃ cs, FD wr f g gb 10 10 cs (.slice none 0 0) [] ∧ SK wr b (rect0 10 10) v xs nx ∧ Fr NoB w wr)) (fun v7 _ => d.length - (intOf v7).toNat)
  case atStart => exact ⟨0, Nat.zero_le _, rfl, _, HFD4.out, HSK4.out, HF4.out⟩
  case round =>
    obtain ⟨k, hk, rfl, HR⟩ := hrel
    obtain ⟨cs, hfd, hsk, hfr⟩ := HR.out
    by_cases hkm : k < d.length
    · have HFR := hid hfr
      have HDE := hid (show DE wr f g gb 10 10 b cs (.slice none 0 0) [] v xs nx from ⟨hfd, hsk, HFIT.out, by have := HGD.out.len; omega, by decide, by decide, by simp⟩)
      obtain ⟨ad, rfl, c0, cj⟩ := (HD.out.fr hfr (fun _ _ _ h => h)).cells k hkm
      have c0 := c0 _ rfl
      have c1 := cj 1 _ (by decide) rfl
      have c2 := cj 2 _ (by decide) rfl
      have c3 := cj 3 _ (by decide) rfl
      have c4 := cj 4 _ (by decide) rfl
      have c5 := cj 5 _ (by decide) rfl
      have c6 := cj 6 _ (by decide) rfl
      have c7 := cj 7 _ (by decide) rfl
      have c8 := cj 8 _ (by decide) rfl
      have hoq := HOK.out _ (List.getElem_mem hkm)
      have hl20 := HG3.out k hkm
      have HA1 : Hid (∀ W, Fr NoB w W → W.cell? ⟨(ad.add (k * 9)).block, (ad.add (k * 9)).off + 1, none⟩ = some (.int .i64 d[k].id)) := hid fun W hW => by
        obtain ⟨ad', e', _, cj'⟩ := (HD.out.fr hW (fun _ _ _ h => h)).cells k hkm
        obtain rfl := Option.some.inj e'
        exact cj' 1 _ (by decide) rfl
      generalize hq : d[k] = q at *
      clear hq cj hfd hsk hfr
      have hdo := do_any wr f g gb 10 10 b cs (.slice none 0 0) [] v xs nx q HDE.out ⟨hoq.x, hoq.y, hoq.r, hoq.ca.fr HFR.out (fun _ _ _ h => h), fun ad e h0 => Nat.lt_of_lt_of_le (hoq.lt ad e h0) HFR.out.size, hoq.cap⟩ (by omega) (fun ad e h0 hb => by
        have := hoq.lt ad e h0
        rcases hb with e1 | e1 | e1
        · omega
        · omega
        · exact nomatch e1)
      have HDO := hid hdo
      have HOW := hid (doS_owned 10 10 xs q cs)
      generalize doS 10 10 xs q cs [] = s at HDO HOW
      clear hdo hoq hl20
      go_wp2_with fail
      refine HDO.out.mono ?_
      rintro e' w5 ⟨rfl, ⟨nv5, hfd5, hown5⟩, hsk5, hf5⟩
      have HSK5 := hid hsk5
      have HFD5 := hid hfd5
      have HF5 := hid (HFR.out.then_ hf5 (fun j hj => .inr (by
        rcases hj with e1 | e1 | e1
        · omega
        · omega
        · exact nomatch e1)))
      clear hsk5 hfd5 hown5 hf5
      go_wp2_with fail
      refine (fNotes_any w5 f g gb 10 10 _ nv5 _ HFD5.out).mono ?_
      rintro e' w6 ⟨rfl, hfd6, hrow6, hf6⟩
      have HFD6 := hid hfd6
      have HRW := hid hrow6
      have HSK6 := hid (HSK5.out.fr hf6 (fun e => by have e' : b = f := e; exact absurd (blk_type (e' ▸ HSK5.out.blk) HFD5.out.blk) (by decide)) (fun j hj e => by have e' : j = f := e; subst e'; exact HSK5.out.row.ne HFD5.out.blk (by decide) hj))
      have HF6 := hid (HF5.out.then_ hf6 (fun j hj => .inr (by have e : j = f := hj; omega)))
      obtain ⟨An, cn, hnv, _⟩ := Row.shape hrow6
      subst hnv
      have HOL := hid HOW.out.1
      clear hfd6 hrow6 hf6
      rw [show s.2.2 = (s.2.1.length : Int) from HOW.out.1]
      have HOL2 := hid HOW.out.2
      generalize s.2.1 = L at *
      clear HOL HOW
      go_wp2_with fail
      go_loopw [11] (fun v11 W1 => ∃ m : Nat, m ≤ L.length ∧ v11 = .int .i64 m ∧ Hid (Fr NoB w6 W1)) (fun v11 _ => L.length - (intOf v11).toNat)
      case atStart => exact ⟨0, Nat.zero_le _, rfl, Fr.refl _ _⟩
      case round =>
        obtain ⟨m, hm, rfl, HW⟩ := hrel
        by_cases hmm : m < L.length
        · obtain ⟨gn, c', hvv, _, _⟩ := HRW.out.ptr (by omega)
          obtain ⟨rfl, rfl⟩ : An = some ⟨gn, 0, none⟩ ∧ cn = c' := by injection hvv with h1 h2 h3; exact ⟨h1, h3⟩
          clear hvv
          rename_i W1
          have hln := Row.len_le HRW.out
          have tw9 : wrap64 ((m : Int) + 1) = (m : Int) + 1 := by
            unfold wrap64
            omega
          have TW := hid tw9
          clear hln tw9
          have hS : ∀ W, Fr NoB w6 W → Fr NoB w6 W ∧ W.cell? ⟨gn, m * 6, none⟩ = some (.int .i64 L[m].x) ∧ W.cell? ⟨gn, m * 6 + 1, none⟩ = some (.int .i64 L[m].y) ∧ W.cell? ⟨(ad.add (k * 9)).block, (ad.add (k * 9)).off + 1, none⟩ = some (.int .i64 q.id) := fun W hW => by
            have r := Row.fr HRW.out hW (fun _ _ h => h)
            have z0 := Row.cell r Wr.len m hmm 0 (by decide) rfl
            rw [Nat.add_zero] at z0
            exact ⟨hW, z0, Row.cell r Wr.len m hmm 1 (by decide) rfl, HA1.out W (HF6.out.trans hW)⟩
          have HS := hid hS
          obtain ⟨ho1, t, ht⟩ := HOL2.out _ (List.getElem_mem hmm)
          have hi0 := HDE.out.win ht
          obtain ⟨q2, hq1, hq2, hq3⟩ := ownerOf_at ho1 hi0.2.2.2.1
          have hs := hi0.2.2.2.2.2 q2 hq1
          have z1 : 0 < q2.w ∧ q2.x ≤ L[m].x ∧ L[m].x - q2.x < q2.w := hq2
          have z2 : 0 < q2.h ∧ q2.y ≤ L[m].y ∧ L[m].y - q2.y < q2.h := hq3
          have HOw : Hid (∀ W, Fr NoB w6 W → Calls Try.prog 17 #[.pointer (some ⟨b, 0, none⟩), .int .i64 L[m].x, .int .i64 L[m].y] W fun e w' => e = .returned (.int .i64 q.id) ∧ Fr NoB W w') := hid fun W hW => by
            have h := sOwner_any W b (rect0 10 10) v xs nx L[m].x L[m].y (HSK6.out.frd hW) (by have := HGD.out.len; omega) hi0.2.2.2.2.1 (by unfold I64; omega) (by unfold I64; omega)
            rw [ho1] at h
            exact h
          have HF := hid (HW.out.drew)
          have tq : (q.id != q.id) = false := by simp
          generalize L[m] = z at *
          clear hS ho1 hi0 hq1 hq2 hq3 hs z1 z2 ht
          go_wp2_with fail
          go_region_held3 (fun W : World => Fr NoB w6 W ∧ W.cell? ⟨gn, m * 6, none⟩ = some (.int .i64 z.x) ∧ W.cell? ⟨gn, m * 6 + 1, none⟩ = some (.int .i64 z.y) ∧ W.cell? ⟨(ad.add (k * 9)).block, (ad.add (k * 9)).off + 1, none⟩ = some (.int .i64 q.id)) (first | exact HS.out _ HF7.out | exact HS.out _ HF.out | fail) (first | (go_at_call 17; refine (HOw.out _ HF.out).mono ?_; rintro e' w7 ⟨rfl, hf7⟩; have HF7 := hid (HF.out.trans hf7); clear hf7) | fail)
          all_goals
            go_wp2
            go_roundw
            case rel =>
              rw [TW.out]
              exact ⟨m + 1, hmm, int_succ m, HF7.out⟩
            case measure =>
              rw [TW.out]
              exact meas_succ hmm
        · obtain rfl : m = L.length := by omega
          go_wp2
          go_roundw
          case rel => exact ⟨k + 1, by omega, by go_num, _, HFD6.out.frd HW.out, HSK6.out.frd HW.out, HF6.out.trans HW.out⟩
          case measure => simp [intOf]; omega
    · obtain rfl : k = d.length := by omega
      have HF := hid hfr
      clear hfd hsk hfr
      go_wp2_with fail
      refine (HAw _).out.mono ?_
      rintro e' w9 ⟨rfl, hf⟩
      have HF9 := hid (HF.out.trans hf)
      clear hf
      go_wp2
      go_ret
      exact ⟨rfl, HF9.out⟩
theorem drawOwn_walk (A : Option Addr) (cap : Nat) (l : List Ac) (B : Option Addr) (cap2 : Nat) (d : List Dr) (w : World) (hl : AcA w A l ∧ ∀ q ∈ l, I64 q.do_) (hcap : l.length ≤ cap) (hd : FA Dr.cells 9 w B d ∧ ∀ q ∈ d, q.Ok w) (hcap2 : d.length ≤ cap2) :
    Calls Try.prog 4 #[.slice A l.length cap, .slice B d.length cap2] w fun e w' => e = .returned (.bool true) ∧ Below w.heap.size w w' :=
  (drawOwn_any w A cap l B cap2 d hl.1 hcap hd.1 hd.2 hcap2).mono fun e w' h => ⟨h.1, h.2.below0⟩
end Go.Proofs.Ytnengimekcnfhaa
