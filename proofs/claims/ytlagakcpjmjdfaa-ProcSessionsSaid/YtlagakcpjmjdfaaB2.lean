import Derived.Test.YtlagakcpjmjdfaaA13
set_option linter.unusedSimpArgs false
set_option linter.unusedVariables false
set_option maxRecDepth 20000
namespace Go.Proofs.Ytlagakcpjmjdfaa
open Go.RowKit Go.Proofs.YtlagakcpjmjdfaaW.PrintWords
/-! The document's table: a value. -/
def rtv (v : Value) (nx : Int) (fv : Value) : Value := .agg #[v, .int .i64 nx, fv]
structure RT (w : World) (v fv : Value) (t : Tb) (F : List Int) : Prop where
  l : Row Pr.cells 6 51 w 0 v t.l
  f : Row ic 1 3 w 0 fv F
  len : F.length = 65
  at_ : ∀ j : Nat, 1 ≤ j → j ≤ 64 → F.getD j 0 = t.f j
theorem RT.fr {S : Nat → Prop} {w w1 : World} {v fv : Value} {t : Tb} {F : List Int} (h : RT w v fv t F) (hf : Fr S w w1) (h1 : ∀ k, OwnB v k → ¬ S k) (h2 : ∀ k, OwnB fv k → ¬ S k) : RT w1 v fv t F := ⟨h.l.fr hf h1, h.f.fr hf h2, h.len, h.at_⟩
theorem RT.frd {w w1 : World} {v fv : Value} {t : Tb} {F : List Int} (h : RT w v fv t F) (hf : Fr NoB w w1) : RT w1 v fv t F := h.fr hf (fun _ _ h => h) (fun _ _ h => h)
theorem PrR.at_ {w : World} {base : Nat} {v : Value} {l : List Pr} (h : Row Pr.cells 6 51 w base v l) (k : Nat) (hk : k < l.length) : ∃ g c, v = .slice (some ⟨g, 0, none⟩) l.length c ∧ l.length ≤ c ∧
    w.cell? ⟨g, k * 6, none⟩ = some (.int .i64 l[k].pid) ∧ w.cell? ⟨g, k * 6 + 1, none⟩ = some (.int .i64 l[k].par) ∧ w.cell? ⟨g, k * 6 + 2, none⟩ = some (.int .i64 l[k].grp) ∧ w.cell? ⟨g, k * 6 + 3, none⟩ = some (.int .i64 l[k].ses) ∧ w.cell? ⟨g, k * 6 + 4, none⟩ = some (.int .i64 l[k].tty) ∧ w.cell? ⟨g, k * 6 + 5, none⟩ = some (.bool l[k].deaf) := by
  obtain ⟨g, c, hv, _, hc⟩ := h.ptr (by omega)
  subst hv
  exact ⟨g, c, rfl, hc, h.cell Pr.len k hk 0 (by decide) rfl, h.cell Pr.len k hk 1 (by decide) rfl, h.cell Pr.len k hk 2 (by decide) rfl, h.cell Pr.len k hk 3 (by decide) rfl, h.cell Pr.len k hk 4 (by decide) rfl, h.cell Pr.len k hk 5 (by decide) rfl⟩
set_option maxHeartbeats 1000000 in
theorem rAt_any (w : World) (v fv : Value) (nx : Int) (t : Tb) (F : List Int) (pid : Int) (h : RT w v fv t F) (hl : t.l.length ≤ 4096) :
    Calls Try.prog 22 #[rtv v nx fv, .int .i64 pid] w fun e w' => e = .returned (.int .i64 (ixP (isPid pid) t.l)) ∧ Fr NoB w w' := by
  obtain ⟨A, c, hv, hc⟩ := h.l.shape
  subst hv
  have hf0 : Fr NoB w (w.alloc (.cells #[.slice A t.l.length c, .int .i64 nx, fv] 43)) := (Fr.refl _ _).alloc _
  have HR := hid (h.frd hf0)
  have HF0 := hid hf0
  clear h hf0
  unfold rtv
  go_enter Try.func22, Try.ntmps22
  go_wp2
  go_loop [5] (fun v5 => ∃ k : Nat, k ≤ t.l.length ∧ v5 = .int .i64 k ∧ Hid ((t.l.take k).any (isPid pid) = false)) (fun v5 => t.l.length - (intOf v5).toNat)
  case atStart => exact ⟨0, Nat.zero_le _, rfl, rfl⟩
  case round =>
    obtain ⟨k, hk, rfl, HP0⟩ := hrel
    by_cases hkm : k < t.l.length
    · obtain ⟨g, c9, h9, _, c0, _⟩ := PrR.at_ HR.out.l k hkm
      obtain rfl : A = some ⟨g, 0, none⟩ := by injection h9
      have hhit := ixP_hit (q := isPid pid) hkm HP0.out
      have hmiss : (t.l.take (k + 1)).any (isPid pid) = isPid pid t.l[k] := by rw [List.take_succ_eq_append_getElem hkm, List.any_append, HP0.out]; simp
      have HH := hid hhit
      have HM := hid hmiss
      clear hhit hmiss h9
      have hun : isPid pid t.l[k] = (t.l[k].pid == pid) := rfl
      rw [hun] at HH HM
      clear hun
      generalize t.l[k] = x at *
      cases hx : (x.pid == pid)
      · rw [hx] at HM
        go_wp2
        go_round
        case rel => exact ⟨k + 1, by omega, by go_num, HM.out⟩
        case measure => simp [intOf]; omega
      · have HH2 : Hid (ixP (isPid pid) t.l = k) := hid (HH.out hx)
        clear HH HM
        go_wp2
        go_ret
        exact ⟨by rw [HH2.out]; rfl, HF0.out⟩
    · have hp0 := HP0.out
      rw [List.take_of_length_le (by omega)] at hp0
      have HPN := hid (ixP_none hp0)
      clear hp0
      go_wp2
      go_ret
      exact ⟨by rw [HPN.out]; rfl, HF0.out⟩
set_option maxHeartbeats 2000000 in
theorem rHas_any (w : World) (v fv : Value) (nx : Int) (t : Tb) (F : List Int) (gr s : Int) (h : RT w v fv t F) (hl : t.l.length ≤ 4096) :
    Calls Try.prog 48 #[rtv v nx fv, .int .i64 gr, .int .i64 s] w fun e w' => e = .returned (.bool (hasG t.l gr s)) ∧ Fr NoB w w' := by
  obtain ⟨A, c, hv, hc⟩ := h.l.shape
  subst hv
  have hf0 : Fr NoB w (w.alloc (.cells #[.slice A t.l.length c, .int .i64 nx, fv] 43)) := (Fr.refl _ _).alloc _
  have HR := hid (h.frd hf0)
  have HF0 := hid hf0
  clear h hf0
  unfold rtv
  go_enter Try.func48, Try.ntmps48
  go_wp2
  go_loop [7] (fun v7 => ∃ k : Nat, k ≤ t.l.length ∧ v7 = .int .i64 k ∧ Hid (hasG (t.l.take k) gr s = false)) (fun v7 => t.l.length - (intOf v7).toNat)
  case atStart => exact ⟨0, Nat.zero_le _, rfl, rfl⟩
  case round =>
    obtain ⟨k, hk, rfl, HP0⟩ := hrel
    by_cases hkm : k < t.l.length
    · obtain ⟨g, c9, h9, _, _, _, c2, c3, _⟩ := PrR.at_ HR.out.l k hkm
      obtain rfl : A = some ⟨g, 0, none⟩ := by injection h9
      have hmiss : hasG (t.l.take (k + 1)) gr s = inGrp gr s t.l[k] := by
        have h0 := HP0.out
        unfold hasG at h0 ⊢
        rw [List.take_succ_eq_append_getElem hkm, List.any_append, h0]
        simp
      have hhit : inGrp gr s t.l[k] = true → hasG t.l gr s = true := fun h => List.any_eq_true.2 ⟨_, List.getElem_mem hkm, h⟩
      have hun : inGrp gr s t.l[k] = (t.l[k].grp == gr && (s == 0 || t.l[k].ses == s)) := rfl
      rw [hun] at hmiss hhit
      have HH := hid hhit
      have HM := hid hmiss
      clear hhit hmiss h9 hun
      generalize t.l[k] = x at *
      cases h1 : (x.grp == gr)
      · have HM2 : Hid (hasG (t.l.take (k + 1)) gr s = false) := hid (by rw [HM.out, h1]; rfl)
        clear HM HH
        go_wp2
        go_round
        case rel => exact ⟨k + 1, by omega, by go_num, HM2.out⟩
        case measure => simp [intOf]; omega
      · cases h2 : (s == 0)
        · cases h3 : (x.ses == s)
          · have HM2 : Hid (hasG (t.l.take (k + 1)) gr s = false) := hid (by rw [HM.out, h1, h2, h3]; rfl)
            clear HM HH
            go_wp2
            go_round
            case rel => exact ⟨k + 1, by omega, by go_num, HM2.out⟩
            case measure => simp [intOf]; omega
          · have HH2 : Hid (hasG t.l gr s = true) := hid (HH.out (by rw [h1, h2, h3]; rfl))
            clear HM HH
            go_wp2
            go_ret
            exact ⟨ret1 HH2.out, HF0.out⟩
        · have HH2 : Hid (hasG t.l gr s = true) := hid (HH.out (by rw [h1, h2]; rfl))
          clear HM HH
          go_wp2
          go_ret
          exact ⟨ret1 HH2.out, HF0.out⟩
    · have hp0 := HP0.out
      rw [List.take_of_length_le (by omega)] at hp0
      have HPN := hid hp0
      clear hp0
      go_wp2
      go_ret
      exact ⟨ret1 HPN.out, HF0.out⟩
theorem sesOf_take (l : List Pr) (k : Nat) (tt : Int) (hk : k < l.length) (h0 : (l.take k).any (onTty tt) = false) (h : onTty tt l[k] = true) : sesOf l tt = l[k].ses := by
  have h1 : l.findIdx (onTty tt) = k := by
    rw [List.findIdx_eq hk]
    refine ⟨h, fun j hj => ?_⟩
    have h3 := List.any_eq_false.1 h0 l[j] (by rw [List.mem_take_iff_getElem]; exact ⟨j, by omega, rfl⟩)
    simpa using h3
  have h2 := sesOf_at l tt (by rw [h1]; exact hk)
  rw [h2]
  simp only [h1]
set_option maxHeartbeats 2000000 in
theorem rSes_any (w : World) (v fv : Value) (nx : Int) (t : Tb) (F : List Int) (tt : Int) (h : RT w v fv t F) (hl : t.l.length ≤ 4096) :
    Calls Try.prog 57 #[rtv v nx fv, .int .i64 tt] w fun e w' => e = .returned (.int .i64 (sesOf t.l tt)) ∧ Fr NoB w w' := by
  obtain ⟨A, c, hv, hc⟩ := h.l.shape
  subst hv
  have hf0 : Fr NoB w (w.alloc (.cells #[.slice A t.l.length c, .int .i64 nx, fv] 43)) := (Fr.refl _ _).alloc _
  have HR := hid (h.frd hf0)
  have HF0 := hid hf0
  clear h hf0
  unfold rtv
  go_enter Try.func57, Try.ntmps57
  go_wp2
  go_loop [5] (fun v5 => ∃ k : Nat, k ≤ t.l.length ∧ v5 = .int .i64 k ∧ Hid ((t.l.take k).any (onTty tt) = false)) (fun v5 => t.l.length - (intOf v5).toNat)
  case atStart => exact ⟨0, Nat.zero_le _, rfl, rfl⟩
  case round =>
    obtain ⟨k, hk, rfl, HP0⟩ := hrel
    by_cases hkm : k < t.l.length
    · obtain ⟨g, c9, h9, _, _, _, _, c3, c4, _⟩ := PrR.at_ HR.out.l k hkm
      obtain rfl : A = some ⟨g, 0, none⟩ := by injection h9
      have hmiss : (t.l.take (k + 1)).any (onTty tt) = onTty tt t.l[k] := by rw [List.take_succ_eq_append_getElem hkm, List.any_append, HP0.out]; simp
      have hhit := sesOf_take t.l k tt hkm HP0.out
      have hun : onTty tt t.l[k] = (tt != 0 && t.l[k].tty == tt) := rfl
      rw [hun] at hmiss hhit
      have HH := hid hhit
      have HM := hid hmiss
      clear hhit hmiss h9 hun
      generalize t.l[k] = x at *
      cases h1 : (tt != 0)
      · have HM2 : Hid ((t.l.take (k + 1)).any (onTty tt) = false) := hid (by rw [HM.out, h1]; rfl)
        clear HM HH
        go_wp2
        go_round
        case rel => exact ⟨k + 1, by omega, by go_num, HM2.out⟩
        case measure => simp [intOf]; omega
      · cases h2 : (x.tty == tt)
        · have HM2 : Hid ((t.l.take (k + 1)).any (onTty tt) = false) := hid (by rw [HM.out, h1, h2]; rfl)
          clear HM HH
          go_wp2
          go_round
          case rel => exact ⟨k + 1, by omega, by go_num, HM2.out⟩
          case measure => simp [intOf]; omega
        · have HH2 : Hid (sesOf t.l tt = x.ses) := hid (HH.out (by rw [h1, h2]; rfl))
          clear HM HH
          go_wp2
          go_ret
          exact ⟨by rw [HH2.out]; rfl, HF0.out⟩
    · have hp0 := HP0.out
      rw [List.take_of_length_le (by omega)] at hp0
      have HPN := hid (sesOf_none t.l tt hp0)
      clear hp0
      go_wp2
      go_ret
      exact ⟨by rw [HPN.out]; rfl, HF0.out⟩
theorem Row.icell2 {w : World} {base g c n : Nat} {zs : List Int} (h : Row ic 1 3 w base (.slice (some ⟨g, 0, none⟩) n c) zs) (hn : n = zs.length) (k : Nat) (hk : k < zs.length) : w.cell? ⟨g, k, none⟩ = some (.int .i64 zs[k]) := by
  subst hn
  exact h.icell k hk
def frontOf (t : Tb) (tt : Int) : Int := if tt < 1 ∨ 64 < tt then 0 else t.f tt
theorem rFront_any (w : World) (v fv : Value) (nx : Int) (t : Tb) (F : List Int) (tt : Int) (h : RT w v fv t F) :
    Calls Try.prog 27 #[rtv v nx fv, .int .i64 tt] w fun e w' => e = .returned (.int .i64 (frontOf t tt)) ∧ Fr NoB w w' := by
  have hf0 : Fr NoB w (w.alloc (.cells #[v, .int .i64 nx, fv] 43)) := (Fr.refl _ _).alloc _
  have HR := hid (h.frd hf0)
  have HF0 := hid hf0
  have hfr : frontOf t tt = if tt < 1 ∨ 64 < tt then 0 else t.f tt := rfl
  have hlen := h.len
  obtain ⟨g, c, hfv, _, hc⟩ := h.f.ptr (by rw [hlen]; decide)
  have HLen := hid hlen
  rw [hlen] at hfv hc
  subst hfv
  obtain ⟨A, c1, hv, _⟩ := h.l.shape
  subst hv
  unfold rtv
  by_cases h1 : tt < 1
  · rw [if_pos (.inl h1)] at hfr
    rw [hfr]
    clear hfr hlen h hf0
    go_enter Try.func27, Try.ntmps27
    go_wp2
    go_ret
    exact ⟨rfl, HF0.out⟩
  by_cases h2 : 64 < tt
  · rw [if_pos (.inr h2)] at hfr
    rw [hfr]
    clear hfr hlen h hf0
    go_enter Try.func27, Try.ntmps27
    go_wp2
    go_ret
    exact ⟨rfl, HF0.out⟩
  rw [if_neg (by omega)] at hfr
  obtain ⟨j, rfl⟩ := Int.eq_ofNat_of_zero_le (show 0 ≤ tt by omega)
  have hj : j < F.length := by omega
  have hc1 := HR.out.f
  have e1 := HR.out.at_ j (by omega) (by omega)
  rw [List.getD_eq_getElem?_getD, List.getElem?_eq_getElem hj] at e1
  have e2 : F[j] = t.f j := e1
  have d0 := Row.icell2 hc1 HLen.out.symm j hj
  rw [e2] at d0
  rw [hfr]
  clear hfr hlen h hf0 hc1 e1 e2 hj
  generalize t.f j = fj at *
  go_enter Try.func27, Try.ntmps27
  go_wp2
  go_ret
  exact ⟨rfl, HF0.out⟩
end Go.Proofs.Ytlagakcpjmjdfaa
