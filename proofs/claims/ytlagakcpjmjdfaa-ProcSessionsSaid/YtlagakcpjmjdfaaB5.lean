import Derived.Test.YtlagakcpjmjdfaaB4
set_option linter.unusedSimpArgs false
set_option linter.unusedVariables false
set_option maxRecDepth 20000
namespace Go.Proofs.Ytlagakcpjmjdfaa
open Go.RowKit Go.Proofs.YtlagakcpjmjdfaaW.PrintWords
set_option maxHeartbeats 4000000 in
/-- give, of a table that is not empty. -/
theorem rGive_any (w : World) (v fv : Value) (nx : Int) (t : Tb) (F : List Int) (s tt : Int) (h : RT w v fv t F) (hl : t.l.length ≤ 400) (h0 : 0 < t.l.length) :
    Calls Try.prog 59 #[rtv v nx fv, .int .i64 s, .int .i64 tt] w (TbTo w nx (giveL s tt t.l) fv) := by
  obtain ⟨g, c, hv, _, hc⟩ := h.l.ptr (by omega)
  subst hv
  obtain ⟨A2, c2, hfv, _⟩ := h.f.shape
  subst hfv
  obtain ⟨w4, hw4⟩ : ∃ w4, w4 = (((w.alloc (.cells #[.slice (some ⟨g, 0, none⟩) t.l.length c, .int .i64 nx, .slice A2 F.length c2] 43)).alloc (.cells #[.slice none 0 0, .int .i64 0, .slice none 0 0] 43)).alloc (.cells #[] 51)) := ⟨_, rfl⟩
  have hf4 : Fr NoB w w4 := by rw [hw4]; exact (((Fr.refl NoB w).alloc _).alloc _).alloc _
  have hB : Blk w4 w.heap.size 43 [.slice (some ⟨g, 0, none⟩) t.l.length c, .int .i64 nx, .slice A2 F.length c2] := by rw [hw4]; exact ((Blk.new w 43 _).alloc _).alloc _
  have hZ : Blk w4 (w.heap.size + 1) 43 [.slice none 0 0, .int .i64 0, .slice none 0 0] := by
    have := ((Blk.new (w.alloc (.cells #[.slice (some ⟨g, 0, none⟩) t.l.length c, .int .i64 nx, .slice A2 F.length c2] 43)) 43 [.slice none 0 0, .int .i64 0, .slice none 0 0]).alloc (.cells #[] 51))
    simp only [World.size_alloc] at this
    rw [hw4]
    exact this
  have hE : Blk w4 (w.heap.size + 1 + 1) 51 [] := by
    have := Blk.new ((w.alloc (.cells #[.slice (some ⟨g, 0, none⟩) t.l.length c, .int .i64 nx, .slice A2 F.length c2] 43)).alloc (.cells #[.slice none 0 0, .int .i64 0, .slice none 0 0] 43)) 51 []
    simp only [World.size_alloc] at this
    rw [hw4]
    exact this
  have HE := hid (row_empty (base := w.heap.size) hE (by omega))
  have HSr := hid (Row.src (h.l.fr hf4 (fun _ _ h => h)) h0)
  have HSz := hid hf4.size
  have HM : Hid (t.l.length = t.l.length) := show Hid (t.l.length = t.l.length) from rfl
  have HL48 := hid (le48 (([] : List Pr).length + t.l.length) (by simp; omega))
  have HB := hid hB
  have HZ := hid hZ
  have HF4 := hid hf4
  have hN : w4.heap.size = w.heap.size + 1 + 1 + 1 := by rw [hw4]; simp only [World.size_alloc]
  have HN := hid hN
  have HW4 := hid hw4
  clear h hf4 hB hZ hE hN hw4
  unfold rtv
  go_enter Try.func59, Try.ntmps59
  go_upto_region 2 with (at_builtin; rw [← HW4.out]; go_must (refine row_apps (f := Pr.cells) Pr.len Pr.one w.heap.size rfl (.tmp 9) (.tmp 11) 40 51 Pr.zero 48 rfl Try.underlying40 infoPr rfl (by omega) (by omega) (.slice (some ⟨w.heap.size + 1 + 1, 0, none⟩) 0 0) [] t.l ⟨g, 0, none⟩ t.l.length c rfl rfl HM.out HSr.out HE.out HSz.out HL48.out ?_); intro v7 w7 hr7 hf7 hat7; rw [List.nil_append] at hr7; obtain ⟨g7, c7, rest7, rfl, hV7, hb7, hc7, hm7⟩ := Vec.of_row hr7 h0; have HV7 := hid hV7; have HG7 := hid hb7; have HC7 := hid hc7; have HM7 := hid hm7; have hne : ∀ k, OwnB (.slice (some ⟨w.heap.size + 1 + 1, 0, none⟩) 0 0) k → k = w.heap.size + 1 + 1 := fun k e => (Option.some.inj e).symm; have hb8 := HB.out.fr hf7 (fun e => by have := hne _ e; omega); have hz8 := HZ.out.fr hf7 (fun e => by have := hne _ e; omega); have HB8 := hid hb8; have HZ8 := hid hz8; have HF7 := hid (HF4.out.then_ hf7 (fun k e => .inr (by have := hne _ e; omega))); clear hr7 hf7 hat7 hV7 hb7 hc7 hm7 hne hb8 hz8)
  go_wp2
  go_loopw [8] (fun v8 wr => ∃ k : Nat, k ≤ t.l.length ∧ v8 = .int .i64 k ∧ Hid (Vec Pr.cells 6 wr g7 51 (giveL s tt (t.l.take k) ++ t.l.drop k) rest7 c7 ∧ Fr (At g7) w7 wr)) (fun v8 _ => t.l.length - (intOf v8).toNat)
  case atStart => exact ⟨0, Nat.zero_le _, rfl, by simpa [giveL] using HV7.out, Fr.refl _ _⟩
  case round =>
    obtain ⟨k, hk, rfl, HR⟩ := hrel
    obtain ⟨hV, hf⟩ := HR.out
    by_cases hkl : k < t.l.length
    · have hlen : (giveL s tt (t.l.take k)).length = k := by rw [giveL_len, List.length_take]; omega
      have hk2 : k < (giveL s tt (t.l.take k) ++ t.l.drop k).length := by rw [List.length_append, hlen, List.length_drop]; omega
      have hget : (giveL s tt (t.l.take k) ++ t.l.drop k)[k] = t.l[k] := by
        rw [List.getElem_append_right (by omega)]
        simp [hlen]
      have hset : ∀ q : Pr, (giveL s tt (t.l.take k) ++ t.l.drop k).set k q = giveL s tt (t.l.take k) ++ q :: t.l.drop (k + 1) := fun q => by
        rw [List.set_append_right _ _ (by omega), hlen, Nat.sub_self, List.drop_eq_getElem_cons hkl]
        rfl
      have hsucc : ∀ q : Pr, q = (if t.l[k].ses = s then { t.l[k] with tty := tt } else t.l[k]) → giveL s tt (t.l.take (k + 1)) ++ t.l.drop (k + 1) = giveL s tt (t.l.take k) ++ q :: t.l.drop (k + 1) := fun q hq => by
        rw [List.take_succ_eq_append_getElem hkl]
        unfold giveL
        rw [List.map_append, hq]
        simp
      have hno : giveL s tt (t.l.take k) ++ t.l.drop k = giveL s tt (t.l.take k) ++ t.l[k] :: t.l.drop (k + 1) := by rw [List.drop_eq_getElem_cons hkl]
      have d3 := Vec.cell hV Pr.len k hk2 3 (by decide) (u := .int .i64 t.l[k].ses) (by rw [hget]; rfl)
      have d4 := Vec.cell hV Pr.len k hk2 4 (by decide) (u := .int .i64 t.l[k].tty) (by rw [hget]; rfl)
      have f4 := hV.blk.frozen (k * 6 + 4)
      have gl := hV.blk.lt
      have hput := Vec.set1p hV Pr.len k 4 hk2 (by decide) (.int .i64 tt) { t.l[k] with tty := tt } (by rw [hget]; rfl)
      rw [hset] at hput
      have HPut := hid hput
      have HSucc := hid hsucc
      have HNo := hid hno
      have HVw := hid hV
      have HFw := hid hf
      clear hV hf hlen hk2 hget hset hsucc hno hput
      generalize t.l[k] = q at *
      by_cases hs : q.ses = s
      · have hs2 : (q.ses == s) = true := by simpa using hs
        have HSu := hid (HSucc.out { q with tty := tt } (by rw [if_pos hs]))
        have HF9 := hid (HFw.out.setAt (k * 6 + 4) (.int .i64 tt))
        have hp := HPut.out
        rw [← HSu.out] at hp
        have HP9 := hid hp
        clear hp hs
        go_wp2
        go_roundw
        case rel => exact ⟨k + 1, by omega, by go_num, HP9.out, HF9.out⟩
        case measure => simp [intOf]; omega
      · have hs2 : (q.ses == s) = false := by simpa using hs
        have HSu := hid (HSucc.out q (by rw [if_neg hs]))
        have hp := HVw.out
        rw [HNo.out, ← HSu.out] at hp
        have HP9 := hid hp
        clear hp hs
        go_wp2
        go_roundw
        case rel => exact ⟨k + 1, by omega, by go_num, HP9.out, HFw.out⟩
        case measure => simp [intOf]; omega
    · have hkl2 : t.l.length ≤ k := by omega
      rw [List.take_of_length_le hkl2, List.drop_of_length_le hkl2, List.append_nil] at hV
      have hbg : w.heap.size ≠ g7 := blk_ne HB8.out HV7.out.blk (by decide)
      have hzg : w.heap.size + 1 ≠ g7 := blk_ne HZ8.out HV7.out.blk (by decide)
      have HB9 := hid (HB8.out.fr hf (fun e => hbg e))
      have HZ9 := hid (HZ8.out.fr hf (fun e => hzg e))
      have HF9 := hid (HF7.out.then_ hf (fun k e => .inr (by have e' : k = g7 := e; have := HG7.out; omega)))
      have HV9 := hid hV
      have HZG := hid hzg
      clear hV hf hbg hzg
      have b1 := HB9.out.cell 1 rfl
      have b2 := HB9.out.cell 2 rfl
      have z0 := HZ9.out.cell 0 rfl
      have z1 := HZ9.out.cell 1 rfl
      have z2 := HZ9.out.cell 2 rfl
      have z3 := HZ9.out.frozen 0
      have z4 := HZ9.out.frozen 1
      have z5 := HZ9.out.frozen 2
      have zl := HZ9.out.lt
      go_wp2
      refine bodyPost_ret (v := rtv (.slice (some ⟨g7, 0, none⟩) t.l.length c7) nx (.slice A2 F.length c2)) (by simp [results, Try.results59, go_sem, z0, z1, z2, rtv]) rfl ⟨_, rfl, ?_, ?_⟩
      · have hr := (Vec.row HV9.out Pr.len HG7.out (by rw [giveL_len]; exact HC7.out) HM7.out)
        rw [giveL_len] at hr
        exact Row.fr hr ((((Fr.refl (At (w.heap.size + 1)) wr).setAt 0 _).setAt 1 _).setAt 2 _) (fun k hk e => HZG.out (by have e' : k = w.heap.size + 1 := e; rw [← e']; exact (Option.some.inj hk).symm))
      · exact HF9.out.then_ ((((Fr.refl (At (w.heap.size + 1)) wr).setAt 0 _).setAt 1 _).setAt 2 _) (fun k e => .inr (by have e' : k = w.heap.size + 1 := e; omega))
end Go.Proofs.Ytlagakcpjmjdfaa
