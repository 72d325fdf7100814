import Derived.Test.YthogbemmhdabbaaU9
set_option linter.unusedSimpArgs false
set_option linter.unusedVariables false
namespace Go.Proofs.Ythogbemmhdabbaa
open Go.RowKit Go.Proofs.YthogbemmhdabbaaW.PrintWords
theorem prun_append (s : List Int × List Int) (a b : List Int) : prun s (a ++ b) = prun (prun s a) b := by
  induction a generalizing s with
  | nil => rfl
  | cons c a ih => exact ih _
theorem pall_append (a b : List Int) (h : waitsOf a = 0) : pall (a ++ b) = pall a ++ pall b := by
  have h1 : (prun ([], []) a).1 = [] := List.eq_nil_of_length_eq_zero h
  unfold pall
  rw [prun_append]
  have e : prun ([], []) a = ([], (prun ([], []) a).2) := Prod.ext h1 rfl
  rw [e, prun_acc b [] _]
  simp [pflush]
theorem pall_len (l : List Int) : (pall l).length ≤ 2 * l.length + 1 := by
  have h1 := prun_len l l.length
  rw [List.take_length] at h1
  have h2 := pflush_len (prun ([], []) l).1
  unfold pall
  rw [List.length_append]
  omega
theorem bytes_of_wf {l : List Int} (hw : ∀ x ∈ l, (Lit.int .u8 x).wf = true) : ∀ x ∈ l, 0 ≤ x ∧ x ≤ 255 := fun x hx => by
  have := hw x hx
  simp [Lit.wf, IntKind.min, IntKind.max, IntKind.signed, IntKind.bits] at this
  omega
set_option maxHeartbeats 2000000 in
theorem utfJoin_walk (A : Option Addr) (cap : Nat) (l : List Int) (B : Option Addr) (cap2 : Nat) (l2 : List Int) (w : World) (hC : Kd.C (Kd.int .u8) w A l.length l) (hc : l.length ≤ cap) (hy : l.length * 1 ≤ 140737488351232) (hw : ∀ x ∈ l, (Lit.int .u8 x).wf = true)
    (hC2 : Kd.C (Kd.int .u8) w B l2.length l2) (hc2 : l2.length ≤ cap2) (hy2 : l2.length * 1 ≤ 140737488351232) (hw2 : ∀ x ∈ l2, (Lit.int .u8 x).wf = true) :
    Calls Try.prog 4 #[.slice A l.length cap, .slice B l2.length cap2] w fun e w' => e = .returned (.bool true) ∧ Below w.heap.size w w' := by
  have hr := bytes_of_wf hw
  have hr2 := bytes_of_wf hw2
  by_cases hl : l.length ≤ 500
  · by_cases hl2 : l2.length ≤ 500
    · by_cases hwt : waitsOf l = 0
      · have HWT := hid hwt
        have hwt0 : (waitsOf l : Int) ≤ 0 := by omega
        clear hwt
        have hpl := pall_len l
        have hpl2 := pall_len l2
        go_enter Try.func4, Try.ntmps4
        go_wp2_with fail
        refine (refWaits_any _ _ _ l hC hc hr (by omega)).mono ?_
        rintro e w1 ⟨rfl, hf1⟩
        go_wp2_with fail
        refine (all_any _ _ _ l (Kd.C_below hC hf1.below0) hr (by omega)).mono ?_
        rintro e w2 ⟨v, rfl, hv, hf2⟩
        obtain ⟨A1, c1, rfl, hcc1, hCx⟩ := Kd.R_reads hv
        have hf12 := hf1.trans hf2
        go_wp2_with fail
        refine (all_any _ _ _ l2 (Kd.C_below hC2 hf12.below0) hr2 (by omega)).mono ?_
        rintro e w3 ⟨v, rfl, hv2, hf3⟩
        obtain ⟨A2, c2, rfl, hcc2, hCy⟩ := Kd.R_reads hv2
        have hf13 := hf12.trans hf3
        have hs13 := hf13.size
        have hCx3 := Kd.C_below hCx hf3.below0
        have hCa := Kd.C_below hC hf13.below0
        have hCb := Kd.C_below hC2 hf13.below0
        clear hCx hv hv2
        have hnil : Kd.R (Kd.int .u8) 5 (w3.alloc (.cells #[] 5)) w3.heap.size (fun _ => True) (.slice (some ⟨w3.heap.size, 0, none⟩) 0 0) [] := lit_R .u8 5 rfl [] (Nat.le_refl _) (by simp)
        go_wp2_with (first
          | (at_builtin; refine app_row (k := .u8) w3.heap.size (s := .tmp 25) 22 5 1 Try.underlying22 info_u8 (by decide) rfl rfl (.slice (some ⟨w3.heap.size, 0, none⟩) 0 0) [] l A l.length cap rfl rfl hnil (Kd.C_alloc hCa _) (by simp) (by simp; omega) ?_; intro v4 w4 hv4 hf4; have hF4 : Fr NoB w3 w4 := ((Fr.refl _ _).alloc _).ge hf4 (Nat.le_refl _); have hs4 := hF4.size)
          | (at_builtin; refine app_row (k := .u8) w3.heap.size (s := .tmp 27) 22 5 1 Try.underlying22 info_u8 (by decide) rfl rfl v4 ([] ++ l) l2 B l2.length cap2 rfl rfl hv4 (Kd.C_below hCb hF4.below0) hs4 (by simp; omega) ?_; intro v5 w5 hv5 hf5; have hF5 : Fr NoB w3 w5 := hF4.ge hf5 (Nat.le_refl _); have hs5 := hF5.size; generalize hLL : ([] ++ l ++ l2) = L at hv5; have HLL := hid hLL; have hl5 : L.length ≤ 1000000 := (by rw [← hLL]; simp; omega); have hr5 : ∀ x ∈ L, 0 ≤ x ∧ x ≤ 255 := (by rw [← hLL]; intro x hx; rcases List.mem_append.1 hx with h | h; exact hr x h; exact hr2 x h); clear hLL; rcases Kd.R_reads hv5 with ⟨A5, c5, hev, hcc5, hC5⟩; subst hev)
          | (go_at_call 10; refine (all_any _ A5 c5 L hC5 hr5 (by omega)).mono ?_; rintro e w6 ⟨v6, rfl, hv6, hf6⟩; have hF6 : Fr NoB w3 w6 := hF5.trans hf6; have hs6 := hF6.size; have hnil2 : Kd.R (Kd.int .i32) 21 (w6.alloc (.cells #[] 21)) w6.heap.size (fun _ => True) (.slice (some ⟨w6.heap.size, 0, none⟩) 0 0) [] := lit_R .i32 21 rfl [] (Nat.le_refl _) (by simp))
          | (at_builtin; refine app_row (k := .i32) w6.heap.size (s := .tmp 31) 25 21 4 Try.underlying25 info_i32 (by decide) rfl rfl (.slice (some ⟨w6.heap.size, 0, none⟩) 0 0) [] (pall l) A1 (pall l).length c1 rfl rfl hnil2 (Kd.C_alloc (Kd.C_below hCx3 hF6.below0) _) (by simp) (by simp; omega) ?_; intro v7 w7 hv7 hf7; have hF7 : Fr NoB w6 w7 := ((Fr.refl _ _).alloc _).ge hf7 (Nat.le_refl _); have hs7 := hF7.size)
          | (at_builtin; refine app_row (k := .i32) w6.heap.size (s := .tmp 33) 25 21 4 Try.underlying25 info_i32 (by decide) rfl rfl v7 ([] ++ pall l) (pall l2) A2 (pall l2).length c2 rfl rfl hv7 (Kd.C_below hCy (hF6.trans hF7).below0) hs7 (by simp; omega) ?_; intro v8 w8 hv8 hf8; have hF8 : Fr NoB w6 w8 := hF7.ge hf8 (Nat.le_refl _); have hpp : [] ++ pall l ++ pall l2 = pall L := (by rw [← HLL.out]; exact (pall_append l l2 HWT.out).symm); rw [hpp] at hv8; clear hpp; rcases Kd.R_reads hv6 with ⟨A6, c6, hev6, hcc6, hC6⟩; subst hev6; rcases Kd.R_reads hv8 with ⟨A8, c8, hev8, hcc8, hC8⟩; subst hev8)
          | fail)
        refine (same_any _ _ _ _ _ (pall L) _ rfl (Kd.C_below hC6 hF8.below0) hC8).mono ?_
        rintro e w9 ⟨rfl, m, rfl⟩
        go_wp2_with fail
        refine (awake_any _).mono ?_
        rintro e w10 ⟨rfl, hf10⟩
        go_wp2
        go_ret
        exact ⟨rfl, ((((hf13.trans hF6).trans hF8).drewN m).trans hf10).below0⟩
      · have hwt0 : 0 < waitsOf l := by omega
        clear hwt
        go_enter Try.func4, Try.ntmps4
        go_wp2_with fail
        refine (refWaits_any _ _ _ l hC hc hr (by omega)).mono ?_
        rintro e w1 ⟨rfl, hf1⟩
        go_wp2_with fail
        refine (awake_any _).mono ?_
        rintro e w10 ⟨rfl, hf10⟩
        go_wp2
        go_ret
        exact ⟨rfl, (hf1.trans hf10).below0⟩
    · go_enter Try.func4, Try.ntmps4
      go_wp2_with fail
      refine (awake_any _).mono ?_
      rintro e w10 ⟨rfl, hf10⟩
      go_wp2
      go_ret
      exact ⟨rfl, hf10.below0⟩
  · go_enter Try.func4, Try.ntmps4
    go_wp2_with fail
    refine (awake_any _).mono ?_
    rintro e w10 ⟨rfl, hf10⟩
    go_wp2
    go_ret
    exact ⟨rfl, hf10.below0⟩
end Go.Proofs.Ythogbemmhdabbaa
