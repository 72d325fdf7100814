import Derived.Test.YtlagakcpjmjdfaaA13
import Derived.Test.YtlagakcpjmjdfaaA6
import Derived.Test.YtlagakcpjmjdfaaWEqStruct
set_option linter.unusedSimpArgs false
set_option linter.unusedVariables false
set_option maxRecDepth 20000
namespace Go.Proofs.Ytlagakcpjmjdfaa
open Go.RowKit Go.Proofs.YtlagakcpjmjdfaaW.PrintWords
section
open Go.Proofs.YtlagakcpjmjdfaaW.PrintMore
theorem sigEqA (d : Nat) (w : World) (x0 y0 x1 y1 : Int) : (Op.equalIn (d + 2) 37 (.agg #[.int .i64 x0, .int .i64 x1]) (.agg #[.int .i64 y0, .int .i64 y1])).run Try.prog w = .ok (x0 == y0 && (x1 == y1)) w := by
  refine eqA_of Try.underlying37 (by kernel_rfl) ?_
  refine eqf_cons (by rfl) (by go_simp; rfl) (by go_simp; rfl) (by go_simp) ?_
  exact eqf_last (by rfl) (by go_simp; rfl) (by go_simp; rfl) (by go_simp)
end
/-- A table of the call's own. -/
def TS (w0 W : World) (tb : Nat) (t : Tb) (n : Nat) : Prop := ∃ S, Tab W tb S t n ∧ (∀ k, S k → w0.heap.size ≤ k) ∧ Fr NoB w0 W
theorem TS.next {w0 W W' : World} {tb n m : Nat} {S : Nat → Prop} {t : Tb} (hs : ∀ k, S k → w0.heap.size ≤ k) (hf : Fr NoB w0 W) (h : TabTo W tb S t m W') : TS w0 W' tb t m := by
  obtain ⟨S', h1, h2, h3⟩ := h
  refine ⟨S', h1, fun k hk => ?_, hf.then_ h2 (fun k hk => .inr (hs k hk))⟩
  rcases h3 k hk with h | h
  · exact hs k h
  · exact Nat.le_trans hf.size h
theorem TS.err {w0 W : World} {tb n m f : Nat} {t : Tb} {args : Array Value} {r : Tb × Int} (h : TS w0 W tb t n) (c : ∀ S, Tab W tb S t n → Calls Try.prog f args W (ErrTo W tb S m r)) (v : Int) (hv : r.2 = v) :
    Calls Try.prog f args W fun e w' => e = .returned (.int .i64 v) ∧ TS w0 w' tb r.1 m := by
  obtain ⟨S, h1, h2, h3⟩ := h
  exact (c S h1).mono fun e w' ⟨he, ht⟩ => ⟨by rw [he, hv], TS.next (n := n) h2 h3 ht⟩
theorem TS.num {w0 W : World} {tb n m f : Nat} {t : Tb} {args : Array Value} {r : Tb × Int × Int} (h : TS w0 W tb t n) (c : ∀ S, Tab W tb S t n → Calls Try.prog f args W (NumTo W tb S m r)) (a b : Int) (hv : r.2 = (a, b)) :
    Calls Try.prog f args W fun e w' => e = .returned (.tuple #[.int .i64 a, .int .i64 b]) ∧ TS w0 w' tb r.1 m := by
  obtain ⟨S, h1, h2, h3⟩ := h
  exact (c S h1).mono fun e w' ⟨he, ht⟩ => ⟨by rw [he, hv], TS.next (n := n) h2 h3 ht⟩
theorem TS.quiet {w0 W W' : World} {tb n : Nat} {t : Tb} (h : TS w0 W tb t n) (hf : Fr NoB W W') : TS w0 W' tb t n := by
  obtain ⟨S, h1, h2, h3⟩ := h
  exact ⟨S, h1.frd hf, h2, h3.trans hf⟩
theorem TS.may {w0 W : World} {tb n : Nat} {t : Tb} (h : TS w0 W tb t n) (hl : t.l.length ≤ 4096) (pid tty : Int) (write tostop : Bool) (ht : J64 tty) (r : Int × List (Int × Int)) (hr : mayT t pid tty write tostop = r) :
    Calls Try.prog 13 #[.pointer (some ⟨tb, 0, none⟩), .int .i64 pid, .int .i64 tty, .bool write, .bool tostop] W fun e w' => ∃ A c, e = .returned (.tuple #[.int .i64 r.1, .slice A r.2.length c]) ∧ SgR w' W.heap.size (.slice A r.2.length c) r.2 ∧ TS w0 w' tb t n := by
  subst hr
  obtain ⟨S, h1, h2, h3⟩ := h
  refine (pMay_any W tb n S t pid tty write tostop h1 hl ht).mono ?_
  rintro e w' ⟨v, he, hr, hf⟩
  obtain ⟨A, c, rfl, _⟩ := Row.shape hr
  exact ⟨A, c, he, hr, S, h1.frd hf, h2, h3.trans hf⟩
theorem TS.new (w0 : World) (w : World) (hf : Fr NoB w0 w) : Calls Try.prog 7 #[] w fun e w' => ∃ tb, e = .returned (.pointer (some ⟨tb, 0, none⟩)) ∧ TS w0 w' tb newT 0 :=
  (pNew_any w).mono fun e w' ⟨tb, S, he, ht, hf2, hs⟩ => ⟨tb, he, S, ht, fun k hk => Nat.le_trans hf.size (hs k hk), hf.trans hf2⟩
theorem TS.fr {w0 W : World} {tb n : Nat} {t : Tb} (h : TS w0 W tb t n) : Fr NoB w0 W := by
  obtain ⟨S, h1, h2, h3⟩ := h
  exact h3
def aw1 : Tb := (attT newT 1 3).1
def aw2 : Tb := (forkT aw1 1).1
def aw3 : Tb := (pgidT aw2 1 2 0).1
theorem j64_of (n : Int) (h : -1000000 ≤ n ∧ n ≤ 1000000) : J64 n := ⟨by omega, by omega⟩
set_option maxHeartbeats 4000000 in
theorem pAwake_any (w : World) : Calls Try.prog 15 #[] w fun e w' => e = .returned (.bool true) ∧ Fr NoB w w' := by
  have hse := fun (w : World) => sigEqA 9998 w 2 2 6 6
  go_enter Try.func15, Try.ntmps15
  go_wp2_with fail
  refine (TS.new w w (Fr.refl _ _)).mono ?_
  rintro e' w1 ⟨tb, rfl, hTS⟩
  have H1 := hid hTS
  clear hTS
  go_wp2_with fail
  refine (H1.out.err (fun S hS => pAtt_any _ tb 0 S newT 1 3 hS (by decide) (fun p hp => by rw [show p = ⟨1, 0, 1, 1, 0, false⟩ from List.mem_singleton.1 hp]; exact j64_of _ (by decide)) (by decide)) 0 rfl).mono ?_
  rintro e' w2 ⟨rfl, hTS⟩
  have H2 : Hid (TS w w2 tb aw1 1) := hid hTS
  clear hTS
  go_wp2_with fail
  refine (H2.out.num (fun S hS => pFork_any _ tb 1 S aw1 1 hS (by decide) (by decide) (by decide)) 2 0 rfl).mono ?_
  rintro e' w3 ⟨rfl, hTS⟩
  have H3 : Hid (TS w w3 tb aw2 1) := hid hTS
  clear hTS
  go_wp2_with fail
  refine (H3.out.err (fun S hS => pPgid_any _ tb 1 S aw2 1 2 0 hS (by decide)) 0 rfl).mono ?_
  rintro e' w4 ⟨rfl, hTS⟩
  have H4 : Hid (TS w w4 tb aw3 1) := hid hTS
  clear hTS
  go_wp2_with fail
  refine (H4.out.may (by decide) 2 3 false false (j64_of _ (by decide)) (1, [(2, 6)]) rfl).mono ?_
  rintro e' w5 ⟨A, c, rfl, hr, hTS⟩
  have H5 := hid hTS
  obtain ⟨g, c9, h9, _⟩ := Row.ptr hr (by decide)
  obtain rfl : A = some ⟨g, 0, none⟩ := by injection h9
  obtain rfl : c = c9 := by injection h9
  have d0 : w5.cell? ⟨g, 0, none⟩ = some (.int .i64 2) := Row.cell hr sgc_len 0 (by decide) 0 (by decide) rfl
  have d1 : w5.cell? ⟨g, 1, none⟩ = some (.int .i64 6) := Row.cell hr sgc_len 0 (by decide) 1 (by decide) rfl
  have hFr : Hid (Calls Try.prog 26 #[.pointer (some ⟨tb, 0, none⟩), .int .i64 3] w5 fun e w' => e = .returned (.int .i64 1) ∧ w5 = w') := hid (by
    obtain ⟨S, h1, _, _⟩ := H5.out
    exact h1.front 3 (j64_of _ (by decide)))
  clear hTS hr h9
  go_wp2_with fail
  refine hFr.out.mono ?_
  rintro e' w6 ⟨rfl, rfl⟩
  go_wp2
  go_ret
  exact ⟨rfl, H5.out.fr⟩
def bg1 : Tb := (forkT newT 1).1
def bg2 : Tb := (sidT bg1 2).1
def bg3 : Tb := (attT bg2 2 2).1
def bg4 : Tb := (forkT bg3 2).1
def bg5 : Tb := (forkT bg4 3).1
def bg6 : Tb := (pgidT bg5 2 3 0).1
def bg7 : Tb := (pgidT bg6 3 4 3).1
def bg8 (deaf : Bool) : Tb := (deafT bg7 4 deaf).1
def bg9 (deaf orphan : Bool) : Tb := if orphan then (exitT (bg8 deaf) 3).1 else bg8 deaf
def bgR (deaf write tostop orphan : Bool) : Int × List (Int × Int) :=
  if (write && (!tostop || deaf)) = true then (0, []) else if (deaf || orphan) = true then (2, []) else (1, [(3, if write then 7 else 6)])
theorem bg_may (deaf write tostop orphan : Bool) : mayT (bg9 deaf orphan) 4 2 write tostop = bgR deaf write tostop orphan := by
  cases deaf <;> cases write <;> cases tostop <;> cases orphan <;> rfl
theorem bg_may0 (deaf write tostop : Bool) : mayT (bg8 deaf) 2 2 write tostop = (0, []) := by
  cases deaf <;> cases write <;> cases tostop <;> rfl
theorem TS.exit {w0 W : World} {tb n : Nat} {t : Tb} (h : TS w0 W tb t n) (pid : Int) (hl : t.l.length ≤ 400) (hu : ∀ p ∈ t.l, J64 p.grp ∧ J64 p.tty) :
    Calls Try.prog 14 #[.pointer (some ⟨tb, 0, none⟩), .int .i64 pid] W fun e w' => ∃ v, e = .returned v ∧ SgR w' W.heap.size v (exitT t pid).2 ∧ TS w0 w' tb (exitT t pid).1 n := by
  obtain ⟨S, h1, h2, h3⟩ := h
  exact (pExit_any W tb n S t pid h1 hl hu).mono fun e w' ⟨v, he, hr, ht⟩ => ⟨v, he, hr, TS.next (n := n) h2 h3 ht⟩
theorem bg8_j (deaf : Bool) : ∀ p ∈ (bg8 deaf).l, J64 p.grp ∧ J64 p.tty := by
  have h : (bg8 deaf).l.all (fun p => decide (-1000 ≤ p.grp ∧ p.grp ≤ 1000) && decide (-1000 ≤ p.tty ∧ p.tty ≤ 1000)) = true := by cases deaf <;> rfl
  intro p hp
  have h2 := List.all_eq_true.1 h p hp
  simp only [Bool.and_eq_true, decide_eq_true_eq] at h2
  exact ⟨⟨by omega, by omega⟩, ⟨by omega, by omega⟩⟩
theorem bg2_j : ∀ p ∈ bg2.l, J64 p.grp := by
  have h : bg2.l.all (fun p => decide (-1000 ≤ p.grp ∧ p.grp ≤ 1000)) = true := rfl
  intro p hp
  have h2 := List.all_eq_true.1 h p hp
  simp only [decide_eq_true_eq] at h2
  exact ⟨by omega, by omega⟩
set_option maxHeartbeats 4000000 in
theorem lawBg_0000 (w : World) : Calls Try.prog 3 #[.bool false, .bool false, .bool false, .bool false] w fun e w' => e = .returned (.bool true) ∧ Fr NoB w w' := by
  have HAw := fun W => hid (pAwake_any W)
  have HMy : Hid (mayT (bg8 false) 4 2 false false = (1, [(3, 6)])) := hid rfl
  go_enter Try.func3, Try.ntmps3
  go_wp2_with fail
  refine (TS.new w w (Fr.refl _ _)).mono ?_
  rintro e' w1 ⟨tb, rfl, hTS⟩
  have H1 := hid hTS
  clear hTS
  go_wp2_with fail
  refine (H1.out.num (fun S hS => pFork_any _ tb 0 S newT 1 hS (by decide) (by decide) (by decide)) 2 0 rfl).mono ?_
  rintro e' w2 ⟨rfl, hTS⟩
  have H2 : Hid (TS w w2 tb bg1 0) := hid hTS
  clear hTS
  go_wp2_with fail
  refine (H2.out.err (fun S hS => pSid_any _ tb 0 S bg1 2 hS (by decide)) 0 rfl).mono ?_
  rintro e' w3 ⟨rfl, hTS⟩
  have H3 : Hid (TS w w3 tb bg2 0) := hid hTS
  clear hTS
  go_wp2_with fail
  refine (H3.out.err (fun S hS => pAtt_any _ tb 0 S bg2 2 2 hS (by decide) bg2_j (by decide)) 0 rfl).mono ?_
  rintro e' w4 ⟨rfl, hTS⟩
  have H4 : Hid (TS w w4 tb bg3 1) := hid hTS
  clear hTS
  go_wp2_with fail
  refine (H4.out.num (fun S hS => pFork_any _ tb 1 S bg3 2 hS (by decide) (by decide) (by decide)) 3 0 rfl).mono ?_
  rintro e' w5 ⟨rfl, hTS⟩
  have H5 : Hid (TS w w5 tb bg4 1) := hid hTS
  clear hTS
  go_wp2_with fail
  refine (H5.out.num (fun S hS => pFork_any _ tb 1 S bg4 3 hS (by decide) (by decide) (by decide)) 4 0 rfl).mono ?_
  rintro e' w6 ⟨rfl, hTS⟩
  have H6 : Hid (TS w w6 tb bg5 1) := hid hTS
  clear hTS
  go_wp2_with fail
  refine (H6.out.err (fun S hS => pPgid_any _ tb 1 S bg5 2 3 0 hS (by decide)) 0 rfl).mono ?_
  rintro e' w7 ⟨rfl, hTS⟩
  have H7 : Hid (TS w w7 tb bg6 1) := hid hTS
  clear hTS
  go_wp2_with fail
  refine (H7.out.err (fun S hS => pPgid_any _ tb 1 S bg6 3 4 3 hS (by decide)) 0 rfl).mono ?_
  rintro e' w8 ⟨rfl, hTS⟩
  have H8 : Hid (TS w w8 tb bg7 1) := hid hTS
  clear hTS
  go_wp2_with fail
  refine (H8.out.err (fun S hS => pDeaf_any _ tb 1 S bg7 4 false hS (by decide)) 0 rfl).mono ?_
  rintro e' w9 ⟨rfl, hTS⟩
  have H9 : Hid (TS w w9 tb (bg8 false) 1) := hid hTS
  clear hTS
  go_wp2_with fail
  refine (H9.out.may (by decide) 2 2 false false (j64_of _ (by decide)) (0, []) (bg_may0 _ _ _)).mono ?_
  rintro e' wa ⟨A0, c0, rfl, _, hTS⟩
  have Ha := hid hTS
  clear hTS
  go_wp2_with fail
  refine (Ha.out.may (by decide) 4 2 false false (j64_of _ (by decide)) _ HMy.out).mono ?_
  rintro e' wc ⟨A, c, rfl, hr, hTS⟩
  have Hc := hid hTS
  obtain ⟨g, c9, h9, _⟩ := Row.ptr hr (by decide)
  obtain rfl : A = some ⟨g, 0, none⟩ := by injection h9
  obtain rfl : c = c9 := by injection h9
  have d0 : wc.cell? ⟨g, 0, none⟩ = some (.int .i64 3) := Row.cell hr sgc_len 0 (by decide) 0 (by decide) rfl
  clear hTS hr h9
  go_wp2_with fail
  refine (HAw _).out.mono ?_
  rintro e' wd ⟨rfl, hfd⟩
  have HFd := hid (Hc.out.fr.trans hfd)
  clear hfd
  go_wp2
  go_ret
  exact ⟨rfl, HFd.out⟩
set_option maxHeartbeats 4000000 in
theorem lawBg_0001 (w : World) : Calls Try.prog 3 #[.bool false, .bool false, .bool true, .bool false] w fun e w' => e = .returned (.bool true) ∧ Fr NoB w w' := by
  have HAw := fun W => hid (pAwake_any W)
  have HMy : Hid (mayT (bg8 false) 4 2 false true = (1, [(3, 6)])) := hid rfl
  go_enter Try.func3, Try.ntmps3
  go_wp2_with fail
  refine (TS.new w w (Fr.refl _ _)).mono ?_
  rintro e' w1 ⟨tb, rfl, hTS⟩
  have H1 := hid hTS
  clear hTS
  go_wp2_with fail
  refine (H1.out.num (fun S hS => pFork_any _ tb 0 S newT 1 hS (by decide) (by decide) (by decide)) 2 0 rfl).mono ?_
  rintro e' w2 ⟨rfl, hTS⟩
  have H2 : Hid (TS w w2 tb bg1 0) := hid hTS
  clear hTS
  go_wp2_with fail
  refine (H2.out.err (fun S hS => pSid_any _ tb 0 S bg1 2 hS (by decide)) 0 rfl).mono ?_
  rintro e' w3 ⟨rfl, hTS⟩
  have H3 : Hid (TS w w3 tb bg2 0) := hid hTS
  clear hTS
  go_wp2_with fail
  refine (H3.out.err (fun S hS => pAtt_any _ tb 0 S bg2 2 2 hS (by decide) bg2_j (by decide)) 0 rfl).mono ?_
  rintro e' w4 ⟨rfl, hTS⟩
  have H4 : Hid (TS w w4 tb bg3 1) := hid hTS
  clear hTS
  go_wp2_with fail
  refine (H4.out.num (fun S hS => pFork_any _ tb 1 S bg3 2 hS (by decide) (by decide) (by decide)) 3 0 rfl).mono ?_
  rintro e' w5 ⟨rfl, hTS⟩
  have H5 : Hid (TS w w5 tb bg4 1) := hid hTS
  clear hTS
  go_wp2_with fail
  refine (H5.out.num (fun S hS => pFork_any _ tb 1 S bg4 3 hS (by decide) (by decide) (by decide)) 4 0 rfl).mono ?_
  rintro e' w6 ⟨rfl, hTS⟩
  have H6 : Hid (TS w w6 tb bg5 1) := hid hTS
  clear hTS
  go_wp2_with fail
  refine (H6.out.err (fun S hS => pPgid_any _ tb 1 S bg5 2 3 0 hS (by decide)) 0 rfl).mono ?_
  rintro e' w7 ⟨rfl, hTS⟩
  have H7 : Hid (TS w w7 tb bg6 1) := hid hTS
  clear hTS
  go_wp2_with fail
  refine (H7.out.err (fun S hS => pPgid_any _ tb 1 S bg6 3 4 3 hS (by decide)) 0 rfl).mono ?_
  rintro e' w8 ⟨rfl, hTS⟩
  have H8 : Hid (TS w w8 tb bg7 1) := hid hTS
  clear hTS
  go_wp2_with fail
  refine (H8.out.err (fun S hS => pDeaf_any _ tb 1 S bg7 4 false hS (by decide)) 0 rfl).mono ?_
  rintro e' w9 ⟨rfl, hTS⟩
  have H9 : Hid (TS w w9 tb (bg8 false) 1) := hid hTS
  clear hTS
  go_wp2_with fail
  refine (H9.out.may (by decide) 2 2 false true (j64_of _ (by decide)) (0, []) (bg_may0 _ _ _)).mono ?_
  rintro e' wa ⟨A0, c0, rfl, _, hTS⟩
  have Ha := hid hTS
  clear hTS
  go_wp2_with fail
  refine (Ha.out.may (by decide) 4 2 false true (j64_of _ (by decide)) _ HMy.out).mono ?_
  rintro e' wc ⟨A, c, rfl, hr, hTS⟩
  have Hc := hid hTS
  obtain ⟨g, c9, h9, _⟩ := Row.ptr hr (by decide)
  obtain rfl : A = some ⟨g, 0, none⟩ := by injection h9
  obtain rfl : c = c9 := by injection h9
  have d0 : wc.cell? ⟨g, 0, none⟩ = some (.int .i64 3) := Row.cell hr sgc_len 0 (by decide) 0 (by decide) rfl
  clear hTS hr h9
  go_wp2_with fail
  refine (HAw _).out.mono ?_
  rintro e' wd ⟨rfl, hfd⟩
  have HFd := hid (Hc.out.fr.trans hfd)
  clear hfd
  go_wp2
  go_ret
  exact ⟨rfl, HFd.out⟩
set_option maxHeartbeats 4000000 in
theorem lawBg_0010 (w : World) : Calls Try.prog 3 #[.bool false, .bool true, .bool false, .bool false] w fun e w' => e = .returned (.bool true) ∧ Fr NoB w w' := by
  have HAw := fun W => hid (pAwake_any W)
  have HMy : Hid (mayT (bg8 false) 4 2 true false = (0, [])) := hid rfl
  go_enter Try.func3, Try.ntmps3
  go_wp2_with fail
  refine (TS.new w w (Fr.refl _ _)).mono ?_
  rintro e' w1 ⟨tb, rfl, hTS⟩
  have H1 := hid hTS
  clear hTS
  go_wp2_with fail
  refine (H1.out.num (fun S hS => pFork_any _ tb 0 S newT 1 hS (by decide) (by decide) (by decide)) 2 0 rfl).mono ?_
  rintro e' w2 ⟨rfl, hTS⟩
  have H2 : Hid (TS w w2 tb bg1 0) := hid hTS
  clear hTS
  go_wp2_with fail
  refine (H2.out.err (fun S hS => pSid_any _ tb 0 S bg1 2 hS (by decide)) 0 rfl).mono ?_
  rintro e' w3 ⟨rfl, hTS⟩
  have H3 : Hid (TS w w3 tb bg2 0) := hid hTS
  clear hTS
  go_wp2_with fail
  refine (H3.out.err (fun S hS => pAtt_any _ tb 0 S bg2 2 2 hS (by decide) bg2_j (by decide)) 0 rfl).mono ?_
  rintro e' w4 ⟨rfl, hTS⟩
  have H4 : Hid (TS w w4 tb bg3 1) := hid hTS
  clear hTS
  go_wp2_with fail
  refine (H4.out.num (fun S hS => pFork_any _ tb 1 S bg3 2 hS (by decide) (by decide) (by decide)) 3 0 rfl).mono ?_
  rintro e' w5 ⟨rfl, hTS⟩
  have H5 : Hid (TS w w5 tb bg4 1) := hid hTS
  clear hTS
  go_wp2_with fail
  refine (H5.out.num (fun S hS => pFork_any _ tb 1 S bg4 3 hS (by decide) (by decide) (by decide)) 4 0 rfl).mono ?_
  rintro e' w6 ⟨rfl, hTS⟩
  have H6 : Hid (TS w w6 tb bg5 1) := hid hTS
  clear hTS
  go_wp2_with fail
  refine (H6.out.err (fun S hS => pPgid_any _ tb 1 S bg5 2 3 0 hS (by decide)) 0 rfl).mono ?_
  rintro e' w7 ⟨rfl, hTS⟩
  have H7 : Hid (TS w w7 tb bg6 1) := hid hTS
  clear hTS
  go_wp2_with fail
  refine (H7.out.err (fun S hS => pPgid_any _ tb 1 S bg6 3 4 3 hS (by decide)) 0 rfl).mono ?_
  rintro e' w8 ⟨rfl, hTS⟩
  have H8 : Hid (TS w w8 tb bg7 1) := hid hTS
  clear hTS
  go_wp2_with fail
  refine (H8.out.err (fun S hS => pDeaf_any _ tb 1 S bg7 4 false hS (by decide)) 0 rfl).mono ?_
  rintro e' w9 ⟨rfl, hTS⟩
  have H9 : Hid (TS w w9 tb (bg8 false) 1) := hid hTS
  clear hTS
  go_wp2_with fail
  refine (H9.out.may (by decide) 2 2 true false (j64_of _ (by decide)) (0, []) (bg_may0 _ _ _)).mono ?_
  rintro e' wa ⟨A0, c0, rfl, _, hTS⟩
  have Ha := hid hTS
  clear hTS
  go_wp2_with fail
  refine (Ha.out.may (by decide) 4 2 true false (j64_of _ (by decide)) _ HMy.out).mono ?_
  rintro e' wc ⟨A, c, rfl, hr, hTS⟩
  have Hc := hid hTS
  clear hTS hr
  go_wp2_with fail
  refine (HAw _).out.mono ?_
  rintro e' wd ⟨rfl, hfd⟩
  have HFd := hid (Hc.out.fr.trans hfd)
  clear hfd
  go_wp2
  go_ret
  exact ⟨rfl, HFd.out⟩
set_option maxHeartbeats 4000000 in
theorem lawBg_0011 (w : World) : Calls Try.prog 3 #[.bool false, .bool true, .bool true, .bool false] w fun e w' => e = .returned (.bool true) ∧ Fr NoB w w' := by
  have HAw := fun W => hid (pAwake_any W)
  have HMy : Hid (mayT (bg8 false) 4 2 true true = (1, [(3, 7)])) := hid rfl
  go_enter Try.func3, Try.ntmps3
  go_wp2_with fail
  refine (TS.new w w (Fr.refl _ _)).mono ?_
  rintro e' w1 ⟨tb, rfl, hTS⟩
  have H1 := hid hTS
  clear hTS
  go_wp2_with fail
  refine (H1.out.num (fun S hS => pFork_any _ tb 0 S newT 1 hS (by decide) (by decide) (by decide)) 2 0 rfl).mono ?_
  rintro e' w2 ⟨rfl, hTS⟩
  have H2 : Hid (TS w w2 tb bg1 0) := hid hTS
  clear hTS
  go_wp2_with fail
  refine (H2.out.err (fun S hS => pSid_any _ tb 0 S bg1 2 hS (by decide)) 0 rfl).mono ?_
  rintro e' w3 ⟨rfl, hTS⟩
  have H3 : Hid (TS w w3 tb bg2 0) := hid hTS
  clear hTS
  go_wp2_with fail
  refine (H3.out.err (fun S hS => pAtt_any _ tb 0 S bg2 2 2 hS (by decide) bg2_j (by decide)) 0 rfl).mono ?_
  rintro e' w4 ⟨rfl, hTS⟩
  have H4 : Hid (TS w w4 tb bg3 1) := hid hTS
  clear hTS
  go_wp2_with fail
  refine (H4.out.num (fun S hS => pFork_any _ tb 1 S bg3 2 hS (by decide) (by decide) (by decide)) 3 0 rfl).mono ?_
  rintro e' w5 ⟨rfl, hTS⟩
  have H5 : Hid (TS w w5 tb bg4 1) := hid hTS
  clear hTS
  go_wp2_with fail
  refine (H5.out.num (fun S hS => pFork_any _ tb 1 S bg4 3 hS (by decide) (by decide) (by decide)) 4 0 rfl).mono ?_
  rintro e' w6 ⟨rfl, hTS⟩
  have H6 : Hid (TS w w6 tb bg5 1) := hid hTS
  clear hTS
  go_wp2_with fail
  refine (H6.out.err (fun S hS => pPgid_any _ tb 1 S bg5 2 3 0 hS (by decide)) 0 rfl).mono ?_
  rintro e' w7 ⟨rfl, hTS⟩
  have H7 : Hid (TS w w7 tb bg6 1) := hid hTS
  clear hTS
  go_wp2_with fail
  refine (H7.out.err (fun S hS => pPgid_any _ tb 1 S bg6 3 4 3 hS (by decide)) 0 rfl).mono ?_
  rintro e' w8 ⟨rfl, hTS⟩
  have H8 : Hid (TS w w8 tb bg7 1) := hid hTS
  clear hTS
  go_wp2_with fail
  refine (H8.out.err (fun S hS => pDeaf_any _ tb 1 S bg7 4 false hS (by decide)) 0 rfl).mono ?_
  rintro e' w9 ⟨rfl, hTS⟩
  have H9 : Hid (TS w w9 tb (bg8 false) 1) := hid hTS
  clear hTS
  go_wp2_with fail
  refine (H9.out.may (by decide) 2 2 true true (j64_of _ (by decide)) (0, []) (bg_may0 _ _ _)).mono ?_
  rintro e' wa ⟨A0, c0, rfl, _, hTS⟩
  have Ha := hid hTS
  clear hTS
  go_wp2_with fail
  refine (Ha.out.may (by decide) 4 2 true true (j64_of _ (by decide)) _ HMy.out).mono ?_
  rintro e' wc ⟨A, c, rfl, hr, hTS⟩
  have Hc := hid hTS
  obtain ⟨g, c9, h9, _⟩ := Row.ptr hr (by decide)
  obtain rfl : A = some ⟨g, 0, none⟩ := by injection h9
  obtain rfl : c = c9 := by injection h9
  have d0 : wc.cell? ⟨g, 0, none⟩ = some (.int .i64 3) := Row.cell hr sgc_len 0 (by decide) 0 (by decide) rfl
  clear hTS hr h9
  go_wp2_with fail
  refine (HAw _).out.mono ?_
  rintro e' wd ⟨rfl, hfd⟩
  have HFd := hid (Hc.out.fr.trans hfd)
  clear hfd
  go_wp2
  go_ret
  exact ⟨rfl, HFd.out⟩
set_option maxHeartbeats 4000000 in
theorem lawBg_0100 (w : World) : Calls Try.prog 3 #[.bool true, .bool false, .bool false, .bool false] w fun e w' => e = .returned (.bool true) ∧ Fr NoB w w' := by
  have HAw := fun W => hid (pAwake_any W)
  have HMy : Hid (mayT (bg8 true) 4 2 false false = (2, [])) := hid rfl
  go_enter Try.func3, Try.ntmps3
  go_wp2_with fail
  refine (TS.new w w (Fr.refl _ _)).mono ?_
  rintro e' w1 ⟨tb, rfl, hTS⟩
  have H1 := hid hTS
  clear hTS
  go_wp2_with fail
  refine (H1.out.num (fun S hS => pFork_any _ tb 0 S newT 1 hS (by decide) (by decide) (by decide)) 2 0 rfl).mono ?_
  rintro e' w2 ⟨rfl, hTS⟩
  have H2 : Hid (TS w w2 tb bg1 0) := hid hTS
  clear hTS
  go_wp2_with fail
  refine (H2.out.err (fun S hS => pSid_any _ tb 0 S bg1 2 hS (by decide)) 0 rfl).mono ?_
  rintro e' w3 ⟨rfl, hTS⟩
  have H3 : Hid (TS w w3 tb bg2 0) := hid hTS
  clear hTS
  go_wp2_with fail
  refine (H3.out.err (fun S hS => pAtt_any _ tb 0 S bg2 2 2 hS (by decide) bg2_j (by decide)) 0 rfl).mono ?_
  rintro e' w4 ⟨rfl, hTS⟩
  have H4 : Hid (TS w w4 tb bg3 1) := hid hTS
  clear hTS
  go_wp2_with fail
  refine (H4.out.num (fun S hS => pFork_any _ tb 1 S bg3 2 hS (by decide) (by decide) (by decide)) 3 0 rfl).mono ?_
  rintro e' w5 ⟨rfl, hTS⟩
  have H5 : Hid (TS w w5 tb bg4 1) := hid hTS
  clear hTS
  go_wp2_with fail
  refine (H5.out.num (fun S hS => pFork_any _ tb 1 S bg4 3 hS (by decide) (by decide) (by decide)) 4 0 rfl).mono ?_
  rintro e' w6 ⟨rfl, hTS⟩
  have H6 : Hid (TS w w6 tb bg5 1) := hid hTS
  clear hTS
  go_wp2_with fail
  refine (H6.out.err (fun S hS => pPgid_any _ tb 1 S bg5 2 3 0 hS (by decide)) 0 rfl).mono ?_
  rintro e' w7 ⟨rfl, hTS⟩
  have H7 : Hid (TS w w7 tb bg6 1) := hid hTS
  clear hTS
  go_wp2_with fail
  refine (H7.out.err (fun S hS => pPgid_any _ tb 1 S bg6 3 4 3 hS (by decide)) 0 rfl).mono ?_
  rintro e' w8 ⟨rfl, hTS⟩
  have H8 : Hid (TS w w8 tb bg7 1) := hid hTS
  clear hTS
  go_wp2_with fail
  refine (H8.out.err (fun S hS => pDeaf_any _ tb 1 S bg7 4 true hS (by decide)) 0 rfl).mono ?_
  rintro e' w9 ⟨rfl, hTS⟩
  have H9 : Hid (TS w w9 tb (bg8 true) 1) := hid hTS
  clear hTS
  go_wp2_with fail
  refine (H9.out.may (by decide) 2 2 false false (j64_of _ (by decide)) (0, []) (bg_may0 _ _ _)).mono ?_
  rintro e' wa ⟨A0, c0, rfl, _, hTS⟩
  have Ha := hid hTS
  clear hTS
  go_wp2_with fail
  refine (Ha.out.may (by decide) 4 2 false false (j64_of _ (by decide)) _ HMy.out).mono ?_
  rintro e' wc ⟨A, c, rfl, hr, hTS⟩
  have Hc := hid hTS
  clear hTS hr
  go_wp2_with fail
  refine (HAw _).out.mono ?_
  rintro e' wd ⟨rfl, hfd⟩
  have HFd := hid (Hc.out.fr.trans hfd)
  clear hfd
  go_wp2
  go_ret
  exact ⟨rfl, HFd.out⟩
set_option maxHeartbeats 4000000 in
theorem lawBg_0101 (w : World) : Calls Try.prog 3 #[.bool true, .bool false, .bool true, .bool false] w fun e w' => e = .returned (.bool true) ∧ Fr NoB w w' := by
  have HAw := fun W => hid (pAwake_any W)
  have HMy : Hid (mayT (bg8 true) 4 2 false true = (2, [])) := hid rfl
  go_enter Try.func3, Try.ntmps3
  go_wp2_with fail
  refine (TS.new w w (Fr.refl _ _)).mono ?_
  rintro e' w1 ⟨tb, rfl, hTS⟩
  have H1 := hid hTS
  clear hTS
  go_wp2_with fail
  refine (H1.out.num (fun S hS => pFork_any _ tb 0 S newT 1 hS (by decide) (by decide) (by decide)) 2 0 rfl).mono ?_
  rintro e' w2 ⟨rfl, hTS⟩
  have H2 : Hid (TS w w2 tb bg1 0) := hid hTS
  clear hTS
  go_wp2_with fail
  refine (H2.out.err (fun S hS => pSid_any _ tb 0 S bg1 2 hS (by decide)) 0 rfl).mono ?_
  rintro e' w3 ⟨rfl, hTS⟩
  have H3 : Hid (TS w w3 tb bg2 0) := hid hTS
  clear hTS
  go_wp2_with fail
  refine (H3.out.err (fun S hS => pAtt_any _ tb 0 S bg2 2 2 hS (by decide) bg2_j (by decide)) 0 rfl).mono ?_
  rintro e' w4 ⟨rfl, hTS⟩
  have H4 : Hid (TS w w4 tb bg3 1) := hid hTS
  clear hTS
  go_wp2_with fail
  refine (H4.out.num (fun S hS => pFork_any _ tb 1 S bg3 2 hS (by decide) (by decide) (by decide)) 3 0 rfl).mono ?_
  rintro e' w5 ⟨rfl, hTS⟩
  have H5 : Hid (TS w w5 tb bg4 1) := hid hTS
  clear hTS
  go_wp2_with fail
  refine (H5.out.num (fun S hS => pFork_any _ tb 1 S bg4 3 hS (by decide) (by decide) (by decide)) 4 0 rfl).mono ?_
  rintro e' w6 ⟨rfl, hTS⟩
  have H6 : Hid (TS w w6 tb bg5 1) := hid hTS
  clear hTS
  go_wp2_with fail
  refine (H6.out.err (fun S hS => pPgid_any _ tb 1 S bg5 2 3 0 hS (by decide)) 0 rfl).mono ?_
  rintro e' w7 ⟨rfl, hTS⟩
  have H7 : Hid (TS w w7 tb bg6 1) := hid hTS
  clear hTS
  go_wp2_with fail
  refine (H7.out.err (fun S hS => pPgid_any _ tb 1 S bg6 3 4 3 hS (by decide)) 0 rfl).mono ?_
  rintro e' w8 ⟨rfl, hTS⟩
  have H8 : Hid (TS w w8 tb bg7 1) := hid hTS
  clear hTS
  go_wp2_with fail
  refine (H8.out.err (fun S hS => pDeaf_any _ tb 1 S bg7 4 true hS (by decide)) 0 rfl).mono ?_
  rintro e' w9 ⟨rfl, hTS⟩
  have H9 : Hid (TS w w9 tb (bg8 true) 1) := hid hTS
  clear hTS
  go_wp2_with fail
  refine (H9.out.may (by decide) 2 2 false true (j64_of _ (by decide)) (0, []) (bg_may0 _ _ _)).mono ?_
  rintro e' wa ⟨A0, c0, rfl, _, hTS⟩
  have Ha := hid hTS
  clear hTS
  go_wp2_with fail
  refine (Ha.out.may (by decide) 4 2 false true (j64_of _ (by decide)) _ HMy.out).mono ?_
  rintro e' wc ⟨A, c, rfl, hr, hTS⟩
  have Hc := hid hTS
  clear hTS hr
  go_wp2_with fail
  refine (HAw _).out.mono ?_
  rintro e' wd ⟨rfl, hfd⟩
  have HFd := hid (Hc.out.fr.trans hfd)
  clear hfd
  go_wp2
  go_ret
  exact ⟨rfl, HFd.out⟩
set_option maxHeartbeats 4000000 in
theorem lawBg_0110 (w : World) : Calls Try.prog 3 #[.bool true, .bool true, .bool false, .bool false] w fun e w' => e = .returned (.bool true) ∧ Fr NoB w w' := by
  have HAw := fun W => hid (pAwake_any W)
  have HMy : Hid (mayT (bg8 true) 4 2 true false = (0, [])) := hid rfl
  go_enter Try.func3, Try.ntmps3
  go_wp2_with fail
  refine (TS.new w w (Fr.refl _ _)).mono ?_
  rintro e' w1 ⟨tb, rfl, hTS⟩
  have H1 := hid hTS
  clear hTS
  go_wp2_with fail
  refine (H1.out.num (fun S hS => pFork_any _ tb 0 S newT 1 hS (by decide) (by decide) (by decide)) 2 0 rfl).mono ?_
  rintro e' w2 ⟨rfl, hTS⟩
  have H2 : Hid (TS w w2 tb bg1 0) := hid hTS
  clear hTS
  go_wp2_with fail
  refine (H2.out.err (fun S hS => pSid_any _ tb 0 S bg1 2 hS (by decide)) 0 rfl).mono ?_
  rintro e' w3 ⟨rfl, hTS⟩
  have H3 : Hid (TS w w3 tb bg2 0) := hid hTS
  clear hTS
  go_wp2_with fail
  refine (H3.out.err (fun S hS => pAtt_any _ tb 0 S bg2 2 2 hS (by decide) bg2_j (by decide)) 0 rfl).mono ?_
  rintro e' w4 ⟨rfl, hTS⟩
  have H4 : Hid (TS w w4 tb bg3 1) := hid hTS
  clear hTS
  go_wp2_with fail
  refine (H4.out.num (fun S hS => pFork_any _ tb 1 S bg3 2 hS (by decide) (by decide) (by decide)) 3 0 rfl).mono ?_
  rintro e' w5 ⟨rfl, hTS⟩
  have H5 : Hid (TS w w5 tb bg4 1) := hid hTS
  clear hTS
  go_wp2_with fail
  refine (H5.out.num (fun S hS => pFork_any _ tb 1 S bg4 3 hS (by decide) (by decide) (by decide)) 4 0 rfl).mono ?_
  rintro e' w6 ⟨rfl, hTS⟩
  have H6 : Hid (TS w w6 tb bg5 1) := hid hTS
  clear hTS
  go_wp2_with fail
  refine (H6.out.err (fun S hS => pPgid_any _ tb 1 S bg5 2 3 0 hS (by decide)) 0 rfl).mono ?_
  rintro e' w7 ⟨rfl, hTS⟩
  have H7 : Hid (TS w w7 tb bg6 1) := hid hTS
  clear hTS
  go_wp2_with fail
  refine (H7.out.err (fun S hS => pPgid_any _ tb 1 S bg6 3 4 3 hS (by decide)) 0 rfl).mono ?_
  rintro e' w8 ⟨rfl, hTS⟩
  have H8 : Hid (TS w w8 tb bg7 1) := hid hTS
  clear hTS
  go_wp2_with fail
  refine (H8.out.err (fun S hS => pDeaf_any _ tb 1 S bg7 4 true hS (by decide)) 0 rfl).mono ?_
  rintro e' w9 ⟨rfl, hTS⟩
  have H9 : Hid (TS w w9 tb (bg8 true) 1) := hid hTS
  clear hTS
  go_wp2_with fail
  refine (H9.out.may (by decide) 2 2 true false (j64_of _ (by decide)) (0, []) (bg_may0 _ _ _)).mono ?_
  rintro e' wa ⟨A0, c0, rfl, _, hTS⟩
  have Ha := hid hTS
  clear hTS
  go_wp2_with fail
  refine (Ha.out.may (by decide) 4 2 true false (j64_of _ (by decide)) _ HMy.out).mono ?_
  rintro e' wc ⟨A, c, rfl, hr, hTS⟩
  have Hc := hid hTS
  clear hTS hr
  go_wp2_with fail
  refine (HAw _).out.mono ?_
  rintro e' wd ⟨rfl, hfd⟩
  have HFd := hid (Hc.out.fr.trans hfd)
  clear hfd
  go_wp2
  go_ret
  exact ⟨rfl, HFd.out⟩
set_option maxHeartbeats 4000000 in
theorem lawBg_0111 (w : World) : Calls Try.prog 3 #[.bool true, .bool true, .bool true, .bool false] w fun e w' => e = .returned (.bool true) ∧ Fr NoB w w' := by
  have HAw := fun W => hid (pAwake_any W)
  have HMy : Hid (mayT (bg8 true) 4 2 true true = (0, [])) := hid rfl
  go_enter Try.func3, Try.ntmps3
  go_wp2_with fail
  refine (TS.new w w (Fr.refl _ _)).mono ?_
  rintro e' w1 ⟨tb, rfl, hTS⟩
  have H1 := hid hTS
  clear hTS
  go_wp2_with fail
  refine (H1.out.num (fun S hS => pFork_any _ tb 0 S newT 1 hS (by decide) (by decide) (by decide)) 2 0 rfl).mono ?_
  rintro e' w2 ⟨rfl, hTS⟩
  have H2 : Hid (TS w w2 tb bg1 0) := hid hTS
  clear hTS
  go_wp2_with fail
  refine (H2.out.err (fun S hS => pSid_any _ tb 0 S bg1 2 hS (by decide)) 0 rfl).mono ?_
  rintro e' w3 ⟨rfl, hTS⟩
  have H3 : Hid (TS w w3 tb bg2 0) := hid hTS
  clear hTS
  go_wp2_with fail
  refine (H3.out.err (fun S hS => pAtt_any _ tb 0 S bg2 2 2 hS (by decide) bg2_j (by decide)) 0 rfl).mono ?_
  rintro e' w4 ⟨rfl, hTS⟩
  have H4 : Hid (TS w w4 tb bg3 1) := hid hTS
  clear hTS
  go_wp2_with fail
  refine (H4.out.num (fun S hS => pFork_any _ tb 1 S bg3 2 hS (by decide) (by decide) (by decide)) 3 0 rfl).mono ?_
  rintro e' w5 ⟨rfl, hTS⟩
  have H5 : Hid (TS w w5 tb bg4 1) := hid hTS
  clear hTS
  go_wp2_with fail
  refine (H5.out.num (fun S hS => pFork_any _ tb 1 S bg4 3 hS (by decide) (by decide) (by decide)) 4 0 rfl).mono ?_
  rintro e' w6 ⟨rfl, hTS⟩
  have H6 : Hid (TS w w6 tb bg5 1) := hid hTS
  clear hTS
  go_wp2_with fail
  refine (H6.out.err (fun S hS => pPgid_any _ tb 1 S bg5 2 3 0 hS (by decide)) 0 rfl).mono ?_
  rintro e' w7 ⟨rfl, hTS⟩
  have H7 : Hid (TS w w7 tb bg6 1) := hid hTS
  clear hTS
  go_wp2_with fail
  refine (H7.out.err (fun S hS => pPgid_any _ tb 1 S bg6 3 4 3 hS (by decide)) 0 rfl).mono ?_
  rintro e' w8 ⟨rfl, hTS⟩
  have H8 : Hid (TS w w8 tb bg7 1) := hid hTS
  clear hTS
  go_wp2_with fail
  refine (H8.out.err (fun S hS => pDeaf_any _ tb 1 S bg7 4 true hS (by decide)) 0 rfl).mono ?_
  rintro e' w9 ⟨rfl, hTS⟩
  have H9 : Hid (TS w w9 tb (bg8 true) 1) := hid hTS
  clear hTS
  go_wp2_with fail
  refine (H9.out.may (by decide) 2 2 true true (j64_of _ (by decide)) (0, []) (bg_may0 _ _ _)).mono ?_
  rintro e' wa ⟨A0, c0, rfl, _, hTS⟩
  have Ha := hid hTS
  clear hTS
  go_wp2_with fail
  refine (Ha.out.may (by decide) 4 2 true true (j64_of _ (by decide)) _ HMy.out).mono ?_
  rintro e' wc ⟨A, c, rfl, hr, hTS⟩
  have Hc := hid hTS
  clear hTS hr
  go_wp2_with fail
  refine (HAw _).out.mono ?_
  rintro e' wd ⟨rfl, hfd⟩
  have HFd := hid (Hc.out.fr.trans hfd)
  clear hfd
  go_wp2
  go_ret
  exact ⟨rfl, HFd.out⟩
set_option maxHeartbeats 4000000 in
theorem lawBg_1000 (w : World) : Calls Try.prog 3 #[.bool false, .bool false, .bool false, .bool true] w fun e w' => e = .returned (.bool true) ∧ Fr NoB w w' := by
  have HAw := fun W => hid (pAwake_any W)
  have HMy : Hid (mayT (exitT (bg8 false) 3).1 4 2 false false = (2, [])) := hid rfl
  go_enter Try.func3, Try.ntmps3
  go_wp2_with fail
  refine (TS.new w w (Fr.refl _ _)).mono ?_
  rintro e' w1 ⟨tb, rfl, hTS⟩
  have H1 := hid hTS
  clear hTS
  go_wp2_with fail
  refine (H1.out.num (fun S hS => pFork_any _ tb 0 S newT 1 hS (by decide) (by decide) (by decide)) 2 0 rfl).mono ?_
  rintro e' w2 ⟨rfl, hTS⟩
  have H2 : Hid (TS w w2 tb bg1 0) := hid hTS
  clear hTS
  go_wp2_with fail
  refine (H2.out.err (fun S hS => pSid_any _ tb 0 S bg1 2 hS (by decide)) 0 rfl).mono ?_
  rintro e' w3 ⟨rfl, hTS⟩
  have H3 : Hid (TS w w3 tb bg2 0) := hid hTS
  clear hTS
  go_wp2_with fail
  refine (H3.out.err (fun S hS => pAtt_any _ tb 0 S bg2 2 2 hS (by decide) bg2_j (by decide)) 0 rfl).mono ?_
  rintro e' w4 ⟨rfl, hTS⟩
  have H4 : Hid (TS w w4 tb bg3 1) := hid hTS
  clear hTS
  go_wp2_with fail
  refine (H4.out.num (fun S hS => pFork_any _ tb 1 S bg3 2 hS (by decide) (by decide) (by decide)) 3 0 rfl).mono ?_
  rintro e' w5 ⟨rfl, hTS⟩
  have H5 : Hid (TS w w5 tb bg4 1) := hid hTS
  clear hTS
  go_wp2_with fail
  refine (H5.out.num (fun S hS => pFork_any _ tb 1 S bg4 3 hS (by decide) (by decide) (by decide)) 4 0 rfl).mono ?_
  rintro e' w6 ⟨rfl, hTS⟩
  have H6 : Hid (TS w w6 tb bg5 1) := hid hTS
  clear hTS
  go_wp2_with fail
  refine (H6.out.err (fun S hS => pPgid_any _ tb 1 S bg5 2 3 0 hS (by decide)) 0 rfl).mono ?_
  rintro e' w7 ⟨rfl, hTS⟩
  have H7 : Hid (TS w w7 tb bg6 1) := hid hTS
  clear hTS
  go_wp2_with fail
  refine (H7.out.err (fun S hS => pPgid_any _ tb 1 S bg6 3 4 3 hS (by decide)) 0 rfl).mono ?_
  rintro e' w8 ⟨rfl, hTS⟩
  have H8 : Hid (TS w w8 tb bg7 1) := hid hTS
  clear hTS
  go_wp2_with fail
  refine (H8.out.err (fun S hS => pDeaf_any _ tb 1 S bg7 4 false hS (by decide)) 0 rfl).mono ?_
  rintro e' w9 ⟨rfl, hTS⟩
  have H9 : Hid (TS w w9 tb (bg8 false) 1) := hid hTS
  clear hTS
  go_wp2_with fail
  refine (H9.out.may (by decide) 2 2 false false (j64_of _ (by decide)) (0, []) (bg_may0 _ _ _)).mono ?_
  rintro e' wa ⟨A0, c0, rfl, _, hTS⟩
  have Ha := hid hTS
  clear hTS
  go_wp2_with fail
  refine (Ha.out.exit 3 (by decide) (bg8_j false)).mono ?_
  rintro e' wb ⟨v, rfl, _, hTS⟩
  have Hb := hid hTS
  clear hTS
  go_wp2_with fail
  refine (Hb.out.may (by decide) 4 2 false false (j64_of _ (by decide)) _ HMy.out).mono ?_
  rintro e' wc ⟨A, c, rfl, hr, hTS⟩
  have Hc := hid hTS
  clear hTS hr
  go_wp2_with fail
  refine (HAw _).out.mono ?_
  rintro e' wd ⟨rfl, hfd⟩
  have HFd := hid (Hc.out.fr.trans hfd)
  clear hfd
  go_wp2
  go_ret
  exact ⟨rfl, HFd.out⟩
set_option maxHeartbeats 4000000 in
theorem lawBg_1001 (w : World) : Calls Try.prog 3 #[.bool false, .bool false, .bool true, .bool true] w fun e w' => e = .returned (.bool true) ∧ Fr NoB w w' := by
  have HAw := fun W => hid (pAwake_any W)
  have HMy : Hid (mayT (exitT (bg8 false) 3).1 4 2 false true = (2, [])) := hid rfl
  go_enter Try.func3, Try.ntmps3
  go_wp2_with fail
  refine (TS.new w w (Fr.refl _ _)).mono ?_
  rintro e' w1 ⟨tb, rfl, hTS⟩
  have H1 := hid hTS
  clear hTS
  go_wp2_with fail
  refine (H1.out.num (fun S hS => pFork_any _ tb 0 S newT 1 hS (by decide) (by decide) (by decide)) 2 0 rfl).mono ?_
  rintro e' w2 ⟨rfl, hTS⟩
  have H2 : Hid (TS w w2 tb bg1 0) := hid hTS
  clear hTS
  go_wp2_with fail
  refine (H2.out.err (fun S hS => pSid_any _ tb 0 S bg1 2 hS (by decide)) 0 rfl).mono ?_
  rintro e' w3 ⟨rfl, hTS⟩
  have H3 : Hid (TS w w3 tb bg2 0) := hid hTS
  clear hTS
  go_wp2_with fail
  refine (H3.out.err (fun S hS => pAtt_any _ tb 0 S bg2 2 2 hS (by decide) bg2_j (by decide)) 0 rfl).mono ?_
  rintro e' w4 ⟨rfl, hTS⟩
  have H4 : Hid (TS w w4 tb bg3 1) := hid hTS
  clear hTS
  go_wp2_with fail
  refine (H4.out.num (fun S hS => pFork_any _ tb 1 S bg3 2 hS (by decide) (by decide) (by decide)) 3 0 rfl).mono ?_
  rintro e' w5 ⟨rfl, hTS⟩
  have H5 : Hid (TS w w5 tb bg4 1) := hid hTS
  clear hTS
  go_wp2_with fail
  refine (H5.out.num (fun S hS => pFork_any _ tb 1 S bg4 3 hS (by decide) (by decide) (by decide)) 4 0 rfl).mono ?_
  rintro e' w6 ⟨rfl, hTS⟩
  have H6 : Hid (TS w w6 tb bg5 1) := hid hTS
  clear hTS
  go_wp2_with fail
  refine (H6.out.err (fun S hS => pPgid_any _ tb 1 S bg5 2 3 0 hS (by decide)) 0 rfl).mono ?_
  rintro e' w7 ⟨rfl, hTS⟩
  have H7 : Hid (TS w w7 tb bg6 1) := hid hTS
  clear hTS
  go_wp2_with fail
  refine (H7.out.err (fun S hS => pPgid_any _ tb 1 S bg6 3 4 3 hS (by decide)) 0 rfl).mono ?_
  rintro e' w8 ⟨rfl, hTS⟩
  have H8 : Hid (TS w w8 tb bg7 1) := hid hTS
  clear hTS
  go_wp2_with fail
  refine (H8.out.err (fun S hS => pDeaf_any _ tb 1 S bg7 4 false hS (by decide)) 0 rfl).mono ?_
  rintro e' w9 ⟨rfl, hTS⟩
  have H9 : Hid (TS w w9 tb (bg8 false) 1) := hid hTS
  clear hTS
  go_wp2_with fail
  refine (H9.out.may (by decide) 2 2 false true (j64_of _ (by decide)) (0, []) (bg_may0 _ _ _)).mono ?_
  rintro e' wa ⟨A0, c0, rfl, _, hTS⟩
  have Ha := hid hTS
  clear hTS
  go_wp2_with fail
  refine (Ha.out.exit 3 (by decide) (bg8_j false)).mono ?_
  rintro e' wb ⟨v, rfl, _, hTS⟩
  have Hb := hid hTS
  clear hTS
  go_wp2_with fail
  refine (Hb.out.may (by decide) 4 2 false true (j64_of _ (by decide)) _ HMy.out).mono ?_
  rintro e' wc ⟨A, c, rfl, hr, hTS⟩
  have Hc := hid hTS
  clear hTS hr
  go_wp2_with fail
  refine (HAw _).out.mono ?_
  rintro e' wd ⟨rfl, hfd⟩
  have HFd := hid (Hc.out.fr.trans hfd)
  clear hfd
  go_wp2
  go_ret
  exact ⟨rfl, HFd.out⟩
set_option maxHeartbeats 4000000 in
theorem lawBg_1010 (w : World) : Calls Try.prog 3 #[.bool false, .bool true, .bool false, .bool true] w fun e w' => e = .returned (.bool true) ∧ Fr NoB w w' := by
  have HAw := fun W => hid (pAwake_any W)
  have HMy : Hid (mayT (exitT (bg8 false) 3).1 4 2 true false = (0, [])) := hid rfl
  go_enter Try.func3, Try.ntmps3
  go_wp2_with fail
  refine (TS.new w w (Fr.refl _ _)).mono ?_
  rintro e' w1 ⟨tb, rfl, hTS⟩
  have H1 := hid hTS
  clear hTS
  go_wp2_with fail
  refine (H1.out.num (fun S hS => pFork_any _ tb 0 S newT 1 hS (by decide) (by decide) (by decide)) 2 0 rfl).mono ?_
  rintro e' w2 ⟨rfl, hTS⟩
  have H2 : Hid (TS w w2 tb bg1 0) := hid hTS
  clear hTS
  go_wp2_with fail
  refine (H2.out.err (fun S hS => pSid_any _ tb 0 S bg1 2 hS (by decide)) 0 rfl).mono ?_
  rintro e' w3 ⟨rfl, hTS⟩
  have H3 : Hid (TS w w3 tb bg2 0) := hid hTS
  clear hTS
  go_wp2_with fail
  refine (H3.out.err (fun S hS => pAtt_any _ tb 0 S bg2 2 2 hS (by decide) bg2_j (by decide)) 0 rfl).mono ?_
  rintro e' w4 ⟨rfl, hTS⟩
  have H4 : Hid (TS w w4 tb bg3 1) := hid hTS
  clear hTS
  go_wp2_with fail
  refine (H4.out.num (fun S hS => pFork_any _ tb 1 S bg3 2 hS (by decide) (by decide) (by decide)) 3 0 rfl).mono ?_
  rintro e' w5 ⟨rfl, hTS⟩
  have H5 : Hid (TS w w5 tb bg4 1) := hid hTS
  clear hTS
  go_wp2_with fail
  refine (H5.out.num (fun S hS => pFork_any _ tb 1 S bg4 3 hS (by decide) (by decide) (by decide)) 4 0 rfl).mono ?_
  rintro e' w6 ⟨rfl, hTS⟩
  have H6 : Hid (TS w w6 tb bg5 1) := hid hTS
  clear hTS
  go_wp2_with fail
  refine (H6.out.err (fun S hS => pPgid_any _ tb 1 S bg5 2 3 0 hS (by decide)) 0 rfl).mono ?_
  rintro e' w7 ⟨rfl, hTS⟩
  have H7 : Hid (TS w w7 tb bg6 1) := hid hTS
  clear hTS
  go_wp2_with fail
  refine (H7.out.err (fun S hS => pPgid_any _ tb 1 S bg6 3 4 3 hS (by decide)) 0 rfl).mono ?_
  rintro e' w8 ⟨rfl, hTS⟩
  have H8 : Hid (TS w w8 tb bg7 1) := hid hTS
  clear hTS
  go_wp2_with fail
  refine (H8.out.err (fun S hS => pDeaf_any _ tb 1 S bg7 4 false hS (by decide)) 0 rfl).mono ?_
  rintro e' w9 ⟨rfl, hTS⟩
  have H9 : Hid (TS w w9 tb (bg8 false) 1) := hid hTS
  clear hTS
  go_wp2_with fail
  refine (H9.out.may (by decide) 2 2 true false (j64_of _ (by decide)) (0, []) (bg_may0 _ _ _)).mono ?_
  rintro e' wa ⟨A0, c0, rfl, _, hTS⟩
  have Ha := hid hTS
  clear hTS
  go_wp2_with fail
  refine (Ha.out.exit 3 (by decide) (bg8_j false)).mono ?_
  rintro e' wb ⟨v, rfl, _, hTS⟩
  have Hb := hid hTS
  clear hTS
  go_wp2_with fail
  refine (Hb.out.may (by decide) 4 2 true false (j64_of _ (by decide)) _ HMy.out).mono ?_
  rintro e' wc ⟨A, c, rfl, hr, hTS⟩
  have Hc := hid hTS
  clear hTS hr
  go_wp2_with fail
  refine (HAw _).out.mono ?_
  rintro e' wd ⟨rfl, hfd⟩
  have HFd := hid (Hc.out.fr.trans hfd)
  clear hfd
  go_wp2
  go_ret
  exact ⟨rfl, HFd.out⟩
set_option maxHeartbeats 4000000 in
theorem lawBg_1011 (w : World) : Calls Try.prog 3 #[.bool false, .bool true, .bool true, .bool true] w fun e w' => e = .returned (.bool true) ∧ Fr NoB w w' := by
  have HAw := fun W => hid (pAwake_any W)
  have HMy : Hid (mayT (exitT (bg8 false) 3).1 4 2 true true = (2, [])) := hid rfl
  go_enter Try.func3, Try.ntmps3
  go_wp2_with fail
  refine (TS.new w w (Fr.refl _ _)).mono ?_
  rintro e' w1 ⟨tb, rfl, hTS⟩
  have H1 := hid hTS
  clear hTS
  go_wp2_with fail
  refine (H1.out.num (fun S hS => pFork_any _ tb 0 S newT 1 hS (by decide) (by decide) (by decide)) 2 0 rfl).mono ?_
  rintro e' w2 ⟨rfl, hTS⟩
  have H2 : Hid (TS w w2 tb bg1 0) := hid hTS
  clear hTS
  go_wp2_with fail
  refine (H2.out.err (fun S hS => pSid_any _ tb 0 S bg1 2 hS (by decide)) 0 rfl).mono ?_
  rintro e' w3 ⟨rfl, hTS⟩
  have H3 : Hid (TS w w3 tb bg2 0) := hid hTS
  clear hTS
  go_wp2_with fail
  refine (H3.out.err (fun S hS => pAtt_any _ tb 0 S bg2 2 2 hS (by decide) bg2_j (by decide)) 0 rfl).mono ?_
  rintro e' w4 ⟨rfl, hTS⟩
  have H4 : Hid (TS w w4 tb bg3 1) := hid hTS
  clear hTS
  go_wp2_with fail
  refine (H4.out.num (fun S hS => pFork_any _ tb 1 S bg3 2 hS (by decide) (by decide) (by decide)) 3 0 rfl).mono ?_
  rintro e' w5 ⟨rfl, hTS⟩
  have H5 : Hid (TS w w5 tb bg4 1) := hid hTS
  clear hTS
  go_wp2_with fail
  refine (H5.out.num (fun S hS => pFork_any _ tb 1 S bg4 3 hS (by decide) (by decide) (by decide)) 4 0 rfl).mono ?_
  rintro e' w6 ⟨rfl, hTS⟩
  have H6 : Hid (TS w w6 tb bg5 1) := hid hTS
  clear hTS
  go_wp2_with fail
  refine (H6.out.err (fun S hS => pPgid_any _ tb 1 S bg5 2 3 0 hS (by decide)) 0 rfl).mono ?_
  rintro e' w7 ⟨rfl, hTS⟩
  have H7 : Hid (TS w w7 tb bg6 1) := hid hTS
  clear hTS
  go_wp2_with fail
  refine (H7.out.err (fun S hS => pPgid_any _ tb 1 S bg6 3 4 3 hS (by decide)) 0 rfl).mono ?_
  rintro e' w8 ⟨rfl, hTS⟩
  have H8 : Hid (TS w w8 tb bg7 1) := hid hTS
  clear hTS
  go_wp2_with fail
  refine (H8.out.err (fun S hS => pDeaf_any _ tb 1 S bg7 4 false hS (by decide)) 0 rfl).mono ?_
  rintro e' w9 ⟨rfl, hTS⟩
  have H9 : Hid (TS w w9 tb (bg8 false) 1) := hid hTS
  clear hTS
  go_wp2_with fail
  refine (H9.out.may (by decide) 2 2 true true (j64_of _ (by decide)) (0, []) (bg_may0 _ _ _)).mono ?_
  rintro e' wa ⟨A0, c0, rfl, _, hTS⟩
  have Ha := hid hTS
  clear hTS
  go_wp2_with fail
  refine (Ha.out.exit 3 (by decide) (bg8_j false)).mono ?_
  rintro e' wb ⟨v, rfl, _, hTS⟩
  have Hb := hid hTS
  clear hTS
  go_wp2_with fail
  refine (Hb.out.may (by decide) 4 2 true true (j64_of _ (by decide)) _ HMy.out).mono ?_
  rintro e' wc ⟨A, c, rfl, hr, hTS⟩
  have Hc := hid hTS
  clear hTS hr
  go_wp2_with fail
  refine (HAw _).out.mono ?_
  rintro e' wd ⟨rfl, hfd⟩
  have HFd := hid (Hc.out.fr.trans hfd)
  clear hfd
  go_wp2
  go_ret
  exact ⟨rfl, HFd.out⟩
set_option maxHeartbeats 4000000 in
theorem lawBg_1100 (w : World) : Calls Try.prog 3 #[.bool true, .bool false, .bool false, .bool true] w fun e w' => e = .returned (.bool true) ∧ Fr NoB w w' := by
  have HAw := fun W => hid (pAwake_any W)
  have HMy : Hid (mayT (exitT (bg8 true) 3).1 4 2 false false = (2, [])) := hid rfl
  go_enter Try.func3, Try.ntmps3
  go_wp2_with fail
  refine (TS.new w w (Fr.refl _ _)).mono ?_
  rintro e' w1 ⟨tb, rfl, hTS⟩
  have H1 := hid hTS
  clear hTS
  go_wp2_with fail
  refine (H1.out.num (fun S hS => pFork_any _ tb 0 S newT 1 hS (by decide) (by decide) (by decide)) 2 0 rfl).mono ?_
  rintro e' w2 ⟨rfl, hTS⟩
  have H2 : Hid (TS w w2 tb bg1 0) := hid hTS
  clear hTS
  go_wp2_with fail
  refine (H2.out.err (fun S hS => pSid_any _ tb 0 S bg1 2 hS (by decide)) 0 rfl).mono ?_
  rintro e' w3 ⟨rfl, hTS⟩
  have H3 : Hid (TS w w3 tb bg2 0) := hid hTS
  clear hTS
  go_wp2_with fail
  refine (H3.out.err (fun S hS => pAtt_any _ tb 0 S bg2 2 2 hS (by decide) bg2_j (by decide)) 0 rfl).mono ?_
  rintro e' w4 ⟨rfl, hTS⟩
  have H4 : Hid (TS w w4 tb bg3 1) := hid hTS
  clear hTS
  go_wp2_with fail
  refine (H4.out.num (fun S hS => pFork_any _ tb 1 S bg3 2 hS (by decide) (by decide) (by decide)) 3 0 rfl).mono ?_
  rintro e' w5 ⟨rfl, hTS⟩
  have H5 : Hid (TS w w5 tb bg4 1) := hid hTS
  clear hTS
  go_wp2_with fail
  refine (H5.out.num (fun S hS => pFork_any _ tb 1 S bg4 3 hS (by decide) (by decide) (by decide)) 4 0 rfl).mono ?_
  rintro e' w6 ⟨rfl, hTS⟩
  have H6 : Hid (TS w w6 tb bg5 1) := hid hTS
  clear hTS
  go_wp2_with fail
  refine (H6.out.err (fun S hS => pPgid_any _ tb 1 S bg5 2 3 0 hS (by decide)) 0 rfl).mono ?_
  rintro e' w7 ⟨rfl, hTS⟩
  have H7 : Hid (TS w w7 tb bg6 1) := hid hTS
  clear hTS
  go_wp2_with fail
  refine (H7.out.err (fun S hS => pPgid_any _ tb 1 S bg6 3 4 3 hS (by decide)) 0 rfl).mono ?_
  rintro e' w8 ⟨rfl, hTS⟩
  have H8 : Hid (TS w w8 tb bg7 1) := hid hTS
  clear hTS
  go_wp2_with fail
  refine (H8.out.err (fun S hS => pDeaf_any _ tb 1 S bg7 4 true hS (by decide)) 0 rfl).mono ?_
  rintro e' w9 ⟨rfl, hTS⟩
  have H9 : Hid (TS w w9 tb (bg8 true) 1) := hid hTS
  clear hTS
  go_wp2_with fail
  refine (H9.out.may (by decide) 2 2 false false (j64_of _ (by decide)) (0, []) (bg_may0 _ _ _)).mono ?_
  rintro e' wa ⟨A0, c0, rfl, _, hTS⟩
  have Ha := hid hTS
  clear hTS
  go_wp2_with fail
  refine (Ha.out.exit 3 (by decide) (bg8_j true)).mono ?_
  rintro e' wb ⟨v, rfl, _, hTS⟩
  have Hb := hid hTS
  clear hTS
  go_wp2_with fail
  refine (Hb.out.may (by decide) 4 2 false false (j64_of _ (by decide)) _ HMy.out).mono ?_
  rintro e' wc ⟨A, c, rfl, hr, hTS⟩
  have Hc := hid hTS
  clear hTS hr
  go_wp2_with fail
  refine (HAw _).out.mono ?_
  rintro e' wd ⟨rfl, hfd⟩
  have HFd := hid (Hc.out.fr.trans hfd)
  clear hfd
  go_wp2
  go_ret
  exact ⟨rfl, HFd.out⟩
set_option maxHeartbeats 4000000 in
theorem lawBg_1101 (w : World) : Calls Try.prog 3 #[.bool true, .bool false, .bool true, .bool true] w fun e w' => e = .returned (.bool true) ∧ Fr NoB w w' := by
  have HAw := fun W => hid (pAwake_any W)
  have HMy : Hid (mayT (exitT (bg8 true) 3).1 4 2 false true = (2, [])) := hid rfl
  go_enter Try.func3, Try.ntmps3
  go_wp2_with fail
  refine (TS.new w w (Fr.refl _ _)).mono ?_
  rintro e' w1 ⟨tb, rfl, hTS⟩
  have H1 := hid hTS
  clear hTS
  go_wp2_with fail
  refine (H1.out.num (fun S hS => pFork_any _ tb 0 S newT 1 hS (by decide) (by decide) (by decide)) 2 0 rfl).mono ?_
  rintro e' w2 ⟨rfl, hTS⟩
  have H2 : Hid (TS w w2 tb bg1 0) := hid hTS
  clear hTS
  go_wp2_with fail
  refine (H2.out.err (fun S hS => pSid_any _ tb 0 S bg1 2 hS (by decide)) 0 rfl).mono ?_
  rintro e' w3 ⟨rfl, hTS⟩
  have H3 : Hid (TS w w3 tb bg2 0) := hid hTS
  clear hTS
  go_wp2_with fail
  refine (H3.out.err (fun S hS => pAtt_any _ tb 0 S bg2 2 2 hS (by decide) bg2_j (by decide)) 0 rfl).mono ?_
  rintro e' w4 ⟨rfl, hTS⟩
  have H4 : Hid (TS w w4 tb bg3 1) := hid hTS
  clear hTS
  go_wp2_with fail
  refine (H4.out.num (fun S hS => pFork_any _ tb 1 S bg3 2 hS (by decide) (by decide) (by decide)) 3 0 rfl).mono ?_
  rintro e' w5 ⟨rfl, hTS⟩
  have H5 : Hid (TS w w5 tb bg4 1) := hid hTS
  clear hTS
  go_wp2_with fail
  refine (H5.out.num (fun S hS => pFork_any _ tb 1 S bg4 3 hS (by decide) (by decide) (by decide)) 4 0 rfl).mono ?_
  rintro e' w6 ⟨rfl, hTS⟩
  have H6 : Hid (TS w w6 tb bg5 1) := hid hTS
  clear hTS
  go_wp2_with fail
  refine (H6.out.err (fun S hS => pPgid_any _ tb 1 S bg5 2 3 0 hS (by decide)) 0 rfl).mono ?_
  rintro e' w7 ⟨rfl, hTS⟩
  have H7 : Hid (TS w w7 tb bg6 1) := hid hTS
  clear hTS
  go_wp2_with fail
  refine (H7.out.err (fun S hS => pPgid_any _ tb 1 S bg6 3 4 3 hS (by decide)) 0 rfl).mono ?_
  rintro e' w8 ⟨rfl, hTS⟩
  have H8 : Hid (TS w w8 tb bg7 1) := hid hTS
  clear hTS
  go_wp2_with fail
  refine (H8.out.err (fun S hS => pDeaf_any _ tb 1 S bg7 4 true hS (by decide)) 0 rfl).mono ?_
  rintro e' w9 ⟨rfl, hTS⟩
  have H9 : Hid (TS w w9 tb (bg8 true) 1) := hid hTS
  clear hTS
  go_wp2_with fail
  refine (H9.out.may (by decide) 2 2 false true (j64_of _ (by decide)) (0, []) (bg_may0 _ _ _)).mono ?_
  rintro e' wa ⟨A0, c0, rfl, _, hTS⟩
  have Ha := hid hTS
  clear hTS
  go_wp2_with fail
  refine (Ha.out.exit 3 (by decide) (bg8_j true)).mono ?_
  rintro e' wb ⟨v, rfl, _, hTS⟩
  have Hb := hid hTS
  clear hTS
  go_wp2_with fail
  refine (Hb.out.may (by decide) 4 2 false true (j64_of _ (by decide)) _ HMy.out).mono ?_
  rintro e' wc ⟨A, c, rfl, hr, hTS⟩
  have Hc := hid hTS
  clear hTS hr
  go_wp2_with fail
  refine (HAw _).out.mono ?_
  rintro e' wd ⟨rfl, hfd⟩
  have HFd := hid (Hc.out.fr.trans hfd)
  clear hfd
  go_wp2
  go_ret
  exact ⟨rfl, HFd.out⟩
set_option maxHeartbeats 4000000 in
theorem lawBg_1110 (w : World) : Calls Try.prog 3 #[.bool true, .bool true, .bool false, .bool true] w fun e w' => e = .returned (.bool true) ∧ Fr NoB w w' := by
  have HAw := fun W => hid (pAwake_any W)
  have HMy : Hid (mayT (exitT (bg8 true) 3).1 4 2 true false = (0, [])) := hid rfl
  go_enter Try.func3, Try.ntmps3
  go_wp2_with fail
  refine (TS.new w w (Fr.refl _ _)).mono ?_
  rintro e' w1 ⟨tb, rfl, hTS⟩
  have H1 := hid hTS
  clear hTS
  go_wp2_with fail
  refine (H1.out.num (fun S hS => pFork_any _ tb 0 S newT 1 hS (by decide) (by decide) (by decide)) 2 0 rfl).mono ?_
  rintro e' w2 ⟨rfl, hTS⟩
  have H2 : Hid (TS w w2 tb bg1 0) := hid hTS
  clear hTS
  go_wp2_with fail
  refine (H2.out.err (fun S hS => pSid_any _ tb 0 S bg1 2 hS (by decide)) 0 rfl).mono ?_
  rintro e' w3 ⟨rfl, hTS⟩
  have H3 : Hid (TS w w3 tb bg2 0) := hid hTS
  clear hTS
  go_wp2_with fail
  refine (H3.out.err (fun S hS => pAtt_any _ tb 0 S bg2 2 2 hS (by decide) bg2_j (by decide)) 0 rfl).mono ?_
  rintro e' w4 ⟨rfl, hTS⟩
  have H4 : Hid (TS w w4 tb bg3 1) := hid hTS
  clear hTS
  go_wp2_with fail
  refine (H4.out.num (fun S hS => pFork_any _ tb 1 S bg3 2 hS (by decide) (by decide) (by decide)) 3 0 rfl).mono ?_
  rintro e' w5 ⟨rfl, hTS⟩
  have H5 : Hid (TS w w5 tb bg4 1) := hid hTS
  clear hTS
  go_wp2_with fail
  refine (H5.out.num (fun S hS => pFork_any _ tb 1 S bg4 3 hS (by decide) (by decide) (by decide)) 4 0 rfl).mono ?_
  rintro e' w6 ⟨rfl, hTS⟩
  have H6 : Hid (TS w w6 tb bg5 1) := hid hTS
  clear hTS
  go_wp2_with fail
  refine (H6.out.err (fun S hS => pPgid_any _ tb 1 S bg5 2 3 0 hS (by decide)) 0 rfl).mono ?_
  rintro e' w7 ⟨rfl, hTS⟩
  have H7 : Hid (TS w w7 tb bg6 1) := hid hTS
  clear hTS
  go_wp2_with fail
  refine (H7.out.err (fun S hS => pPgid_any _ tb 1 S bg6 3 4 3 hS (by decide)) 0 rfl).mono ?_
  rintro e' w8 ⟨rfl, hTS⟩
  have H8 : Hid (TS w w8 tb bg7 1) := hid hTS
  clear hTS
  go_wp2_with fail
  refine (H8.out.err (fun S hS => pDeaf_any _ tb 1 S bg7 4 true hS (by decide)) 0 rfl).mono ?_
  rintro e' w9 ⟨rfl, hTS⟩
  have H9 : Hid (TS w w9 tb (bg8 true) 1) := hid hTS
  clear hTS
  go_wp2_with fail
  refine (H9.out.may (by decide) 2 2 true false (j64_of _ (by decide)) (0, []) (bg_may0 _ _ _)).mono ?_
  rintro e' wa ⟨A0, c0, rfl, _, hTS⟩
  have Ha := hid hTS
  clear hTS
  go_wp2_with fail
  refine (Ha.out.exit 3 (by decide) (bg8_j true)).mono ?_
  rintro e' wb ⟨v, rfl, _, hTS⟩
  have Hb := hid hTS
  clear hTS
  go_wp2_with fail
  refine (Hb.out.may (by decide) 4 2 true false (j64_of _ (by decide)) _ HMy.out).mono ?_
  rintro e' wc ⟨A, c, rfl, hr, hTS⟩
  have Hc := hid hTS
  clear hTS hr
  go_wp2_with fail
  refine (HAw _).out.mono ?_
  rintro e' wd ⟨rfl, hfd⟩
  have HFd := hid (Hc.out.fr.trans hfd)
  clear hfd
  go_wp2
  go_ret
  exact ⟨rfl, HFd.out⟩
set_option maxHeartbeats 4000000 in
theorem lawBg_1111 (w : World) : Calls Try.prog 3 #[.bool true, .bool true, .bool true, .bool true] w fun e w' => e = .returned (.bool true) ∧ Fr NoB w w' := by
  have HAw := fun W => hid (pAwake_any W)
  have HMy : Hid (mayT (exitT (bg8 true) 3).1 4 2 true true = (0, [])) := hid rfl
  go_enter Try.func3, Try.ntmps3
  go_wp2_with fail
  refine (TS.new w w (Fr.refl _ _)).mono ?_
  rintro e' w1 ⟨tb, rfl, hTS⟩
  have H1 := hid hTS
  clear hTS
  go_wp2_with fail
  refine (H1.out.num (fun S hS => pFork_any _ tb 0 S newT 1 hS (by decide) (by decide) (by decide)) 2 0 rfl).mono ?_
  rintro e' w2 ⟨rfl, hTS⟩
  have H2 : Hid (TS w w2 tb bg1 0) := hid hTS
  clear hTS
  go_wp2_with fail
  refine (H2.out.err (fun S hS => pSid_any _ tb 0 S bg1 2 hS (by decide)) 0 rfl).mono ?_
  rintro e' w3 ⟨rfl, hTS⟩
  have H3 : Hid (TS w w3 tb bg2 0) := hid hTS
  clear hTS
  go_wp2_with fail
  refine (H3.out.err (fun S hS => pAtt_any _ tb 0 S bg2 2 2 hS (by decide) bg2_j (by decide)) 0 rfl).mono ?_
  rintro e' w4 ⟨rfl, hTS⟩
  have H4 : Hid (TS w w4 tb bg3 1) := hid hTS
  clear hTS
  go_wp2_with fail
  refine (H4.out.num (fun S hS => pFork_any _ tb 1 S bg3 2 hS (by decide) (by decide) (by decide)) 3 0 rfl).mono ?_
  rintro e' w5 ⟨rfl, hTS⟩
  have H5 : Hid (TS w w5 tb bg4 1) := hid hTS
  clear hTS
  go_wp2_with fail
  refine (H5.out.num (fun S hS => pFork_any _ tb 1 S bg4 3 hS (by decide) (by decide) (by decide)) 4 0 rfl).mono ?_
  rintro e' w6 ⟨rfl, hTS⟩
  have H6 : Hid (TS w w6 tb bg5 1) := hid hTS
  clear hTS
  go_wp2_with fail
  refine (H6.out.err (fun S hS => pPgid_any _ tb 1 S bg5 2 3 0 hS (by decide)) 0 rfl).mono ?_
  rintro e' w7 ⟨rfl, hTS⟩
  have H7 : Hid (TS w w7 tb bg6 1) := hid hTS
  clear hTS
  go_wp2_with fail
  refine (H7.out.err (fun S hS => pPgid_any _ tb 1 S bg6 3 4 3 hS (by decide)) 0 rfl).mono ?_
  rintro e' w8 ⟨rfl, hTS⟩
  have H8 : Hid (TS w w8 tb bg7 1) := hid hTS
  clear hTS
  go_wp2_with fail
  refine (H8.out.err (fun S hS => pDeaf_any _ tb 1 S bg7 4 true hS (by decide)) 0 rfl).mono ?_
  rintro e' w9 ⟨rfl, hTS⟩
  have H9 : Hid (TS w w9 tb (bg8 true) 1) := hid hTS
  clear hTS
  go_wp2_with fail
  refine (H9.out.may (by decide) 2 2 true true (j64_of _ (by decide)) (0, []) (bg_may0 _ _ _)).mono ?_
  rintro e' wa ⟨A0, c0, rfl, _, hTS⟩
  have Ha := hid hTS
  clear hTS
  go_wp2_with fail
  refine (Ha.out.exit 3 (by decide) (bg8_j true)).mono ?_
  rintro e' wb ⟨v, rfl, _, hTS⟩
  have Hb := hid hTS
  clear hTS
  go_wp2_with fail
  refine (Hb.out.may (by decide) 4 2 true true (j64_of _ (by decide)) _ HMy.out).mono ?_
  rintro e' wc ⟨A, c, rfl, hr, hTS⟩
  have Hc := hid hTS
  clear hTS hr
  go_wp2_with fail
  refine (HAw _).out.mono ?_
  rintro e' wd ⟨rfl, hfd⟩
  have HFd := hid (Hc.out.fr.trans hfd)
  clear hfd
  go_wp2
  go_ret
  exact ⟨rfl, HFd.out⟩
theorem lawBg_any (w : World) (deaf write tostop orphan : Bool) : Calls Try.prog 3 #[.bool deaf, .bool write, .bool tostop, .bool orphan] w fun e w' => e = .returned (.bool true) ∧ Fr NoB w w' := by
  cases orphan <;> cases deaf <;> cases write <;> cases tostop
  · exact lawBg_0000 w
  · exact lawBg_0001 w
  · exact lawBg_0010 w
  · exact lawBg_0011 w
  · exact lawBg_0100 w
  · exact lawBg_0101 w
  · exact lawBg_0110 w
  · exact lawBg_0111 w
  · exact lawBg_1000 w
  · exact lawBg_1001 w
  · exact lawBg_1010 w
  · exact lawBg_1011 w
  · exact lawBg_1100 w
  · exact lawBg_1101 w
  · exact lawBg_1110 w
  · exact lawBg_1111 w
theorem procBackground_walk (deaf write tostop orphan : Bool) (w : World) : Calls Try.prog 3 #[.bool deaf, .bool write, .bool tostop, .bool orphan] w fun e w' => e = .returned (.bool true) ∧ Below w.heap.size w w' :=
  (lawBg_any w deaf write tostop orphan).mono fun e w' h => ⟨h.1, h.2.below0⟩
end Go.Proofs.Ytlagakcpjmjdfaa
