import Derived.Test.YtnengimekcnfhaaE3
import Derived.Test.YtnengimekcnfhaaD8
import Derived.Test.YtnengimekcnfhaaD6
set_option linter.unusedVariables false
namespace Go.Proofs.Ytnengimekcnfhaa
open Go.RowKit Go.Shelf Go.Proofs.YtnengimekcnfhaaW.PrintWords
def tW (r : Rc) : Wn := ⟨1, 0, r.x, r.y, r.w, r.h, false⟩
theorem dCells_full (w : World) (f g gb b : Nat) (r : Rc) (v : Value) (x y : Int) (A : Option Addr) (cap : Nat) (l : List Cl)
    (hfd : FD w f g gb 10 10 (List.replicate (10 * 10) Cl.zero) (.slice none 0 0) []) (hsk : SK w b ⟨0, 0, 10, 10⟩ v [tW r] 2) (hfit : FitsIn 10 10 r) (hll : l.length ≤ 20) (hca : CA w A l) (hcap : l.length ≤ cap)
    (hfar : ∀ ad, A = some ad → 0 < l.length → ad.block ≠ f ∧ ad.block ≠ gb ∧ ad.block < w.heap.size) :
    Calls Try.prog 11 #[.pointer (some ⟨f, 0, none⟩), .pointer (some ⟨b, 0, none⟩), .int .i64 1, .int .i64 x, .int .i64 y, .slice A l.length cap] w fun e w' => ∃ n : Int, e = .returned (.tuple #[.int .i64 n, .int .i64 0]) ∧ n ≤ l.length ∧ Fr (FB f gb (.slice none 0 0)) w w' ∧
      (0 ≤ x → 0 ≤ y → x ≤ 9 → y < r.h → n = max 0 (min (l.length : Int) (r.w - x)) ∧ ∃ cs nv ns, FD w' f g gb 10 10 cs nv ns ∧ ∀ i (h : i < l.length), x + i < r.w → atG 10 10 cs (r.x + x + i) (r.y + y) = l[i]) := by
  obtain ⟨hR, f1, f2, f3, f4, f5, f6⟩ := hfit
  have hwR : (tW r).r.Right := hR
  have twx : (tW r).x = r.x := rfl
  have twy : (tW r).y = r.y := rfl
  have tww : (tW r).w = r.w := rfl
  have twh : (tW r).h = r.h := rfl
  by_cases hn : Near x ∧ Near y
  · refine (dCells_in w f g gb 10 10 b _ _ [] v [tW r] 2 1 x y A cap l (tW r) hfd hsk (by simp) rfl ?_ hwR (by omega) (by omega) hn.1 hn.2 (by omega) hca hcap ?_ (by decide) (by simp) ?_).mono ?_
    · intro q hq
      obtain rfl := List.mem_singleton.1 hq
      exact ⟨Near.i hR.x, Near.i hR.y, Near.i hR.w, Near.i hR.h⟩
    · intro q hq
      obtain rfl := List.mem_singleton.1 hq
      exact ⟨by omega, by omega, by omega, by omega⟩
    · intro ad e h0
      obtain ⟨h1, h2, h3⟩ := hfar ad e h0
      refine ⟨?_, h3⟩
      rintro (h | h | h)
      · exact h1 h
      · exact h2 h
      · cases h
    · rintro e' w' ⟨rfl, ⟨nv', hfd', _⟩, _, hf'⟩
      refine ⟨_, rfl, ?_, hf', fun h0 h1 h2 h3 => ?_⟩
      · obtain ⟨iW, iH, e1, e2, e3, e4, e5⟩ := inW_ok (tW r) ⟨x, y, min (l.length : Int) 1073741824, 1⟩ hwR
        have hbd := (foldC_bd 10 [tW r] 1 ((tW r).x + x) l (List.replicate (10 * 10) Cl.zero) [] (plL ((tW r).x + (inW (tW r) ⟨x, y, min (l.length : Int) 1073741824, 1⟩).x) ((tW r).y + (inW (tW r) ⟨x, y, min (l.length : Int) 1073741824, 1⟩).y) (inW (tW r) ⟨x, y, min (l.length : Int) 1073741824, 1⟩).w.toNat (inW (tW r) ⟨x, y, min (l.length : Int) 1073741824, 1⟩).h.toNat)).2.1
        rw [plL_len] at hbd
        have hmul : (inW (tW r) ⟨x, y, min (l.length : Int) 1073741824, 1⟩).h.toNat * (inW (tW r) ⟨x, y, min (l.length : Int) 1073741824, 1⟩).w.toNat ≤ 1 * l.length := by
          rw [e1, e2]
          simp only [Int.toNat_natCast]
          rcases e5 with ⟨_, h1, h2⟩ | ⟨_, h1, h2, h3, h4, h5, h6, h7, h8⟩
          · subst h1
            subst h2
            simp
          · simp only at h5 h6 h7 h8
            exact Nat.mul_le_mul (by omega) (by omega)
        omega
      · rw [inW_row (tW r) hwR x y l.length hll h0 h2 h1 h3 hn.2] at hfd' ⊢
        rw [tww] at hfd' ⊢
        by_cases hz : min (x + (l.length : Int)) r.w ≤ x
        · rw [if_pos hz] at hfd' ⊢
          have hnil : plL ((tW r).x + Rc.zero.x) ((tW r).y + Rc.zero.y) Rc.zero.w.toNat Rc.zero.h.toNat = [] := rfl
          rw [hnil] at hfd' ⊢
          refine ⟨by show (0 : Int) = _; omega, _, _, _, hfd', fun i hi hxi => ?_⟩
          omega
        · rw [if_neg hz] at hfd' ⊢
          have hWc : (((min (x + (l.length : Int)) r.w - x).toNat : Nat) : Int) = min (x + (l.length : Int)) r.w - x := by omega
          simp only [Int.toNat_one] at hfd' ⊢
          rw [twx, twy] at hfd' ⊢
          have hall := foldC_all (tW r) rfl l (List.replicate (10 * 10) Cl.zero) [] (r.x + x) (r.x + x) (r.y + y) (min (x + (l.length : Int)) r.w - x).toNat (by omega) (by omega) (by rw [List.length_replicate]; omega) (fun k hk => ⟨⟨by show 0 < r.w; omega, by show r.x ≤ _; omega, by show _ - r.x < r.w; omega⟩, ⟨by show 0 < r.h; omega, by show r.y ≤ _; omega, by show _ - r.y < r.h; omega⟩⟩)
          have hc : (foldC 10 [tW r] 1 (r.x + x) l (List.replicate (10 * 10) Cl.zero) [] (plL (r.x + x) (r.y + y) (min (x + (l.length : Int)) r.w - x).toNat 1)).2.2 = _ := hall.1
          refine ⟨hc.trans (by omega), _, _, _, hfd', fun i hi hxi => ?_⟩
          have hk := hall.2 i (by omega)
          unfold atG
          rw [if_pos (by omega)]
          rw [List.getD_eq_getElem?_getD, show (r.y + y).toNat * 10 + (r.x + x + (i : Int)).toNat = (r.y + y).toNat * 10 + (r.x + x).toNat + i by omega]
          have hk' : (foldC 10 [tW r] 1 (r.x + x) l (List.replicate (10 * 10) Cl.zero) [] (plL (r.x + x) (r.y + y) (min (x + (l.length : Int)) r.w - x).toNat 1)).1[(r.y + y).toNat * 10 + (r.x + x).toNat + i]? = _ := hk
          rw [hk', Option.getD_some, show (r.x + x + (i : Int) - (r.x + x)).toNat = i by omega]
          simp [hi]
  · refine (dCells_far w f b _ 1 x y v [tW r] 2 A l.length cap (tW r) hsk (by simp) rfl hn).mono ?_
    rintro e' w' ⟨rfl, hf'⟩
    refine ⟨0, rfl, by omega, hf'.mono (fun _ h => h.elim), fun h0 h1 h2 h3 => absurd ⟨⟨by omega, by omega⟩, ⟨by omega, ?_⟩⟩ hn⟩
    omega
end Go.Proofs.Ytnengimekcnfhaa
