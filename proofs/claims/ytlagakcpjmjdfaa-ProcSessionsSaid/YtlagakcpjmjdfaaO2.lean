import Derived.Test.YtlagakcpjmjdfaaB1
import Derived.Test.YtlagakcpjmjdfaaB13
set_option linter.unusedSimpArgs false
set_option linter.unusedVariables false
set_option maxRecDepth 20000
namespace Go.Proofs.Ytlagakcpjmjdfaa
open Go.RowKit
/-! What stays so, whatever processes do. -/
structure AcT where
  d : Int
  pid : Int
  who : Int
  grp : Int
  tty : Int
  deaf : Bool
def stepT (t : Tb) (a : AcT) : Tb :=
  if a.d = 0 then (forkT t a.pid).1
  else if a.d = 1 then (sidT t a.pid).1
  else if a.d = 2 then (pgidT t a.pid a.who a.grp).1
  else if a.d = 3 then (attT t a.pid a.tty).1
  else if a.d = 4 then (fgT t a.pid a.tty a.grp).1
  else if a.d = 5 then (deafT t a.pid a.deaf).1
  else if a.d = 6 then (exitT t a.pid).1
  else if a.d = 7 then (hangT t a.tty).1
  else t
/-- Sessions: P21.5, and what it leans on. -/
structure Ses (l : List Pr) : Prop where
  s4 : ∀ p ∈ l, p.ses = p.pid → p.grp = p.pid
  a : ∀ p ∈ l, ∀ q ∈ l, q.ses = p.pid → p.ses = p.pid
  g : ∀ p ∈ l, ∀ q ∈ l, q.grp = p.pid → q.ses = p.ses
  s1 : ∀ p ∈ l, ∀ q ∈ l, p.grp = q.grp → p.ses = q.ses
  s2 : ∀ p ∈ l, ∀ q ∈ l, p.ses = q.ses → p.tty = q.tty
  s3 : ∀ p ∈ l, ∀ q ∈ l, p.tty ≠ 0 → p.tty = q.tty → p.ses = q.ses
structure Inv (t : Tb) : Prop where
  rise : (t.l.map (·.pid)).Pairwise (· < ·)
  pid : ∀ p ∈ t.l, 1 ≤ p.pid ∧ p.pid < t.nx
  grp : ∀ p ∈ t.l, 1 ≤ p.grp ∧ p.grp < t.nx
  ses : ∀ p ∈ t.l, 1 ≤ p.ses ∧ p.ses < t.nx
  tty : ∀ p ∈ t.l, 0 ≤ p.tty ∧ p.tty ≤ 64
  fr : ∀ j, ¬ (1 ≤ j ∧ j ≤ 64) → t.f j = 0
  nx : 2 ≤ t.nx
  se : Ses t.l
theorem inv_new : Inv newT := by
  have h : ∀ p ∈ newT.l, p = ⟨1, 0, 1, 1, 0, false⟩ := fun p hp => List.mem_singleton.1 hp
  refine ⟨List.pairwise_singleton .., ?_, ?_, ?_, ?_, fun _ _ => rfl, by decide, ⟨?_, ?_, ?_, ?_, ?_, ?_⟩⟩
  · intro p hp; rw [h p hp]; decide
  · intro p hp; rw [h p hp]; decide
  · intro p hp; rw [h p hp]; decide
  · intro p hp; rw [h p hp]; decide
  · intro p hp _; rw [h p hp]
  · intro p hp q hq _; rw [h p hp]
  · intro p hp q hq _; rw [h p hp, h q hq]
  · intro p hp q hq _; rw [h p hp, h q hq]
  · intro p hp q hq _; rw [h p hp, h q hq]
  · intro p hp q hq _ _; rw [h p hp, h q hq]
theorem rise_inj {l : List Pr} (h : (l.map (·.pid)).Pairwise (· < ·)) (p q : Pr) (hp : p ∈ l) (hq : q ∈ l) (e : p.pid = q.pid) : p = q := by
  obtain ⟨i, hi, rfl⟩ := List.getElem_of_mem hp
  obtain ⟨j, hj, rfl⟩ := List.getElem_of_mem hq
  have h2 := List.pairwise_iff_getElem.1 h
  rcases Nat.lt_trichotomy i j with h3 | h3 | h3
  · have := h2 i j (by simpa using hi) (by simpa using hj) h3
    simp at this
    omega
  · subst h3; rfl
  · have := h2 j i (by simpa using hj) (by simpa using hi) h3
    simp at this
    omega
theorem pids_set (l : List Pr) (i : Nat) (hi : i < l.length) (q : Pr) (e : q.pid = l[i].pid) : (l.set i q).map (·.pid) = l.map (·.pid) := by
  rw [List.map_set, e]
  have h : (l.map (·.pid))[i]'(by simpa using hi) = l[i].pid := by simp
  rw [← h, List.set_getElem_self]
theorem mem_set' {l : List Pr} {i : Nat} {q p : Pr} (h : p ∈ l.set i q) : p ∈ l ∨ p = q := List.mem_or_eq_of_mem_set h
theorem pids_give (s tt : Int) (l : List Pr) : (giveL s tt l).map (·.pid) = l.map (·.pid) := by
  unfold giveL
  rw [List.map_map]
  congr 1
  funext p
  simp only [Function.comp]
  split <;> rfl
theorem mem_give {s tt : Int} {l : List Pr} {p : Pr} (h : p ∈ giveL s tt l) : ∃ q ∈ l, p.pid = q.pid ∧ p.par = q.par ∧ p.grp = q.grp ∧ p.ses = q.ses ∧ p.deaf = q.deaf ∧ p.tty = (if q.ses = s then tt else q.tty) := by
  unfold giveL at h
  obtain ⟨q, hq, rfl⟩ := List.mem_map.1 h
  refine ⟨q, hq, ?_⟩
  split <;> exact ⟨rfl, rfl, rfl, rfl, rfl, rfl⟩
theorem find_spec {l : List Pr} {pid : Int} {p : Pr} (h : l.find? (isPid pid) = some p) : p ∈ l ∧ p.pid = pid ∧ ∃ hi : l.findIdx (isPid pid) < l.length, l[l.findIdx (isPid pid)] = p := by
  have h1 := List.mem_of_find?_eq_some h
  have h2 := List.find?_some h
  have hi : l.findIdx (isPid pid) < l.length := List.findIdx_lt_length_of_exists ⟨p, h1, h2⟩
  refine ⟨h1, by simpa [isPid] using h2, hi, ?_⟩
  have h3 := find_at l (isPid pid) hi
  rw [h] at h3
  injection h3 with h3
  exact h3.symm
theorem hasG_false {l : List Pr} {g : Int} (h : hasG l g 0 = false) : ∀ p ∈ l, p.grp ≠ g := fun p hp e => by
  rw [(hasG_iff l g).2 ⟨p, hp, e⟩] at h
  cases h
theorem hasG_ses {l : List Pr} {g s : Int} (hs : s ≠ 0) (h : hasG l g s = true) : ∃ p ∈ l, p.grp = g ∧ p.ses = s := by
  unfold hasG inGrp at h
  obtain ⟨p, hp, h1⟩ := List.any_eq_true.1 h
  simp only [Bool.and_eq_true, Bool.or_eq_true, beq_iff_eq] at h1
  exact ⟨p, hp, h1.1, h1.2.resolve_left hs⟩
/-- One process is another, with the same number. -/
theorem Inv.put {t : Tb} (h : Inv t) (i : Nat) (hi : i < t.l.length) (q : Pr) (e : q.pid = t.l[i].pid) (hg : 1 ≤ q.grp ∧ q.grp < t.nx) (hs : 1 ≤ q.ses ∧ q.ses < t.nx) (ht : 0 ≤ q.tty ∧ q.tty ≤ 64) (hS : Ses (t.l.set i q)) : Inv ⟨t.l.set i q, t.nx, t.f⟩ := by
  refine ⟨by show ((t.l.set i q).map _).Pairwise _; rw [pids_set t.l i hi q e]; exact h.rise, ?_, ?_, ?_, ?_, h.fr, h.nx, hS⟩
  · intro p hp
    rcases mem_set' hp with hp | rfl
    · exact h.pid p hp
    · rw [e]; exact h.pid _ (List.getElem_mem hi)
  · intro p hp
    rcases mem_set' hp with hp | rfl
    · exact h.grp p hp
    · exact hg
  · intro p hp
    rcases mem_set' hp with hp | rfl
    · exact h.ses p hp
    · exact hs
  · intro p hp
    rcases mem_set' hp with hp | rfl
    · exact h.tty p hp
    · exact ht
theorem Inv.deaf {t : Tb} (h : Inv t) (pid : Int) (d : Bool) : Inv (deafT t pid d).1 := by
  unfold deafT
  split
  · exact h
  · rename_i p hp
    obtain ⟨h1, h2, hi, h3⟩ := find_spec hp
    refine h.put _ hi _ (by rw [h3]) (h.grp p h1) (h.ses p h1) (h.tty p h1) ?_
    generalize t.l.findIdx (isPid pid) = i at *
    have key : ∀ r ∈ t.l.set i { p with deaf := d }, ∃ o ∈ t.l, r.pid = o.pid ∧ r.grp = o.grp ∧ r.ses = o.ses ∧ r.tty = o.tty := fun r hr => by
      rcases mem_set' hr with hr | rfl
      · exact ⟨r, hr, rfl, rfl, rfl, rfl⟩
      · exact ⟨p, h1, rfl, rfl, rfl, rfl⟩
    refine ⟨?_, ?_, ?_, ?_, ?_, ?_⟩
    · intro r hr
      obtain ⟨o, ho, e1, e2, e3, e4⟩ := key r hr
      rw [e1, e2, e3]; exact h.se.s4 o ho
    · intro r hr q hq
      obtain ⟨o, ho, e1, e2, e3, e4⟩ := key r hr
      obtain ⟨o2, ho2, f1, f2, f3, f4⟩ := key q hq
      rw [e1, e3, f3]; exact h.se.a o ho o2 ho2
    · intro r hr q hq
      obtain ⟨o, ho, e1, e2, e3, e4⟩ := key r hr
      obtain ⟨o2, ho2, f1, f2, f3, f4⟩ := key q hq
      rw [e1, e3, f2, f3]; exact h.se.g o ho o2 ho2
    · intro r hr q hq
      obtain ⟨o, ho, e1, e2, e3, e4⟩ := key r hr
      obtain ⟨o2, ho2, f1, f2, f3, f4⟩ := key q hq
      rw [e2, e3, f2, f3]; exact h.se.s1 o ho o2 ho2
    · intro r hr q hq
      obtain ⟨o, ho, e1, e2, e3, e4⟩ := key r hr
      obtain ⟨o2, ho2, f1, f2, f3, f4⟩ := key q hq
      rw [e3, e4, f3, f4]; exact h.se.s2 o ho o2 ho2
    · intro r hr q hq
      obtain ⟨o, ho, e1, e2, e3, e4⟩ := key r hr
      obtain ⟨o2, ho2, f1, f2, f3, f4⟩ := key q hq
      rw [e3, e4, f3, f4]; exact h.se.s3 o ho o2 ho2
theorem mem_set2 {l : List Pr} {i : Nat} (hi : i < l.length) {q p : Pr} (hr : (l.map (·.pid)).Pairwise (· < ·)) (e : q.pid = l[i].pid) (h : p ∈ l.set i q) : (p ∈ l ∧ p.pid ≠ q.pid) ∨ p = q := by
  by_cases hp : p.pid = q.pid
  · exact .inr (rise_inj (by rw [pids_set l i hi q e]; exact hr) p q h (List.mem_iff_getElem.2 ⟨i, by simpa using hi, by simp⟩) hp)
  · exact (mem_set' h).imp (fun h => ⟨h, hp⟩) id
theorem Inv.sid {t : Tb} (h : Inv t) (pid : Int) : Inv (sidT t pid).1 := by
  unfold sidT
  split
  · exact h
  · rename_i p hp
    obtain ⟨h1, h2, hi, h3⟩ := find_spec hp
    split
    · exact h
    · rename_i hh
      have hno := hasG_false (Bool.eq_false_iff.2 hh)
      have hr := h.pid p h1
      rw [h2] at hr
      have hns : ∀ q ∈ t.l, q.ses ≠ pid := fun q hq e => by
        have e1 := h.se.a p h1 q hq (by rw [e, h2])
        exact hno p h1 (by rw [h.se.s4 p h1 e1, h2])
      obtain ⟨p', hp'⟩ : ∃ p' : Pr, p' = { p with grp := pid, ses := pid, tty := 0 } := ⟨_, rfl⟩
      have k1 : p'.pid = pid := by rw [hp']; exact h2
      have k2 : p'.grp = pid := by rw [hp']
      have k3 : p'.ses = pid := by rw [hp']
      have k4 : p'.tty = 0 := by rw [hp']
      rw [← hp']
      clear hp'
      have hm : ∀ x ∈ t.l.set (t.l.findIdx (isPid pid)) p', (x ∈ t.l ∧ x.pid ≠ pid) ∨ x = p' := fun x hx => by
        have := mem_set2 hi h.rise (by rw [h3, k1, h2]) hx
        rwa [k1] at this
      refine h.put _ hi _ (by rw [h3, k1, h2]) (by rw [k2]; exact hr) (by rw [k3]; exact hr) (by rw [k4]; decide) ⟨?_, ?_, ?_, ?_, ?_, ?_⟩
      · intro r hr
        rcases hm r hr with ⟨hr', hr2⟩ | rfl
        · exact h.se.s4 r hr'
        · intro _; rw [k2, k1]
      · intro r hr q hq e
        rcases hm r hr with ⟨hr', hr2⟩ | rfl
        · rcases hm q hq with ⟨hq', hq2⟩ | rfl
          · exact h.se.a r hr' q hq' e
          · exact absurd (by rw [← e, k3]) hr2
        · rw [k3, k1]
      · intro r hr q hq e
        rcases hm r hr with ⟨hr', hr2⟩ | rfl
        · rcases hm q hq with ⟨hq', hq2⟩ | rfl
          · exact h.se.g r hr' q hq' e
          · exact absurd (by rw [← e, k2]) hr2
        · rcases hm q hq with ⟨hq', hq2⟩ | rfl
          · exact absurd (by rw [e, k1]) (hno q hq')
          · rfl
      · intro r hr q hq e
        rcases hm r hr with ⟨hr', hr2⟩ | rfl
        · rcases hm q hq with ⟨hq', hq2⟩ | rfl
          · exact h.se.s1 r hr' q hq' e
          · exact absurd (by rw [e, k2]) (hno r hr')
        · rcases hm q hq with ⟨hq', hq2⟩ | rfl
          · exact absurd (by rw [← e, k2]) (hno q hq')
          · rfl
      · intro r hr q hq e
        rcases hm r hr with ⟨hr', hr2⟩ | rfl
        · rcases hm q hq with ⟨hq', hq2⟩ | rfl
          · exact h.se.s2 r hr' q hq' e
          · exact absurd (by rw [e, k3]) (hns r hr')
        · rcases hm q hq with ⟨hq', hq2⟩ | rfl
          · exact absurd (by rw [← e, k3]) (hns q hq')
          · rfl
      · intro r hr q hq e0 e
        rcases hm r hr with ⟨hr', hr2⟩ | rfl
        · rcases hm q hq with ⟨hq', hq2⟩ | rfl
          · exact h.se.s3 r hr' q hq' e0 e
          · exact absurd (by rw [e, k4]) e0
        · exact absurd k4 e0
theorem Inv.pgid {t : Tb} (h : Inv t) (pid who0 group0 : Int) : Inv (pgidT t pid who0 group0).1 := by
  unfold pgidT pgidW
  generalize whoOf pid who0 = who
  split
  · rename_i p q hp hq
    obtain ⟨hp1, hp2, _⟩ := find_spec hp
    obtain ⟨h1, h2, hi, h3⟩ := find_spec hq
    split
    · exact h
    split
    · exact h
    rename_i hg0
    split
    · exact h
    rename_i hc
    simp only [Bool.or_eq_true, Bool.and_eq_true, beq_iff_eq, bne_iff_ne, ne_eq, Bool.not_eq_true', not_or, not_and, Bool.not_eq_false, Decidable.not_not] at hc
    obtain ⟨⟨c1, c2⟩, c3⟩ := hc
    have hw := h.pid q h1
    rw [h2] at hw
    have hsq := h.ses q h1
    generalize hge : grpOf who group0 = g at *
    -- who is of the group, and whence it may be
    have hx : g = who ∨ ∃ x ∈ t.l, x.grp = g ∧ x.ses = q.ses := by
      by_cases e : g = who
      · exact .inl e
      · exact .inr (hasG_ses (by omega) (c3 e))
    have hgr : 1 ≤ g ∧ g < t.nx := by
      rcases hx with e | ⟨x, hx, e, _⟩
      · rw [e]; exact hw
      · rw [← e]; exact h.grp x hx
    obtain ⟨q', hq'⟩ : ∃ q' : Pr, q' = { q with grp := g } := ⟨_, rfl⟩
    have k1 : q'.pid = who := by rw [hq']; exact h2
    have k2 : q'.grp = g := by rw [hq']
    have k3 : q'.ses = q.ses := by rw [hq']
    have k4 : q'.tty = q.tty := by rw [hq']
    rw [← hq']
    clear hq'
    have hm : ∀ x ∈ t.l.set (t.l.findIdx (isPid who)) q', (x ∈ t.l ∧ x.pid ≠ who) ∨ x = q' := fun x hx => by
      have := mem_set2 hi h.rise (by rw [h3, k1, h2]) hx
      rwa [k1] at this
    have hs1 : ∀ b ∈ t.l, b.grp = g → b.ses = q.ses := fun b hb e => by
      rcases hx with e2 | ⟨x, hx, e2, e3⟩
      · exact h.se.g q h1 b hb (by rw [e, e2, h2])
      · rw [← e3]; exact h.se.s1 b hb x hx (by rw [e, e2])
    refine h.put _ hi _ (by rw [h3, k1, h2]) (by rw [k2]; exact hgr) (by rw [k3]; exact hsq) (by rw [k4]; exact h.tty q h1) ⟨?_, ?_, ?_, ?_, ?_, ?_⟩
    · intro r hr
      rcases hm r hr with ⟨hr', hr2⟩ | rfl
      · exact h.se.s4 r hr'
      · intro e; rw [k3, k1] at e; exact absurd e c1
    · intro r hr b hb e
      rcases hm r hr with ⟨hr', hr2⟩ | rfl
      · rcases hm b hb with ⟨hb', hb2⟩ | rfl
        · exact h.se.a r hr' b hb' e
        · exact h.se.a r hr' q h1 (by rw [← k3, e])
      · rcases hm b hb with ⟨hb', hb2⟩ | rfl
        · rw [k3, k1, ← h2]; exact h.se.a q h1 b hb' (by rw [e, k1, h2])
        · exact e
    · intro r hr b hb e
      rcases hm r hr with ⟨hr', hr2⟩ | rfl
      · rcases hm b hb with ⟨hb', hb2⟩ | rfl
        · exact h.se.g r hr' b hb' e
        · rw [k2] at e
          rw [k3]
          rcases hx with e2 | ⟨x, hx, e2, e3⟩
          · exact absurd (by rw [← e, e2]) hr2
          · rw [← e3]; exact h.se.g r hr' x hx (by rw [e2, e])
      · rcases hm b hb with ⟨hb', hb2⟩ | rfl
        · rw [k3]; exact h.se.g q h1 b hb' (by rw [e, k1, h2])
        · rfl
    · intro r hr b hb e
      rcases hm r hr with ⟨hr', hr2⟩ | rfl
      · rcases hm b hb with ⟨hb', hb2⟩ | rfl
        · exact h.se.s1 r hr' b hb' e
        · rw [k3]; exact hs1 r hr' (by rw [e, k2])
      · rcases hm b hb with ⟨hb', hb2⟩ | rfl
        · rw [k3]; exact (hs1 b hb' (by rw [← e, k2])).symm
        · rfl
    · intro r hr b hb e
      rcases hm r hr with ⟨hr', hr2⟩ | rfl
      · rcases hm b hb with ⟨hb', hb2⟩ | rfl
        · exact h.se.s2 r hr' b hb' e
        · rw [k4]; exact h.se.s2 r hr' q h1 (by rw [e, k3])
      · rcases hm b hb with ⟨hb', hb2⟩ | rfl
        · rw [k4]; exact h.se.s2 q h1 b hb' (by rw [← e, k3])
        · rfl
    · intro r hr b hb e0 e
      rcases hm r hr with ⟨hr', hr2⟩ | rfl
      · rcases hm b hb with ⟨hb', hb2⟩ | rfl
        · exact h.se.s3 r hr' b hb' e0 e
        · rw [k3]; exact h.se.s3 r hr' q h1 e0 (by rw [e, k4])
      · rcases hm b hb with ⟨hb', hb2⟩ | rfl
        · rw [k3]; exact h.se.s3 q h1 b hb' (by rw [← k4]; exact e0) (by rw [← e, k4])
        · rfl
  · exact h
theorem Inv.fork {t : Tb} (h : Inv t) (pid : Int) : Inv (forkT t pid).1 := by
  unfold forkT
  split
  · exact h
  · rename_i p hp
    obtain ⟨h1, h2, _⟩ := find_spec hp
    have hn := h.nx
    obtain ⟨c, hc⟩ : ∃ c : Pr, c = { p with pid := t.nx, par := pid } := ⟨_, rfl⟩
    have k1 : c.pid = t.nx := by rw [hc]
    have k2 : c.grp = p.grp := by rw [hc]
    have k3 : c.ses = p.ses := by rw [hc]
    have k4 : c.tty = p.tty := by rw [hc]
    rw [← hc]
    clear hc
    -- each process is like one that was there
    have key : ∀ r ∈ t.l ++ [c], ∃ o ∈ t.l, r.grp = o.grp ∧ r.ses = o.ses ∧ r.tty = o.tty ∧ (r.pid = o.pid ∨ r = c) := fun r hr => by
      rcases List.mem_append.1 hr with hr | hr
      · exact ⟨r, hr, rfl, rfl, rfl, .inl rfl⟩
      · obtain rfl := List.mem_singleton.1 hr
        exact ⟨p, h1, k2, k3, k4, .inr rfl⟩
    refine ⟨?_, ?_, ?_, ?_, ?_, h.fr, by show 2 ≤ t.nx + 1; omega, ⟨?_, ?_, ?_, ?_, ?_, ?_⟩⟩
    · show ((t.l ++ [c]).map _).Pairwise _
      rw [List.map_append, List.pairwise_append]
      refine ⟨h.rise, List.pairwise_singleton .., fun a ha b hb => ?_⟩
      obtain ⟨q, hq, rfl⟩ := List.mem_map.1 ha
      have hb : b = c.pid := by simpa using hb
      rw [hb, k1]
      exact (h.pid q hq).2
    · intro r hr
      show _ ∧ _ < t.nx + 1
      rcases List.mem_append.1 hr with hr | hr
      · have := h.pid r hr; omega
      · obtain rfl := List.mem_singleton.1 hr
        rw [k1]; omega
    · intro r hr
      show _ ∧ _ < t.nx + 1
      obtain ⟨o, ho, e2, e3, e4, _⟩ := key r hr
      rw [e2]; have := h.grp o ho; omega
    · intro r hr
      show _ ∧ _ < t.nx + 1
      obtain ⟨o, ho, e2, e3, e4, _⟩ := key r hr
      rw [e3]; have := h.ses o ho; omega
    · intro r hr
      obtain ⟨o, ho, e2, e3, e4, _⟩ := key r hr
      rw [e4]; exact h.tty o ho
    · intro r hr e
      obtain ⟨o, ho, e2, e3, e4, e5⟩ := key r hr
      rcases e5 with e5 | rfl
      · rw [e2, e5]; exact h.se.s4 o ho (by rw [← e3, e, e5])
      · rw [e3, k1] at e
        have := h.ses o ho
        omega
    · intro r hr q hq e
      obtain ⟨o, ho, e2, e3, e4, e5⟩ := key r hr
      obtain ⟨o2, ho2, f2, f3, f4, f5⟩ := key q hq
      rcases e5 with e5 | rfl
      · rw [e3, e5]; exact h.se.a o ho o2 ho2 (by rw [← f3, e, e5])
      · rw [f3, k1] at e
        have := h.ses o2 ho2
        omega
    · intro r hr q hq e
      obtain ⟨o, ho, e2, e3, e4, e5⟩ := key r hr
      obtain ⟨o2, ho2, f2, f3, f4, f5⟩ := key q hq
      rcases e5 with e5 | rfl
      · rw [e3, f3]; exact h.se.g o ho o2 ho2 (by rw [← f2, e, e5])
      · rw [f2, k1] at e
        have := h.grp o2 ho2
        omega
    · intro r hr q hq e
      obtain ⟨o, ho, e2, e3, e4, e5⟩ := key r hr
      obtain ⟨o2, ho2, f2, f3, f4, f5⟩ := key q hq
      rw [e3, f3]; exact h.se.s1 o ho o2 ho2 (by rw [← e2, e, f2])
    · intro r hr q hq e
      obtain ⟨o, ho, e2, e3, e4, e5⟩ := key r hr
      obtain ⟨o2, ho2, f2, f3, f4, f5⟩ := key q hq
      rw [e4, f4]; exact h.se.s2 o ho o2 ho2 (by rw [← e3, e, f3])
    · intro r hr q hq e0 e
      obtain ⟨o, ho, e2, e3, e4, e5⟩ := key r hr
      obtain ⟨o2, ho2, f2, f3, f4, f5⟩ := key q hq
      rw [e3, f3]; exact h.se.s3 o ho o2 ho2 (by rw [← e4]; exact e0) (by rw [← e4, e, f4])
theorem Ses.sub {l l2 : List Pr} (h : Ses l) (key : ∀ r ∈ l2, ∃ o ∈ l, r.pid = o.pid ∧ r.grp = o.grp ∧ r.ses = o.ses ∧ r.tty = o.tty) : Ses l2 := by
  refine ⟨?_, ?_, ?_, ?_, ?_, ?_⟩
  · intro r hr
    obtain ⟨o, ho, e1, e2, e3, e4⟩ := key r hr
    rw [e1, e2, e3]; exact h.s4 o ho
  · intro r hr q hq
    obtain ⟨o, ho, e1, e2, e3, e4⟩ := key r hr
    obtain ⟨o2, ho2, f1, f2, f3, f4⟩ := key q hq
    rw [e1, e3, f3]; exact h.a o ho o2 ho2
  · intro r hr q hq
    obtain ⟨o, ho, e1, e2, e3, e4⟩ := key r hr
    obtain ⟨o2, ho2, f1, f2, f3, f4⟩ := key q hq
    rw [e1, e3, f2, f3]; exact h.g o ho o2 ho2
  · intro r hr q hq
    obtain ⟨o, ho, e1, e2, e3, e4⟩ := key r hr
    obtain ⟨o2, ho2, f1, f2, f3, f4⟩ := key q hq
    rw [e2, e3, f2, f3]; exact h.s1 o ho o2 ho2
  · intro r hr q hq
    obtain ⟨o, ho, e1, e2, e3, e4⟩ := key r hr
    obtain ⟨o2, ho2, f1, f2, f3, f4⟩ := key q hq
    rw [e3, e4, f3, f4]; exact h.s2 o ho o2 ho2
  · intro r hr q hq
    obtain ⟨o, ho, e1, e2, e3, e4⟩ := key r hr
    obtain ⟨o2, ho2, f1, f2, f3, f4⟩ := key q hq
    rw [e3, e4, f3, f4]; exact h.s3 o ho o2 ho2
theorem Ses.give {l : List Pr} (h : Ses l) (s tt : Int) (ht : tt = 0 ∨ ∀ p ∈ l, p.tty ≠ tt) : Ses (giveL s tt l) := by
  refine ⟨?_, ?_, ?_, ?_, ?_, ?_⟩
  · intro r hr
    obtain ⟨o, ho, e1, _, e2, e3, _, e4⟩ := mem_give hr
    rw [e1, e2, e3]; exact h.s4 o ho
  · intro r hr q hq
    obtain ⟨o, ho, e1, _, e2, e3, _, e4⟩ := mem_give hr
    obtain ⟨o2, ho2, f1, _, f2, f3, _, f4⟩ := mem_give hq
    rw [e1, e3, f3]; exact h.a o ho o2 ho2
  · intro r hr q hq
    obtain ⟨o, ho, e1, _, e2, e3, _, e4⟩ := mem_give hr
    obtain ⟨o2, ho2, f1, _, f2, f3, _, f4⟩ := mem_give hq
    rw [e1, e3, f2, f3]; exact h.g o ho o2 ho2
  · intro r hr q hq
    obtain ⟨o, ho, e1, _, e2, e3, _, e4⟩ := mem_give hr
    obtain ⟨o2, ho2, f1, _, f2, f3, _, f4⟩ := mem_give hq
    rw [e2, e3, f2, f3]; exact h.s1 o ho o2 ho2
  · intro r hr q hq e
    obtain ⟨o, ho, e1, _, e2, e3, _, e4⟩ := mem_give hr
    obtain ⟨o2, ho2, f1, _, f2, f3, _, f4⟩ := mem_give hq
    have e : o.ses = o2.ses := by rw [← e3, e, f3]
    rw [e4, f4, e, h.s2 o ho o2 ho2 e]
  · intro r hr q hq e0 e
    obtain ⟨o, ho, e1, _, e2, e3, _, e4⟩ := mem_give hr
    obtain ⟨o2, ho2, f1, _, f2, f3, _, f4⟩ := mem_give hq
    rw [e3, f3]
    rw [e4] at e0 e
    rw [f4] at e
    by_cases a : o.ses = s
    · rw [if_pos a] at e0 e
      by_cases b : o2.ses = s
      · rw [a, b]
      · rw [if_neg b] at e
        rcases ht with ht | ht
        · exact absurd ht e0
        · exact absurd e.symm (ht o2 ho2)
    · rw [if_neg a] at e0 e
      by_cases b : o2.ses = s
      · rw [if_pos b] at e
        rcases ht with ht | ht
        · exact absurd (by rw [e, ht]) e0
        · exact absurd e (ht o ho)
      · rw [if_neg b] at e
        exact h.s3 o ho o2 ho2 e0 e
theorem Inv.give {t : Tb} (h : Inv t) (s tt : Int) (f : Int → Int) (ht : tt = 0 ∨ ∀ p ∈ t.l, p.tty ≠ tt) (h1 : 0 ≤ tt ∧ tt ≤ 64) (hf : ∀ j, ¬ (1 ≤ j ∧ j ≤ 64) → f j = 0) : Inv ⟨giveL s tt t.l, t.nx, f⟩ := by
  refine ⟨by show ((giveL s tt t.l).map _).Pairwise _; rw [pids_give]; exact h.rise, ?_, ?_, ?_, ?_, hf, h.nx, h.se.give s tt ht⟩
  · intro r hr
    obtain ⟨o, ho, e1, _, e2, e3, _, e4⟩ := mem_give hr
    rw [e1]; exact h.pid o ho
  · intro r hr
    obtain ⟨o, ho, e1, _, e2, e3, _, e4⟩ := mem_give hr
    rw [e2]; exact h.grp o ho
  · intro r hr
    obtain ⟨o, ho, e1, _, e2, e3, _, e4⟩ := mem_give hr
    rw [e3]; exact h.ses o ho
  · intro r hr
    obtain ⟨o, ho, e1, _, e2, e3, _, e4⟩ := mem_give hr
    rw [e4]
    split
    · exact h1
    · exact h.tty o ho
theorem Inv.gone {t : Tb} (h : Inv t) (pid : Int) (i : Nat) : Inv ⟨(t.l.eraseIdx i).map (parF pid), t.nx, t.f⟩ := by
  have key : ∀ r ∈ (t.l.eraseIdx i).map (parF pid), ∃ o ∈ t.l, r.pid = o.pid ∧ r.grp = o.grp ∧ r.ses = o.ses ∧ r.tty = o.tty := fun r hr => by
    obtain ⟨o, ho, rfl⟩ := List.mem_map.1 hr
    refine ⟨o, List.mem_of_mem_eraseIdx ho, ?_⟩
    unfold parF
    split <;> exact ⟨rfl, rfl, rfl, rfl⟩
  refine ⟨?_, ?_, ?_, ?_, ?_, h.fr, h.nx, h.se.sub key⟩
  · show (((t.l.eraseIdx i).map (parF pid)).map (·.pid)).Pairwise _
    rw [List.map_map, show ((·.pid) ∘ parF pid) = (·.pid) from funext fun q => by simp only [Function.comp, parF]; split <;> rfl]
    exact h.rise.sublist ((List.eraseIdx_sublist ..).map _)
  · intro r hr
    obtain ⟨o, ho, e1, e2, e3, e4⟩ := key r hr
    rw [e1]; exact h.pid o ho
  · intro r hr
    obtain ⟨o, ho, e1, e2, e3, e4⟩ := key r hr
    rw [e2]; exact h.grp o ho
  · intro r hr
    obtain ⟨o, ho, e1, e2, e3, e4⟩ := key r hr
    rw [e3]; exact h.ses o ho
  · intro r hr
    obtain ⟨o, ho, e1, e2, e3, e4⟩ := key r hr
    rw [e4]; exact h.tty o ho
theorem Inv.att {t : Tb} (h : Inv t) (pid tty : Int) : Inv (attT t pid tty).1 := by
  unfold attT
  split
  · exact h
  · rename_i p hp
    split
    · exact h
    rename_i hr
    split
    · exact h
    rename_i hc
    simp only [Bool.or_eq_true, bne_iff_ne, ne_eq, not_or, Decidable.not_not] at hc
    refine h.give pid tty _ (.inr fun q hq e => ?_) (by omega) (fun j hj => ?_)
    · have h0 : t.l.any (onTty tty) = true := List.any_eq_true.2 ⟨q, hq, by unfold onTty; simp [e]; omega⟩
      obtain ⟨k, hk, _, h1, _⟩ := ixP_some _ _ h0
      have h2 := hc.2
      unfold sesOf at h2
      rw [h1] at h2
      have := h.ses _ (List.getElem_mem hk)
      have h2 : (t.l[k]).ses = 0 := h2
      omega
    · show (if j = tty then p.grp else t.f j) = 0
      rw [if_neg (by omega)]
      exact h.fr j hj
theorem Inv.fg {t : Tb} (h : Inv t) (pid tty group : Int) : Inv (fgT t pid tty group).1 := by
  unfold fgT
  split
  · exact h
  · rename_i p hp
    obtain ⟨h1, h2, _⟩ := find_spec hp
    split
    · exact h
    rename_i hc
    simp only [Bool.or_eq_true, beq_iff_eq, bne_iff_ne, ne_eq, not_or, Decidable.not_not] at hc
    split
    · refine ⟨h.rise, h.pid, h.grp, h.ses, h.tty, fun j hj => ?_, h.nx, h.se⟩
      have := h.tty p h1
      show (if j = tty then group else t.f j) = 0
      rw [if_neg (by omega)]
      exact h.fr j hj
    · exact h
theorem Inv.hang {t : Tb} (h : Inv t) (tty : Int) : Inv (hangT t tty).1 := by
  unfold hangT
  split
  · exact h
  · refine h.give _ 0 _ (.inl rfl) (by decide) (fun j hj => ?_)
    show (if j = tty then 0 else t.f j) = 0
    split
    · rfl
    · exact h.fr j hj
theorem Inv.exit {t : Tb} (h : Inv t) (pid : Int) : Inv (exitT t pid).1 := by
  unfold exitT
  split
  · exact h
  · rename_i p hp
    split
    · refine (h.gone pid (t.l.findIdx (isPid pid))).give pid 0 _ (.inl rfl) (by decide) (fun j hj => ?_)
      show (if j = p.tty then 0 else t.f j) = 0
      split
      · rfl
      · exact h.fr j hj
    · exact h.gone pid _
theorem Inv.step {t : Tb} (h : Inv t) (a : AcT) : Inv (stepT t a) := by
  unfold stepT
  repeat' split
  · exact h.fork _
  · exact h.sid _
  · exact h.pgid _ _ _
  · exact h.att _ _
  · exact h.fg _ _ _
  · exact h.deaf _ _
  · exact h.exit _
  · exact h.hang _
  · exact h
def Near1 (t t' : Tb) : Prop := t'.l.length ≤ t.l.length + 1 ∧ t'.nx ≤ t.nx + 1
theorem Near1.refl (t : Tb) : Near1 t t := ⟨Nat.le_succ _, by omega⟩
theorem Near1.set (t : Tb) (i : Nat) (q : Pr) : Near1 t ⟨t.l.set i q, t.nx, t.f⟩ := ⟨by show (t.l.set i q).length ≤ _; rw [List.length_set]; omega, by show t.nx ≤ _; omega⟩
theorem Near1.give (t t0 : Tb) (h : Near1 t t0) (s tt : Int) (f : Int → Int) : Near1 t ⟨giveL s tt t0.l, t0.nx, f⟩ := ⟨by show (giveL s tt t0.l).length ≤ _; rw [giveL_len]; exact h.1, h.2⟩
theorem Near1.gone (t : Tb) (pid : Int) (i : Nat) : Near1 t ⟨(t.l.eraseIdx i).map (parF pid), t.nx, t.f⟩ := ⟨by show (List.map (parF pid) (t.l.eraseIdx i)).length ≤ _; rw [List.length_map]; exact Nat.le_trans (List.length_eraseIdx_le ..) (Nat.le_succ _), by show t.nx ≤ _; omega⟩
theorem step_size (t : Tb) (a : AcT) : Near1 t (stepT t a) := by
  have h0 : Near1 t (forkT t a.pid).1 := by
    unfold forkT
    split
    · exact Near1.refl t
    · exact ⟨by show (t.l ++ [_]).length ≤ _; simp, Int.le_refl _⟩
  have h1 : Near1 t (sidT t a.pid).1 := by
    unfold sidT
    repeat' split
    · exact Near1.refl t
    · exact Near1.refl t
    · exact Near1.set ..
  have h2 : Near1 t (pgidT t a.pid a.who a.grp).1 := by
    unfold pgidT pgidW
    repeat' split
    · exact Near1.refl t
    · exact Near1.refl t
    · exact Near1.refl t
    · exact Near1.set ..
    · exact Near1.refl t
  have h3 : Near1 t (attT t a.pid a.tty).1 := by
    unfold attT
    repeat' split
    · exact Near1.refl t
    · exact Near1.refl t
    · exact Near1.refl t
    · exact Near1.give t t (Near1.refl t) ..
  have h4 : Near1 t (fgT t a.pid a.tty a.grp).1 := by
    unfold fgT
    repeat' split
    · exact Near1.refl t
    · exact Near1.refl t
    · exact ⟨Nat.le_succ _, by show t.nx ≤ _; omega⟩
    · exact Near1.refl t
  have h5 : Near1 t (deafT t a.pid a.deaf).1 := by
    unfold deafT
    split
    · exact Near1.refl t
    · exact Near1.set ..
  have h6 : Near1 t (exitT t a.pid).1 := by
    unfold exitT
    split
    · exact Near1.refl t
    split
    · exact Near1.give t _ (Near1.gone t a.pid _) ..
    · exact Near1.gone ..
  have h7 : Near1 t (hangT t a.tty).1 := by
    unfold hangT
    split
    · exact Near1.refl t
    · exact Near1.give t t (Near1.refl t) ..
  unfold stepT
  repeat' split
  all_goals first | assumption | exact Near1.refl t
theorem Inv.front {t : Tb} (h : Inv t) (tty : Int) : frontOf t tty = t.f tty := by
  unfold frontOf
  split
  · exact (h.fr tty (by omega)).symm
  · rfl
theorem Inv.exitR {t : Tb} (h : Inv t) (pid : Int) : exitR t pid (t.nx - 1).toNat = exitT t pid := exitR_exitT t pid _ (by have := h.nx; omega) h.grp
end Go.Proofs.Ytlagakcpjmjdfaa
