/- Deeds one after the other, and rounds of exchanges, as the law's loops go through them, in plain words. No program is in sight. No statement is proved here. -/
import Derived.Test.YtbneeinknlddaaaGreatQ26
set_option linter.unusedVariables false
set_option linter.unusedSectionVars false
set_option linter.unusedSimpArgs false
namespace Go.Sy
open Go.Jo
def fixD (d : Deed) : Deed := if (decide (200 < d.mark.text.length) || !markOk d.mark) = true then { d with what := 0 } else d
def b0 (i : Nat) : Tab := begin_ ((i : Int) + 1)
def seqD (n : Nat) (ds : List Deed) : Nat → Nat → Tab
 | 0 => b0
 | j + 1 => (doT n (seqD n ds j) (fixD (ds.getD j default))).2
theorem seq_in {n : Nat} (hn : 0 < n) (hn' : n ≤ 1000) (ds : List Deed) : ∀ j, j ≤ 90 → In n j (seqD n ds j)
 | 0, _ => begin_ok hn'
 | j + 1, hj => (do_in hn (by omega) (seq_in hn hn' ds j (by omega)) (fixD (ds.getD j default))).2
def rnd (n : Nat) (t : Nat → Tab) : Nat → Nat → Tab
 | 0 => t
 | r + 1 => roundT (rnd n t r) n
theorem rnd_up {n : Nat} {t : Nat → Tab} (h : Up n t) : ∀ r, r ≤ 2 → Up n (rnd n t r)
 | 0, _ => h
 | 1, _ => (round1 h n (zAi _)).1
 | 2, _ => by
   obtain ⟨r1, _, r3⟩ := round1 h n (zAi _)
   exact (round2 r1 r3 n (zAi _)).1
 | r + 3, hr => by omega
theorem rnd_same {n : Nat} {t : Nat → Tab} (h : Up n t) {j : Nat} (hj : j < n) : (rnd n t 2 j).s.evs = (rnd n t 2 0).s.evs := by
 obtain ⟨r1, _, r3⟩ := round1 h n (zAi _)
 obtain ⟨_, q2, _, q4⟩ := round2 r1 r3 n (zAi _)
 show (roundT (roundT t n) n j).s.evs = (roundT (roundT t n) n 0).s.evs
 rw [q4 j hj, q2]
theorem round_up {n : Nat} {t : Nat → Tab} (h : Up n t) : ∀ m, m ≤ n → Up n (roundT t m)
 | 0, _ => h
 | m + 1, hm => by
   have g := round_up h m (by omega)
   unfold roundT
   by_cases h0 : m = 0
   · rw [if_pos h0]; exact g
   · rw [if_neg h0]; exact (up_swap g (by omega) (by omega)).2.1
theorem round_step {n : Nat} {t : Nat → Tab} (h : Up n t) {m : Nat} (hm : m < n) (h0 : 0 < m) :
 (exchT (roundT t m 0) (roundT t m m)).2.2 = 0 ∧ roundT t (m + 1) = set1 (set1 (roundT t m) 0 (exchT (roundT t m 0) (roundT t m m)).1) m (exchT (roundT t m 0) (roundT t m m)).2.1 := by
 refine ⟨(up_swap (round_up h m (by omega)) hm h0).1, ?_⟩
 show (if m = 0 then roundT t m else swap1 (roundT t m) m) = _
 rw [if_neg (by omega)]; rfl
theorem up_valid {n : Nat} {t : Nat → Tab} (h : Up n t) {i : Nat} (hi : i < n) : validT (t i) = true := by
 obtain ⟨⟨_, _, _, hw, _⟩, _⟩ := h
 exact (hw.each i hi).valid
theorem wake_step {n m : Nat} {t : Nat → Tab} (h : In n m t) {q : Nat} (hq : q < n) (hu : (wakeAll t q q).up = false) : (wakeT (wakeAll t q q)).2 = 0 ∧ wakeAll t (q + 1) = set1 (wakeAll t q) q (wakeT (wakeAll t q q)).1 := by
 obtain ⟨⟨raw, k, W, hw, hW⟩, _, _⟩ := wake_in h q (by omega)
 obtain ⟨v, v1, _⟩ := hw.wake hq hu
 refine ⟨by rw [v1], ?_⟩
 show (if (wakeAll t q q).up = true then wakeAll t q else set1 (wakeAll t q) q (wakeT (wakeAll t q q)).1) = _
 rw [if_neg (by rw [hu]; decide)]
theorem wake_skip {t : Nat → Tab} {q : Nat} (hu : (wakeAll t q q).up = true) : wakeAll t (q + 1) = wakeAll t q := by
 show (if (wakeAll t q q).up = true then wakeAll t q else set1 (wakeAll t q) q (wakeT (wakeAll t q q)).1) = _
 rw [if_pos hu]
theorem wake_up {n m : Nat} {t : Nat → Tab} (h : In n m t) (hm : m ≤ 90) : Up n (wakeAll t n) := by
 obtain ⟨h3, h4, _⟩ := wake_in h n (zAi _)
 obtain ⟨raw, k, W, hw, hW⟩ := h3
 exact ⟨⟨raw, k, W, hw, by omega⟩, h4⟩
end Go.Sy
