/- Notes in order, in plain words: the sort and the insertion give the same. No statement is proved here. -/
import Derived.Test.YtnmdmmfdnnmdfaaDoorSD
import Derived.Test.YtnmdmmfdnnmdfaaDoorCP
set_option linter.unusedVariables false
set_option linter.unusedSimpArgs false
namespace Go.Proofs.YtnmdmmfdnnmdfaaDoor
open Go.Ab Go.Sort

theorem orL_zero_iff : ∀ {l : List Int}, orL l = 0 ↔ ∀ x ∈ l, x = 0
  | [] => by simp [orL]
  | x :: r => by
    have := orL_zero_iff (l := r)
    by_cases h : x = 0
    · subst h; simp [orL, this]
    · simp [orL, h]
/-- One note comes before another one. -/
def bef (al : List (Int × Int)) (a b : Note) : Bool := decide (cmpK (keyN al a) (keyN al b) < 0)
theorem bef_iff {al : List (Int × Int)} {a b : Note} : bef al a b = true ↔ cmpK (keyN al a) (keyN al b) < 0 := decide_eq_true_iff
theorem bef_irr (al : List (Int × Int)) (a : Note) : bef al a a = false := by
  have := cmpK_anti (keyN al a) (keyN al a)
  refine decide_eq_false ?_; omega
theorem bef_trans {al : List (Int × Int)} {a b c : Note} (h : bef al a b = true) (h' : bef al b c = true) : bef al a c = true := by
  rw [bef_iff] at *
  exact cmpK_lt (a := keyN al a) (b := keyN al b) (c := keyN al c) rfl rfl h h'
theorem bef_asymm {al : List (Int × Int)} {a b : Note} (h : bef al a b = true) : bef al b a = false := by
  cases h2 : bef al b a with
  | false => rfl
  | true => have := bef_trans h h2; rw [bef_irr] at this; cases this
theorem bef_total {al : List (Int × Int)} {a b : Note} (h : a.id ≠ b.id) (h' : bef al a b = false) : bef al b a = true := by
  rw [bef_iff]
  have h1 : ¬ cmpK (keyN al a) (keyN al b) < 0 := by simpa [bef] using h'
  have h2 := cmpK_anti (keyN al a) (keyN al b)
  rcases (show cmpK (keyN al a) (keyN al b) = 0 ∨ cmpK (keyN al b) (keyN al a) < 0 by omega) with h3 | h3
  · exfalso
    have := orL_zero_iff.1 h3 (a.id - b.id) (by simp [keyN])
    omega
  · exact h3
/-- Lists in order with the same elements are the same. -/
theorem ord_unique {al : List (Int × Int)} {l m : List Note} (hp : l.Perm m) (hl : l.Pairwise fun a b => bef al a b = true) (hm : m.Pairwise fun a b => bef al a b = true) : l = m := by
  refine List.Perm.eq_of_pairwise (le := fun a b => bef al a b = true) (fun a b _ _ h1 h2 => ?_) hl hm hp
  rw [bef_asymm h1] at h2; cases h2
/-- Where a further note is put. -/
def putAt (al : List (Int × Int)) (n : Note) (l : List Note) : Nat → Nat
  | 0 => 0
  | k + 1 => if bef al n (l.getD k default) then putAt al n l k else k + 1
theorem putAt_le (al : List (Int × Int)) (n : Note) (l : List Note) : ∀ k, putAt al n l k ≤ k
  | 0 => Nat.le_refl _
  | k + 1 => by unfold putAt; split; exact Nat.le_succ_of_le (putAt_le al n l k); exact Nat.le_refl _
theorem putAt_spec (al : List (Int × Int)) (n : Note) (l : List Note) : ∀ k, (∀ j, putAt al n l k ≤ j → j < k → bef al n (l.getD j default) = true) ∧ (0 < putAt al n l k → bef al n (l.getD (putAt al n l k - 1) default) = false)
  | 0 => ⟨fun j _ h => absurd h (by omega), fun h => absurd h (by simp [putAt])⟩
  | k + 1 => by
    unfold putAt
    split
    · rename_i h
      obtain ⟨h1, h2⟩ := putAt_spec al n l k
      exact ⟨fun j hj hlt => by
        rcases Nat.lt_or_ge j k with h3 | h3
        · exact h1 j hj h3
        · have : j = k := by omega
          subst this; exact h, h2⟩
    · rename_i h
      exact ⟨fun j hj hlt => absurd hlt (by omega), fun _ => by simpa using h⟩
/-- Notes in order with a further one. -/
def putL (al : List (Int × Int)) (l : List Note) (n : Note) : List Note := l.take (putAt al n l l.length) ++ [n] ++ l.drop (putAt al n l l.length)
theorem putL_perm (al : List (Int × Int)) (l : List Note) (n : Note) : (putL al l n).Perm (n :: l) := by
  unfold putL
  rw [List.append_assoc, List.singleton_append]
  refine List.perm_middle.trans ?_
  rw [List.take_append_drop]
theorem putL_ord {al : List (Int × Int)} {l : List Note} {n : Note} (hl : l.Pairwise fun a b => bef al a b = true) (hn : ∀ x ∈ l, x.id ≠ n.id) : (putL al l n).Pairwise fun a b => bef al a b = true := by
  obtain ⟨h1, h2⟩ := putAt_spec al n l l.length
  have hle := putAt_le al n l l.length
  unfold putL
  generalize putAt al n l l.length = k at h1 h2 hle
  have hpw := List.pairwise_iff_getElem.1 hl
  have lo : ∀ a ∈ l.take k, bef al a n = true := fun a ha => by
    obtain ⟨j, hj, rfl⟩ := List.mem_iff_getElem.1 ha
    simp only [List.length_take] at hj
    rw [List.getElem_take]
    have h3 := h2 (by omega)
    rw [getD_lt (by omega)] at h3
    have h4 := bef_total (fun e => hn _ (List.getElem_mem (show k - 1 < l.length by omega)) e.symm) h3
    rcases Nat.lt_or_ge j (k - 1) with h5 | h5
    · exact bef_trans (hpw j (k - 1) (by omega) (by omega) h5) h4
    · have : j = k - 1 := by omega
      subst this; exact h4
  have hi : ∀ a ∈ l.drop k, bef al n a = true := fun a ha => by
    obtain ⟨j, hj, rfl⟩ := List.mem_iff_getElem.1 ha
    simp only [List.length_drop] at hj
    rw [List.getElem_drop]
    have := h1 (k + j) (by omega) (by omega)
    rwa [getD_lt (by omega)] at this
  rw [List.append_assoc, List.pairwise_append]
  refine ⟨hl.sublist (List.take_sublist _ _), ?_, fun a ha b hb => ?_⟩
  · rw [List.singleton_append, List.pairwise_cons]
    exact ⟨hi, hl.sublist (List.drop_sublist _ _)⟩
  · rw [List.singleton_append] at hb
    rcases List.mem_cons.1 hb with rfl | hb
    · exact lo a ha
    · exact bef_trans (lo a ha) (hi b hb)
/-- The reference's sort. -/
def putsL (al : List (Int × Int)) (l : List Note) : List Note := l.foldl (putL al) []
theorem puts_spec {al : List (Int × Int)} : ∀ {l acc : List Note}, ((acc ++ l).map (·.id)).Nodup → acc.Pairwise (fun a b => bef al a b = true) →
    (l.foldl (putL al) acc).Perm (acc ++ l) ∧ (l.foldl (putL al) acc).Pairwise (fun a b => bef al a b = true)
  | [], acc, _, h => ⟨by simp, h⟩
  | n :: r, acc, hn, h => by
    have hp := putL_perm al acc n
    have hd : ∀ x ∈ acc, x.id ≠ n.id := fun x hx e => by
      rw [List.map_append, List.nodup_append] at hn
      exact hn.2.2 x.id (List.mem_map.2 ⟨x, hx, rfl⟩) n.id (by simp) e
    have hq : (putL al acc n ++ r).Perm (acc ++ n :: r) := (hp.append_right r).trans (by rw [List.cons_append]; exact List.perm_middle.symm)
    obtain ⟨h1, h2⟩ := puts_spec (l := r) (acc := putL al acc n) ((hq.map _).nodup_iff.2 hn) (putL_ord h hd)
    exact ⟨h1.trans hq, h2⟩
theorem putsP (al : List (Int × Int)) : ∀ (l acc : List Note), (l.foldl (putL al) acc).Perm (acc ++ l)
  | [], acc => by simp
  | n :: r, acc => (putsP al r (putL al acc n)).trans (((putL_perm al acc n).append_right r).trans (by rw [List.cons_append]; exact List.perm_middle.symm))
theorem puts_perm (al : List (Int × Int)) (l : List Note) : (putsL al l).Perm l := by simpa [putsL] using putsP al l []
theorem sortN_ord {al : List (Int × Int)} {l : List Note} (hin : ∀ n ∈ l, noteIn n) (hn : (l.map (·.id)).Nodup) : (sortN al l).Pairwise fun a b => bef al a b = true := by
  have hs := (sortL_spec _ (swoN al fixN) l).2
  have hp := sortN_perm al l
  have hlen := sortN_len al l
  rw [List.pairwise_iff_getElem]
  intro i j hi hj hij
  have h1 := hs i j (Nat.zero_le _) hij (by omega)
  have e : ∀ k (hk : k < (sortN al l).length), (sortL (fun x y => cmpN al (fixN x) (fixN y)) l).toArray[k]! = (sortN al l)[k] := fun k hk => by
    unfold sortN at hk ⊢
    simp [hk]
  rw [e i hi, e j hj] at h1
  have m1 := hin _ (hp.mem_iff.1 (List.getElem_mem hi))
  have m2 := hin _ (hp.mem_iff.1 (List.getElem_mem hj))
  have h2 : bef al (sortN al l)[j] (sortN al l)[i] = false := by
    have h3 := (ltN' al fixN _ _).1 h1
    rw [fixN_eq m1, fixN_eq m2] at h3
    exact decide_eq_false h3
  refine bef_total (fun e2 => ?_) h2
  have hnd : ((sortN al l).map (·.id)).Nodup := (hp.map _).nodup_iff.2 hn
  have := (List.getElem_inj (h₀ := by simpa using hj) (h₁ := by simpa using hi) hnd).1 (by simpa using e2)
  omega
theorem sortN_puts {al : List (Int × Int)} {l : List Note} (hin : ∀ n ∈ l, noteIn n) (hn : (l.map (·.id)).Nodup) : sortN al l = putsL al l := by
  obtain ⟨h1, h2⟩ := puts_spec (al := al) (l := l) (acc := []) (by simpa using hn) List.Pairwise.nil
  refine ord_unique ((sortN_perm al l).trans ?_) (sortN_ord hin hn) h2
  exact (by simpa [putsL] using h1 : (putsL al l).Perm l).symm
theorem sortN_self {al : List (Int × Int)} {l : List Note} (hin : ∀ n ∈ l, noteIn n) (hn : (l.map (·.id)).Nodup) (h : l.Pairwise fun a b => bef al a b = true) : sortN al l = l :=
  ord_unique (sortN_perm al l) (sortN_ord hin hn) h
theorem notesOk_nodup {bars : List Bar} {l : List Note} (h : notesOk bars l = true) : (l.map (·.id)).Nodup := by
  unfold notesOk at h; simp only [Bool.and_eq_true, decide_eq_true_eq] at h; exact h.2
/-- Each one comes before the next one. -/
def stepsOk (al : List (Int × Int)) (l : List Note) : Bool := (List.range l.length).all fun i => i == 0 || bef al (l.getD (i - 1) default) (l.getD i default)
theorem steps_ord {al : List (Int × Int)} {l : List Note} : stepsOk al l = true ↔ l.Pairwise fun a b => bef al a b = true := by
  unfold stepsOk
  rw [List.all_eq_true, List.pairwise_iff_getElem]
  constructor
  · intro h i j hi hj hij
    induction j with
    | zero => omega
    | succ j ih =>
      have h1 := h (j + 1) (List.mem_range.2 hj)
      simp only [Nat.add_sub_cancel, Bool.or_eq_true, beq_iff_eq] at h1
      rcases h1 with h1 | h1
      · omega
      · rw [getD_lt (by omega), getD_lt hj] at h1
        rcases Nat.lt_or_ge i j with h2 | h2
        · exact bef_trans (ih (by omega) h2) h1
        · have : i = j := by omega
          subst this; exact h1
  · intro h i hi
    have hi := List.mem_range.1 hi
    cases i with
    | zero => rfl
    | succ i =>
      simp only [Nat.add_sub_cancel, Bool.or_eq_true]
      right
      rw [getD_lt (by omega), getD_lt hi]
      exact h i (i + 1) (by omega) hi (by omega)
theorem sort_steps {bars : List Bar} {l : List Note} (h : notesOk bars l = true) : ((sortR bars l).2 == 0 && (sortR bars l).1 == l) = stepsOk (idxAL bars) l := by
  unfold sortR
  rw [if_pos h]
  simp only [beq_self_eq_true, Bool.true_and]
  rw [Bool.eq_iff_iff, steps_ord, beq_iff_eq]
  constructor
  · intro e; rw [← e]; exact sortN_ord (notesOk_in h) (notesOk_nodup h)
  · exact sortN_self (notesOk_in h) (notesOk_nodup h)
end Go.Proofs.YtnmdmmfdnnmdfaaDoor
