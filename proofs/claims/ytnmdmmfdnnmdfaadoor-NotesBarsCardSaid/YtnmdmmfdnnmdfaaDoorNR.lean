/- The law NotesBars by content. -/
import Derived.Test.YtnmdmmfdnnmdfaaDoorNK
set_option linter.unusedVariables false
set_option linter.unusedSimpArgs false
namespace Go.Proofs.YtnmdmmfdnnmdfaaDoor.Nt
open Go.Ab Go.Sort
attribute [local irreducible] AWP AOps EStep AQ PStep PRun PCall TCall VCall

theorem filter_two {α : Type} {p q : α → Bool} : ∀ {l : List α}, l.Pairwise (fun x y => q x = true → p y = false) → (∀ x ∈ l, q x = true → p x = false) → l.filter p ++ l.filter q = l.filter (fun x => p x || q x)
  | [], _, _ => rfl
  | x :: r, h, hd => by
    obtain ⟨h1, h2⟩ := List.pairwise_cons.1 h
    have ih := filter_two h2 (fun y hy => hd y (List.mem_cons_of_mem _ hy))
    cases hp : p x with
    | true =>
      have hq : q x = false := by
        cases hq : q x with
        | false => rfl
        | true => have := hd x (List.mem_cons_self ..) hq; rw [hp] at this; cases this
      rw [List.filter_cons_of_pos hp, List.filter_cons_of_neg (by rw [hq]; decide), List.filter_cons_of_pos (by rw [hp]; rfl), ← ih]; rfl
    | false =>
      cases hq : q x with
      | true =>
        have hn : ∀ y ∈ r, p y = false := fun y hy => h1 y hy hq
        have e1 : r.filter p = [] := List.filter_eq_nil_iff.2 fun y hy => by rw [hn y hy]; decide
        rw [List.filter_cons_of_neg (by rw [hp]; decide), List.filter_cons_of_pos hq, List.filter_cons_of_pos (by rw [hp, hq]; rfl), ← ih, e1]; rfl
      | false => rw [List.filter_cons_of_neg (by rw [hp]; decide), List.filter_cons_of_neg (by rw [hq]; decide), List.filter_cons_of_neg (by rw [hp, hq]; decide), ih]
/-- The next part. -/
def nextS (last nx : Int) (n : Note) : Int := if (decide (n.part > last) && (nx == 0 || decide (n.part < nx))) = true then n.part else nx
def nextF (l : List Note) (last : Int) : Int := l.foldl (nextS last) 0
theorem next_in : ∀ {l : List Note} {last nx : Int}, 0 ≤ last → (nx = 0 ∨ last < nx) → (l.foldl (nextS last) nx = 0 ∨ last < l.foldl (nextS last) nx)
  | [], _, _, _, h => h
  | n :: r, last, nx, h0, h => by
    rw [List.foldl_cons]
    refine next_in h0 ?_
    unfold nextS
    split
    · rename_i hc
      simp only [Bool.and_eq_true, decide_eq_true_eq] at hc
      exact .inr hc.1
    · exact h
theorem next_spec : ∀ {l : List Note} {last nx : Int}, 0 ≤ last → (nx = 0 ∨ last < nx) →
    (l.foldl (nextS last) nx = 0 → nx = 0 ∧ ∀ n ∈ l, n.part ≤ last) ∧ (l.foldl (nextS last) nx ≠ 0 → (l.foldl (nextS last) nx = nx ∨ ∃ n ∈ l, n.part = l.foldl (nextS last) nx) ∧ (nx ≠ 0 → l.foldl (nextS last) nx ≤ nx) ∧ ∀ n ∈ l, last < n.part → l.foldl (nextS last) nx ≤ n.part)
  | [], last, nx, _, _ => ⟨fun h => ⟨h, fun n hn => by cases hn⟩, fun _ => ⟨.inl rfl, fun _ => Int.le_refl _, fun n hn => by cases hn⟩⟩
  | m :: r, last, nx, h0, h => by
    rw [List.foldl_cons]
    have hs : nextS last nx m = 0 ∨ last < nextS last nx m := by
      unfold nextS; split
      · rename_i hc; simp only [Bool.and_eq_true, decide_eq_true_eq] at hc; exact .inr hc.1
      · exact h
    obtain ⟨a1, a2⟩ := next_spec (l := r) h0 hs
    have hm : (last < m.part → nextS last nx m ≠ 0 ∧ nextS last nx m ≤ m.part) ∧ (nx ≠ 0 → nextS last nx m ≠ 0 ∧ nextS last nx m ≤ nx) ∧ (nextS last nx m = nx ∨ nextS last nx m = m.part) := by
      unfold nextS
      split
      · rename_i hc
        simp only [Bool.and_eq_true, Bool.or_eq_true, decide_eq_true_eq, beq_iff_eq] at hc
        exact ⟨fun _ => by omega, fun h => by omega, .inr rfl⟩
      · rename_i hc
        simp only [Bool.and_eq_true, Bool.or_eq_true, decide_eq_true_eq, beq_iff_eq, not_and, not_or] at hc
        refine ⟨fun h1 => ?_, fun h1 => ⟨h1, Int.le_refl _⟩, .inl rfl⟩
        have := hc h1
        exact ⟨this.1, by omega⟩
    constructor
    · intro hz
      obtain ⟨b1, b2⟩ := a1 hz
      refine ⟨Decidable.byContradiction fun hne => (hm.2.1 hne).1 b1, fun n hn => ?_⟩
      rcases List.mem_cons.1 hn with rfl | hn
      · rcases Int.lt_or_le last n.part with h1 | h1
        · exact absurd b1 (hm.1 h1).1
        · exact h1
      · exact b2 n hn
    · intro hz
      obtain ⟨b1, b2, b3⟩ := a2 hz
      refine ⟨?_, fun hne => ?_, fun n hn hl => ?_⟩
      · rcases b1 with b1 | ⟨n, hn, hb⟩
        · rcases hm.2.2 with h3 | h3
          · exact .inl (b1.trans h3)
          · exact .inr ⟨m, List.mem_cons_self .., by rw [b1, h3]⟩
        · exact .inr ⟨n, List.mem_cons_of_mem _ hn, hb⟩
      · have := hm.2.1 hne
        have := b2 this.1
        omega
      · rcases List.mem_cons.1 hn with rfl | hn
        · have := hm.1 hl
          have := b2 this.1
          omega
        · exact b3 n hn hl
/-- The notes of the bars before one, and of its parts up to one. -/
def condB (al : List (Int × Int)) (k : Nat) (last : Int) (n : Note) : Bool := decide (lk0 al n.bar < k) || (decide (lk0 al n.bar = k) && decide (n.part ≤ last))
theorem bef_le {al : List (Int × Int)} {x y : Note} (h : bef al x y = true) : lk0 al x.bar < lk0 al y.bar ∨ (lk0 al x.bar = lk0 al y.bar ∧ x.part ≤ y.part) := by
  rw [bef_iff] at h
  unfold keyN at h
  rw [cmpK_cons] at h
  split at h
  · rw [cmpK_cons] at h
    split at h <;> omega
  · omega
theorem sort_filter {bars : List Bar} {l : List Note} (h : notesOk bars l = true) (q : Note → Bool) : sortN (idxAL bars) (l.filter q) = (sortN (idxAL bars) l).filter q := by
  have hin : ∀ n ∈ l.filter q, noteIn n := fun n hn' => notesOk_in h n (List.mem_filter.1 hn').1
  refine ord_unique ?_ (sortN_ord hin (nodup_filter (notesOk_nodup h) q)) ((sortN_ord (notesOk_in h) (notesOk_nodup h)).sublist List.filter_sublist)
  exact (sortN_perm _ _).trans ((sortN_perm _ _).symm.filter q)
/-- A bar's index says which it is. -/
theorem idx_bar {bars : List Bar} (hb : barsOk bars = true) {n : Note} (hn : noteOk bars n = true) {k : Nat} (hk : k < bars.length) : lk0 (idxAL bars) n.bar = (k : Int) ↔ n.bar = (bars.getD k default).id := by
  have hs : (lk (idxAL bars) n.bar).isSome = true := by
    unfold noteOk at hn; split at hn
    · rename_i i hi; rw [hi]; rfl
    · cases hn
  obtain ⟨j, j1, j2, j3, j4⟩ := lk_some hb hs
  have e : lk0 (idxAL bars) n.bar = j := by unfold lk0; rw [j1]; rfl
  rw [e]
  constructor
  · intro h
    have : j = k := by omega
    subst this; exact j4.symm
  · intro h
    have : j = k := nodup_at (fun b : Bar => b.id) (barsOk_nodup hb) j3 hk (by rw [j4]; exact h)
    omega
theorem idx_lt {bars : List Bar} (hb : barsOk bars = true) {n : Note} (hn : noteOk bars n = true) : 0 ≤ lk0 (idxAL bars) n.bar ∧ lk0 (idxAL bars) n.bar < bars.length := by
  have hs : (lk (idxAL bars) n.bar).isSome = true := by
    unfold noteOk at hn; split at hn
    · rename_i i hi; rw [hi]; rfl
    · cases hn
  obtain ⟨j, j1, j2, j3, j4⟩ := lk_some hb hs
  have e : lk0 (idxAL bars) n.bar = j := by unfold lk0; rw [j1]; rfl
  rw [e]; omega
/-- What is put together so far. -/
def AF (bars : List Bar) (l : List Note) (k : Nat) (last : Int) : List Note := (sortN (idxAL bars) l).filter (condB (idxAL bars) k last)
section
variable {bars : List Bar} {l : List Note} (h : notesOk bars l = true)
include h
theorem mem_ok {n : Note} (hn : n ∈ sortN (idxAL bars) l) : noteOk bars n = true ∧ n ∈ l ∧ 1 ≤ n.part := by
  have hm := (sortN_perm _ _).mem_iff.1 hn
  exact ⟨(notesOk_bars h).2 n hm, hm, (notesOk_in h n hm).2.1.1⟩
theorem AF_zero : AF bars l 0 0 = [] := by
  unfold AF
  refine List.filter_eq_nil_iff.2 fun n hn => ?_
  have := idx_lt (notesOk_bars h).1 (mem_ok h hn).1
  have := (mem_ok h hn).2.2
  unfold condB
  simp only [Bool.or_eq_true, Bool.and_eq_true, decide_eq_true_eq]
  omega
theorem AF_all : AF bars l bars.length 0 = sortN (idxAL bars) l := by
  unfold AF
  refine List.filter_eq_self.2 fun n hn => ?_
  have := idx_lt (notesOk_bars h).1 (mem_ok h hn).1
  unfold condB
  rw [decide_eq_true this.2]; rfl
theorem AF_bar {k : Nat} {last : Int} (hl : ∀ n ∈ l, n.part ≤ last) : AF bars l (k + 1) 0 = AF bars l k last := by
  unfold AF
  refine List.filter_congr fun n hn => ?_
  have h1 := (mem_ok h hn).2.2
  have h2 := hl n (mem_ok h hn).2.1
  unfold condB
  rw [Bool.eq_iff_iff]
  simp only [Bool.or_eq_true, Bool.and_eq_true, decide_eq_true_eq]
  omega
theorem AF_part {k : Nat} {last nx : Int} (hk : k < bars.length) (hlt : last < nx) (hmin : ∀ n ∈ l, last < n.part → nx ≤ n.part) : AF bars l k nx = AF bars l k last ++ (sortN (idxAL bars) l).filter (isOf nx (bars.getD k default).id) := by
  unfold AF
  rw [filter_two]
  · refine List.filter_congr fun n hn => ?_
    have h2 := idx_bar (notesOk_bars h).1 (mem_ok h hn).1 hk
    have h3 := hmin n (mem_ok h hn).2.1
    unfold condB isOf
    rw [Bool.eq_iff_iff]
    simp only [Bool.or_eq_true, Bool.and_eq_true, decide_eq_true_eq, beq_iff_eq, ← h2]
    omega
  · refine (sortN_ord (notesOk_in h) (notesOk_nodup h)).imp_of_mem fun {x y} hx hy hxy hq => ?_
    have h2 := idx_bar (notesOk_bars h).1 (mem_ok h hx).1 hk
    have h4 := bef_le hxy
    unfold isOf at hq
    simp only [Bool.and_eq_true, beq_iff_eq, ← h2] at hq
    unfold condB
    rw [← Bool.not_eq_true]
    simp only [Bool.or_eq_true, Bool.and_eq_true, decide_eq_true_eq]
    omega
  · intro x hx hq
    have h2 := idx_bar (notesOk_bars h).1 (mem_ok h hx).1 hk
    unfold isOf at hq
    simp only [Bool.and_eq_true, beq_iff_eq, ← h2] at hq
    unfold condB
    rw [← Bool.not_eq_true]
    simp only [Bool.or_eq_true, Bool.and_eq_true, decide_eq_true_eq]
    omega
end
/-- How many notes are of later parts. -/
def later (l : List Note) (last : Int) : Nat := (l.filter fun n => decide (last < n.part)).length
theorem later_lt {l : List Note} {last nx : Int} (hlt : last < nx) (h : ∃ n ∈ l, n.part = nx) : later l nx < later l last := by
  obtain ⟨n, hn, hp⟩ := h
  unfold later
  have hsub : ((l.filter fun n => decide (last < n.part)).filter fun n => decide (nx < n.part)) = l.filter fun n => decide (nx < n.part) := by
    rw [List.filter_filter]
    refine List.filter_congr fun x _ => ?_
    rw [Bool.eq_iff_iff]
    simp only [Bool.and_eq_true, decide_eq_true_eq]; omega
  rw [← hsub]
  refine List.length_filter_lt_length_iff_exists.2 ⟨n, List.mem_filter.2 ⟨hn, decide_eq_true (by omega)⟩, ?_⟩
  simp only [decide_eq_true_eq]; omega
end Go.Proofs.YtnmdmmfdnnmdfaaDoor.Nt
