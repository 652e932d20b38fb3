/- Parts in plain words: the program's maps and the reference's searches say the same. No statement is proved here. -/
import Derived.Test.YtnmdmmfdnnmdfaaDoorSE
set_option linter.unusedVariables false
set_option linter.unusedSimpArgs false
namespace Go.Proofs.YtnmdmmfdnnmdfaaDoor
open Go.Ab

theorem ins_len {α : Type} (al : List (Int × α)) (k : Int) (v : α) : (ins al k v).length = if (lk al k).isSome then al.length else al.length + 1 := by
  induction al with
  | nil => simp [ins, lk]
  | cons p r ih =>
    obtain ⟨k', v'⟩ := p
    simp only [ins, lk]
    by_cases h : k' = k
    · simp [h]
    · simp only [if_neg h, List.length_cons, ih]
      split <;> rfl
theorem take_snoc {α : Type} [Inhabited α] {l : List α} {k : Nat} (h : k < l.length) : l.take (k + 1) = l.take k ++ [l.getD k default] := by
  rw [List.take_add_one, getD_lt h]; simp [h]
theorem partsAL_facts (l : List Part) : ∀ k, k ≤ l.length →
    ((partsAL (l.take k)).length ≤ k ∧ ((partsAL (l.take k)).length = k ↔ ((l.take k).map (·.id)).Nodup)) ∧
    (∀ id, (lk (partsAL (l.take k)) id).isSome = true ↔ ∃ j, j < k ∧ (l.getD j default).id = id) ∧
    (∀ id q, lk (partsAL (l.take k)) id = some q → ∃ j, j < k ∧ l.getD j default = q ∧ q.id = id)
  | 0, _ => by
    refine ⟨⟨by simp [partsAL], by simp [partsAL]⟩, fun id => ?_, fun id q h => ?_⟩
    · simp [partsAL, lk]
    · simp [partsAL, lk] at h
  | k + 1, hk => by
    obtain ⟨⟨a1, a2⟩, b, c⟩ := partsAL_facts l k (by omega)
    rw [partsAL_succ l k (by omega)]
    have hmem : (l.getD k default).id ∈ (l.take k).map (·.id) ↔ (lk (partsAL (l.take k)) (l.getD k default).id).isSome = true := by
      rw [b, mem_take (fun p : Part => p.id) (by omega)]
    refine ⟨⟨?_, ?_⟩, fun id => ?_, fun id q h => ?_⟩
    · rw [ins_len]; split <;> omega
    · rw [ins_len, nodup_succ (fun p : Part => p.id) l k (by omega)]
      split
      · rename_i h
        constructor
        · intro e; omega
        · rintro ⟨_, h2⟩; exact absurd (hmem.2 h) h2
      · rename_i h
        rw [← a2]
        constructor
        · intro e; exact ⟨by omega, fun h2 => h (hmem.1 h2)⟩
        · rintro ⟨e, _⟩; omega
    · rw [lk_ins']
      by_cases e : (l.getD k default).id = id
      · rw [if_pos e]
        exact ⟨fun _ => ⟨k, by omega, e⟩, fun _ => rfl⟩
      · rw [if_neg e, b]
        constructor
        · rintro ⟨j, h1, h2⟩; exact ⟨j, by omega, h2⟩
        · rintro ⟨j, h1, h2⟩
          rcases Nat.lt_or_ge j k with h3 | h3
          · exact ⟨j, h3, h2⟩
          · have : j = k := by omega
            subst this; exact absurd h2 e
    · rw [lk_ins'] at h
      split at h
      · rename_i e
        simp only [Option.some.injEq] at h; subst h
        exact ⟨k, by omega, rfl, e⟩
      · obtain ⟨j, h1, h2⟩ := c id q h
        exact ⟨j, by omega, h2⟩
theorem take_all {α : Type} (l : List α) : l.take l.length = l := List.take_length
theorem partsAL_nodup (l : List Part) : (partsAL l).length = l.length ↔ (l.map (·.id)).Nodup := by
  have := (partsAL_facts l l.length (Nat.le_refl _)).1.2
  rwa [take_all] at this
theorem lk_parts {l : List Part} (hn : (l.map (·.id)).Nodup) (id : Int) (q : Part) : lk (partsAL l) id = some q ↔ q ∈ l ∧ q.id = id := by
  obtain ⟨_, b, c⟩ := partsAL_facts l l.length (Nat.le_refl _)
  rw [take_all] at b c
  constructor
  · intro h
    obtain ⟨j, h1, h2, h3⟩ := c id q h
    exact ⟨by rw [← h2, getD_lt h1]; exact List.getElem_mem h1, h3⟩
  · rintro ⟨h1, h2⟩
    obtain ⟨i, hi, rfl⟩ := List.mem_iff_getElem.1 h1
    have h3 := (b id).2 ⟨i, hi, by rw [getD_lt hi]; exact h2⟩
    cases h4 : lk (partsAL l) id with
    | none => rw [h4] at h3; cases h3
    | some q =>
      obtain ⟨j, h5, h6, h7⟩ := c id q h4
      have : j = i := nodup_at (fun p : Part => p.id) hn h5 hi (by rw [h6, h7, getD_lt hi, h2])
      subst this
      rw [← h6, getD_lt hi]
theorem partAt_lk {l : List Part} (hn : (l.map (·.id)).Nodup) (id : Int) : (lk (partsAL l) id = none ∧ partAt l id = -1) ∨ ∃ j : Nat, lk (partsAL l) id = some (l.getD j default) ∧ partAt l id = j ∧ j < l.length ∧ (l.getD j default).id = id := by
  rcases partAt_in l id with ⟨h1, h2⟩ | ⟨j, h1, h2, h3, h4⟩
  · left
    refine ⟨?_, h1⟩
    cases h : lk (partsAL l) id with
    | none => rfl
    | some q =>
      obtain ⟨h5, h6⟩ := (lk_parts hn id q).1 h
      exact absurd h6 (h2 q h5)
  · right
    refine ⟨j, (lk_parts hn id _).2 ⟨by rw [getD_lt h2]; exact List.getElem_mem h2, h3⟩, h1, h2, h3⟩
theorem partAt_self {l : List Part} (hn : (l.map (·.id)).Nodup) {i : Nat} (hi : i < l.length) : partAt l (l.getD i default).id = i := by
  rcases partAt_in l (l.getD i default).id with ⟨h1, h2⟩ | ⟨j, h1, h2, h3, h4⟩
  · exact absurd rfl (h2 _ (by rw [getD_lt hi]; exact List.getElem_mem hi))
  · have := nodup_at (fun p : Part => p.id) hn h2 hi h3
    rw [h1, this]
theorem nodup_partAt {l : List Part} (h : ∀ i, i < l.length → partAt l (l.getD i default).id = i) : (l.map (·.id)).Nodup := by
  rw [List.Nodup, List.pairwise_map, List.pairwise_iff_getElem]
  intro i j hi hj hij e
  have h1 := h j hj
  rcases partAt_in l (l.getD j default).id with ⟨h2, _⟩ | ⟨k, h2, h3, h4, h5⟩
  · omega
  · have : k = j := by omega
    subst this
    exact h5 i hij (by rw [getD_lt hi, getD_lt hj, e])
theorem findI_none {α : Type} [Inhabited α] {p : α → Bool} {l : List α} : (!decide (findI p l ≥ 0)) = (List.range l.length).all fun i => !p (l.getD i default) := by
  by_cases h : findI p l ≥ 0
  · obtain ⟨k, _, h2, h3, _⟩ := findI_lt h
    rw [decide_eq_true h, allR_no h2 (by rw [h3]; rfl)]; rfl
  · rw [decide_eq_false h]
    symm
    refine allR_yes fun j hj => ?_
    have h2 := findI_neg.1 (show findI p l < 0 by omega)
    unfold findI at h2
    split at h2
    · omega
    · rename_i h3
      rw [List.findIdx?_eq_none_iff] at h3
      have := h3 (l.getD j default) (by rw [getD_lt hj]; exact List.getElem_mem hj)
      rw [this]; rfl
theorem all_range {α : Type} [Inhabited α] (p : α → Bool) (l : List α) : l.all p = (List.range l.length).all fun i => p (l.getD i default) := by
  rw [Bool.eq_iff_iff, List.all_eq_true, List.all_eq_true]
  constructor
  · intro h i hi
    have := List.mem_range.1 hi
    exact h _ (by rw [getD_lt this]; exact List.getElem_mem this)
  · intro h x hx
    obtain ⟨i, hi, rfl⟩ := List.mem_iff_getElem.1 hx
    have := h i (List.mem_range.2 hi)
    rwa [getD_lt hi] at this
theorem partsX_ok (l : List Part) : partsX l = partsOk l := by
  unfold partsX partsOk
  rw [findI_none, all_range partOk l]
  cases inB (l.length : Int) 1 60 with
  | false => rfl
  | true =>
    simp only [Bool.true_and]
    by_cases hn : (l.map (·.id)).Nodup
    · have e : (((partsAL l).length : Int) == (l.length : Int)) = true := by rw [(partsAL_nodup l).2 hn]; simp
      rw [e, Bool.true_and, Bool.eq_iff_iff, Bool.and_eq_true, List.all_eq_true, List.all_eq_true, List.all_eq_true, ← forall_and]
      refine forall_congr' fun i => ?_
      rw [← forall_and]
      refine forall_congr' fun hi => ?_
      have hi := List.mem_range.1 hi
      unfold partX lost
      rw [partAt_self hn hi]
      have e2 : ((l.getD i default).of_ == 0 || (decide (0 ≤ partAt l (l.getD i default).of_) && (l.getD (partAt l (l.getD i default).of_).toNat default).of_ == 0)) =
          !((l.getD i default).of_ != 0 && (!(lk (partsAL l) (l.getD i default).of_).isSome || ((lk (partsAL l) (l.getD i default).of_).getD default).of_ != 0)) := by
        rcases partAt_lk hn (l.getD i default).of_ with ⟨h1, h2⟩ | ⟨j, h1, h2, h3, h4⟩
        · rw [h1, h2]; unfold bne; cases ((l.getD i default).of_ == 0) <;> rfl
        · rw [h1, h2]
          have e3 : decide ((0 : Int) ≤ (j : Int)) = true := decide_eq_true (Int.natCast_nonneg j)
          rw [e3]
          simp only [Int.toNat_natCast, Option.isSome_some, Option.getD_some]
          unfold bne
          cases ((l.getD i default).of_ == 0) <;> cases ((l.getD j default).of_ == 0) <;> rfl
      rw [← e2]
      simp
    · have e : (((partsAL l).length : Int) == (l.length : Int)) = false := by
        have := mt (partsAL_nodup l).1 hn
        simp; omega
      rw [e, Bool.false_and, Bool.and_false]
      cases hx : (List.range l.length).all (partX l) with
      | false => rfl
      | true =>
        exfalso
        refine hn (nodup_partAt fun i hi => ?_)
        have h1 := List.all_eq_true.1 hx i (List.mem_range.2 hi)
        unfold partX at h1
        simp only [Bool.and_eq_true, beq_iff_eq] at h1
        exact h1.1.2
theorem partsOk_nodup {l : List Part} (h : partsOk l = true) : (l.map (·.id)).Nodup := by
  unfold partsOk at h
  simp only [Bool.and_eq_true, beq_iff_eq] at h
  exact (partsAL_nodup l).1 (by omega)
theorem partsOk_all {l : List Part} (h : partsOk l = true) : ∀ p ∈ l, partOk p = true := by
  unfold partsOk at h
  simp only [Bool.and_eq_true, List.all_eq_true] at h
  exact h.1.2
/-- The part with its own notes, in the map or by the search. -/
theorem own_lk {l : List Part} (hn : (l.map (·.id)).Nodup) (n : Note) : (lk (ownAL l) n.part = none ∧ ownX l n = -1) ∨ ∃ j : Nat, lk (ownAL l) n.part = some (l.getD j default) ∧ ownX l n = j ∧ partAt l n.part = j ∧ j < l.length ∧ (l.getD j default).id = n.part ∧ (l.getD j default).of_ = 0 := by
  have hf : (((l.filter fun p => p.of_ == 0)).map (·.id)).Nodup := hn.sublist (List.filter_sublist.map _)
  have key : ∀ q, lk (ownAL l) n.part = some q ↔ (q ∈ l ∧ q.of_ = 0) ∧ q.id = n.part := fun q => by
    unfold ownAL; rw [lk_parts hf]; simp
  have none_of : (∀ q, q ∈ l → q.of_ = 0 → q.id ≠ n.part) → lk (ownAL l) n.part = none := fun h => by
    cases h2 : lk (ownAL l) n.part with
    | none => rfl
    | some q => obtain ⟨⟨h3, h4⟩, h5⟩ := (key q).1 h2; exact absurd h5 (h q h3 h4)
  unfold ownX
  rcases partAt_in l n.part with ⟨h1, h2⟩ | ⟨j, h1, h2, h3, h4⟩
  · left
    rw [h1]
    exact ⟨none_of fun q h3 _ => h2 q h3, rfl⟩
  · rw [h1, if_neg (by omega), Int.toNat_natCast]
    by_cases h5 : (l.getD j default).of_ = 0
    · right
      refine ⟨j, (key _).2 ⟨⟨by rw [getD_lt h2]; exact List.getElem_mem h2, h5⟩, h3⟩, ?_, rfl, h2, h3, h5⟩
      rw [if_neg (by simp only [bne_iff_ne, ne_eq]; exact fun h => h h5)]
    · left
      rw [if_pos (by simpa using h5)]
      refine ⟨none_of fun q h6 h7 h8 => ?_, rfl⟩
      obtain ⟨i, hi, rfl⟩ := List.mem_iff_getElem.1 h6
      have : i = j := nodup_at (fun p : Part => p.id) hn hi h2 (by rw [getD_lt hi, h8, h3])
      subst this
      rw [getD_lt hi] at h5; exact h5 h7
end Go.Proofs.YtnmdmmfdnnmdfaaDoor
