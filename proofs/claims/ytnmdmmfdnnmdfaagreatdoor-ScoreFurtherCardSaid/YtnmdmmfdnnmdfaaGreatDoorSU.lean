/- Scores with other notes, in plain words. No statement is proved here. -/
import Derived.Test.YtnmdmmfdnnmdfaaGreatDoorSK
set_option linter.unusedVariables false
set_option linter.unusedSimpArgs false
namespace Go.Proofs.YtnmdmmfdnnmdfaaGreatDoor
open Go.Ab Go.Sort

theorem findI_ex {α : Type} [Inhabited α] {p : α → Bool} {l : List α} : findI p l ≥ 0 ↔ ∃ x ∈ l, p x = true := by
  constructor
  · intro h
    obtain ⟨k, _, h2, h3, _⟩ := findI_lt h
    exact ⟨_, by rw [getD_lt h2]; exact List.getElem_mem h2, h3⟩
  · rintro ⟨x, hx, hp⟩
    rcases (show findI p l ≥ 0 ∨ findI p l < 0 by omega) with h | h
    · exact h
    · exfalso
      have h2 := findI_neg.1 h
      unfold findI at h2
      split at h2
      · omega
      · rename_i h3
        rw [List.findIdx?_eq_none_iff] at h3
        rw [h3 x hx] at hp; cases hp
theorem notesOk_perm {bars : List Bar} {l m : List Note} (h : l.Perm m) : notesOk bars l = notesOk bars m := by
  unfold notesOk
  have h1 : l.all (noteOk bars) = m.all (noteOk bars) := by
    rw [Bool.eq_iff_iff, List.all_eq_true, List.all_eq_true]
    exact ⟨fun g x hx => g x (h.mem_iff.2 hx), fun g x hx => g x (h.mem_iff.1 hx)⟩
  have h2 : ((l.map (·.id)).Nodup) ↔ ((m.map (·.id)).Nodup) := (h.map _).nodup_iff
  rw [h1, h.length_eq, decide_eq_decide.2 h2]
theorem wrongR_perm {parts : List Part} {l m : List Note} (h : l.Perm m) : wrongR parts l = wrongR parts m := by
  have e : ∀ p : Note → Bool, (findI p l ≥ 0) ↔ (findI p m ≥ 0) := fun p => by
    rw [findI_ex, findI_ex]
    exact ⟨fun ⟨x, h1, h2⟩ => ⟨x, h.mem_iff.1 h1, h2⟩, fun ⟨x, h1, h2⟩ => ⟨x, h.mem_iff.2 h1, h2⟩⟩
  unfold wrongR
  by_cases h1 : findI (stranger (ownAL parts)) l ≥ 0
  · rw [if_pos h1, if_pos ((e _).1 h1)]
  · rw [if_neg h1, if_neg (fun g => h1 ((e _).2 g))]
    by_cases h2 : findI (farN (ownAL parts)) l ≥ 0
    · rw [if_pos h2, if_pos ((e _).1 h2)]
    · rw [if_neg h2, if_neg (fun g => h2 ((e _).2 g))]
theorem sortN_same {bars : List Bar} {l m : List Note} (h : l.Perm m) (hl : notesOk bars l = true) : sortN (idxAL bars) l = sortN (idxAL bars) m := by
  have hm : notesOk bars m = true := by rw [← notesOk_perm h]; exact hl
  exact ord_unique ((sortN_perm _ l).trans (h.trans (sortN_perm _ m).symm)) (sortN_ord (notesOk_in hl) (notesOk_nodup hl)) (sortN_ord (notesOk_in hm) (notesOk_nodup hm))
theorem sortR_ok {bars : List Bar} {l : List Note} (h : notesOk bars l = true) : (sortR bars l).1 = sortN (idxAL bars) l := by unfold sortR; rw [if_pos h]
theorem score_facts {s : Score} (h : scoreOk s = true) : inB s.version 1 1000000 = true ∧ barsOk s.bars = true ∧ partsOk s.parts = true ∧ notesOk s.bars s.notes = true ∧ wrongR s.parts s.notes = 0 ∧ sortN (idxAL s.bars) s.notes = s.notes := by
  have h0 := h
  unfold scoreOk scoreBad at h
  simp only [Bool.and_eq_true, Bool.not_eq_true', Bool.or_eq_false_iff, Bool.not_eq_false', bne_eq_false_iff_eq, beq_iff_eq] at h
  exact ⟨h.1.1.1.1.1, h.1.1.1.1.2, h.1.1.1.2, h.1.1.2, h.1.2, by rw [← sortR_ok h.1.1.2]; exact h.2.2⟩
theorem score_ord {s : Score} (h : scoreOk s = true) : s.notes.Pairwise fun a b => bef (idxAL s.bars) a b = true := by
  obtain ⟨_, _, _, h4, _, h6⟩ := score_facts h
  rw [← h6]; exact sortN_ord (notesOk_in h4) (notesOk_nodup h4)
theorem with_rev {s : Score} (h : scoreOk s = true) {v : Int} (hv : inB v 1 1000000 = true) : withR s v s.notes.reverse = (⟨v, s.bars, s.parts, s.notes⟩, 0) := by
  obtain ⟨_, _, _, h4, h5, h6⟩ := score_facts h
  have hp := List.reverse_perm s.notes
  have hn : notesOk s.bars s.notes.reverse = true := by rw [notesOk_perm hp]; exact h4
  unfold withR
  rw [h, hv, hn, wrongR_perm hp, h5, sortR_ok hn, sortN_same hp hn, h6]; rfl
theorem with_bad {s : Score} {v : Int} {l : List Note} (h : (withR s v l).2 ≠ 0) : (withR s v l).1 = noScore := by
  unfold withR at h ⊢
  split
  · rfl
  · split
    · rfl
    · rename_i h1 h2
      rw [if_neg h1, if_neg h2] at h
      exact absurd rfl h
/-- A score with other notes is valid. -/
theorem with_good {s : Score} {v : Int} {l : List Note} (h : (withR s v l).2 = 0) : scoreOk s = true ∧ inB v 1 1000000 = true ∧ notesOk s.bars l = true ∧ wrongR s.parts l = 0 ∧ withR s v l = (⟨v, s.bars, s.parts, sortN (idxAL s.bars) l⟩, 0) := by
  have h0 := h
  unfold withR at h
  split at h
  · cases h
  · rename_i h1
    simp only [Bool.or_eq_true, not_or, Bool.not_eq_true, Bool.not_eq_false'] at h1
    split at h
    · rename_i h2
      dsimp only at h
      rw [h] at h2; cases h2
    · rename_i h2
      have hw : wrongR s.parts l = 0 := by simpa using h2
      refine ⟨h1.1.1, h1.1.2, h1.2, hw, ?_⟩
      unfold withR
      rw [h1.1.1, h1.1.2, h1.2, hw, sortR_ok h1.2]; rfl
theorem sorted_valid {s : Score} {v : Int} {l : List Note} (hs : scoreOk s = true) (hv : inB v 1 1000000 = true) (hn : notesOk s.bars l = true) (hw : wrongR s.parts l = 0) : scoreOk ⟨v, s.bars, s.parts, sortN (idxAL s.bars) l⟩ = true := by
  obtain ⟨_, h2, h3, _, _, _⟩ := score_facts hs
  have hp := sortN_perm (idxAL s.bars) l
  have hn2 : notesOk s.bars (sortN (idxAL s.bars) l) = true := by rw [notesOk_perm hp]; exact hn
  have hw2 : wrongR s.parts (sortN (idxAL s.bars) l) = 0 := by rw [wrongR_perm hp]; exact hw
  rw [scoreOk_eq]
  unfold scoreX scoreBad
  dsimp only
  rw [hv, h2, h3, hn2, hw2, steps_ord.2 (sortN_ord (notesOk_in hn) (notesOk_nodup hn))]; rfl
theorem noteAt_perm {l m : List Note} (hp : m.Perm l) (hn : (l.map (·.id)).Nodup) {n : Note} (h : n ∈ l) : ∃ j : Nat, noteAt m n.id = j ∧ j < m.length ∧ m.getD j default = n := by
  have hn2 : (m.map (·.id)).Nodup := (hp.map _).nodup_iff.2 hn
  obtain ⟨j, hj, e⟩ := List.mem_iff_getElem.1 (hp.mem_iff.2 h)
  have e2 : m.getD j default = n := by rw [getD_lt hj]; exact e
  refine ⟨j, ?_, hj, e2⟩
  rw [← e2]
  unfold noteAt
  refine findI_at hj (by simp) fun i hi => ?_
  have : (m.getD i default).id ≠ (m.getD j default).id := fun e => by
    have := nodup_at (fun b : Note => b.id) hn2 (show i < m.length by omega) hj e
    omega
  simpa using this
/-- Notes of all parts with their own notes. -/
def manyL (notes : List Note) (l : List Part) : Nat := (l.map fun p => if p.of_ == 0 then (playedL notes p).length else 0).sum
theorem manyL_succ (notes : List Note) {l : List Part} {k : Nat} (h : k < l.length) : manyL notes (l.take (k + 1)) = manyL notes (l.take k) + (if (l.getD k default).of_ == 0 then (playedL notes (l.getD k default)).length else 0) := by
  rw [take_snoc h]; unfold manyL; simp
theorem played_cons (n : Note) (ns : List Note) (p : Part) : (playedL (n :: ns) p).length = (if n.part == srcOf p then 1 else 0) + (playedL ns p).length := by
  unfold playedL
  rw [List.length_map, List.length_map]
  by_cases h : (n.part == srcOf p) = true
  · rw [List.filter_cons_of_pos (by exact h), if_pos h, List.length_cons]; omega
  · rw [List.filter_cons_of_neg (by exact h), if_neg h]; omega
theorem many_one {n : Note} : ∀ {l : List Part}, (l.map (·.id)).Nodup → (∃ p ∈ l, p.of_ = 0 ∧ p.id = n.part) → (l.map fun p => if p.of_ == 0 then (if n.part == srcOf p then 1 else 0) else 0).sum = 1
  | [], _, ⟨p, hp, _⟩ => by cases hp
  | q :: r, hn, ⟨p, hp, h0, hid⟩ => by
    rw [List.map_cons, List.nodup_cons] at hn
    rw [List.map_cons, List.sum_cons]
    have none_of : ∀ (l : List Part), (∀ x ∈ l, x.of_ = 0 → x.id ≠ n.part) → (l.map fun p => if p.of_ == 0 then (if n.part == srcOf p then 1 else 0) else 0).sum = 0 := fun l => by
      induction l with
      | nil => intro _; rfl
      | cons a l ih =>
        intro h
        rw [List.map_cons, List.sum_cons, ih fun x hx => h x (List.mem_cons_of_mem _ hx)]
        by_cases ha : a.of_ = 0
        · have := h a (List.mem_cons_self ..) ha
          have e : srcOf a = a.id := by unfold srcOf; rw [if_pos (by simp [ha])]
          simp [ha, e]; exact fun e => this e.symm
        · simp [ha]
    rcases List.mem_cons.1 hp with rfl | hp
    · have e : srcOf p = p.id := by unfold srcOf; rw [if_pos (by simp [h0])]
      rw [none_of r fun x hx _ e2 => hn.1 (List.mem_map.2 ⟨x, hx, by rw [e2, hid]⟩)]
      simp [h0, e, hid]
    · rw [many_one hn.2 ⟨p, hp, h0, hid⟩]
      have : ¬ (q.id = n.part) := fun e => hn.1 (List.mem_map.2 ⟨p, hp, by rw [hid, e]⟩)
      by_cases hq : q.of_ = 0
      · have e : srcOf q = q.id := by unfold srcOf; rw [if_pos (by simp [hq])]
        simp [hq, e]; exact fun e => this e.symm
      · simp [hq]
theorem many_all {l : List Part} (hn : (l.map (·.id)).Nodup) : ∀ {ns : List Note}, (∀ n ∈ ns, ∃ p ∈ l, p.of_ = 0 ∧ p.id = n.part) → manyL ns l = ns.length
  | [], _ => by
    unfold manyL
    have : (l.map fun p : Part => if p.of_ == 0 then (playedL [] p).length else 0) = l.map fun _ => 0 := List.map_congr_left fun p _ => by simp [playedL]
    rw [this]
    have z : ∀ q : List Part, (q.map fun _ => 0).sum = 0 := fun q => by
      induction q with
      | nil => rfl
      | cons a q ih => rw [List.map_cons, List.sum_cons, ih]
    exact z l
  | n :: ns, h => by
    have ih := many_all hn (ns := ns) fun x hx => h x (List.mem_cons_of_mem _ hx)
    have h1 := many_one hn (h n (List.mem_cons_self ..))
    unfold manyL at ih ⊢
    have : ∀ (q : List Part), (q.map fun p => if p.of_ == 0 then (playedL (n :: ns) p).length else 0).sum = (q.map fun p => if p.of_ == 0 then (if n.part == srcOf p then 1 else 0) else 0).sum + (q.map fun p => if p.of_ == 0 then (playedL ns p).length else 0).sum := fun q => by
      induction q with
      | nil => rfl
      | cons a q ih2 =>
        rw [List.map_cons, List.sum_cons, List.map_cons, List.sum_cons, List.map_cons, List.sum_cons, ih2, played_cons]
        by_cases ha : (a.of_ == 0) = true
        · simp only [if_pos ha]; omega
        · simp only [if_neg ha]; omega
    rw [this, h1, ih, List.length_cons]; omega
theorem score_own {s : Score} (h : scoreOk s = true) : ∀ n ∈ s.notes, ∃ p ∈ s.parts, p.of_ = 0 ∧ p.id = n.part := fun n hn => by
  obtain ⟨_, _, h3, _, h5, _⟩ := score_facts h
  have hs : ¬ findI (stranger (ownAL s.parts)) s.notes ≥ 0 := fun g => by
    unfold wrongR at h5; rw [if_pos g] at h5; cases h5
  rcases own_lk (partsOk_nodup h3) n with ⟨h1, _⟩ | ⟨j, _, _, _, h2, h4, h6⟩
  · exfalso
    refine hs (findI_ex.2 ⟨n, hn, ?_⟩)
    unfold stranger; rw [h1]; rfl
  · exact ⟨_, by rw [getD_lt h2]; exact List.getElem_mem h2, h6, h4⟩
/-- The notes of a part in a score with a further note: the same, if it is another part's. -/
theorem further_other {al : List (Int × Int)} {l T : List Note} {n : Note} {p : Part} (hT : T.Perm (l ++ [n])) (hl : l.Pairwise fun a b => bef al a b = true) (ho : T.Pairwise fun a b => bef al a b = true) (h : n.part ≠ srcOf p) : playedL l p = playedL T p := by
  unfold playedL
  congr 1
  refine ord_unique (al := al) ?_ (hl.filter _) (ho.filter _)
  refine ((hT.filter _).trans ?_).symm
  rw [List.filter_append, List.filter_cons_of_neg (by simpa using h)]
  simp
/-- .. and else the same with the note in between. -/
theorem further_own {al : List (Int × Int)} {l T : List Note} {n : Note} {p : Part} (hT : T.Perm (l ++ [n])) (hl : l.Pairwise fun a b => bef al a b = true) (ho : T.Pairwise fun a b => bef al a b = true) (hn : ((l ++ [n]).map (·.id)).Nodup) (h : n.part = srcOf p) :
    ∃ k : Nat, noteAt (playedL T p) n.id = k ∧ k < (playedL T p).length ∧ (playedL T p).length = (playedL l p).length + 1 ∧ (playedL T p).take k ++ (playedL T p).drop (k + 1) = playedL l p ∧ (playedL T p).getD k default = playN p n := by
  have hf : (T.filter fun x => x.part == srcOf p).Perm ((l.filter fun x => x.part == srcOf p) ++ [n]) := by
    refine (hT.filter _).trans ?_
    rw [List.filter_append, List.filter_cons_of_pos (by simp [h])]; simp
  have hnF : (((l.filter fun x => x.part == srcOf p) ++ [n]).map (·.id)).Nodup := by
    refine hn.sublist (List.Sublist.map _ ?_)
    exact List.Sublist.append List.filter_sublist (List.Sublist.refl _)
  obtain ⟨k, h1, h2, h3⟩ := noteAt_perm hf hnF (n := n) (by simp)
  have hF : (T.filter fun x => x.part == srcOf p).take k ++ (T.filter fun x => x.part == srcOf p).drop (k + 1) = l.filter fun x => x.part == srcOf p := by
    have e : T.filter (fun x => x.part == srcOf p) = (T.filter fun x => x.part == srcOf p).take k ++ (n :: (T.filter fun x => x.part == srcOf p).drop (k + 1)) := by
      rw [← h3, getD_lt h2, ← List.drop_eq_getElem_cons h2, List.take_append_drop]
    have hp2 : ((T.filter fun x => x.part == srcOf p).take k ++ (T.filter fun x => x.part == srcOf p).drop (k + 1)).Perm (l.filter fun x => x.part == srcOf p) := by
      have h5 := hf
      rw [e] at h5
      have h6 := List.perm_middle.symm.trans (h5.trans (List.perm_append_singleton n _))
      exact List.Perm.cons_inv h6
    refine ord_unique (al := al) hp2 ?_ (hl.filter _)
    have h7 := ho.filter (fun x => x.part == srcOf p)
    refine List.Pairwise.sublist ?_ h7
    conv => rhs; rw [e]
    exact List.Sublist.append (List.Sublist.refl _) (List.sublist_cons_self _ _)
  have hnoteAt : noteAt (playedL T p) n.id = noteAt (T.filter fun x => x.part == srcOf p) n.id := by
    unfold noteAt findI playedL
    rw [List.findIdx?_map]; rfl
  have hlen : (playedL T p).length = (T.filter fun x => x.part == srcOf p).length := by unfold playedL; simp
  refine ⟨k, hnoteAt.trans h1, by omega, ?_, ?_, ?_⟩
  · rw [hlen, hf.length_eq]; unfold playedL; simp
  · unfold playedL
    rw [← List.map_take, ← List.map_drop, ← List.map_append, hF]
  · unfold playedL
    rw [getD_lt (by simpa using h2), List.getElem_map]
    rw [getD_lt h2] at h3; rw [h3]
end Go.Proofs.YtnmdmmfdnnmdfaaGreatDoor
