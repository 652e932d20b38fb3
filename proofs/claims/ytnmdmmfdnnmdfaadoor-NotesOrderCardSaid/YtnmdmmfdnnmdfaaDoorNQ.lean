/- Plain facts: the notes of a part in a bar, their spans, what is between them. No statement is proved here. -/
import Derived.Test.YtnmdmmfdnnmdfaaDoorNC
import Derived.Test.YtnmdmmfdnnmdfaaDoorND
import Derived.Test.YtnmdmmfdnnmdfaaDoorSB
set_option linter.unusedVariables false
set_option linter.unusedSimpArgs false
namespace Go.Proofs.YtnmdmmfdnnmdfaaDoor.Nt
open Go.Ab Go.Sort

theorem cmpK_start {al : List (Int × Int)} {x y : Note} (h : bef al x y = true) (hb : x.bar = y.bar) (hp : x.part = y.part) : beg x ≤ beg y := by
  rw [bef_iff] at h
  unfold keyN at h
  rw [cmpK_cons, if_pos (by rw [hb]; omega), cmpK_cons, if_pos (by rw [hp]; omega), cmpK_cons] at h
  unfold beg
  split at h
  · omega
  · omega
theorem nodup_filter {l : List Note} (h : (l.map (·.id)).Nodup) (q : Note → Bool) : ((l.filter q).map (·.id)).Nodup := h.sublist ((List.filter_sublist).map _)
/-- How long a bar is. -/
def barW (bars : List Bar) (b : Int) : Int := (ticksR (bars.getD (barAt bars b).toNat default).len).1
theorem bar_top {bars : List Bar} (hb : barsOk bars = true) {b : Bar} (hm : b ∈ bars) : durOk b.len = true ∧ 1 ≤ (ticksR b.len).1 ∧ (ticksR b.len).1 ≤ 40320 := by
  unfold barsOk at hb
  simp only [Bool.and_eq_true, List.all_eq_true] at hb
  have h := hb.1.1.1 b hm
  have hd : durOk b.len = true := by
    unfold barOk barC at h
    simp only [Bool.and_eq_true, Bool.not_eq_true', Bool.or_eq_false_iff, Bool.not_eq_false'] at h
    exact h.2.1.1
  rw [barT] at h
  simp only [Bool.not_eq_true', Bool.or_eq_false_iff, decide_eq_false_iff_not] at h
  have e : ticksX b.len = (ticksR b.len).1 := by unfold ticksX ticksR; rw [if_pos hd, if_pos hd]
  rw [e] at h
  exact ⟨hd, by omega, by omega⟩
theorem lk_some {bars : List Bar} (hb : barsOk bars = true) {b : Int} (h : (lk (idxAL bars) b).isSome = true) : ∃ j : Nat, lk (idxAL bars) b = some (j : Int) ∧ barAt bars b = j ∧ j < bars.length ∧ (bars.getD j default).id = b := by
  rcases lk_bar (barsOk_nodup hb) b with ⟨h1, _⟩ | h2
  · rw [h1] at h; cases h
  · exact h2
theorem notesOk_bars {bars : List Bar} {l : List Note} (h : notesOk bars l = true) : barsOk bars = true ∧ ∀ n ∈ l, noteOk bars n = true := by
  unfold notesOk at h
  simp only [Bool.and_eq_true, List.all_eq_true] at h
  exact ⟨h.1.1.1, h.1.2⟩
/-- A note fits into its bar. -/
theorem note_iv {bars : List Bar} {n : Note} (hb : barsOk bars = true) (h : noteOk bars n = true) : 0 ≤ (iv n).1 ∧ (iv n).1 < (iv n).2 ∧ (iv n).2 ≤ barW bars n.bar := by
  have q1 := ticksR_in n.start
  unfold noteOk at h
  split at h
  · rename_i i hi
    obtain ⟨j, h1, h2, h3, h4⟩ := lk_some hb (b := n.bar) (by rw [hi]; rfl)
    rw [h1] at hi; simp at hi; subst hi
    unfold nformed fits at h
    simp only [Bool.and_eq_true, decide_eq_true_eq] at h
    have a1 := h.1.1.2
    have a2 := h.1.2
    unfold iv beg barW
    rw [h2, Int.toNat_natCast]
    rw [Int.toNat_natCast] at a2
    exact ⟨q1.1, by show _ < _ + _; omega, a2⟩
  · cases h
/-- The spans of a part in a bar. -/
structure OwnF (bars : List Bar) (b : Int) (o : List Note) : Prop where
  rise : Rising (o.map iv)
  iv : ∀ x ∈ o.map iv, 0 ≤ x.1 ∧ x.1 < x.2
  top : ∀ x ∈ o.map Nt.iv, x.2 ≤ barW bars b
  dur : ∀ n ∈ o, durOk n.start = true ∧ durOk n.len = true
theorem own_facts {bars : List Bar} {l : List Note} (h : notesOk bars l = true) (p b : Int) : OwnF bars b (sortN (idxAL bars) (l.filter (isOf p b))) := by
  obtain ⟨hb, hn⟩ := notesOk_bars h
  have hp := sortN_perm (idxAL bars) (l.filter (isOf p b))
  have hin : ∀ n ∈ l.filter (isOf p b), noteIn n := fun n hn' => notesOk_in h n (List.mem_filter.1 hn').1
  have hord := sortN_ord (al := idxAL bars) hin (nodup_filter (notesOk_nodup h) _)
  have hm : ∀ n ∈ sortN (idxAL bars) (l.filter (isOf p b)), noteOk bars n = true ∧ n.part = p ∧ n.bar = b ∧ n ∈ l := fun n hn' => by
    have h1 := List.mem_filter.1 (hp.mem_iff.1 hn')
    have h2 := h1.2
    unfold isOf at h2
    simp only [Bool.and_eq_true, beq_iff_eq] at h2
    exact ⟨hn n h1.1, h2.1, h2.2, h1.1⟩
  refine ⟨?_, fun x hx => ?_, fun x hx => ?_, fun n hn' => ?_⟩
  · unfold Rising
    rw [List.pairwise_map]
    refine hord.imp_of_mem fun {x y} hx hy hxy => ?_
    have a1 := hm x hx
    have a2 := hm y hy
    exact cmpK_start hxy (by rw [a1.2.2.1, a2.2.2.1]) (by rw [a1.2.1, a2.2.1])
  · obtain ⟨n, hn', rfl⟩ := List.mem_map.1 hx
    have := note_iv hb (hm n hn').1
    exact ⟨this.1, this.2.1⟩
  · obtain ⟨n, hn', rfl⟩ := List.mem_map.1 hx
    have := note_iv hb (hm n hn').1
    rw [(hm n hn').2.2.1] at this
    exact this.2.2
  · obtain ⟨hbo, hno⟩ := notesOk_bars h
    have h1 := (hm n hn').1
    unfold noteOk at h1
    split at h1
    · unfold nformed fits at h1
      simp only [Bool.and_eq_true] at h1
      have a := h1.1.1.1.1
      have b := h1.1.1.1.2
      unfold ticksR at a b
      constructor
      · by_cases h2 : durOk n.start = true
        · exact h2
        · rw [if_neg h2] at a; cases a
      · by_cases h2 : durOk n.len = true
        · exact h2
        · rw [if_neg h2] at b; cases b
    · cases h1
theorem OwnF.ord {bars : List Bar} {b : Int} {o : List Note} (h : OwnF bars b o) : Ord o := by
  intro i j hij hj
  rcases Nat.lt_or_ge i j with h1 | h1
  · have := List.pairwise_iff_getElem.1 h.rise i j (by simp; omega) (by simpa using hj) h1
    simp only [List.getElem_map] at this
    rw [getD_lt (by omega), getD_lt hj]; exact this
  · have : i = j := by omega
    subst this; exact Int.le_refl _
theorem OwnF.spans {bars : List Bar} {b : Int} {o : List Note} (h : OwnF bars b o) : spansR (o.map Nt.iv) = spansP (o.map Nt.iv) := spans_same h.iv
theorem OwnF.canon {bars : List Bar} {b : Int} {o : List Note} (h : OwnF bars b o) : Canon (-1) (spansP (o.map Nt.iv)) ∧ ∀ t, cov (spansP (o.map Nt.iv)) t = cov (o.map Nt.iv) t := spansP_spec h.rise h.iv
theorem OwnF.bound {bars : List Bar} {b : Int} {o : List Note} (h : OwnF bars b o) (hw : 0 ≤ barW bars b) : ∀ x ∈ spansP (o.map Nt.iv), 0 ≤ x.1 ∧ x.1 < x.2 ∧ x.2 ≤ barW bars b := fun x hx => by
  have h1 := h.canon.1.low x hx
  refine ⟨by omega, h1.2, ?_⟩
  exact goP_top _ _ _ _ (by omega) (fun y hy => ⟨by have := h.iv y hy; have := h.top y hy; omega, h.top y hy⟩) x hx
/-- One step of what is between spans. -/
def gapStep (r : List Iv × Int) (x : Iv) : List Iv × Int := (if r.2 < x.1 then r.1 ++ [(r.2, x.1)] else r.1, x.2)
theorem gaps_fold : ∀ (xs : List Iv) (out : List Iv) (last W : Int), (xs.foldl gapStep (out, last)).1 ++ (if (xs.foldl gapStep (out, last)).2 < W then [((xs.foldl gapStep (out, last)).2, W)] else []) = out ++ gaps last W xs
  | [], out, last, W => by rw [gaps]; rfl
  | x :: r, out, last, W => by
    rw [List.foldl_cons]
    unfold gapStep
    dsimp only
    rw [gaps]
    by_cases h : last < x.1
    · rw [if_pos h, if_pos h]
      have := gaps_fold r (out ++ [(last, x.1)]) x.2 W
      unfold gapStep at this
      rw [this]; simp
    · rw [if_neg h, if_neg h]
      have := gaps_fold r out x.2 W
      unfold gapStep at this
      exact this
/-- When a part plays in a bar, and the error. -/
def busyR (bars : List Bar) (l : List Note) (p b : Int) : List Iv × Int := (spansP ((ofR bars l p b).1.map iv), (ofR bars l p b).2)
/-- When it rests. -/
def restsR (bars : List Bar) (l : List Note) (p b : Int) : List Iv × Int := if (ofR bars l p b).2 = 0 then (gaps 0 (barW bars b) (spansP ((ofR bars l p b).1.map iv)), 0) else ([], (ofR bars l p b).2)
/-- What 'Of' answers where it answers. -/
theorem ofR_ok {bars : List Bar} {l : List Note} {p b : Int} (h : (ofR bars l p b).2 = 0) : notesOk bars l = true ∧ (inB p 1 1000000 = true ∧ inB b 1 1000000 = true) ∧ (∃ j : Nat, lk (idxAL bars) b = some (j : Int) ∧ barAt bars b = j ∧ j < bars.length ∧ (bars.getD j default).id = b) ∧ (ofR bars l p b).1 = sortN (idxAL bars) (l.filter (isOf p b)) ∧ 1 ≤ barW bars b ∧ barW bars b ≤ 40320 := by
  unfold ofR at h ⊢
  by_cases h1 : ((notesOk bars l && inB p 1 1000000) && inB b 1 1000000) = true
  · rw [if_pos h1] at h ⊢
    by_cases h2 : (lk (idxAL bars) b).isSome = true
    · rw [if_pos h2]
      simp only [Bool.and_eq_true] at h1
      have hb := (notesOk_bars h1.1.1).1
      obtain ⟨j, j1, j2, j3, j4⟩ := lk_some hb h2
      have := bar_top hb (b := bars.getD j default) (by rw [getD_lt j3]; exact List.getElem_mem j3)
      refine ⟨h1.1.1, ⟨h1.1.2, h1.2⟩, ⟨j, j1, j2, j3, j4⟩, rfl, ?_, ?_⟩ <;> (unfold barW; rw [j2, Int.toNat_natCast]; omega)
    · rw [if_neg h2] at h; cases h
  · rw [if_neg h1] at h; cases h
theorem ofR_bad {bars : List Bar} {l : List Note} {p b : Int} (h : (ofR bars l p b).2 ≠ 0) : (ofR bars l p b).1 = [] := by
  unfold ofR at h ⊢
  split
  · rename_i h1
    rw [if_pos h1] at h
    split
    · rename_i h2; rw [if_pos h2] at h; exact absurd rfl h
    · rfl
  · rfl
theorem ofR_facts {bars : List Bar} {l : List Note} {p b : Int} (h : (ofR bars l p b).2 = 0) : OwnF bars b (ofR bars l p b).1 := by
  obtain ⟨h1, _, _, h2, _⟩ := ofR_ok h
  rw [h2]; exact own_facts h1 p b
theorem ofR_len (bars : List Bar) (l : List Note) (p b : Int) : (ofR bars l p b).1.length ≤ l.length := by
  unfold ofR
  split
  · split
    · show (sortN _ _).length ≤ _
      rw [sortN_len]; exact List.length_filter_le _ _
    · simp
  · simp
theorem goP_len : ∀ (l : List Iv) (f u : Int), (goP f u l).length ≤ l.length + 1
  | [], f, u => by rw [goP]; split <;> simp
  | x :: r, f, u => by
    rw [goP]
    have h1 := goP_len r x.1 (max x.1 x.2)
    have h2 := goP_len r f (max u x.2)
    split
    · split
      · simp; exact h1
      · simp; omega
    · simp; omega
theorem gaps_len : ∀ (l : List Iv) (a W : Int), (gaps a W l).length ≤ l.length + 1
  | [], a, W => by rw [gaps]; split <;> simp
  | x :: r, a, W => by
    rw [gaps]
    have h1 := gaps_len r x.2 W
    split
    · simp; exact h1
    · simp; omega
theorem gapStep_len : ∀ (l : List Iv) (r : List Iv × Int), (l.foldl gapStep r).1.length ≤ r.1.length + l.length
  | [], r => by simp
  | x :: t, r => by
    have := gapStep_len t (gapStep r x)
    have h2 : (gapStep r x).1.length ≤ r.1.length + 1 := by unfold gapStep; dsimp only; split <;> simp
    rw [List.foldl_cons]; simp only [List.length_cons]; omega
end Go.Proofs.YtnmdmmfdnnmdfaaDoor.Nt
