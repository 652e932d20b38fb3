/- Spans in plain words: what two ways of joining intervals give, what they cover, gaps. No statement is proved here. -/
import Derived.Test.YtnmdmmfdnnmdfaaDoorSP
set_option linter.unusedVariables false
set_option linter.unusedSimpArgs false
namespace Go.Proofs.YtnmdmmfdnnmdfaaDoor.Nt
open Go.Ab Go.Sort

abbrev Iv := Int × Int
/-- The spans of intervals, in order of where they begin, as the program finds them. -/
def goP (f u : Int) : List Iv → List Iv
  | [] => if f < u then [(f, u)] else []
  | x :: r => if u < x.1 then (if f < u then (f, u) :: goP x.1 (max x.1 x.2) r else goP x.1 (max x.1 x.2) r) else goP f (max u x.2) r
def spansP (l : List Iv) : List Iv := goP 0 (-1) l
/-- As the reference does. -/
def addR (out : List Iv) (x : Iv) : List Iv := match out.getLast? with
  | some s => if x.1 ≤ s.2 then out.dropLast ++ [(s.1, max s.2 x.2)] else out ++ [x]
  | none => [x]
def spansR (l : List Iv) : List Iv := l.foldl addR []
theorem addR_nil (x : Iv) : addR [] x = [x] := rfl
theorem addR_snoc (init : List Iv) (s x : Iv) : addR (init ++ [s]) x = if x.1 ≤ s.2 then init ++ [(s.1, max s.2 x.2)] else (init ++ [s]) ++ [x] := by
  simp [addR]
theorem addR_go : ∀ (l init : List Iv) (f u : Int), f < u → (∀ x ∈ l, x.1 < x.2) → l.foldl addR (init ++ [(f, u)]) = init ++ goP f u l
  | [], init, f, u, h, _ => by simp [goP, h]
  | x :: r, init, f, u, h, hx => by
    have h1 := hx x (List.mem_cons_self ..)
    have h2 : ∀ y ∈ r, y.1 < y.2 := fun y hy => hx y (List.mem_cons_of_mem _ hy)
    rw [List.foldl_cons, addR_snoc, goP]
    by_cases hc : u < x.1
    · rw [if_neg (by show ¬ x.1 ≤ u; omega), if_pos hc, if_pos h]
      have e : max x.1 x.2 = x.2 := by omega
      rw [e]
      have := addR_go r (init ++ [(f, u)]) x.1 x.2 h1 h2
      rw [this]; simp
    · rw [if_pos (by show x.1 ≤ u; omega), if_neg hc]
      exact addR_go r init f (max u x.2) (by omega) h2
theorem spans_same {l : List Iv} (h : ∀ x ∈ l, 0 ≤ x.1 ∧ x.1 < x.2) : spansR l = spansP l := by
  cases l with
  | nil => rfl
  | cons x r =>
    have h1 := h x (List.mem_cons_self ..)
    unfold spansR spansP
    rw [List.foldl_cons, addR_nil, goP, if_pos (by omega), if_neg (by omega)]
    have := addR_go r [] x.1 x.2 h1.2 (fun y hy => (h y (List.mem_cons_of_mem _ hy)).2)
    rw [List.nil_append] at this
    have e : max x.1 x.2 = x.2 := by omega
    rw [e]; exact this
/-- A moment is in one of the intervals. -/
def cov (l : List Iv) (t : Int) : Bool := l.any fun x => decide (x.1 ≤ t) && decide (t < x.2)
theorem cov_iff {l : List Iv} {t : Int} : cov l t = true ↔ ∃ x ∈ l, x.1 ≤ t ∧ t < x.2 := by
  simp [cov, List.any_eq_true]
theorem cov_no {l : List Iv} {t : Int} : cov l t = false ↔ ∀ x ∈ l, ¬ (x.1 ≤ t ∧ t < x.2) := by
  rw [← Bool.not_eq_true, cov_iff]; simp
theorem cov_cons (x : Iv) (l : List Iv) (t : Int) : cov (x :: l) t = ((decide (x.1 ≤ t) && decide (t < x.2)) || cov l t) := rfl
theorem cov_perm {l m : List Iv} (h : l.Perm m) (t : Int) : cov l t = cov m t := by
  rw [Bool.eq_iff_iff, cov_iff, cov_iff]
  exact ⟨fun ⟨x, hx, h1⟩ => ⟨x, h.mem_iff.1 hx, h1⟩, fun ⟨x, hx, h1⟩ => ⟨x, h.mem_iff.2 hx, h1⟩⟩
/-- Intervals that are not empty, rise, and do not touch. -/
def Canon : Int → List Iv → Prop
  | _, [] => True
  | lo, x :: r => lo < x.1 ∧ x.1 < x.2 ∧ Canon x.2 r
theorem Canon.mono {lo lo' : Int} : ∀ {l : List Iv}, Canon lo l → lo' ≤ lo → Canon lo' l
  | [], _, _ => True.intro
  | _ :: _, h, hl => ⟨by have := h.1; omega, h.2⟩
theorem Canon.low {lo : Int} : ∀ {l : List Iv}, Canon lo l → ∀ x ∈ l, lo < x.1 ∧ x.1 < x.2
  | [], _, _, h => by cases h
  | y :: r, h, x, hx => by
    rcases List.mem_cons.1 hx with rfl | hx
    · exact ⟨h.1, h.2.1⟩
    · have := Canon.low h.2.2 x hx
      have := h.1; have := h.2.1; omega
theorem Canon.cov_low {lo t : Int} {l : List Iv} (h : Canon lo l) (ht : t ≤ lo) : cov l t = false := by
  rw [cov_no]; intro x hx h1
  have := h.low x hx; omega
/-- What is covered says what the intervals are. -/
theorem canon_unique : ∀ {lo : Int} {l m : List Iv}, Canon lo l → Canon lo m → (∀ t, cov l t = cov m t) → l = m
  | _, [], [], _, _, _ => rfl
  | _, [], y :: m, _, h, he => by
    have := he y.1
    rw [cov_cons, decide_eq_true (Int.le_refl _), decide_eq_true h.2.1] at this
    simp [cov] at this
  | _, x :: l, [], h, _, he => by
    have := he x.1
    rw [cov_cons, decide_eq_true (Int.le_refl _), decide_eq_true h.2.1] at this
    simp [cov] at this
  | lo, x :: l, y :: m, hx, hy, he => by
    have beg : ∀ {a b : Iv} {p q : List Iv}, Canon lo (a :: p) → Canon lo (b :: q) → (∀ t, cov (a :: p) t = cov (b :: q) t) → ¬ a.1 < b.1 := fun {a b p q} ha hb hab hlt => by
      have h1 : cov (a :: p) a.1 = true := cov_iff.2 ⟨a, List.mem_cons_self .., Int.le_refl _, ha.2.1⟩
      rw [hab] at h1
      obtain ⟨z, hz, h2, h3⟩ := cov_iff.1 h1
      rcases List.mem_cons.1 hz with rfl | hz
      · omega
      · have := Canon.low hb.2.2 z hz
        have := hb.2.1; omega
    have e1 : x.1 = y.1 := by
      have := beg hx hy he
      have := beg hy hx (fun t => (he t).symm)
      omega
    have fin : ∀ {a b : Iv} {p q : List Iv}, Canon lo (a :: p) → Canon lo (b :: q) → a.1 = b.1 → (∀ t, cov (a :: p) t = cov (b :: q) t) → ¬ a.2 < b.2 := fun {a b p q} ha hb heq hab hlt => by
      have h1 : cov (b :: q) a.2 = true := cov_iff.2 ⟨b, List.mem_cons_self .., by have := ha.2.1; omega, hlt⟩
      rw [← hab, cov_cons, Canon.cov_low ha.2.2 (Int.le_refl _)] at h1
      simp at h1
    have e2 : x.2 = y.2 := by
      have := fin hx hy e1 he
      have := fin hy hx e1.symm (fun t => (he t).symm)
      omega
    have e3 : l = m := by
      refine canon_unique (lo := x.2) hx.2.2 (by rw [e2]; exact hy.2.2) fun t => ?_
      rcases Int.lt_or_le x.2 t with h | h
      · have := he t
        rw [cov_cons, cov_cons, decide_eq_false (show ¬ t < x.2 by omega), decide_eq_false (show ¬ t < y.2 by omega)] at this
        simpa using this
      · rw [Canon.cov_low hx.2.2 h, Canon.cov_low hy.2.2 (by omega)]
    rw [e3, show x = y from Prod.ext e1 e2]
/-- In order of where they begin. -/
def Rising (l : List Iv) : Prop := l.Pairwise fun x y => x.1 ≤ y.1
theorem goP_spec : ∀ (l : List Iv) (f u lo : Int), f < u → lo < f → Rising l → (∀ x ∈ l, f ≤ x.1 ∧ x.1 < x.2) → Canon lo (goP f u l) ∧ ∀ t, cov (goP f u l) t = ((decide (f ≤ t) && decide (t < u)) || cov l t)
  | [], f, u, lo, h, hl, _, _ => by
    rw [goP, if_pos h]
    exact ⟨⟨hl, h, True.intro⟩, fun t => by simp [cov]⟩
  | x :: r, f, u, lo, h, hl, hr, hx => by
    have h1 := hx x (List.mem_cons_self ..)
    have hr2 := List.pairwise_cons.1 hr
    rw [goP]
    by_cases hc : u < x.1
    · rw [if_pos hc, if_pos h]
      have e : max x.1 x.2 = x.2 := by omega
      rw [e]
      obtain ⟨a1, a2⟩ := goP_spec r x.1 x.2 u h1.2 hc hr2.2 (fun y hy => ⟨hr2.1 y hy, (hx y (List.mem_cons_of_mem _ hy)).2⟩)
      exact ⟨⟨hl, h, a1⟩, fun t => by rw [cov_cons, a2, cov_cons]⟩
    · rw [if_neg hc]
      obtain ⟨a1, a2⟩ := goP_spec r f (max u x.2) lo (by omega) hl hr2.2 (fun y hy => hx y (List.mem_cons_of_mem _ hy))
      refine ⟨a1, fun t => ?_⟩
      rw [a2, cov_cons, ← Bool.or_assoc]
      congr 1
      rw [Bool.eq_iff_iff]
      simp only [Bool.and_eq_true, Bool.or_eq_true, decide_eq_true_eq]
      omega
theorem spansP_spec {l : List Iv} (hr : Rising l) (h : ∀ x ∈ l, 0 ≤ x.1 ∧ x.1 < x.2) : Canon (-1) (spansP l) ∧ ∀ t, cov (spansP l) t = cov l t := by
  cases l with
  | nil => exact ⟨True.intro, fun t => rfl⟩
  | cons x r =>
    have h1 := h x (List.mem_cons_self ..)
    have hr2 := List.pairwise_cons.1 hr
    unfold spansP
    rw [goP, if_pos (by omega), if_neg (by omega)]
    have e : max x.1 x.2 = x.2 := by omega
    rw [e]
    obtain ⟨a1, a2⟩ := goP_spec r x.1 x.2 (-1) h1.2 (by omega) hr2.2 (fun y hy => ⟨hr2.1 y hy, (h y (List.mem_cons_of_mem _ hy)).2⟩)
    exact ⟨a1, fun t => by rw [a2, cov_cons]⟩
theorem goP_top : ∀ (l : List Iv) (f u W : Int), u ≤ W → (∀ x ∈ l, x.1 ≤ W ∧ x.2 ≤ W) → ∀ y ∈ goP f u l, y.2 ≤ W
  | [], f, u, W, hu, _, y, hy => by
    rw [goP] at hy
    split at hy
    · rw [List.mem_singleton.1 hy]; exact hu
    · cases hy
  | x :: r, f, u, W, hu, hx, y, hy => by
    have h1 := hx x (List.mem_cons_self ..)
    have h2 : ∀ y ∈ r, y.1 ≤ W ∧ y.2 ≤ W := fun y hy => hx y (List.mem_cons_of_mem _ hy)
    rw [goP] at hy
    split at hy
    · split at hy
      · rcases List.mem_cons.1 hy with rfl | hy
        · exact hu
        · exact goP_top r _ _ W (by omega) h2 y hy
      · exact goP_top r _ _ W (by omega) h2 y hy
    · exact goP_top r _ _ W (by omega) h2 y hy
theorem goP_low : ∀ (l : List Iv) (f u A : Int), A ≤ f → (∀ x ∈ l, A ≤ x.1) → ∀ y ∈ goP f u l, A ≤ y.1
  | [], f, u, A, hu, _, y, hy => by
    rw [goP] at hy
    split at hy
    · rw [List.mem_singleton.1 hy]; exact hu
    · cases hy
  | x :: r, f, u, A, hu, hx, y, hy => by
    have h1 := hx x (List.mem_cons_self ..)
    have h2 : ∀ y ∈ r, A ≤ y.1 := fun y hy => hx y (List.mem_cons_of_mem _ hy)
    rw [goP] at hy
    split at hy
    · split at hy
      · rcases List.mem_cons.1 hy with rfl | hy
        · exact hu
        · exact goP_low r _ _ A h1 h2 y hy
      · exact goP_low r _ _ A h1 h2 y hy
    · exact goP_low r _ _ A hu h2 y hy
/-- What is between spans. -/
def gaps (last whole : Int) : List Iv → List Iv
  | [] => if last < whole then [(last, whole)] else []
  | x :: r => if last < x.1 then (last, x.1) :: gaps x.2 whole r else gaps x.2 whole r
def sumI (l : List Iv) : Int := (l.map fun x => x.2 - x.1).sum
theorem gaps_spec : ∀ (l : List Iv) (last W : Int), Canon (last - 1) l → (∀ x ∈ l, x.2 ≤ W) → last ≤ W → Canon (last - 1) (gaps last W l) ∧ (∀ x ∈ gaps last W l, x.2 ≤ W) ∧ sumI (gaps last W l) + sumI l = W - last ∧
    ∀ t, last ≤ t → t < W → cov (gaps last W l) t = !cov l t
  | [], last, W, _, _, hW => by
    rw [gaps]
    split
    · rename_i h
      refine ⟨⟨by show last - 1 < last; omega, h, True.intro⟩, fun x hx => by rw [List.mem_singleton.1 hx]; exact Int.le_refl _, by simp [sumI], fun t h1 h2 => ?_⟩
      rw [cov_cons, decide_eq_true (show (last, W).1 ≤ t from h1), decide_eq_true (show t < (last, W).2 from h2)]; rfl
    · exact ⟨True.intro, (fun x hx => by cases hx), (by simp [sumI]; omega), (fun t h1 h2 => by omega)⟩
  | x :: r, last, W, hc, hx, hW => by
    have h1 := hx x (List.mem_cons_self ..)
    have c1 := hc.1
    have c2 := hc.2.1
    obtain ⟨a1, a2, a3, a4⟩ := gaps_spec r x.2 W (hc.2.2.mono (by omega)) (fun y hy => hx y (List.mem_cons_of_mem _ hy)) h1
    have hlow : ∀ t, t < x.2 → cov (gaps x.2 W r) t = false := fun t ht => a1.cov_low (by omega)
    have hr : ∀ t, t < x.2 → cov r t = false := fun t ht => hc.2.2.cov_low (by omega)
    rw [gaps]
    split
    · rename_i h
      refine ⟨⟨by show last - 1 < last; omega, h, a1.mono (by show x.1 ≤ _; omega)⟩, fun y hy => ?_, ?_, fun t t1 t2 => ?_⟩
      · rcases List.mem_cons.1 hy with rfl | hy
        · show x.1 ≤ W; omega
        · exact a2 y hy
      · simp only [sumI, List.map_cons, List.sum_cons] at a3 ⊢; omega
      · rw [cov_cons, cov_cons]
        rcases Int.lt_or_le t x.2 with h3 | h3
        · rw [hlow t h3, hr t h3, Bool.or_false, Bool.or_false, Bool.eq_iff_iff]
          simp only [Bool.and_eq_true, Bool.not_eq_true', Bool.and_eq_false_iff, decide_eq_true_eq, decide_eq_false_iff_not]
          omega
        · rw [a4 t h3 t2, decide_eq_false (show ¬ t < (last, x.1).2 by show ¬ t < x.1; omega), decide_eq_false (show ¬ t < x.2 by omega)]; simp
    · rename_i h
      refine ⟨a1.mono (by omega), a2, ?_, fun t t1 t2 => ?_⟩
      · simp only [sumI, List.map_cons, List.sum_cons] at a3 ⊢; omega
      · rw [cov_cons]
        rcases Int.lt_or_le t x.2 with h3 | h3
        · rw [hlow t h3, decide_eq_true (show x.1 ≤ t by omega), decide_eq_true h3]; rfl
        · rw [a4 t h3 t2, decide_eq_false (show ¬ t < x.2 by omega)]; simp
theorem canon_end {lo : Int} : ∀ {l : List Iv}, Canon lo l → ∀ x ∈ l, cov l x.2 = false
  | [], _, _, h => by cases h
  | y :: r, h, x, hx => by
    rw [cov_cons]
    rcases List.mem_cons.1 hx with rfl | hx
    · rw [h.2.2.cov_low (Int.le_refl _), decide_eq_false (show ¬ x.2 < x.2 by omega)]; simp
    · have h1 := h.2.2.low x hx
      rw [canon_end h.2.2 x hx, decide_eq_false (show ¬ x.2 < y.2 by omega)]; simp
/-- What is covered from one moment to another one is in one of the spans. -/
theorem canon_within {lo : Int} {l : List Iv} (h : Canon lo l) {a b : Int} (hab : a < b) (hc : ∀ t, a ≤ t → t < b → cov l t = true) : ∃ s ∈ l, s.1 ≤ a ∧ b ≤ s.2 := by
  obtain ⟨s, hs, h1, h2⟩ := cov_iff.1 (hc a (Int.le_refl _) hab)
  refine ⟨s, hs, h1, ?_⟩
  rcases Int.lt_or_le s.2 b with h3 | h3
  · have := hc s.2 (by omega) h3
    rw [canon_end h s hs] at this; cases this
  · exact h3
end Go.Proofs.YtnmdmmfdnnmdfaaDoor.Nt
