/- The order of notes: a strict weak order, total where the IDs differ. No statement is proved here. -/
import Derived.Test.YtnmdmmfdnnmdfaaDoorCE
import Derived.Shelf.SlSortCmp.WholeK
set_option linter.unusedVariables false
set_option linter.unusedSimpArgs false
namespace Go.Proofs.YtnmdmmfdnnmdfaaDoor
open Go.Ab Go.Sort

/-- Lexicographic: the first difference. -/
def cmpK (a b : List Int) : Int := orL (List.zipWith (· - ·) a b)
theorem orL_neg : ∀ l : List Int, orL (l.map fun x => -x) = - orL l
  | [] => rfl
  | x :: r => by
    have := orL_neg r
    by_cases h : x = 0
    · subst h; simp [orL, this]
    · simp [orL, h]
theorem cmpK_anti (a b : List Int) : cmpK b a = - cmpK a b := by
  unfold cmpK
  rw [← orL_neg, List.map_zipWith, List.zipWith_comm]
  congr 1
  exact congrFun (congrFun (congrArg List.zipWith (by funext x y; omega)) a) b
theorem cmpK_nil (a : List Int) : cmpK [] a = 0 := by simp [cmpK, orL]
theorem cmpK_cons (x y : Int) (a b : List Int) : cmpK (x :: a) (y :: b) = if x - y = 0 then cmpK a b else x - y := by simp [cmpK, orL]
theorem cmpK_lt : ∀ {a b c : List Int}, a.length = b.length → b.length = c.length → cmpK a b < 0 → cmpK b c < 0 → cmpK a c < 0
  | [], b, c, _, _, h, _ => by rw [cmpK_nil] at h; omega
  | x :: a, y :: b, z :: c, h1, h2, h3, h4 => by
    have ih := cmpK_lt (a := a) (b := b) (c := c) (by simpa using h1) (by simpa using h2)
    rw [cmpK_cons] at *
    split at h3 <;> split at h4 <;> split <;> first | omega | (exact ih h3 h4)
theorem cmpK_le : ∀ {a b c : List Int}, a.length = b.length → b.length = c.length → cmpK a b ≤ 0 → cmpK b c ≤ 0 → cmpK a c ≤ 0
  | [], b, c, _, _, _, _ => by rw [cmpK_nil]; omega
  | x :: a, y :: b, z :: c, h1, h2, h3, h4 => by
    have ih := cmpK_le (a := a) (b := b) (c := c) (by simpa using h1) (by simpa using h2)
    rw [cmpK_cons] at *
    split at h3 <;> split at h4 <;> split <;> first | omega | (exact ih h3 h4)
/-- What notes are sorted by. -/
def keyN (al : List (Int × Int)) (x : Note) : List Int := [lk0 al x.bar, x.part, (ticksR x.start).1, x.voice, (numR2 x.pitch).1, x.id]
theorem cmpN_key (al : List (Int × Int)) (x y : Note) : cmpN al x y = cmpK (keyN al x) (keyN al y) := rfl
theorem ltN (al : List (Int × Int)) (f : Note → Note) (x y : Note) : Go.Proofs.ltOf (fun x y : Note => cmpN al (f x) (f y)) x y = true ↔ cmpK (keyN al (f x)) (keyN al (f y)) < 0 := decide_eq_true_iff
theorem ltN' (al : List (Int × Int)) (f : Note → Note) (x y : Note) : Go.Proofs.ltOf (fun x y : Note => cmpN al (f x) (f y)) x y = false ↔ ¬ cmpK (keyN al (f x)) (keyN al (f y)) < 0 := decide_eq_false_iff_not
theorem swoN (al : List (Int × Int)) (f : Note → Note) : SWO (Go.Proofs.ltOf fun x y : Note => cmpN al (f x) (f y)) where
  irrefl x := by
    have := cmpK_anti (keyN al (f x)) (keyN al (f x))
    rw [ltN']; omega
  trans x y z h1 h2 := by
    rw [ltN] at *
    exact cmpK_lt (a := keyN al (f x)) (b := keyN al (f y)) (c := keyN al (f z)) rfl rfl h1 h2
  ntrans x y z h1 h2 := by
    have a1 := cmpK_anti (keyN al (f x)) (keyN al (f y))
    have a2 := cmpK_anti (keyN al (f y)) (keyN al (f z))
    have a3 := cmpK_anti (keyN al (f x)) (keyN al (f z))
    rw [ltN'] at *
    have := cmpK_le (a := keyN al (f z)) (b := keyN al (f y)) (c := keyN al (f x)) rfl rfl (by omega) (by omega)
    omega
end Go.Proofs.YtnmdmmfdnnmdfaaDoor
