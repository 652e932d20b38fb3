/- Contracts by content: cmp.Or, notes.sorted's comparison.  The order of notes: a strict weak order, total where the IDs differ. No statement is proved here. -/
import Derived.Shelf.SlSortCmp.WholeK
import Derived.Test.YtficfljjnbnhbaaGreatDoorP9
set_option linter.unusedVariables false
set_option linter.unusedSimpArgs false
namespace Go.Proofs.YtficfljjnbnhbaaGreatDoor
open Go.Ab
attribute [local irreducible] AWP AOps EStep AQ PStep PRun PCall TCall VCall
def orL : List Int → Int
 | [] => 0
 | x :: r => if x = 0 then orL r else x
theorem orL_zero : ∀ {l : List Int}, (∀ j, j < l.length → l.getD j default = 0) → orL l = 0
 | [], _ => rfl
 | x :: r, h => by
   have h0 : x = 0 := by simpa using h 0 (by simp)
   rw [orL, if_pos h0]
   exact orL_zero fun j hj => by simpa using h (j + 1) (by simpa using hj)
theorem orL_first : ∀ {l : List Int} {k : Nat}, k < l.length → (∀ j, j < k → l.getD j default = 0) → l.getD k default ≠ 0 → orL l = l.getD k default
 | [], k, hk, _, _ => absurd hk (by simp)
 | x :: r, 0, _, _, h1 => by
   have h2 : x ≠ 0 := by simpa using h1
   simp [orL, h2]
 | x :: r, k + 1, hk, h, h1 => by
   have h0 : x = 0 := by simpa using h 0 (by omega)
   have h2 := orL_first (l := r) (k := k) (by simpa using hk) (fun j hj => by simpa using h (j + 1) (by omega)) (by simpa using h1)
   rw [orL, if_pos h0, h2]; simp
theorem or_spec (l : List Int) (hl : l.length ≤ 9223372036854775807) : PCall Tryz.prog 161 [.sl 1 (l.map fun n => [AV.int n]) .no] (.int (orL l)) := by
 refine PCall.body Tryz.func161 rfl rfl Tryz.ntmps161 rfl rfl ?_
 repeat' (first | refine aoQ rfl rfl rfl (fun hg => by first | exact std0 | exact std1) (by exact rfl) ?_ | refine sqW ?_ | refine rgK (fun K' hK => ?_) | (refine aoN (hK _ _ ?_); clear hK K') | refine blK ?_)
 refine lpD (ι := Nat) (fun k => [(3, .int 0), (6, .sl 1 (l.map fun n => [AV.int n]) .no), (7, .int l.length), (8, .int k)]) (fun _ => [])
  (fun k => k ≤ l.length ∧ ∀ j, j < k → l.getD j default = 0) (fun k => l.length - k) 0 (fun _ => rfl) 0 ⟨nZl _, fun j h => absurd h (by omega)⟩ ⟨rfl, rfl, rfl, rfl, tI⟩ rfl (fun _ _ => rfl) (fun k _ => by simp [okObj, okRef]) ?_
 rintro k ⟨hk, hz⟩
 by_cases hlt : k < l.length
 · repeat' (first | refine aoQ rfl rfl rfl (fun hg => by first | exact std0 | exact std1) (by exact rfl) ?_ | refine sqW ?_ | refine rgK (fun K' hK => ?_) | (refine aoN (hK _ _ ?_); clear hK K') | refine cdN rfl tI (fun hc => ?_) (fun hc => ?_) | refine blK ?_ | refine exW ?_ | refine skW ?_ | refine rtW ?_)
   · refine ⟨.inr rfl, Ent.int ?_⟩
     rw [zAj] at hc ⊢
     exact (orL_first hlt hz (by simpa using hc)).symm
   · rw [zAj] at hc
     exact ⟨k + 1, ⟨by omega, fun j hj => lt_succ_cases hz (by simpa using hc) hj⟩, by omega, ⟨rfl, rfl, rfl, rfl, tI⟩, rfl⟩
   · exfalso; omega
 · repeat' (first | refine aoQ rfl rfl rfl (fun hg => by first | exact std0 | exact std1) (by exact rfl) ?_ | refine sqW ?_ | refine rgK (fun K' hK => ?_) | (refine aoN (hK _ _ ?_); clear hK K') | refine cdN rfl tI (fun hc => ?_) (fun hc => ?_) | refine blK ?_ | refine exW ?_ | refine skW ?_ | refine rtW ?_)
   · exfalso; omega
   · exfalso; omega
   · refine ⟨.inr rfl, Ent.int ?_⟩
     exact (orL_zero fun j hj => hz j (by omega)).symm
theorem numR2_in (p : Pitch) : -1000 ≤ (numR2 p).1 ∧ (numR2 p).1 ≤ 1000 := by
 unfold numR2
 split
 · rename_i h
   have h1 := pitchOk_iff.1 h
   have h2 := nat7_in p.step.toNat
   unfold pitchNum; dsimp only; omega
 · exact ⟨by decide, by decide⟩
def noteIn (n : Note) : Prop := (1 ≤ n.id ∧ n.id ≤ 1000000) ∧ (1 ≤ n.part ∧ n.part ≤ 1000000) ∧ 0 ≤ n.voice ∧ n.voice ≤ 9
def lk0 (al : List (Int × Int)) (k : Int) : Int := (lk al k).getD 0
def cmpN (al : List (Int × Int)) (x y : Note) : Int := orL [lk0 al x.bar - lk0 al y.bar, x.part - y.part, (ticksR x.start).1 - (ticksR y.start).1, x.voice - y.voice, (numR2 x.pitch).1 - (numR2 y.pitch).1, x.id - y.id]
theorem lk0_in {al : List (Int × Int)} (hal : ∀ k i, lk al k = some i → 0 ≤ i ∧ i < 4611686018427387904) (k : Int) : 0 ≤ lk0 al k ∧ lk0 al k < 4611686018427387904 := by
 unfold lk0
 cases h : lk al k with
 | none => exact ⟨by decide, by decide⟩
 | some i => exact hal k i h
set_option maxHeartbeats 2000000 in
theorem cmpN_spec (al : List (Int × Int)) (hal : ∀ k i, lk al k = some i → 0 ≤ i ∧ i < 4611686018427387904) (x y : Note) (hx : noteIn x) (hy : noteIn y) :
 PCall Tryz.prog 160 [.agg (encN x), .agg (encN y), .iptr [.imap (encM ekI AV.int al)]] (.int (cmpN al x y)) := by
 obtain ⟨⟨a1, a2⟩, ⟨a3, a4⟩, a5, a6⟩ := hx
 obtain ⟨⟨b1, b2⟩, ⟨b3, b4⟩, b5, b6⟩ := hy
 have c1 := ticksR_in x.start
 have c2 := ticksR_in y.start
 have d1 := numR2_in x.pitch
 have d2 := numR2_in y.pitch
 have e1 := lk0_in hal x.bar
 have e2 := lk0_in hal y.bar
 unfold lk0 at e1 e2
 have ho := or_spec [lk0 al x.bar - lk0 al y.bar, x.part - y.part, (ticksR x.start).1 - (ticksR y.start).1, x.voice - y.voice, (numR2 x.pitch).1 - (numR2 y.pitch).1, x.id - y.id] (by simp)
 refine PCall.body Tryz.func160 rfl rfl Tryz.ntmps160 rfl rfl ?_
 repeat' (first | refine aoQ rfl rfl rfl (fun hg => by first | exact std0 | exact pcW (ticks_spec x.start) rfl rfl nd rfl nds | exact pcW (ticks_spec y.start) rfl rfl nd rfl nds | exact pcW (pNumber_spec x.pitch) rfl rfl nd rfl nds | exact pcW (pNumber_spec y.pitch) rfl rfl nd rfl nds | exact PRun.lookup (ek := ekI) (ev := AV.int) (zv := 0) (keyLaw_int (LOk.of (tabOk.get rfl))) (LOk.of (tabOk.get rfl)) (LOk.of (tabOk.get rfl)) rfl rfl (Rd.w rfl nd) (Or.inl rfl) (Rd.w rfl nd) rfl | exact pbS tabOk rfl rfl nds | exact pcW (ho) rfl rfl nd rfl nds | exact std1) (by exact rfl) ?_ | refine sqW ?_ | refine rgK (fun K' hK => ?_) | (refine aoN (hK _ _ ?_); clear hK K') | refine aoE (bxW rfl rfl rfl rfl rfl tI rfl rfl ?_) | refine rtW ?_)
 exact ⟨.inr rfl, Ent.int rfl⟩
end Go.Proofs.YtficfljjnbnhbaaGreatDoor
namespace Go.Proofs.YtficfljjnbnhbaaGreatDoor
open Go.Ab Go.Sort
def cmpK (a b : List Int) : Int := orL (List.zipWith (· - ·) a b)
theorem orL_neg : ∀ l : List Int, orL (l.map fun x => -x) = - orL l
 | [] => rfl
 | x :: r => by
   have := orL_neg r
   by_cases h : x = 0
   · subst h; simp [orL, this]
   · simp [orL, h]
theorem cmpK_anti (a b : List Int) : cmpK b a = - cmpK a b := by
 unfold cmpK
 rw [← orL_neg, List.map_zipWith, List.zipWith_comm]
 congr 1
 exact congrFun (congrFun (congrArg List.zipWith (by funext x y; omega)) a) b
theorem cmpK_nil (a : List Int) : cmpK [] a = 0 := by simp [cmpK, orL]
theorem cmpK_cons (x y : Int) (a b : List Int) : cmpK (x :: a) (y :: b) = if x - y = 0 then cmpK a b else x - y := by simp [cmpK, orL]
theorem cmpK_lt : ∀ {a b c : List Int}, a.length = b.length → b.length = c.length → cmpK a b < 0 → cmpK b c < 0 → cmpK a c < 0
 | [], b, c, _, _, h, _ => by rw [cmpK_nil] at h; omega
 | x :: a, y :: b, z :: c, h1, h2, h3, h4 => by
   have ih := cmpK_lt (a := a) (b := b) (c := c) (by simpa using h1) (by simpa using h2)
   rw [cmpK_cons] at *
   split at h3 <;> split at h4 <;> split <;> first | omega | (exact ih h3 h4)
theorem cmpK_le : ∀ {a b c : List Int}, a.length = b.length → b.length = c.length → cmpK a b ≤ 0 → cmpK b c ≤ 0 → cmpK a c ≤ 0
 | [], b, c, _, _, _, _ => by rw [cmpK_nil]; omega
 | x :: a, y :: b, z :: c, h1, h2, h3, h4 => by
   have ih := cmpK_le (a := a) (b := b) (c := c) (by simpa using h1) (by simpa using h2)
   rw [cmpK_cons] at *
   split at h3 <;> split at h4 <;> split <;> first | omega | (exact ih h3 h4)
def keyN (al : List (Int × Int)) (x : Note) : List Int := [lk0 al x.bar, x.part, (ticksR x.start).1, x.voice, (numR2 x.pitch).1, x.id]
theorem ltN (al : List (Int × Int)) (f : Note → Note) (x y : Note) : Go.Proofs.ltOf (fun x y : Note => cmpN al (f x) (f y)) x y = true ↔ cmpK (keyN al (f x)) (keyN al (f y)) < 0 := decide_eq_true_iff
theorem ltN' (al : List (Int × Int)) (f : Note → Note) (x y : Note) : Go.Proofs.ltOf (fun x y : Note => cmpN al (f x) (f y)) x y = false ↔ ¬ cmpK (keyN al (f x)) (keyN al (f y)) < 0 := dEf
theorem swoN (al : List (Int × Int)) (f : Note → Note) : SWO (Go.Proofs.ltOf fun x y : Note => cmpN al (f x) (f y)) where
 irrefl x := by
  have := cmpK_anti (keyN al (f x)) (keyN al (f x))
  rw [ltN']; omega
 trans x y z h1 h2 := by
  rw [ltN] at *
  exact cmpK_lt (a := keyN al (f x)) (b := keyN al (f y)) (c := keyN al (f z)) rfl rfl h1 h2
 ntrans x y z h1 h2 := by
  have a1 := cmpK_anti (keyN al (f x)) (keyN al (f y))
  have a2 := cmpK_anti (keyN al (f y)) (keyN al (f z))
  have a3 := cmpK_anti (keyN al (f x)) (keyN al (f z))
  rw [ltN'] at *
  have := cmpK_le (a := keyN al (f z)) (b := keyN al (f y)) (c := keyN al (f x)) rfl rfl (by omega) (by omega)
  omega
end Go.Proofs.YtficfljjnbnhbaaGreatDoor
