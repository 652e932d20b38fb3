/- What the loops of the program and of the reference ask of events in order, in plain words. No program is in sight. One step of the program's merge, in plain words. No program is in sight. Contracts by content: stamps of events; lists of events in order. No statement is proved here. -/
import Derived.Test.YtbneeinknlddaaaGreatP8
import Derived.Test.YtbneeinknlddaaaGreatP10
set_option linter.unusedVariables false
set_option linter.unusedSimpArgs false
namespace Go.Sy
open Go.Jo
def ordE (a b : Ev) : Int := if a.clock < b.clock then -1 else if b.clock < a.clock then 1 else if a.stand < b.stand then -1 else if b.stand < a.stand then 1 else 0
theorem ord_neg {a b : Ev} : ordE a b < 0 ↔ before a b = true := by
 rw [before_iff]; unfold ordE
 split
 · omega
 · split
   · omega
   · split
     · omega
     · split <;> omega
theorem ord_zero {a b : Ev} : ordE a b = 0 ↔ stamp a b := by
 unfold ordE stamp
 split
 · omega
 · split
   · omega
   · split
     · omega
     · split <;> omega
theorem ord_le {a b : Ev} : ordE a b ≤ 0 ↔ before b a = false := by
 have h : before b a = false ↔ ¬ before b a = true := by cases before b a <;> simp
 rw [h, before_iff]; unfold ordE
 split
 · omega
 · split
   · omega
   · split
     · omega
     · split <;> omega
theorem srt_step {l : List Ev} {i : Nat} (hi : i < l.length) : Srt (l.take (i + 1)) ↔ Srt (l.take i) ∧ (0 < i → before (l.getD (i - 1) default) (l.getD i default) = true) := by
 have e1 : l.take (i + 1) = l.take i ++ [l.getD i default] := by
  rw [getD_lt' hi]; exact zAu hi
 rw [e1, srt_app]
 constructor
 · rintro ⟨h1, _, h3⟩
   refine ⟨h1, fun h0 => h3 _ ?_ _ (zA9.2 rfl)⟩
   rw [getD_lt' (show i - 1 < l.length by omega)]
   exact List.mem_take_iff_getElem.2 ⟨i - 1, by omega, rfl⟩
 · rintro ⟨h1, h2⟩
   refine ⟨h1, by simp [Srt], fun x hx y hy => ?_⟩
   rw [zA9.1 hy]
   by_cases h0 : 0 < i
   · have hl : (l.take i).getLast? = some (l.getD (i - 1) default) := by
      rw [List.getLast?_eq_getElem?, zAg, Nat.min_eq_left (by omega), List.getElem?_take_of_lt (by omega), getD_lt' (show i - 1 < l.length by omega)]
      exact zAi (by omega)
     rcases srt_last h1 hl x hx with e | e
     · rw [e]; exact h2 h0
     · exact before_trans e (h2 h0)
   · rw [show i = 0 by omega] at hx; cases hx
def forksE (a b : Ev) : Bool := a.clock == b.clock && a.stand == b.stand && decide (a ≠ b)
theorem forks_iff {a b : Ev} : forksE a b = false ↔ (stamp a b → a = b) := by
 unfold forksE stamp
 by_cases h1 : a.clock = b.clock <;> by_cases h2 : a.stand = b.stand <;> by_cases h3 : a = b <;> simp [h1, h2, h3]
theorem nofork_pairs {l : List Ev} : NoFork l ↔ ∀ i, i < l.length → ∀ k, k < i → forksE (l.getD k default) (l.getD i default) = false := by
 constructor
 · intro h i hi k hk
   rw [forks_iff]
   refine h _ ?_ _ ?_
   · rw [getD_lt' (show k < l.length by omega)]; exact zBr _
   · rw [getD_lt' hi]; exact zBr _
 · intro h a ha b hb hs
   obtain ⟨i, hi, rfl⟩ := List.getElem_of_mem ha
   obtain ⟨k, hk, rfl⟩ := List.getElem_of_mem hb
   rcases Nat.lt_trichotomy i k with g | g | g
   · have := forks_iff.1 (h k hk i g)
     rw [getD_lt' hi, getD_lt' hk] at this
     exact this hs
   · subst g; rfl
   · have := forks_iff.1 (h i hi k g)
     rw [getD_lt' hi, getD_lt' hk] at this
     exact (this ⟨hs.1.symm, hs.2.symm⟩).symm
theorem un_step {l more : List Ev} {i : Nat} (hi : i < more.length) : unE l (more.take (i + 1)) = putE (unE l (more.take i)) (more.getD i default) := by
 rw [getD_lt' hi, zAu hi]
 unfold unE; rw [zCh]; rfl
theorem cat_take_step {more : List Ev} {i : Nat} (hi : i < more.length) : cat (more.take (i + 1)) = cat (more.take i) ++ fr (more.getD i default) := by
 rw [getD_lt' hi, zAu hi, cat_app, cat_one]
theorem over_of_step {b : Bs} {more : List Ev} {i : Nat} (hi : i < more.length) (h : 200000 < b.length + (cat (more.take (i + 1))).length) : more ≠ [] ∧ 200000 < b.length + (cat more).length := by
 have := cat_take_le more (i + 1)
 exact ⟨(fun g => by rw [g] at hi; cases hi), by omega⟩
theorem mergeF_nil : ∀ (k : Nat) (a : List Ev), mergeF k a [] = a
 | 0, a => by unfold mergeF; rw [zBd]
 | _ + 1, [] => rfl
 | _ + 1, _ :: _ => rfl
theorem merge_first {x : Ev} {a b : List Ev} (h : ∀ y r, b = y :: r → before y x = false) : mergeW (x :: a) b = x :: mergeW a b := by
 unfold mergeW
 rw [zA2, show a.length + 1 + b.length = a.length + b.length + 1 by omega]
 cases b with
 | nil => rw [mergeF_nil, mergeF_nil]
 | cons y r =>
   have h1 := h y r rfl
   have e0 : mergeF (a.length + (y :: r).length + 1) (x :: a) (y :: r) = if before y x then y :: mergeF (a.length + (y :: r).length) (x :: a) r else x :: mergeF (a.length + (y :: r).length) a (y :: r) := rfl
   rw [e0, h1]; rfl
theorem merge_second {y : Ev} {a b : List Ev} (h : ∀ x r, a = x :: r → before y x = true) : mergeW a (y :: b) = y :: mergeW a b := by
 unfold mergeW
 rw [zA2, show a.length + (b.length + 1) = a.length + b.length + 1 by omega]
 cases a with
 | nil =>
   have e0 : mergeF (([] : List Ev).length + b.length + 1) [] (y :: b) = y :: b := rfl
   rw [e0]
   have e2 : ∀ k (b : List Ev), mergeF k [] b = b := fun k b => by cases k with
    | zero => rfl
    | succ k => rfl
   rw [e2]
 | cons x r =>
   have h1 := h x r rfl
   have e0 : mergeF ((x :: r).length + b.length + 1) (x :: r) (y :: b) = if before y x then y :: mergeF ((x :: r).length + b.length) (x :: r) b else x :: mergeF ((x :: r).length + b.length) r (y :: b) := rfl
   rw [e0, h1]; rfl
def restE (out a b : List Ev) : Option (List Ev) := (mergeW a b).foldl ddStep (some out)
theorem dd_none : ∀ l : List Ev, l.foldl ddStep none = none
 | [] => rfl
 | _ :: l => dd_none l
theorem dd_next (out : List Ev) (e : Ev) : ddStep (some out) e =
 if out.length = 0 ∨ ordE (out.getD (out.length - 1) default) e ≠ 0 then some (out ++ [e]) else if out.getD (out.length - 1) default ≠ e then none else some out := by
 unfold ddStep
 dsimp only
 rcases List.eq_nil_or_concat out with rfl | ⟨p, z, rfl⟩
 · rfl
 · rw [List.concat_eq_append, List.getLast?_append]
   simp only [List.getLast?_singleton, Option.or_some, Option.some_or]
   have e1 : (p ++ [z]).getD ((p ++ [z]).length - 1) default = z := by
    rw [getD_lt' (by simp)]; simp
   rw [e1]
   have e2 : ¬ ((p ++ [z]).length = 0) := by simp
   by_cases hs : stamp z e
   · have e3 : ¬ ((p ++ [z]).length = 0 ∨ ordE z e ≠ 0) := fun g => g.elim e2 fun g => g (ord_zero.2 hs)
     rw [if_pos hs, if_neg e3]
     by_cases hz : z = e
     · rw [if_pos hz, if_neg (fun g => g hz)]
     · rw [if_neg hz, if_pos hz]
   · rw [if_neg hs, if_pos (.inr fun g => hs (ord_zero.1 g))]
end Go.Sy
namespace Go.Proofs.YtbneeinknlddaaaGreat
open Go.Ab Go.Jo Go.Sy
attribute [local irreducible] AWP AOps EStep AQ PStep PRun PCall TCall VCall DStep TDies AWD DCall
def cmpI (a b : Int) : Int := if a < b then -1 else if a > b then 1 else 0
theorem isNaN_spec (a : Int) : PCall Tryz.prog 93 [.int a] (.b false) := by
 refine PCall.body Tryz.func93 rfl rfl Tryz.ntmps93 rfl rfl ?_
 repeat' (first | refine aoQ rfl rfl rfl (fun hg => by first | exact std0 | exact std1) (by exact rfl) ?_ | refine sqW ?_ | refine rgK (fun K' hK => ?_) | (refine aoN (hK _ _ ?_); clear hK K') | refine aoE (bxW rfl rfl rfl rfl rfl tI rfl rfl ?_) | refine aoE (stW tabOk rfl rfl rfl tI rfl rfl tI rfl rfl rfl rfl rfl rfl rfl ?_) | refine aoE (alW tabOk rfl rfl rfl rfl rfl rfl ?_) | refine cdN rfl tI (fun hc => ?_) (fun hc => ?_) | refine blK ?_ | refine exW ?_ | refine skW ?_ | refine rtW ?_ | refine dK2 (by decide +kernel) (by kernel_rfl) (by decide +kernel) rfl (fun K' hK => ?_) | refine dL2 (by kernel_rfl) (by decide +kernel) rfl (fun K' hK => ?_) | (refine aqN (hK _ ?_); clear hK K') | refine aqN ?_ | refine aqQ rfl rfl (fun hg => by first | exact std0 | exact std1) (by exact rfl) ?_)
 exact ⟨.inr rfl, Ent.b (by simp)⟩
theorem compare_spec (a b : Int) : PCall Tryz.prog 75 [.int a, .int b] (.int (cmpI a b)) := by
 refine PCall.body Tryz.func75 rfl rfl Tryz.ntmps75 rfl rfl ?_
 repeat' (first | refine aoQ rfl rfl rfl (fun hg => by first | exact std0 | exact pcW (isNaN_spec _) rfl rfl nd rfl nds | exact std1) (by exact rfl) ?_ | refine sqW ?_ | refine rgK (fun K' hK => ?_) | (refine aoN (hK _ _ ?_); clear hK K') | refine aoE (bxW rfl rfl rfl rfl rfl tI rfl rfl ?_) | refine aoE (stW tabOk rfl rfl rfl tI rfl rfl tI rfl rfl rfl rfl rfl rfl rfl ?_) | refine aoE (alW tabOk rfl rfl rfl rfl rfl rfl ?_) | refine cdN rfl tI (fun hc => ?_) (fun hc => ?_) | refine blK ?_ | refine exW ?_ | refine skW ?_ | refine rtW ?_ | refine dK2 (by decide +kernel) (by kernel_rfl) (by decide +kernel) rfl (fun K' hK => ?_) | refine dL2 (by kernel_rfl) (by decide +kernel) rfl (fun K' hK => ?_) | (refine aqN (hK _ ?_); clear hK K') | refine aqN ?_ | refine aqQ rfl rfl (fun hg => by first | exact std0 | exact pcW (isNaN_spec _) rfl rfl nd rfl nds | exact std1) (by exact rfl) ?_)
 all_goals (first | (exfalso; simp_all; done) | skip)
 · exact ⟨.inr rfl, Ent.int (by unfold cmpI; rw [if_pos (by omega)])⟩
 · exact ⟨.inr rfl, Ent.int (by unfold cmpI; rw [if_neg (by omega), if_pos (by omega)])⟩
 · exact ⟨.inr rfl, Ent.int (by unfold cmpI; rw [if_neg (by omega), if_neg (by omega)])⟩
def orL : List Int → Int
 | [] => 0
 | x :: r => if x = 0 then orL r else x
theorem orL_zero : ∀ {l : List Int}, (∀ j, j < l.length → l.getD j default = 0) → orL l = 0
 | [], _ => rfl
 | x :: r, h => by
   have h0 : x = 0 := by simpa using h 0 (by simp)
   rw [orL, if_pos h0]
   exact orL_zero fun j hj => by simpa using h (j + 1) (by simpa using hj)
theorem orL_first : ∀ {l : List Int} {k : Nat}, k < l.length → (∀ j, j < k → l.getD j default = 0) → l.getD k default ≠ 0 → orL l = l.getD k default
 | [], k, hk, _, _ => absurd hk (by simp)
 | x :: r, 0, _, _, h1 => by
   have h2 : x ≠ 0 := by simpa using h1
   simp [orL, h2]
 | x :: r, k + 1, hk, h, h1 => by
   have h0 : x = 0 := by simpa using h 0 (by omega)
   have h2 := orL_first (l := r) (k := k) (by simpa using hk) (fun j hj => by simpa using h (j + 1) (by omega)) (by simpa using h1)
   rw [orL, if_pos h0, h2]; simp
theorem or_spec (l : List Int) (hl : l.length ≤ 9223372036854775807) : PCall Tryz.prog 74 [.sl 1 (l.map fun n => [AV.int n]) .no] (.int (orL l)) := by
 refine PCall.body Tryz.func74 rfl rfl Tryz.ntmps74 rfl rfl ?_
 repeat' (first | refine aoQ rfl rfl rfl (fun hg => by first | exact std0 | exact std1) (by exact rfl) ?_ | refine sqW ?_ | refine rgK (fun K' hK => ?_) | (refine aoN (hK _ _ ?_); clear hK K') | refine aoE (bxW rfl rfl rfl rfl rfl tI rfl rfl ?_) | refine aoE (stW tabOk rfl rfl rfl tI rfl rfl tI rfl rfl rfl rfl rfl rfl rfl ?_) | refine aoE (alW tabOk rfl rfl rfl rfl rfl rfl ?_) | refine cdN rfl tI (fun hc => ?_) (fun hc => ?_) | refine blK ?_ | refine exW ?_ | refine skW ?_ | refine rtW ?_ | refine dK2 (by decide +kernel) (by kernel_rfl) (by decide +kernel) rfl (fun K' hK => ?_) | refine dL2 (by kernel_rfl) (by decide +kernel) rfl (fun K' hK => ?_) | (refine aqN (hK _ ?_); clear hK K') | refine aqN ?_ | refine aqQ rfl rfl (fun hg => by first | exact std0 | exact std1) (by exact rfl) ?_)
 refine lpD (ι := Nat) (fun k => [(3, .int 0), (6, .sl 1 (l.map fun n => [AV.int n]) .no), (7, .int l.length), (8, .int k)]) (fun _ => [])
  (fun k => k ≤ l.length ∧ ∀ j, j < k → l.getD j default = 0) (fun k => l.length - k) 0 (fun _ => rfl) 0 ⟨nZl _, fun j h => absurd h (by omega)⟩ ⟨rfl, rfl, rfl, rfl, tI⟩ rfl (fun _ _ => rfl) (fun k _ => by simp [okObj, okRef]) ?_
 rintro k ⟨hk, hz⟩
 by_cases hlt : k < l.length
 · repeat' (first | refine aoQ rfl rfl rfl (fun hg => by first | exact std0 | exact std1) (by exact rfl) ?_ | refine sqW ?_ | refine rgK (fun K' hK => ?_) | (refine aoN (hK _ _ ?_); clear hK K') | refine aoE (bxW rfl rfl rfl rfl rfl tI rfl rfl ?_) | refine aoE (stW tabOk rfl rfl rfl tI rfl rfl tI rfl rfl rfl rfl rfl rfl rfl ?_) | refine aoE (alW tabOk rfl rfl rfl rfl rfl rfl ?_) | refine cdN rfl tI (fun hc => ?_) (fun hc => ?_) | refine blK ?_ | refine exW ?_ | refine skW ?_ | refine rtW ?_ | refine dK2 (by decide +kernel) (by kernel_rfl) (by decide +kernel) rfl (fun K' hK => ?_) | refine dL2 (by kernel_rfl) (by decide +kernel) rfl (fun K' hK => ?_) | (refine aqN (hK _ ?_); clear hK K') | refine aqN ?_ | refine aqQ rfl rfl (fun hg => by first | exact std0 | exact std1) (by exact rfl) ?_)
   · refine ⟨.inr rfl, Ent.int ?_⟩
     rw [zAc] at hc ⊢
     exact (orL_first hlt hz (by simpa using hc)).symm
   · rw [zAc] at hc
     exact ⟨k + 1, ⟨by omega, fun j hj => lt_succ_cases hz (by simpa using hc) hj⟩, by omega, ⟨rfl, rfl, rfl, rfl, tI⟩, rfl⟩
   · exfalso; omega
 · repeat' (first | refine aoQ rfl rfl rfl (fun hg => by first | exact std0 | exact std1) (by exact rfl) ?_ | refine sqW ?_ | refine rgK (fun K' hK => ?_) | (refine aoN (hK _ _ ?_); clear hK K') | refine aoE (bxW rfl rfl rfl rfl rfl tI rfl rfl ?_) | refine aoE (stW tabOk rfl rfl rfl tI rfl rfl tI rfl rfl rfl rfl rfl rfl rfl ?_) | refine aoE (alW tabOk rfl rfl rfl rfl rfl rfl ?_) | refine cdN rfl tI (fun hc => ?_) (fun hc => ?_) | refine blK ?_ | refine exW ?_ | refine skW ?_ | refine rtW ?_ | refine dK2 (by decide +kernel) (by kernel_rfl) (by decide +kernel) rfl (fun K' hK => ?_) | refine dL2 (by kernel_rfl) (by decide +kernel) rfl (fun K' hK => ?_) | (refine aqN (hK _ ?_); clear hK K') | refine aqN ?_ | refine aqQ rfl rfl (fun hg => by first | exact std0 | exact std1) (by exact rfl) ?_)
   · exfalso; omega
   · exfalso; omega
   · refine ⟨.inr rfl, Ent.int ?_⟩
     exact (orL_zero fun j hj => hz j (by omega)).symm
theorem ord_or (a b : Ev) : orL [cmpI a.clock b.clock, cmpI a.stand b.stand] = ordE a b := by
 unfold orL orL orL cmpI ordE
 by_cases h1 : a.clock < b.clock <;> by_cases h2 : b.clock < a.clock <;> by_cases h3 : a.stand < b.stand <;> by_cases h4 : b.stand < a.stand <;> simp [h1, h2, h3, h4]
theorem order_spec (a b : Ev) : PCall Tryz.prog 50 [.agg (encE a), .agg (encE b)] (.int (ordE a b)) := by
 have ho := or_spec [cmpI a.clock b.clock, cmpI a.stand b.stand] (by simp)
 rw [ord_or] at ho
 have h1 := compare_spec a.clock b.clock
 have h2 := compare_spec a.stand b.stand
 refine PCall.body Tryz.func50 rfl rfl Tryz.ntmps50 rfl rfl ?_
 repeat' (first | refine aoQ rfl rfl rfl (fun hg => by first | exact std0 | exact pcW (h1) rfl rfl nd rfl nds | exact pcW (h2) rfl rfl nd rfl nds | exact pbS tabOk rfl rfl nds | exact pcW (ho) rfl rfl nd rfl nds | exact std1) (by exact rfl) ?_ | refine sqW ?_ | refine rgK (fun K' hK => ?_) | (refine aoN (hK _ _ ?_); clear hK K') | refine aoE (bxW rfl rfl rfl rfl rfl tI rfl rfl ?_) | refine aoE (stW tabOk rfl rfl rfl tI rfl rfl tI rfl rfl rfl rfl rfl rfl rfl ?_) | refine aoE (alW tabOk rfl rfl rfl rfl rfl rfl ?_) | refine cdN rfl tI (fun hc => ?_) (fun hc => ?_) | refine blK ?_ | refine exW ?_ | refine skW ?_ | refine rtW ?_ | refine dK2 (by decide +kernel) (by kernel_rfl) (by decide +kernel) rfl (fun K' hK => ?_) | refine dL2 (by kernel_rfl) (by decide +kernel) rfl (fun K' hK => ?_) | (refine aqN (hK _ ?_); clear hK K') | refine aqN ?_ | refine aqQ rfl rfl (fun hg => by first | exact std0 | exact pcW (h1) rfl rfl nd rfl nds | exact pcW (h2) rfl rfl nd rfl nds | exact pbS tabOk rfl rfl nds | exact pcW (ho) rfl rfl nd rfl nds | exact std1) (by exact rfl) ?_)
 exact ⟨.inr rfl, Ent.int rfl⟩
theorem before_spec (a b : Ev) : PCall Tryz.prog 66 [.agg (encE a), .agg (encE b)] (.b (before a b)) := by
 refine PCall.body Tryz.func66 rfl rfl Tryz.ntmps66 rfl rfl ?_
 repeat' (first | refine aoQ rfl rfl rfl (fun hg => by first | exact std0 | exact std1) (by exact rfl) ?_ | refine sqW ?_ | refine rgK (fun K' hK => ?_) | (refine aoN (hK _ _ ?_); clear hK K') | refine aoE (bxW rfl rfl rfl rfl rfl tI rfl rfl ?_) | refine aoE (stW tabOk rfl rfl rfl tI rfl rfl tI rfl rfl rfl rfl rfl rfl rfl ?_) | refine aoE (alW tabOk rfl rfl rfl rfl rfl rfl ?_) | refine cdN rfl tI (fun hc => ?_) (fun hc => ?_) | refine blK ?_ | refine exW ?_ | refine skW ?_ | refine rtW ?_ | refine dK2 (by decide +kernel) (by kernel_rfl) (by decide +kernel) rfl (fun K' hK => ?_) | refine dL2 (by kernel_rfl) (by decide +kernel) rfl (fun K' hK => ?_) | (refine aqN (hK _ ?_); clear hK K') | refine aqN ?_ | refine aqQ rfl rfl (fun hg => by first | exact std0 | exact std1) (by exact rfl) ?_)
 exact ⟨.inr rfl, Ent.b rfl⟩
theorem forks_spec (a b : Ev) : PCall Tryz.prog 37 [.agg (encE a), .agg (encE b)] (.b (forksE a b)) := by
 refine PCall.body Tryz.func37 rfl rfl Tryz.ntmps37 rfl rfl ?_
 repeat' (first | refine aoQ rfl rfl rfl (fun hg => by first | exact std0 | exact PRun.neN flE rfl rfl nd rfl nd rfl | exact std1) (by exact rfl) ?_ | refine sqW ?_ | refine rgK (fun K' hK => ?_) | (refine aoN (hK _ _ ?_); clear hK K') | refine aoE (bxW rfl rfl rfl rfl rfl tI rfl rfl ?_) | refine aoE (stW tabOk rfl rfl rfl tI rfl rfl tI rfl rfl rfl rfl rfl rfl rfl ?_) | refine aoE (alW tabOk rfl rfl rfl rfl rfl rfl ?_) | refine cdN rfl tI (fun hc => ?_) (fun hc => ?_) | refine blK ?_ | refine exW ?_ | refine skW ?_ | refine rtW ?_ | refine dK2 (by decide +kernel) (by kernel_rfl) (by decide +kernel) rfl (fun K' hK => ?_) | refine dL2 (by kernel_rfl) (by decide +kernel) rfl (fun K' hK => ?_) | (refine aqN (hK _ ?_); clear hK K') | refine aqN ?_ | refine aqQ rfl rfl (fun hg => by first | exact std0 | exact PRun.neN flE rfl rfl nd rfl nd rfl | exact std1) (by exact rfl) ?_)
 refine ⟨.inr rfl, Ent.b ?_⟩
 show ((a.clock == b.clock && a.stand == b.stand) && !(eqE a b)) = _
 unfold forksE
 rw [eqE_eq]
 congr 1
 by_cases h : a = b <;> simp [h]
theorem short_ok {e : Ev} (h : evOk e = true) : e.mark.text.length ≤ 200 := by
 by_cases hk : e.kind = 1
 · unfold evOk at h
   rw [if_pos hk] at h
   simp only [zA0, markOk] at h
   exact (textOk_iff.1 h.2.1.1.1.1.1.1.1.1).1
 · have hm : e.mark = noMark := by
    simp only [evOk, hk, if_false, zA0] at h
    obtain ⟨_, h⟩ := h
    split at h
    · simp at h; exact h.2
    · split at h
      · simp at h; exact h.2
      · simp at h
   rw [hm]; exact nZl _
theorem one_ev (l : List Ev) : ∀ x ∈ l.map encE, x.all oneAV = true := fun x hx => by obtain ⟨e, _, rfl⟩ := zC3.1 hx; rfl
def Txt (l : List Ev) : Prop := ∀ e ∈ l, e.mark.text.length ≤ 9223372036854775807
theorem Txt.at {l : List Ev} (h : Txt l) {k : Nat} (hk : k < l.length) : (l.getD k default).mark.text.length ≤ 9223372036854775807 := h _ (by rw [getD_lt' hk]; exact lGm hk)
theorem Txt.of {l : List Ev} (h : ∀ e ∈ l, evOk e = true) : Txt l := fun e he => by have := short_ok (h e he); omega
theorem validE_no {l : List Ev} {k : Nat} (hk : k < l.length) (h : evOk (l.getD k default) = false) : validE l = false := by
 cases hv : validE l with
 | false => rfl
 | true =>
   have := (validE_iff.1 hv).1 (l.getD k default) (by rw [getD_lt' hk]; exact lGm hk)
   rw [h] at this; cases this
theorem validE_srt {l : List Ev} {k : Nat} (hk : k < l.length) (h : ¬ Srt (l.take (k + 1))) : validE l = false := by
 cases hv : validE l with
 | false => rfl
 | true => exact absurd ((validE_iff.1 hv).2.1.sublist (List.take_sublist _ _)) h
theorem validE_all {l : List Ev} (h : ∀ j, j < l.length → evOk (l.getD j default) = true) (hs : Srt (l.take l.length)) : validE l = decide ((l.length : Int) ≤ 20000) := by
 rw [zAz] at hs
 have h1 : ∀ e ∈ l, evOk e = true := fun e he => by
  obtain ⟨j, hj, rfl⟩ := zBj.1 he
  rw [← getD_lt' hj]; exact h j hj
 rw [zBf, validE_iff, dEt]
 constructor
 · rintro ⟨_, _, h3⟩; omega
 · intro h3; exact ⟨h1, hs, by omega⟩
end Go.Proofs.YtbneeinknlddaaaGreat
