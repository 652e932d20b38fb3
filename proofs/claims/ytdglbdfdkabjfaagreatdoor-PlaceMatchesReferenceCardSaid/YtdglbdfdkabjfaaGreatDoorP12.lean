/- Contracts by content: forms, of the reference: repeats, endings, the jump, cuts.  A range over a function that looks at the caller's objects as it goes on (the rule of al/BC, alone).  Regions that draw their order, with chains of effects: which pairs may be exchanged. Regions that draw their order, with any number of chains of effects; variables numbered ahead. No statement is proved here. -/
import Derived.Test.YtdglbdfdkabjfaaGreatDoorP4
import Derived.Test.YtdglbdfdkabjfaaGreatDoorP9
import Derived.Test.YtdglbdfdkabjfaaGreatDoorP11
set_option linter.unusedVariables false
set_option linter.unusedSimpArgs false
namespace Go.Proofs.YtdglbdfdkabjfaaGreatDoor.Pl
open Go.Ab Go.Pl
attribute [local irreducible] AWP AOps EStep AQ PStep PRun PCall TCall VCall
theorem any_at {α : Type} [Inhabited α] {l : List α} {p : α → Bool} {k : Nat} (h : k < l.length) (hp : p (l.getD k default) = true) : l.any p = true := zD8.2 ⟨_, getD_in h, hp⟩
theorem any_no {α : Type} [Inhabited α] {l : List α} {p : α → Bool} (h : ∀ j, j < l.length → p (l.getD j default) = false) : l.any p = false := by
 rw [List.any_eq_false]
 intro x hx
 obtain ⟨j, hj, e⟩ := zDc hx
 have := h j hj
 rw [getD_at' hj, e] at this
 simp [this]
theorem within9_spec (l : List PRep) (bar : Int) (hl : l.length ≤ 1000000000) : PCall Tryz.prog 133 [.sl 3 (l.map encRp) .no, .int bar] (.b (withinR l bar)) := by
 refine PCall.body Tryz.func133 rfl rfl Tryz.ntmps133 rfl rfl ?_
 repeat' (first | refine aoQ rfl rfl rfl (fun hg => by exact std0) (by exact rfl) ?_ | refine sqW ?_ | refine rgK (fun K' hK => ?_) | (refine aoN (hK _ _ ?_); clear hK K') | refine blK ?_)
 refine lpW (ι := Nat) (fun k => [(0, .sl 3 (l.map encRp) .no), (1, .int bar), (5, .int k)]) (fun _ => []) (fun k => k ≤ l.length ∧ ∀ j, j < k → (decide ((l.getD j default).from_ < bar) && decide (bar < (l.getD j default).until_)) = false) (fun k => l.length - k) 0 ⟨nZl _, fun j h => absurd h (by omega)⟩ ⟨rfl, rfl, rfl, tI⟩ rfl ?_
 rintro k ⟨hk, hall⟩
 by_cases hlt : k < l.length
 · repeat' (first | refine aoQ rfl rfl rfl (fun hg => by first | exact std0 | exact std1) (by exact rfl) ?_ | refine sqW ?_ | refine rgK (fun K' hK => ?_) | (refine aoN (hK _ _ ?_); clear hK K') | refine cdN rfl tI (fun hc => ?_) (fun hc => ?_) | refine blK ?_ | refine exW ?_ | refine skW ?_ | refine rtW ?_)
   all_goals first | (exfalso; omega) | skip
   · exact ⟨.inr rfl, Ent.b (any_at (p := fun r : PRep => decide (r.from_ < bar) && decide (bar < r.until_)) hlt hc).symm⟩
   · exact ⟨k + 1, ⟨by omega, fun j hj => lt_succ_cases hall hc hj⟩, by omega, ⟨rfl, rfl, rfl, tI⟩, rfl⟩
 · repeat' (first | refine aoQ rfl rfl rfl (fun hg => by first | exact std0 | exact std1) (by exact rfl) ?_ | refine sqW ?_ | refine rgK (fun K' hK => ?_) | (refine aoN (hK _ _ ?_); clear hK K') | refine cdN rfl tI (fun hc => ?_) (fun hc => ?_) | refine blK ?_ | refine exW ?_ | refine skW ?_ | refine rtW ?_)
   all_goals first | (exfalso; omega) | skip
   exact ⟨.inr rfl, Ent.b (any_no (p := fun r : PRep => decide (r.from_ < bar) && decide (bar < r.until_)) fun j hj => hall j (by omega)).symm⟩
theorem inside9_spec (l : List PRep) (a b : Int) (hl : l.length ≤ 1000000000) : PCall Tryz.prog 132 [.sl 3 (l.map encRp) .no, .int a, .int b] (.b (insideR l a b)) := by
 refine PCall.body Tryz.func132 rfl rfl Tryz.ntmps132 rfl rfl ?_
 repeat' (first | refine aoQ rfl rfl rfl (fun hg => by exact std0) (by exact rfl) ?_ | refine sqW ?_ | refine rgK (fun K' hK => ?_) | (refine aoN (hK _ _ ?_); clear hK K') | refine blK ?_)
 refine lpW (ι := Nat) (fun k => [(0, .sl 3 (l.map encRp) .no), (1, .int a), (2, .int b), (7, .int k)]) (fun _ => []) (fun k => k ≤ l.length ∧ ∀ j, j < k → (decide ((l.getD j default).from_ ≤ a) && decide (b ≤ (l.getD j default).until_)) = false) (fun k => l.length - k) 0 ⟨nZl _, fun j h => absurd h (by omega)⟩ ⟨rfl, rfl, rfl, rfl, tI⟩ rfl ?_
 rintro k ⟨hk, hall⟩
 by_cases hlt : k < l.length
 · repeat' (first | refine aoQ rfl rfl rfl (fun hg => by first | exact std0 | exact std1) (by exact rfl) ?_ | refine sqW ?_ | refine rgK (fun K' hK => ?_) | (refine aoN (hK _ _ ?_); clear hK K') | refine cdN rfl tI (fun hc => ?_) (fun hc => ?_) | refine blK ?_ | refine exW ?_ | refine skW ?_ | refine rtW ?_)
   all_goals first | (exfalso; omega) | skip
   · exact ⟨.inr rfl, Ent.b (any_at (p := fun r : PRep => decide (r.from_ ≤ a) && decide (b ≤ r.until_)) hlt hc).symm⟩
   · exact ⟨k + 1, ⟨by omega, fun j hj => lt_succ_cases hall hc hj⟩, by omega, ⟨rfl, rfl, rfl, rfl, tI⟩, rfl⟩
 · repeat' (first | refine aoQ rfl rfl rfl (fun hg => by first | exact std0 | exact std1) (by exact rfl) ?_ | refine sqW ?_ | refine rgK (fun K' hK => ?_) | (refine aoN (hK _ _ ?_); clear hK K') | refine cdN rfl tI (fun hc => ?_) (fun hc => ?_) | refine blK ?_ | refine exW ?_ | refine skW ?_ | refine rtW ?_)
   all_goals first | (exfalso; omega) | skip
   exact ⟨.inr rfl, Ent.b (any_no (p := fun r : PRep => decide (r.from_ ≤ a) && decide (b ≤ r.until_)) fun j hj => hall j (by omega)).symm⟩
theorem starts9_spec (f : PForm) (bar : Int) (hf : FIn f) : PCall Tryz.prog 176 [.agg (encF f), .int bar] (.int (findI (fun r : PRep => r.from_ == bar) f.reps)) := by
 have hl := hf.reps
 refine PCall.body Tryz.func176 rfl rfl Tryz.ntmps176 rfl rfl ?_
 repeat' (first | refine aoQ rfl rfl rfl (fun hg => by exact std0) (by exact rfl) ?_ | refine sqW ?_ | refine rgK (fun K' hK => ?_) | (refine aoN (hK _ _ ?_); clear hK K') | refine aoE (bxW rfl rfl rfl rfl rfl tI rfl rfl ?_) | refine blK ?_)
 refine lpW (ι := Nat) (fun k => [(1, .int bar), (2, .ptr 0 0), (5, .int k)]) (fun _ => [.var (encF f)]) (fun k => k ≤ f.reps.length ∧ ∀ j, j < k → ((f.reps.getD j default).from_ == bar) = false) (fun k => f.reps.length - k) 0 ⟨nZl _, fun j h => absurd h (by omega)⟩ ⟨rfl, rfl, rfl, tI⟩ rfl ?_
 rintro k ⟨hk, hall⟩
 by_cases hlt : k < f.reps.length
 · repeat' (first | refine aoQ rfl rfl rfl (fun hg => by first | exact std0 | exact std1) (by exact rfl) ?_ | refine sqW ?_ | refine rgK (fun K' hK => ?_) | (refine aoN (hK _ _ ?_); clear hK K') | refine cdN rfl tI (fun hc => ?_) (fun hc => ?_) | refine blK ?_ | refine exW ?_ | refine skW ?_ | refine rtW ?_)
   all_goals first | (exfalso; omega) | skip
   · exact ⟨.inr rfl, Ent.int (findI_at (p := fun r : PRep => r.from_ == bar) hlt hc hall).symm⟩
   · exact ⟨k + 1, ⟨by omega, fun j hj => lt_succ_cases hall hc hj⟩, by omega, ⟨rfl, rfl, rfl, tI⟩, rfl⟩
 · repeat' (first | refine aoQ rfl rfl rfl (fun hg => by first | exact std0 | exact std1) (by exact rfl) ?_ | refine sqW ?_ | refine rgK (fun K' hK => ?_) | (refine aoN (hK _ _ ?_); clear hK K') | refine cdN rfl tI (fun hc => ?_) (fun hc => ?_) | refine blK ?_ | refine exW ?_ | refine skW ?_ | refine rtW ?_)
   all_goals first | (exfalso; omega) | skip
   exact ⟨.inr rfl, Ent.int (findI_no (p := fun r : PRep => r.from_ == bar) fun j hj => hall j (by omega)).symm⟩
theorem played9_spec (f : PForm) (bar pass : Int) (hf : FIn f) : PCall Tryz.prog 177 [.agg (encF f), .int bar, .int pass] (.b (playedE f.ends bar pass)) := by
 have hl := hf.ends
 have hnp := not_played f.ends bar pass
 refine PCall.body Tryz.func177 rfl rfl Tryz.ntmps177 rfl rfl ?_
 repeat' (first | refine aoQ rfl rfl rfl (fun hg => by exact std0) (by exact rfl) ?_ | refine sqW ?_ | refine rgK (fun K' hK => ?_) | (refine aoN (hK _ _ ?_); clear hK K') | refine aoE (bxW rfl rfl rfl rfl rfl tI rfl rfl ?_) | refine blK ?_)
 refine lpD (ι := Nat) (fun k => [(1, .int bar), (2, .int pass), (3, .ptr 0 0), (7, .int k)]) (fun _ => [.var (encF f)]) (fun k => k ≤ f.ends.length ∧ ∀ j, j < k → (decide ((f.ends.getD j default).from_ ≤ bar) && decide (bar < (f.ends.getD j default).until_) && !((f.ends.getD j default).pass == pass)) = false) (fun k => f.ends.length - k) 1 (fun _ => rfl) 0 ⟨nZl _, fun j h => absurd h (by omega)⟩ ⟨rfl, rfl, rfl, rfl, tI⟩ rfl (fun _ _ => rfl) (fun _ _ => rfl) ?_
 rintro k ⟨hk, hall⟩
 by_cases hlt : k < f.ends.length
 · repeat' (first | refine aoQ rfl rfl rfl (fun hg => by first | exact std0 | exact std1) (by exact rfl) ?_ | refine sqW ?_ | refine rgK (fun K' hK => ?_) | (refine aoN (hK _ _ ?_); clear hK K') | refine aoE (stW tabOk rfl rfl rfl tI rfl rfl tI rfl rfl rfl rfl rfl rfl rfl ?_) | refine aoE (alW tabOk rfl rfl rfl rfl rfl rfl ?_) | refine cdN rfl tI (fun hc => ?_) (fun hc => ?_) | refine blK ?_ | refine exW ?_ | refine skW ?_ | refine rtW ?_)
   all_goals first | (exfalso; omega) | skip
   · refine ⟨.inr rfl, Ent.b ?_⟩
     rw [any_at (p := fun x : PEnd => decide (x.from_ ≤ bar) && decide (bar < x.until_) && !(x.pass == pass)) hlt hc] at hnp
     simpa using hnp
   · exact ⟨k + 1, ⟨by omega, fun j hj => lt_succ_cases hall hc hj⟩, by omega, ⟨rfl, rfl, rfl, rfl, tI⟩, rfl⟩
 · repeat' (first | refine aoQ rfl rfl rfl (fun hg => by first | exact std0 | exact std1) (by exact rfl) ?_ | refine sqW ?_ | refine rgK (fun K' hK => ?_) | (refine aoN (hK _ _ ?_); clear hK K') | refine aoE (stW tabOk rfl rfl rfl tI rfl rfl tI rfl rfl rfl rfl rfl rfl rfl ?_) | refine aoE (alW tabOk rfl rfl rfl rfl rfl rfl ?_) | refine cdN rfl tI (fun hc => ?_) (fun hc => ?_) | refine blK ?_ | refine exW ?_ | refine skW ?_ | refine rtW ?_)
   all_goals first | (exfalso; omega) | skip
   refine ⟨.inr rfl, Ent.b ?_⟩
   rw [any_no (p := fun x : PEnd => decide (x.from_ ≤ bar) && decide (bar < x.until_) && !(x.pass == pass)) fun j hj => hall j (by omega)] at hnp
   simpa using hnp
theorem cut9_spec (f : PForm) (c : PCut) : PCall Tryz.prog 80 [.agg (encF f), .agg (encCt c)] (.b (cutOk f.bars c)) := by
 refine PCall.body Tryz.func80 rfl rfl Tryz.ntmps80 rfl rfl ?_
 repeat' (first | refine aoQ rfl rfl rfl (fun hg => by exact std0) (by exact rfl) ?_ | refine sqW ?_ | refine rgK (fun K' hK => ?_) | (refine aoN (hK _ _ ?_); clear hK K') | refine aoE (bxW rfl rfl rfl rfl rfl tI rfl rfl ?_) | refine rtW ?_)
 exact ⟨.inr rfl, Ent.b rfl⟩
theorem leaves9_spec (c : PCut) (v : PVis) : PCall Tryz.prog 131 [.agg (encCt c), .agg [.int v.bar, .int v.pass]] (.b (leaves c v)) := by
 refine PCall.body Tryz.func131 rfl rfl Tryz.ntmps131 rfl rfl ?_
 repeat' (first | refine aoQ rfl rfl rfl (fun hg => by exact std0) (by exact rfl) ?_ | refine sqW ?_ | refine rgK (fun K' hK => ?_) | (refine aoN (hK _ _ ?_); clear hK K') | refine aoE (bxW rfl rfl rfl rfl rfl tI rfl rfl ?_) | refine rtW ?_)
 exact ⟨.inr rfl, Ent.b rfl⟩
theorem flC : flatOf Tryz.prog 83 = some [.int .i64, .int .i64, .int .i64] := by kernel_rfl
def eqC (c x : PCut) : Bool := x.from_ == c.from_ && (x.until_ == c.until_ && (x.pass == c.pass && true))
theorem eqC_iff (c x : PCut) : eqC c x = true ↔ x = c := by
 unfold eqC
 obtain ⟨a, b, d⟩ := c; obtain ⟨a', b', d'⟩ := x
 simp
def hasC (l : List PCut) (c : PCut) : Int := findI (eqC c) l
theorem hasC_ge (l : List PCut) (c : PCut) : decide (hasC l c ≥ 0) = decide (c ∈ l) := by
 unfold hasC
 rw [findI_ge, zAl, zD8, dEt]
 constructor
 · rintro ⟨x, hx, h⟩; rw [← (eqC_iff c x).1 h]; exact hx
 · intro h; exact ⟨c, h, (eqC_iff c c).2 rfl⟩
theorem has9_spec (l : List PCut) (c : PCut) (hl : l.length ≤ 1000000000) : PCall Tryz.prog 81 [.sl 3 (l.map encCt) .no, .agg (encCt c)] (.int (hasC l c)) := by
 refine PCall.body Tryz.func81 rfl rfl Tryz.ntmps81 rfl rfl ?_
 repeat' (first | refine aoQ rfl rfl rfl (fun hg => by exact std0) (by exact rfl) ?_ | refine sqW ?_ | refine rgK (fun K' hK => ?_) | (refine aoN (hK _ _ ?_); clear hK K') | refine aoE (bxW rfl rfl rfl rfl rfl tI rfl rfl ?_) | refine blK ?_)
 refine lpW (ι := Nat) (fun k => [(0, .sl 3 (l.map encCt) .no), (3, .ptr 0 0), (5, .int k)]) (fun _ => [.var (encCt c)]) (fun k => k ≤ l.length ∧ ∀ j, j < k → eqC c (l.getD j default) = false) (fun k => l.length - k) 0 ⟨nZl _, fun j h => absurd h (by omega)⟩ ⟨rfl, rfl, rfl, tI⟩ rfl ?_
 rintro k ⟨hk, hall⟩
 by_cases hlt : k < l.length
 · repeat' (first | refine aoQ rfl rfl rfl (fun hg => by first | exact std0 | exact std1) (by exact rfl) ?_ | refine sqW ?_ | refine rgK (fun K' hK => ?_) | (refine aoN (hK _ _ ?_); clear hK K') | refine cdN rfl tI (fun hc => ?_) (fun hc => ?_) | refine blK ?_ | refine exW ?_ | refine skW ?_ | refine rtW ?_ | refine dK2 (by decide +kernel) (by kernel_rfl) (by decide +kernel) rfl (fun K' hK => ?_) | (refine aqN (hK _ ?_); clear hK K') | refine aqQ rfl rfl (fun hg => by first | exact std0 | exact PRun.eqS flC rfl rfl nd rfl nd rfl | exact std1) (by exact rfl) ?_)
   all_goals first | (exfalso; omega) | skip
   · exact ⟨.inr rfl, Ent.int (findI_at (p := eqC c) hlt hc hall).symm⟩
   · exact ⟨k + 1, ⟨by omega, fun j hj => lt_succ_cases hall hc hj⟩, by omega, ⟨rfl, rfl, rfl, tI⟩, rfl⟩
 · repeat' (first | refine aoQ rfl rfl rfl (fun hg => by first | exact std0 | exact std1) (by exact rfl) ?_ | refine sqW ?_ | refine rgK (fun K' hK => ?_) | (refine aoN (hK _ _ ?_); clear hK K') | refine cdN rfl tI (fun hc => ?_) (fun hc => ?_) | refine blK ?_ | refine exW ?_ | refine skW ?_ | refine rtW ?_ | refine dK2 (by decide +kernel) (by kernel_rfl) (by decide +kernel) rfl (fun K' hK => ?_) | refine aqQ rfl rfl (fun hg => by first | exact std0 | exact std1) (by exact rfl) ?_)
   all_goals first | (exfalso; omega) | skip
   exact ⟨.inr rfl, Ent.int (findI_no (p := eqC c) fun j hj => hall j (by omega)).symm⟩
set_option maxHeartbeats 2000000 in
theorem repeats9_spec (l : List PRep) (bars : Int) (hl : l.length ≤ 1000000000) : PCall Tryz.prog 77 [.sl 3 (l.map encRp) .no, .int bars] (.b (repsOk bars 0 l && decide (l.length ≤ 100))) := by
 refine PCall.body Tryz.func77 rfl rfl Tryz.ntmps77 rfl rfl ?_
 repeat' (first | refine aoQ rfl rfl rfl (fun hg => by first | exact std0 | exact std1) (by exact rfl) ?_ | refine sqW ?_ | refine rgK (fun K' hK => ?_) | (refine aoN (hK _ _ ?_); clear hK K') | refine cdN rfl tI (fun hc => ?_) (fun hc => ?_) | refine blK ?_ | refine skW ?_ | refine rtW ?_)
 · exact ⟨.inr rfl, Ent.b (by rw [decide_eq_false (show ¬ l.length ≤ 100 by omega), zCj])⟩
 rw [decide_eq_true (show l.length ≤ 100 by omega), zC9]
 refine lpW (ι := Nat) (fun k => [(0, .sl 3 (l.map encRp) .no), (1, .int bars), (5, .int (lastR l k)), (6, .int k)]) (fun _ => []) (fun k => k ≤ l.length ∧ repsOk bars 0 l = repsOk bars (lastR l k) (l.drop k)) (fun k => l.length - k) 0 ⟨nZl _, rfl⟩ ⟨rfl, rfl, rfl, rfl, tI⟩ rfl ?_
 clear hc
 rintro k ⟨hk, hinv⟩
 by_cases hlt : k < l.length
 · obtain ⟨r, hr⟩ : ∃ r, l.getD k default = r := ⟨_, rfl⟩
   have e1 : repsOk bars (lastR l k) (l.drop k) = (!(decide (r.from_ < lastR l k) || decide (r.until_ ≤ r.from_) || decide (bars < r.until_) || decide (r.times < 1) || decide (9 < r.times)) && repsOk bars (lastR l (k + 1)) (l.drop (k + 1))) := by
    rw [drop_at hlt, ← hr]; rfl
   have e2 : lastR l (k + 1) = r.until_ := hr ▸ rfl
   repeat' (first | refine aoQ rfl rfl rfl (fun hg => by first | exact iX encRp l ((k : Nat) : Int) hr (hb := by omega) | exact std0 | exact std1) (by exact rfl) ?_ | refine sqW ?_ | refine rgK (fun K' hK => ?_) | (refine aoN (hK _ _ ?_); clear hK K') | refine cdN rfl tI (fun hc => ?_) (fun hc => ?_) | refine blK ?_ | refine exW ?_ | refine skW ?_ | refine rtW ?_ | refine dK2 (by decide +kernel) (by kernel_rfl) (by decide +kernel) rfl (fun K' hK => ?_) | (refine aqN (hK _ ?_); clear hK K') | refine aqQ rfl rfl (fun hg => by first | exact iX encRp l ((k : Nat) : Int) hr (hb := by omega) | exact std0) (by exact rfl) ?_)
   all_goals first | (exfalso; omega) | skip
   · refine ⟨.inr rfl, Ent.b ?_⟩
     have hc2 : (decide (r.from_ < lastR l k) || decide (r.until_ ≤ r.from_) || decide (bars < r.until_) || decide (r.times < 1) || decide (9 < r.times)) = true := hc
     rw [hinv, e1, hc2]; rfl
   · have hc2 : (decide (r.from_ < lastR l k) || decide (r.until_ ≤ r.from_) || decide (bars < r.until_) || decide (r.times < 1) || decide (9 < r.times)) = false := hc
     rw [hc2, Bool.not_false, zBd] at e1
     exact ⟨k + 1, ⟨by omega, hinv.trans e1⟩, by omega, ⟨rfl, rfl, congrArg AV.int e2.symm, rfl, tI⟩, rfl⟩
 · repeat' (first | refine aoQ rfl rfl rfl (fun hg => by first | exact std0 | exact std1) (by exact rfl) ?_ | refine sqW ?_ | refine rgK (fun K' hK => ?_) | (refine aoN (hK _ _ ?_); clear hK K') | refine cdN rfl tI (fun hc => ?_) (fun hc => ?_) | refine blK ?_ | refine exW ?_ | refine skW ?_ | refine rtW ?_ | refine dK2 (by decide +kernel) (by kernel_rfl) (by decide +kernel) rfl (fun K' hK => ?_) | (refine aqN (hK _ ?_); clear hK K') | refine aqQ rfl rfl (fun hg => by first | exact std0 | exact std1) (by exact rfl) ?_)
   all_goals first | (exfalso; omega) | skip
   refine ⟨.inr rfl, Ent.b ?_⟩
   rw [hinv, zB9 (by omega)]; rfl
theorem endings9_spec (f : PForm) (hf : FIn f) : PCall Tryz.prog 78 [.agg (encF f)] (.b (endsOk f.reps 0 f.ends && decide (f.ends.length ≤ 100))) := by
 have hl := hf.ends
 have hlr := hf.reps
 refine PCall.body Tryz.func78 rfl rfl Tryz.ntmps78 rfl rfl ?_
 repeat' (first | refine aoQ rfl rfl rfl (fun hg => by first | exact std0 | exact std1) (by exact rfl) ?_ | refine sqW ?_ | refine rgK (fun K' hK => ?_) | (refine aoN (hK _ _ ?_); clear hK K') | refine aoE (bxW rfl rfl rfl rfl rfl tI rfl rfl ?_) | refine cdN rfl tI (fun hc => ?_) (fun hc => ?_) | refine blK ?_ | refine skW ?_ | refine rtW ?_)
 · exact ⟨.inr rfl, Ent.b (by rw [decide_eq_false (show ¬ f.ends.length ≤ 100 by omega), zCj])⟩
 rw [decide_eq_true (show f.ends.length ≤ 100 by omega), zC9]
 refine lpD (ι := Nat) (fun k => [(1, .ptr 0 0), (3, .int (lastE f.ends k)), (4, .int k)]) (fun _ => [.var (encF f)]) (fun k => k ≤ f.ends.length ∧ endsOk f.reps 0 f.ends = endsOk f.reps (lastE f.ends k) (f.ends.drop k)) (fun k => f.ends.length - k) 1 (fun _ => rfl) 0 ⟨nZl _, rfl⟩ ⟨rfl, rfl, rfl, tI⟩ rfl (fun _ _ => rfl) (fun _ _ => rfl) ?_
 clear hc
 rintro k ⟨hk, hinv⟩
 by_cases hlt : k < f.ends.length
 · obtain ⟨r, hr⟩ : ∃ r, f.ends.getD k default = r := ⟨_, rfl⟩
   have e1 : endsOk f.reps (lastE f.ends k) (f.ends.drop k) = (!(decide (r.from_ < lastE f.ends k) || decide (r.until_ ≤ r.from_) || !insideR f.reps r.from_ r.until_ || decide (r.pass < 1) || decide (9 < r.pass)) && endsOk f.reps (lastE f.ends (k + 1)) (f.ends.drop (k + 1))) := by
    rw [drop_at hlt, ← hr]; rfl
   have e2 : lastE f.ends (k + 1) = r.until_ := hr ▸ rfl
   have hin := inside9_spec f.reps r.from_ r.until_ hlr
   repeat' (first | refine aoQ rfl rfl rfl (fun hg => by first | exact iX encEn f.ends ((k : Nat) : Int) hr (hb := by omega) | exact std0 | exact pcW (hin) rfl rfl nd rfl nds | exact std1) (by exact rfl) ?_ | refine sqW ?_ | refine rgK (fun K' hK => ?_) | (refine aoN (hK _ _ ?_); clear hK K') | refine aoE (stW tabOk rfl rfl rfl tI rfl rfl tI rfl rfl rfl rfl rfl rfl rfl ?_) | refine aoE (alW tabOk rfl rfl rfl rfl rfl rfl ?_) | refine cdN rfl tI (fun hc => ?_) (fun hc => ?_) | refine blK ?_ | refine exW ?_ | refine skW ?_ | refine rtW ?_)
   all_goals first | (exfalso; omega) | skip
   · refine ⟨.inr rfl, Ent.b ?_⟩
     have hc2 : (decide (r.from_ < lastE f.ends k) || decide (r.until_ ≤ r.from_) || !insideR f.reps r.from_ r.until_ || decide (r.pass < 1) || decide (9 < r.pass)) = true := hc
     rw [hinv, e1, hc2]; rfl
   · have hc2 : (decide (r.from_ < lastE f.ends k) || decide (r.until_ ≤ r.from_) || !insideR f.reps r.from_ r.until_ || decide (r.pass < 1) || decide (9 < r.pass)) = false := hc
     rw [hc2, Bool.not_false, zBd] at e1
     exact ⟨k + 1, ⟨by omega, hinv.trans e1⟩, by omega, ⟨rfl, congrArg AV.int e2.symm, rfl, tI⟩, rfl⟩
 · repeat' (first | refine aoQ rfl rfl rfl (fun hg => by first | exact std0 | exact std1) (by exact rfl) ?_ | refine sqW ?_ | refine rgK (fun K' hK => ?_) | (refine aoN (hK _ _ ?_); clear hK K') | refine aoE (stW tabOk rfl rfl rfl tI rfl rfl tI rfl rfl rfl rfl rfl rfl rfl ?_) | refine aoE (alW tabOk rfl rfl rfl rfl rfl rfl ?_) | refine cdN rfl tI (fun hc => ?_) (fun hc => ?_) | refine blK ?_ | refine exW ?_ | refine skW ?_ | refine rtW ?_)
   all_goals first | (exfalso; omega) | skip
   refine ⟨.inr rfl, Ent.b ?_⟩
   rw [hinv, zB9 (by omega)]; rfl
theorem jump9_spec (f : PForm) (hf : FIn f) : PCall Tryz.prog 79 [.agg (encF f)] (.b (jumpOk f)) := by
 have w := fun bar => within9_spec f.reps bar hf.reps
 have hj0 : (f.jump.at_ == 0 && (f.jump.to == 0 && (f.jump.fine == 0 && true))) = decide (f.jump = ⟨0, 0, 0⟩) := by
  rw [zAl]
  obtain ⟨a, b, c⟩ := f.jump
  simp
 refine PCall.body Tryz.func79 rfl rfl Tryz.ntmps79 rfl rfl ?_
 repeat' (first | refine aoQ rfl rfl rfl (fun hg => by first | exact std0 | exact pcW (w _) rfl rfl nd rfl nds | exact pbD tabOk rfl rfl nds | exact PRun.eqS flJ rfl rfl nd rfl nd rfl) (by exact rfl) ?_ | refine sqW ?_ | refine rgK (fun K' hK => ?_) | (refine aoN (hK _ _ ?_); clear hK K') | refine aoE (bxW rfl rfl rfl rfl rfl tI rfl rfl ?_) | refine aoE (stW tabOk rfl rfl rfl tI rfl rfl tI rfl rfl rfl rfl rfl rfl rfl ?_) | refine aoE (alW tabOk rfl rfl rfl rfl rfl rfl ?_) | refine cdN rfl tI (fun hc => ?_) (fun hc => ?_) | refine skW ?_ | refine rtW ?_)
 · refine ⟨.inr rfl, Ent.b ?_⟩
   unfold jumpOk
   rw [← hj0, hc]; rfl
 · rename_i hc0
   refine ⟨.inr rfl, Ent.b ?_⟩
   have hc2 : (decide (f.jump.at_ < 1) || decide (f.bars < f.jump.at_) || decide (f.jump.to < 0) || decide (f.jump.at_ ≤ f.jump.to) || decide (f.jump.fine ≤ f.jump.to) || decide (f.bars < f.jump.fine)) = true := hc
   unfold jumpOk
   rw [← hj0, hc0, hc2]; rfl
 · rename_i hc0
   refine ⟨.inr rfl, Ent.b ?_⟩
   have hc2 : (decide (f.jump.at_ < 1) || decide (f.bars < f.jump.at_) || decide (f.jump.to < 0) || decide (f.jump.at_ ≤ f.jump.to) || decide (f.jump.fine ≤ f.jump.to) || decide (f.bars < f.jump.fine)) = false := hc
   unfold jumpOk
   rw [← hj0, hc0, hc2]; rfl
end Go.Proofs.YtdglbdfdkabjfaaGreatDoor.Pl
namespace Go.Ab
def roundKP (m : Nat) (S' : Store) (pn : Prop) (R : Exit → Store → Prop) : Exit → Env → Store → Prop
 | .normal, _, s => s.take m = S' ∧ pn
 | .ret, _, s => R .ret (s.take m)
 | .exit id, _, s => R (.exit id) (s.take m)
 | _, _, _ => False
theorem yield_roundP {P : Program} {pn : Prop} {n m : Nat} {rc : Loop} {E : List (Nat × AV)} {x : List AV} {Sj Sj' : Store} {R : Exit → Store → Prop} (hrc : rc.state = .ready ∧ rc.pending = none) (hlen : Sj.length = m) (hlen' : Sj'.length = m) (hok' : Sj'.all (okObj m) = true)
 (hokE : E.all (fun p => okRef m 4 p.2) = true) (hok : Sj.all (okObj m) = true) (hR : ∀ x s, R x s → s.length = m ∧ s.all (okObj m) = true) (hsz : rc.tmps.size = n) (hx : x.length = rc.params.size) (hpn : rc.params.toList.all (fun d => decide (d < n)) = true) (hxo : x.all (okRef m 4) = true)
 (round : AWP P n rc.assign (fun x e s => x = .normal ∧ AWP P n rc.body (roundKP m Sj' pn R) e s) ((Env.of E).puts (rc.params.toList.zip x)) Sj) :
 VCall P (.opq (.yld m)) x (Sj ++ [.loop rc E]) (fun r s => (r = .b true ∧ s = Sj' ++ [.loop rc E] ∧ pn) ∨ (r = .b false ∧ ∃ s0 c, s = s0 ++ [.loop { rc with state := .done, pending := some c } E] ∧ ((c = .ret ∧ R .ret s0) ∨ ∃ id, c = .exit id ∧ R (.exit id) s0))) := by
 subst hlen
 intro G w fn' vf vc vs hs hf ha
 cases hf with
 | opq _ _ _ _ hf =>
 cases hf with
 | yld _ b hb =>
 obtain ⟨b', hb', hheap, hv, hs1⟩ := hs.aside hok
 rw [hb] at hb'; simp at hb'; subst hb'
 have hrun : (invoke (.fn (.yield b) #[]) (#[] ++ vs)).run P w = .ok (.round b rc.fn ((rc.params.zip vs).foldl (fun tmps (t, a) => tmps.setIfInBounds t a) rc.tmps) rc.assign rc.body) w := by
  have : (invoke (.fn (.yield b) #[]) (#[] ++ vs)) = Instr.yield b vs := by simp [invoke]
  rw [this]
  exact run_yield hheap (by rw [ha.1, hx])
 rw [hrun]
 simp only [uponV]
 intro ro
 have hGlen : G.B.length = Sj.length + 1 := by rw [hs.len]; simp
 refine roundIn_of_wpIn (F := FR ro) trivial ?_
 have hr1 : ARel n { G with B := G.B.take Sj.length, D := (b, .loop rc) :: G.D, R := some b, F := [] } (Env.of E) Sj { tmps := rc.tmps, defers := [] } w :=
  ⟨hsz, DefOk.nil _, fun i => VRel.take 4 _ _ (ofE_ok hokE i) (hv i), hs1.setF []⟩
 have hr2 := ARel.puts rc.params.toList x vs.toList (Env.of E) _ hr1 (by simp [hx]) (by simpa using ha.1) (fun d hd => by simpa using zA6.1 hpn d hd) fun i c hi => by
  have := VRel.take (m := Sj.length) 4 c _ (zA6.1 hxo c (zAc hi)) (ha.2 i c hi)
  simpa [zA2, List.getD] using this
 have etm : (rc.params.zip vs).foldl (fun tmps (t, a) => tmps.setIfInBounds t a) rc.tmps = (rc.params.toList.zip vs.toList).foldl (fun t (p, v) => t.setIfInBounds p v) rc.tmps := by
  rw [← Array.foldl_toList, Array.toList_zip]
 rw [etm]
 have h3 := round _ _ w hr2
 refine wpIn_mono (F := (FR ro).inRound b) h3 ?_
 rintro xx a1 w1 ⟨e1, s1, G2, ⟨rfl, hbody⟩, hle2, hr3⟩
 have hD2 : (b, Obj.loop rc) ∈ G2.D := hle2.d _ (zAt ..)
 have hb2 := (hr3.st.dfr.1 _ hD2).1
 refine ⟨_, run_beginRound hb2 hrc.1, ?_⟩
 have hs4 := hr3.st.reD hD2 { rc with state := .busy }
 have hr4 : ARel n { G2 with D := (b, .loop { rc with state := .busy }) :: G2.D.filter (fun p => p.1 != b), R := some b } e1 s1 a1 (w1.putObj b (.loop { rc with state := .busy })) := by
  obtain ⟨ds, ds2, hds, hnd, hD⟩ := hr3.defers
  refine ⟨hr3.size, ⟨ds, ds2, hds, hnd, fun b' hb' => zAv _ (zBk.2 ⟨hD b' hb', ?_⟩)⟩, hr3.vals, hs4⟩
  have h5 := (hr3.st.dfr.1 _ (hD b' hb')).1
  simp only [bne_iff_ne, ne_eq]
  intro e; subst e
  rw [hb2] at h5; simp at h5
 have h4 := hbody _ a1 _ hr4
 refine wpIn_mono (F := (FR ro).inRound b) h4 ?_
 rintro xx a3 w3 ⟨e3, s3, G4, hk, hle4, hr5⟩
 have hD4 : (b, Obj.loop { rc with state := .busy }) ∈ G4.D := hle4.d _ (zAt ..)
 have hb4 := (hr5.st.dfr.1 _ hD4).1
 have hne : ∀ p ∈ G.D, p.1 ≠ b := fun p hp e => (hs.dfr.1 p hp).2.2.1 Sj.length _ hb (by rw [e]; rfl)
 have hB : BLe G.B (G4.B.take Sj.length ++ [.blk b]) := by
  intro l g hl
  rcases zA5 l Sj.length with hlt | hge
  · obtain ⟨g2, k1, k2⟩ := hle2.b l g (take_get hl hlt)
    obtain ⟨g4, k3, k4⟩ := hle4.b l g2 k1
    refine ⟨g4, ?_, k2.trans k4⟩
    have h6 : (G4.B.take Sj.length)[l]? = some g4 := take_get k3 hlt
    have : l < (G4.B.take Sj.length).length := by
     rcases zA5 l (G4.B.take Sj.length).length with h | h
     · exact h
     · simp [zA4 h] at h6
    rw [zA7 this]; exact h6
  · have hl2 : l = Sj.length := by
     rcases zA5 l G.B.length with h | h
     · omega
     · simp [zA4 h] at hl
    subst hl2
    rw [hb] at hl; simp at hl; subst hl
    have h4l : Sj.length ≤ G4.B.length := by
     rcases zA5 G4.B.length Sj.length with h | h
     · obtain ⟨g2, k1, _⟩ := hle2.b _ _ (take_get (zA1 (show G4.B.length < G.B.length by omega)) h)
       obtain ⟨g4, k3, _⟩ := hle4.b _ _ k1
       simp at k3
     · exact h
    have hl4 : (G4.B.take Sj.length).length = Sj.length := by simp; omega
    exact ⟨.blk b, by rw [zA8 (by omega), hl4]; simp, GB.Le.refl _⟩
 have hM : G.M.Le G4.M := hle2.m.trans hle4.m
 have fin : ∀ (jump : Option Code) (r0 : LoopState), (Instr.endRound b jump).run P w3 = .ok (.bool jump.isNone) (w3.putObj b (.loop { { rc with state := LoopState.busy } with state := if jump.isNone then .ready else .done, pending := jump })) := fun jump _ => run_endRound jump hb4
 have back : ∀ (r' : Loop), r'.tmps = rc.tmps → (s3.take Sj.length).length = Sj.length → (s3.take Sj.length).all (okObj Sj.length) = true →
  ∃ G5 : Gh, G.Le G5 ∧ SRel G5 (s3.take Sj.length ++ [.loop r' E]) (w3.putObj b (.loop r')) := fun r' htm hl5 hok5 => by
  have h7 := hr5.st.take Sj.length hok5
  refine ⟨{ G4 with B := G4.B.take Sj.length ++ [.blk b], D := G.D, R := G.R, F := G.F }, ⟨hle4.m0.trans hle2.m0, hle4.w0.trans hle2.w0, hM, hB, fun _ h => h, rfl, rfl⟩, ?_⟩
  refine SRel.setF (G := { G4 with B := G4.B.take Sj.length ++ [.blk b], D := G.D, R := G.R }) ?_ G.F
  exact h7.putBack hD4 r' E (fun i => by rw [htm]; exact (hv i).mono hM hB) (fun p hp => ⟨hle4.d _ (zAv _ (zBk.2 ⟨hle2.d _ (zAv _ hp), by simpa using hne p hp⟩)), hne p hp⟩) hs.dfr.2
 cases xx with
 | normal =>
   obtain ⟨hk, hpn'⟩ := hk
   obtain ⟨G5, g1, g2⟩ := back { rc with state := .ready, pending := none } rfl (by rw [hk]; exact hlen') (by rw [hk]; exact hok')
   refine ⟨_, _, fin none .ready, .b true, _, G5, .inl ⟨rfl, ?_, hpn'⟩, g1, g2, .prim _⟩
   have : ({ rc with state := .ready, pending := none } : Loop) = rc := by
    obtain ⟨h1, h2⟩ := hrc
    cases rc; simp at h1 h2; subst h1; subst h2; rfl
   rw [hk, this]
 | ret =>
   simp only [roundKP] at hk
   obtain ⟨h8, h9⟩ := hR _ _ hk
   obtain ⟨G5, g1, g2⟩ := back { rc with state := .done, pending := some .ret } rfl h8 h9
   exact ⟨_, _, fin (some .ret) .ready, .b false, _, G5, .inr ⟨rfl, _, .ret, rfl, .inl ⟨rfl, hk⟩⟩, g1, g2, .prim _⟩
 | exit id =>
   simp only [roundKP] at hk
   obtain ⟨h8, h9⟩ := hR _ _ hk
   obtain ⟨G5, g1, g2⟩ := back { rc with state := .done, pending := some (.exit id) } rfl h8 h9
   exact ⟨_, _, fin (some (.exit id)) .ready, .b false, _, G5, .inr ⟨rfl, _, .exit id, rfl, .inr ⟨id, rfl, hk⟩⟩, g1, g2, .prim _⟩
 | _ => exact hk.elim
def IterP (P : Program) (k : FuncId) (first caps : List AV) (xs : List (List AV)) (L : Nat) (S : Nat → Store) (Pj : Nat → Prop) : Prop :=
 ∀ (yv : AV) (R : Nat → Store → Prop), Pj 0 → (∀ j, j ≤ xs.length → (S j).length = L ∧ (S j).all (okObj L) = true) → (∀ j s, R j s → s.length = L ∧ s.all (okObj L) = true) →
  (∀ d, okRef L (d + 1) yv = true) → (∀ j x, xs[j]? = some x → Pj j → VCall P (.opq yv) x (S j) (fun r s => (r = .b true ∧ s = S (j + 1) ∧ Pj (j + 1)) ∨ (r = .b false ∧ R j s))) →
  TCall P k (first ++ [.opq yv] ++ caps) (S 0) (fun _ s => (s = S xs.length ∧ Pj xs.length) ∨ ∃ j, j < xs.length ∧ R j s)
theorem AWP.rangeFuncP {P : Program} {n : Nat} {K : Exit → Env → Store → Prop} {env : Env} {σ : Store} {g : Operand} {ps : Array Tmp} {assign body : Code} {k : FuncId} {first caps : List AV}
 (xs : List (List AV)) (E : List (Nat × AV)) (S : Nat → Store) (Pj : Nat → Prop) (R : Nat → Exit → Store → Prop) (iter : ∀ rc : Loop, IterP P k first caps xs (σ.length + 1) (fun j => S j ++ [.loop rc E]) Pj) (hP0 : Pj 0) (hg : rdv env g = some (.fn (.func k) first caps)) (ng : rdn env g)
 (hps : ∀ x ∈ xs, x.length = ps.size) (hxo : ∀ x ∈ xs, x.all (okRef σ.length 4) = true) (hpn : ps.toList.all (fun d => decide (d < n)) = true) (hE : WeakL env E) (hokE : E.all (fun p => okRef σ.length 4 p.2) = true)
 (hS0 : S 0 = σ) (hS : ∀ j, j ≤ xs.length → (S j).length = σ.length ∧ (S j).all (okObj σ.length) = true)
 (hR : ∀ j x s, R j x s → s.length = σ.length ∧ s.all (okObj σ.length) = true)
 (round : ∀ j x, xs[j]? = some x → Pj j → AWP P n assign (fun x e s => x = .normal ∧ AWP P n body (roundKP σ.length (S (j + 1)) (Pj (j + 1)) (R j)) e s) ((Env.of E).puts (ps.toList.zip x)) (S j))
 (done : Pj xs.length → K .normal env (S xs.length)) (left : ∀ j x s, j < xs.length → R j x s → K x env s) : AWP P n (.rangeFunc g ps assign body) K env σ := by
 intro G a w hr
 have hgv := hr.rd (Rd.w hg ng)
 generalize hA : a.eval g = y at hgv
 cases hgv with
 | fn _ _ _ vf vc hvf hvc h1 h2 =>
 refine wpIn_rangeFunc fun fn _ => ?_
 obtain ⟨l, mark, W1, rc, D1, hent, ⟨hc1, hc2, hc3, hc4, hc5, hc6⟩, hD1, hdef, hs1⟩ := enter_loop hr E hE.weak fn ps assign body
 have hlen : G.B.length = σ.length := hr.st.len
 have hT := iter rc (.yld σ.length)
  (fun j s => ∃ s0 c, s = s0 ++ [.loop { rc with state := .done, pending := some c } E] ∧ ((c = .ret ∧ R j .ret s0) ∨ ∃ id, c = .exit id ∧ R j (.exit id) s0))
  hP0 (fun j hj => by
   obtain ⟨k1, k2⟩ := hS j hj
   refine ⟨by simp [k1], ?_⟩
   rw [zCp, okObjs_mono (zCg _) k2]
   simpa using okObj_mono (o := .loop rc E) (zCg σ.length) hokE)
  (fun j s hs => by
   obtain ⟨s0, c, rfl, hc⟩ := hs
   have k : s0.length = σ.length ∧ s0.all (okObj σ.length) = true := by
    rcases hc with ⟨_, hc⟩ | ⟨id, _, hc⟩
    · exact hR _ _ _ hc
    · exact hR _ _ _ hc
   refine ⟨by simp [k.1], ?_⟩
   rw [zCp, okObjs_mono (zCg _) k.2]
   simpa using okObj_mono (o := .loop { rc with state := .done, pending := some c } E) (zCg σ.length) hokE)
  (fun d => by simp [okRef])
  (fun j x hx hp => by
   have hj : j < xs.length := by
    rcases zA5 j xs.length with h | h
    · exact h
    · simp [zA4 h] at hx
   have hxm := zAc hx
   refine yield_roundP (n := n) ⟨hc1, hc2⟩ (hS j (by omega)).1 (hS (j + 1) (by omega)).1 (hS (j + 1) (by omega)).2 hokE (hS j (by omega)).2 (hR j) (by rw [hc3]; exact hr.size) (by rw [hc4]; exact hps x hxm) (by rw [hc4]; exact hpn) (hxo x hxm) ?_
   rw [hc4, hc5, hc6]
   exact round j x hx hp)
 have hB1 : BLe G.B (G.B ++ [.blk l]) := BLe.append _ _
 have hm : (G.B ++ [GB.blk l])[σ.length]? = some (.blk l) := by rw [← hlen]; simp
 have hargs : ArgsB { G with B := G.B ++ [.blk l], D := D1 } (first ++ [.opq (.yld σ.length)] ++ caps) (vf ++ #[.func (.yield l) #[] #[]] ++ vc) :=
  ((ArgsB.append (G := { G with B := G.B ++ [.blk l], D := D1 }) ⟨hvf, fun i c hi => (h1 i c hi).mono (Mem.Le.refl _) hB1⟩ ⟨rfl, fun i c hi => by
    cases i with
    | zero => simp at hi; subst hi; exact .opq _ _ _ _ (.yld _ l hm)
    | succ i => simp at hi⟩).append ⟨hvc, fun i c hi => (h2 i c hi).mono (Mem.Le.refl _) hB1⟩)
 have hcall := hT.2 { G with B := G.B ++ [.blk l], D := D1 } W1 _ (by show SRel _ (S 0 ++ [AObj.loop rc E]) W1; rw [hS0]; exact hs1) hargs
 refine ⟨l, mark, W1, { target := .fn (.func k) vc, args := vf ++ #[.func (.yield l) #[] #[]] }, W1, k, vf ++ #[.func (.yield l) #[] #[]] ++ vc, W1, hent, ?_, fun _ _ => trivial, ?_, ?_, ?_⟩
 · simp only [resolve, hA]
   simp [go_sem, Act.eval, Deferred.ofValue]
 · simp only [invoke]; exact run_callFunc hT.1 _ _
 · intro hd; simp [FR, Fence.wide] at hd
 · refine callsIn_FR (ro := G.R) ?_
   refine Calls.mono hcall ?_
   rintro e w' ⟨v, rv, σ', G', rfl, hQ, hle, hs', _⟩
   have hBl : G'.B[σ.length]? = some (.blk l) := by
    obtain ⟨g', k1, k2⟩ := hle.b _ _ hm
    simp only [GB.Le] at k2; subst k2; exact k1
   -- what is left when the loop is over
   have over : ∀ (s0 : Store) (r : Loop), s0.length = σ.length → s0.all (okObj σ.length) = true → SRel G' (s0 ++ [.loop r E]) w' → r.state ≠ .busy →
    ∃ G'' w'', (Instr.endLoop l).run P w' = .ok r.pending w'' ∧ G.Le G'' ∧ ARel n G'' env s0 { a with defers := mark ++ a.defers } w'' := fun s0 r hl0 ho0 hs0 hbusy => by
    obtain ⟨l', hb', hheap, _, hsa⟩ := hs0.aside (by rw [hl0]; exact ho0)
    rw [hl0, hBl] at hb'; simp at hb'; subst hb'
    have hne : ∀ p ∈ G'.D, p.1 ≠ l := fun p hp e => (hs0.dfr.1 p hp).2.2.1 _ _ hBl (by rw [e]; rfl)
    have hu := (hsa.undefer (D' := G'.D) (zAt ..) (.loop { r with state := .exhausted }) fun p hp => ⟨zAv _ hp, hne p hp⟩)
    have hu2 := SRel.setR (G := { G' with B := G'.B.take s0.length }) (R' := G'.R) hu hs0.dfr.2
    have hBe : BLe G.B (G'.B.take s0.length) := fun i g hi => by
     obtain ⟨g', k1, k2⟩ := (hB1.trans hle.b) i g hi
     have : i < s0.length := by
      rcases zA5 i G.B.length with h | h
      · omega
      · simp [zA4 h] at hi
     exact ⟨g', take_get k1 this, k2⟩
    refine ⟨{ G' with B := G'.B.take s0.length }, _, run_endLoop hheap hbusy, ⟨hle.m0, hle.w0, hle.m, hBe, fun p hp => hle.d p (hD1 p hp), hle.r, hle.f⟩, hr.size, by rw [show ({ G' with B := G'.B.take s0.length } : Gh).F = G.F from hle.f]; exact hdef.mono hle.d, fun i => (hr.vals i).mono hle.m hBe, hu2⟩
   rcases hQ with ⟨rfl, hPn⟩ | ⟨j, hj, s0, c, rfl, hc⟩
   · obtain ⟨k1, k2⟩ := hS xs.length (zAh _)
     obtain ⟨G'', w'', h3, h4, h5⟩ := over _ rc k1 k2 hs' (by rw [hc1]; simp)
     rw [hc2] at h3
     exact ⟨none, w'', h3, env, _, G'', done hPn, h4, h5⟩
   · rcases hc with ⟨rfl, hc⟩ | ⟨id, rfl, hc⟩
     · obtain ⟨k1, k2⟩ := hR _ _ _ hc
       obtain ⟨G'', w'', h3, h4, h5⟩ := over s0 _ k1 k2 hs' (by simp)
       exact ⟨some .ret, w'', h3, wpIn_ret ⟨env, _, G'', left _ _ _ hj hc, h4, h5⟩⟩
     · obtain ⟨k1, k2⟩ := hR _ _ _ hc
       obtain ⟨G'', w'', h3, h4, h5⟩ := over s0 _ k1 k2 hs' (by simp)
       exact ⟨some (.exit id), w'', h3, wpIn_exit ⟨env, _, G'', left _ _ _ hj hc, h4, h5⟩⟩
section
variable {cls : Oper → Nat} {lo hi rank : Nat → Nat → Nat}
def pairC (cls : Oper → Nat) (lo hi rank : Nat → Nat → Nat) (c i k : Nat) (oi ok : Oper) : Prop :=
 ¬ (cls oi = c ∧ cls ok = c) ∧ (cls oi ≠ c → cls ok = c → rank c k ≤ hi c i) ∧ (cls oi = c → cls ok ≠ c → lo c k < rank c i)
def rngC (cls : Oper → Nat) (lo hi rank : Nat → Nat → Nat) (c i k : Nat) (o o' : Oper) : Bool :=
 !(cls o == c && cls o' == c) && (cls o == c || !(cls o' == c) || decide (rank c k ≤ hi c i)) && (!(cls o == c) || cls o' == c || decide (lo c k < rank c i))
theorem rngC_spec {c i k : Nat} {o o' : Oper} (h : rngC cls lo hi rank c i k o o' = true) : pairC cls lo hi rank c i k o o' := by
 unfold rngC at h
 simp only [zA0, zB6, zB8, zD3, beq_iff_eq, beq_eq_false_iff_ne, dEt, ne_eq] at h
 obtain ⟨⟨h1, h2⟩, h3⟩ := h
 refine ⟨fun ⟨a, b⟩ => ?_, fun a b => ?_, fun a b => ?_⟩
 · rcases h1 with h1 | h1
   · exact h1 a
   · exact h1 b
 · rcases h2 with (h2 | h2) | h2
   · exact absurd h2 a
   · exact absurd b h2
   · exact h2
 · rcases h3 with (h3 | h3) | h3
   · exact absurd a h3
   · exact absurd h3 b
   · exact h3
abbrev cOf (cls : Oper → Nat) (c : Nat) (o : Oper) : Bool := cls o == c
end
end Go.Ab
namespace Go.Ab
def bump (J : Nat → Nat) (c : Nat) : Nat → Nat := fun x => if x = c then J x + 1 else J x
section
variable {P : Program} {n : Nat} {ops : Array Oper} {md : Region.Mode} {S : (Nat → Nat) → Store} {m : Nat} {cls : Oper → Nat} {lo hi rank : Nat → Nat → Nat}
inductive VS (P : Program) (n : Nat) (ops : Array Oper) (S : (Nat → Nat) → Store) (m : Nat) (cls : Oper → Nat) (lo hi rank : Nat → Nat → Nat) (i : Nat) (o : Oper) (env : Env) : (Nat → Nat) → AV → (Nat → Nat) → Prop
 | q {J : Nat → Nat} {v : AV} (h1 : ∀ c, 1 ≤ c → c ≤ m → lo c i ≤ J c ∧ J c ≤ hi c i) (he : cls o = 0) (h : ∀ J', (∀ c, 1 ≤ c → c ≤ m → lo c i ≤ J' c ∧ J' c ≤ hi c i) → PStep P ops o env (S J') v) : VS P n ops S m cls lo hi rank i o env J v J
 | e {J : Nat → Nat} {v : AV} (c : Nat) (he : cls o = c) (hc : 1 ≤ c ∧ c ≤ m) (hr : rank c i = J c + 1) (h1 : ∀ d, 1 ≤ d → d ≤ m → d ≠ c → lo d i ≤ J d ∧ J d ≤ hi d i)
  (h : ∀ env', (∀ x ∈ o.looksAt ops, env' x = env x) → ∀ J', J' c + 1 = rank c i → EStep P n ops o (fun e s => e = env'.putO o.dst v ∧ s = S (bump J' c)) env' (S J')) : VS P n ops S m cls lo hi rank i o env J v (bump J c)
end
theorem AWP.newArr {P : Program} {n : Nat} {c : Code} {K : Exit → Env → Store → Prop} {env : Env} {σ : Store} (sz : Nat) (hk : AWP P n c K env (σ ++ [.arr sz 0 []])) : AWP P n c K env σ := by
 intro G a w hr
 have hle : G.Le { G with B := G.B ++ [.own none 0 0] } := .upB (BLe.append _ _)
 have hs : SRel { G with B := G.B ++ [GB.own none 0 0] } (σ ++ [.arr sz 0 []]) w := by
  have h0 := hr.st.ownNil sz
  refine ⟨h0.memok, h0.m0, h0.base, by simpa using h0.len, fun l g o h1 h2 => ?_, h0.fresh, h0.inj, h0.out, h0.dfr⟩
  rcases zA5 l σ.length with hl | hl
  · exact h0.objs l g o h1 (by rw [zA7 hl] at h2 ⊢; exact h2)
  · have h3 := h2
    rw [zA8 hl] at h3
    have h4 : l - σ.length = 0 := by
     rcases zAz (l - σ.length) with h | h
     · exact h
     · rw [zA4 (by simp; omega)] at h3; cases h3
    rw [h4] at h3; simp at h3; subst h3
    rw [zA8 (by rw [hr.st.len]; exact hl), hr.st.len, h4] at h1
    simp at h1; subst h1
    exact .arrz sz 0
 refine wpIn_mono (hk { G with B := G.B ++ [GB.own none 0 0] } a w (hr.later hle hs)) ?_
 rintro x a' w' ⟨e, s, G', h1, h2, h3⟩
 exact ⟨e, s, G', h1, Gh.Le.trans hle h2, h3⟩
end Go.Ab
