/- Contracts by content: the bars of a form in their order, of the reference.  Contracts by content: forms, of the reference: whole, Valid.  Errors by content: need, code. errors.As at the target *refused is walked straight (after the worked example of errors.As). No statement is proved here. -/
import Derived.LaidEql
import Derived.RowKitTokens
import Derived.Stop.Asserts
import Derived.Test.YtdglbdfdkabjfaaGreatDoorP7
import Derived.Test.YtdglbdfdkabjfaaGreatDoorP12
import Derived.Test.YtdglbdfdkabjfaaGreatDoorP18
set_option linter.unusedVariables false
set_option linter.unusedSimpArgs false
namespace Go.Proofs.YtdglbdfdkabjfaaGreatDoor.Pl
open Go.Ab Go.Pl
attribute [local irreducible] AWP AOps EStep AQ PStep PRun PCall TCall VCall
theorem mapI (l : List Int) (b : Int) : l.map (fun n => [AV.int n]) ++ [[AV.int b]] = (l ++ [b]).map fun n => [AV.int n] := by rw [zC2]; rfl
set_option maxHeartbeats 4000000 in
set_option maxRecDepth 20000 in
theorem part9_spec (f : PForm) (hf : FIn f) (hB : FOk f) (a u : Int) (again : Bool) (ha : 0 ≤ a ∧ a ≤ 4000) (hu : u ≤ 4000) :
 PCall Tryz.prog 134 [.agg (encF f), .int a, .int u, .b again] (.sl 1 ((partL f a u (!again)).map fun n => [AV.int n]) .no) := by
 have hr1 : ∀ r ∈ f.reps, r.from_ < r.until_ := fun r hr => (hB.reps r hr).2.1
 have hb := hB.bars
 have hlen : (partL f a u (!again)).length ≤ 36000 := by
  have := Go.Pl.partF_len (f := f) (M := 4000) (fun r h => by have := hB.reps r h; omega) (fun r h => by have := hB.reps r h; omega) u hu (!again) (u - a).toNat a
  unfold partL; omega
 obtain ⟨P, hP⟩ : ∃ P, partL f a u (!again) = P := ⟨_, rfl⟩
 have hlP : P.length ≤ 36000 := hP ▸ hlen
 refine PCall.body Tryz.func134 rfl rfl Tryz.ntmps134 rfl rfl ?_
 repeat' (first | refine aoQ rfl rfl rfl (fun hg => by exact std0) (by exact rfl) ?_ | refine sqW ?_ | refine rgK (fun K' hK => ?_) | (refine aoN (hK _ _ ?_); clear hK K') | refine aoE (bxW rfl rfl rfl rfl rfl tI rfl rfl ?_) | refine blK ?_)
 refine AWP.ownNil (d := 9) (sz := 1) rfl ?_
 refine lpD (ι := List Int × Int) (fun q => [(2, .int u), (3, .b again), (4, .ptr 0 0), (9, .sl 1 (q.1.map fun n => [AV.int n]) (.own 1)), (10, .int q.2)]) (fun q => [.var (encF f), .own 1 (q.1.map fun n => [AV.int n]).length])
  (fun q => q.1.length ≤ 36000 ∧ (0 ≤ q.2 ∧ q.2 ≤ 4000) ∧ P = q.1 ++ partL f q.2 u (!again)) (fun q => (u - q.2).toNat) 2 (fun _ => rfl) ([], a) ⟨nZl _, ha, hP.symm⟩ ⟨rfl, rfl, rfl, rfl, rfl, tI⟩ rfl (fun _ _ => rfl) (fun _ _ => rfl) ?_
 rintro ⟨out, bar⟩ ⟨hol, hbar, hinv⟩
 dsimp only at hol hbar hinv ⊢
 by_cases hlt : bar < u
 · have hix := starts9_spec f bar hf
   cases hs : startsR f.reps bar with
   | none =>
     rw [starts_no hs] at hix
     rw [part_bar hr1 hlt (!again) hs] at hinv
     have hl2 : (out ++ [bar]).length ≤ 36000 := by
      have h := congrArg List.length hinv
      rw [lLa, zAe] at h
      rw [lLa, zBw]; omega
     repeat' (first | refine aoQ rfl rfl rfl (fun hg => by first | exact std0 | exact pcW (hix) rfl rfl nd rfl nds | exact pbS tabOk rfl rfl nds | exact std1) (by exact rfl) ?_ | refine sqW ?_ | refine rgK (fun K' hK => ?_) | (refine aoN (hK _ _ ?_); clear hK K') | refine aoE (stW tabOk rfl rfl rfl tI rfl rfl tI rfl rfl rfl rfl rfl rfl rfl ?_) | refine aoE (alW tabOk rfl rfl rfl rfl rfl rfl ?_) | refine aoE (EStep.appendOwn tabOk rfl rfl rfl (by decide) (Rd.w rfl tI) rfl (Rd.w rfl tI) (.sl rfl (by first | (intro x hx; rcases zAf.1 hx with rfl; rfl) | exact one_by8 _ | exact one_ints _)) (LOk.of (tabOk.get rfl)) (LOk.of (tabOk.get rfl)) rfl rfl (by simp only [lLm, lLa, zAe, zAn]; omega) (by simp only [lLm, lLa, zAe, zAn]; omega) ?_) | (refine cdN rfl tI (fun hc => ?_) (fun hc => ?_) <;> try dsimp only at hc) | refine blK ?_ | refine exW ?_ | refine skW ?_ | refine rtW ?_)
     all_goals (first | (exfalso; omega) | skip)
     refine ⟨(out ++ [bar], bar + 1), ⟨hl2, ⟨by dsimp only; omega, by dsimp only; omega⟩, by dsimp only; rw [hinv, zBb]; rfl⟩, by dsimp only; omega, ⟨rfl, rfl, rfl, congrArg (fun l => AV.sl 1 l (.own 1)) (mapI _ _), rfl, tI⟩, ?_⟩
     dsimp only
     rw [show ((out ++ [bar]).map fun n => [AV.int n]).length = (out.map fun n => [AV.int n]).length + 1 by simp]; rfl
   | some r =>
     obtain ⟨k, hk, hkr, hfi, hfr⟩ := starts_at hs
     rw [hfi] at hix
     rw [part_rep hr1 hlt (!again) hs] at hinv
     have hrb := hB.reps r (zB1 hs)
     have hkl := hf.reps
     repeat' (first | refine aoQ rfl rfl rfl (fun hg => by first | exact iX encRp f.reps ((k : Nat) : Int) hkr (hb := by omega) | exact std0 | exact pcW (hix) rfl rfl nd rfl nds) (by exact rfl) ?_ | refine sqW ?_ | refine rgK (fun K' hK => ?_) | (refine aoN (hK _ _ ?_); clear hK K') | refine aoE (stW tabOk rfl rfl rfl tI rfl rfl tI rfl rfl rfl rfl rfl rfl rfl ?_) | refine aoE (alW tabOk rfl rfl rfl rfl rfl rfl ?_) | (refine cdN rfl tI (fun hc => ?_) (fun hc => ?_) <;> try dsimp only at hc) | refine blK ?_ | refine exW ?_ | refine skW ?_ | refine rtW ?_)
     all_goals (first | (exfalso; omega) | skip)
     all_goals
      refine lpD (ι := List Int × Int) (fun q => [(2, .int u), (3, .b again), (4, .ptr 0 0), (9, .sl 1 (q.1.map fun n => [AV.int n]) (.own 1)), (12, .ptr 2 0), (14, .int q.2)]) (fun q => [.var (encF f), .own 1 (q.1.map fun n => [AV.int n]).length, .var (encRp r)])
       (fun q => q.1.length ≤ 36000 ∧ (1 ≤ q.2 ∧ q.2 ≤ r.times + 1) ∧ P = q.1 ++ ((upTo q.2 (r.times + 1)).flatMap (passL f r) ++ partL f r.until_ u (!again))) (fun q => (r.times + 1 - q.2).toNat) 3 (fun _ => rfl) (out, if !again then 1 else r.times) ⟨hol, by dsimp only; split <;> omega, hinv⟩ ⟨rfl, rfl, rfl, rfl, rfl, by rw [hc]; rfl, tI⟩ rfl (fun _ _ => rfl) (fun _ _ => rfl) ?_
      rintro ⟨out1, pass⟩ ⟨hol1, hps, hd1⟩
      dsimp only at hol1 hps hd1 ⊢
      by_cases hlp : pass ≤ r.times
      · rw [upTo_cons (by omega), List.flatMap_cons, zBb] at hd1
        repeat' (first | refine aoQ rfl rfl rfl (fun hg => by exact std0) (by exact rfl) ?_ | refine sqW ?_ | refine rgK (fun K' hK => ?_) | (refine aoN (hK _ _ ?_); clear hK K') | (refine cdN rfl tI (fun hc => ?_) (fun hc => ?_) <;> try dsimp only at hc) | refine blK ?_ | refine exW ?_ | refine skW ?_)
        all_goals (first | (exfalso; omega) | skip)
        refine lpD (ι := List Int × Int) (fun q => [(2, .int u), (3, .b again), (4, .ptr 0 0), (9, .sl 1 (q.1.map fun n => [AV.int n]) (.own 1)), (12, .ptr 2 0), (14, .int pass), (15, .int q.2)]) (fun q => [.var (encF f), .own 1 (q.1.map fun n => [AV.int n]).length, .var (encRp r)])
         (fun q => q.1.length ≤ 36000 ∧ (r.from_ ≤ q.2 ∧ q.2 ≤ r.until_) ∧ P = q.1 ++ ((upTo q.2 r.until_).filter (fun i => playedE f.ends i pass) ++ ((upTo (pass + 1) (r.times + 1)).flatMap (passL f r) ++ partL f r.until_ u (!again)))) (fun q => (r.until_ - q.2).toNat) 3 (fun _ => rfl) (out1, r.from_) ⟨hol1, ⟨zBh _, by dsimp only; omega⟩, hd1⟩ ⟨rfl, rfl, rfl, rfl, rfl, rfl, rfl, tI⟩ rfl (fun _ _ => rfl) (fun _ _ => rfl) ?_
        rintro ⟨out2, i⟩ ⟨hol2, hi, hd2⟩
        dsimp only at hol2 hi hd2 ⊢
        by_cases hli : i < r.until_
        · rw [upTo_cons hli] at hd2
          have hen := played9_spec f i pass hf
          cases hpl : playedE f.ends i pass with
          | false =>
            rw [zCb (by rw [hpl]; decide)] at hd2
            rw [hpl] at hen
            repeat' (first | refine aoQ rfl rfl rfl (fun hg => by first | exact std0 | exact pcW (hen) rfl rfl nd rfl nds | exact pbS tabOk rfl rfl nds) (by exact rfl) ?_ | refine sqW ?_ | refine rgK (fun K' hK => ?_) | (refine aoN (hK _ _ ?_); clear hK K') | refine aoE (EStep.appendOwn tabOk rfl rfl rfl (by decide) (Rd.w rfl tI) rfl (Rd.w rfl tI) (.sl rfl (by first | (intro x hx; rcases zAf.1 hx with rfl; rfl) | exact one_by8 _ | exact one_ints _)) (LOk.of (tabOk.get rfl)) (LOk.of (tabOk.get rfl)) rfl rfl (by simp only [lLm, lLa, zAe, zAn]; omega) (by simp only [lLm, lLa, zAe, zAn]; omega) ?_) | (refine cdN rfl tI (fun hc => ?_) (fun hc => ?_) <;> try dsimp only at hc) | refine blK ?_ | refine exW ?_ | refine skW ?_)
            all_goals (first | (exfalso; omega) | skip)
            all_goals first | exact ⟨(out2, i + 1), ⟨hol2, ⟨by dsimp only; omega, by dsimp only; omega⟩, hd2⟩, by dsimp only; omega, ⟨rfl, rfl, rfl, rfl, rfl, rfl, rfl, tI⟩, rfl⟩ | (exfalso; cases hc; done) | (exfalso; simp at hc; done)
          | true =>
            rw [zCa (by exact hpl), zD7] at hd2
            rw [hpl] at hen
            have hl2 : (out2 ++ [i]).length ≤ 36000 := by
             have h := congrArg List.length hd2
             rw [lLa, zAe] at h
             rw [lLa, zBw]; omega
            repeat' (first | refine aoQ rfl rfl rfl (fun hg => by first | exact std0 | exact pcW (hen) rfl rfl nd rfl nds | exact pbS tabOk rfl rfl nds) (by exact rfl) ?_ | refine sqW ?_ | refine rgK (fun K' hK => ?_) | (refine aoN (hK _ _ ?_); clear hK K') | refine aoE (EStep.appendOwn tabOk rfl rfl rfl (by decide) (Rd.w rfl tI) rfl (Rd.w rfl tI) (.sl rfl (by first | (intro x hx; rcases zAf.1 hx with rfl; rfl) | exact one_by8 _ | exact one_ints _)) (LOk.of (tabOk.get rfl)) (LOk.of (tabOk.get rfl)) rfl rfl (by simp only [lLm, lLa, zAe, zAn]; omega) (by simp only [lLm, lLa, zAe, zAn]; omega) ?_) | (refine cdN rfl tI (fun hc => ?_) (fun hc => ?_) <;> try dsimp only at hc) | refine blK ?_ | refine exW ?_ | refine skW ?_)
            all_goals (first | (exfalso; omega) | (exfalso; cases hc; done) | (exfalso; simp at hc; done) | skip)
            refine ⟨(out2 ++ [i], i + 1), ⟨hl2, ⟨by dsimp only; omega, by dsimp only; omega⟩, by dsimp only; rw [hd2, zBb]; rfl⟩, by dsimp only; omega, ⟨rfl, rfl, rfl, congrArg (fun l => AV.sl 1 l (.own 1)) (mapI _ _), rfl, rfl, rfl, tI⟩, ?_⟩
            dsimp only
            rw [show ((out2 ++ [i]).map fun n => [AV.int n]).length = (out2.map fun n => [AV.int n]).length + 1 by simp]; rfl
        · rw [upTo_nil (by omega)] at hd2
          repeat' (first | refine aoQ rfl rfl rfl (fun hg => by exact std0) (by exact rfl) ?_ | refine sqW ?_ | refine rgK (fun K' hK => ?_) | (refine aoN (hK _ _ ?_); clear hK K') | (refine cdN rfl tI (fun hc => ?_) (fun hc => ?_) <;> try dsimp only at hc) | refine blK ?_ | refine exW ?_ | refine skW ?_)
          all_goals (first | (exfalso; omega) | skip)
          exact ⟨(out2, pass + 1), ⟨hol2, ⟨by dsimp only; omega, by dsimp only; omega⟩, hd2⟩, by dsimp only; omega, ⟨rfl, rfl, rfl, rfl, rfl, rfl, tI⟩, rfl⟩
      · rw [upTo_nil (by omega)] at hd1
        repeat' (first | refine aoQ rfl rfl rfl (fun hg => by exact std0) (by exact rfl) ?_ | refine sqW ?_ | refine rgK (fun K' hK => ?_) | (refine aoN (hK _ _ ?_); clear hK K') | (refine cdN rfl tI (fun hc => ?_) (fun hc => ?_) <;> try dsimp only at hc) | refine blK ?_ | refine exW ?_ | refine skW ?_)
        all_goals (first | (exfalso; omega) | skip)
        exact ⟨(out1, r.until_), ⟨hol1, ⟨by dsimp only; omega, by dsimp only; omega⟩, hd1⟩, by dsimp only; omega, ⟨rfl, rfl, rfl, rfl, rfl, tI⟩, rfl⟩
 · rw [part_end (by omega), zCy] at hinv
   repeat' (first | refine aoQ rfl rfl rfl (fun hg => by exact std0) (by exact rfl) ?_ | refine sqW ?_ | refine rgK (fun K' hK => ?_) | (refine aoN (hK _ _ ?_); clear hK K') | (refine cdN rfl tI (fun hc => ?_) (fun hc => ?_) <;> try dsimp only at hc) | refine blK ?_ | refine exW ?_ | refine skW ?_ | refine rtW ?_)
   all_goals (first | (exfalso; omega) | skip)
   refine ⟨.inr rfl, Ent.of ?_⟩
   rw [hP, hinv]; rfl
set_option maxHeartbeats 4000000 in
set_option maxRecDepth 20000 in
theorem part9_T (f : PForm) (hf : FIn f) (hB : FOk f) (a u : Int) (again : Bool) (ha : 0 ≤ a ∧ a ≤ 4000) (hu : u ≤ 4000) :
 TCall Tryz.prog 134 [.agg (encF f), .int a, .int u, .b again] [.var (encF f)] (fun r s => r = .sl 1 ((partL f a u (!again)).map fun n => [AV.int n]) (.own 2) ∧ s = [.var (encF f), .var (encF f), .own 1 ((partL f a u (!again)).map fun n => [AV.int n]).length]) := by
 have hr1 : ∀ r ∈ f.reps, r.from_ < r.until_ := fun r hr => (hB.reps r hr).2.1
 have hb := hB.bars
 have hlen : (partL f a u (!again)).length ≤ 36000 := by
  have := Go.Pl.partF_len (f := f) (M := 4000) (fun r h => by have := hB.reps r h; omega) (fun r h => by have := hB.reps r h; omega) u hu (!again) (u - a).toNat a
  unfold partL; omega
 obtain ⟨P, hP⟩ : ∃ P, partL f a u (!again) = P := ⟨_, rfl⟩
 have hlP : P.length ≤ 36000 := hP ▸ hlen
 refine TCall.body Tryz.func134 rfl rfl Tryz.ntmps134 rfl rfl ?_
 repeat' (first | refine aoQ rfl rfl rfl (fun hg => by exact std0) (by exact rfl) ?_ | refine sqW ?_ | refine rgK (fun K' hK => ?_) | (refine aoN (hK _ _ ?_); clear hK K') | refine aoE (bxW rfl rfl rfl rfl rfl tI rfl rfl ?_) | refine blK ?_)
 refine AWP.ownNil (d := 9) (sz := 1) rfl ?_
 refine lpD (ι := List Int × Int) (fun q => [(2, .int u), (3, .b again), (4, .ptr 1 0), (9, .sl 1 (q.1.map fun n => [AV.int n]) (.own 2)), (10, .int q.2)]) (fun q => [.var (encF f), .var (encF f), .own 1 (q.1.map fun n => [AV.int n]).length])
  (fun q => q.1.length ≤ 36000 ∧ (0 ≤ q.2 ∧ q.2 ≤ 4000) ∧ P = q.1 ++ partL f q.2 u (!again)) (fun q => (u - q.2).toNat) 3 (fun _ => rfl) ([], a) ⟨nZl _, ha, hP.symm⟩ ⟨rfl, rfl, rfl, rfl, rfl, tI⟩ rfl (fun _ _ => rfl) (fun _ _ => rfl) ?_
 rintro ⟨out, bar⟩ ⟨hol, hbar, hinv⟩
 dsimp only at hol hbar hinv ⊢
 by_cases hlt : bar < u
 · have hix := starts9_spec f bar hf
   cases hs : startsR f.reps bar with
   | none =>
     rw [starts_no hs] at hix
     rw [part_bar hr1 hlt (!again) hs] at hinv
     have hl2 : (out ++ [bar]).length ≤ 36000 := by
      have h := congrArg List.length hinv
      rw [lLa, zAe] at h
      rw [lLa, zBw]; omega
     repeat' (first | refine aoQ rfl rfl rfl (fun hg => by first | exact std0 | exact pcW (hix) rfl rfl nd rfl nds | exact pbS tabOk rfl rfl nds | exact std1) (by exact rfl) ?_ | refine sqW ?_ | refine rgK (fun K' hK => ?_) | (refine aoN (hK _ _ ?_); clear hK K') | refine aoE (stW tabOk rfl rfl rfl tI rfl rfl tI rfl rfl rfl rfl rfl rfl rfl ?_) | refine aoE (alW tabOk rfl rfl rfl rfl rfl rfl ?_) | refine aoE (EStep.appendOwn tabOk rfl rfl rfl (by decide) (Rd.w rfl tI) rfl (Rd.w rfl tI) (.sl rfl (by first | (intro x hx; rcases zAf.1 hx with rfl; rfl) | exact one_by8 _ | exact one_ints _)) (LOk.of (tabOk.get rfl)) (LOk.of (tabOk.get rfl)) rfl rfl (by simp only [lLm, lLa, zAe, zAn]; omega) (by simp only [lLm, lLa, zAe, zAn]; omega) ?_) | (refine cdN rfl tI (fun hc => ?_) (fun hc => ?_) <;> try dsimp only at hc) | refine blK ?_ | refine exW ?_ | refine skW ?_ | refine rtW ?_)
     all_goals (first | (exfalso; omega) | skip)
     refine ⟨(out ++ [bar], bar + 1), ⟨hl2, ⟨by dsimp only; omega, by dsimp only; omega⟩, by dsimp only; rw [hinv, zBb]; rfl⟩, by dsimp only; omega, ⟨rfl, rfl, rfl, congrArg (fun l => AV.sl 1 l (.own 2)) (mapI _ _), rfl, tI⟩, ?_⟩
     dsimp only
     rw [show ((out ++ [bar]).map fun n => [AV.int n]).length = (out.map fun n => [AV.int n]).length + 1 by simp]; rfl
   | some r =>
     obtain ⟨k, hk, hkr, hfi, hfr⟩ := starts_at hs
     rw [hfi] at hix
     rw [part_rep hr1 hlt (!again) hs] at hinv
     have hrb := hB.reps r (zB1 hs)
     have hkl := hf.reps
     repeat' (first | refine aoQ rfl rfl rfl (fun hg => by first | exact iX encRp f.reps ((k : Nat) : Int) hkr (hb := by omega) | exact std0 | exact pcW (hix) rfl rfl nd rfl nds) (by exact rfl) ?_ | refine sqW ?_ | refine rgK (fun K' hK => ?_) | (refine aoN (hK _ _ ?_); clear hK K') | refine aoE (stW tabOk rfl rfl rfl tI rfl rfl tI rfl rfl rfl rfl rfl rfl rfl ?_) | refine aoE (alW tabOk rfl rfl rfl rfl rfl rfl ?_) | (refine cdN rfl tI (fun hc => ?_) (fun hc => ?_) <;> try dsimp only at hc) | refine blK ?_ | refine exW ?_ | refine skW ?_ | refine rtW ?_)
     all_goals (first | (exfalso; omega) | skip)
     all_goals
      refine lpD (ι := List Int × Int) (fun q => [(2, .int u), (3, .b again), (4, .ptr 1 0), (9, .sl 1 (q.1.map fun n => [AV.int n]) (.own 2)), (12, .ptr 3 0), (14, .int q.2)]) (fun q => [.var (encF f), .var (encF f), .own 1 (q.1.map fun n => [AV.int n]).length, .var (encRp r)])
       (fun q => q.1.length ≤ 36000 ∧ (1 ≤ q.2 ∧ q.2 ≤ r.times + 1) ∧ P = q.1 ++ ((upTo q.2 (r.times + 1)).flatMap (passL f r) ++ partL f r.until_ u (!again))) (fun q => (r.times + 1 - q.2).toNat) 4 (fun _ => rfl) (out, if !again then 1 else r.times) ⟨hol, by dsimp only; split <;> omega, hinv⟩ ⟨rfl, rfl, rfl, rfl, rfl, by rw [hc]; rfl, tI⟩ rfl (fun _ _ => rfl) (fun _ _ => rfl) ?_
      rintro ⟨out1, pass⟩ ⟨hol1, hps, hd1⟩
      dsimp only at hol1 hps hd1 ⊢
      by_cases hlp : pass ≤ r.times
      · rw [upTo_cons (by omega), List.flatMap_cons, zBb] at hd1
        repeat' (first | refine aoQ rfl rfl rfl (fun hg => by exact std0) (by exact rfl) ?_ | refine sqW ?_ | refine rgK (fun K' hK => ?_) | (refine aoN (hK _ _ ?_); clear hK K') | (refine cdN rfl tI (fun hc => ?_) (fun hc => ?_) <;> try dsimp only at hc) | refine blK ?_ | refine exW ?_ | refine skW ?_)
        all_goals (first | (exfalso; omega) | skip)
        refine lpD (ι := List Int × Int) (fun q => [(2, .int u), (3, .b again), (4, .ptr 1 0), (9, .sl 1 (q.1.map fun n => [AV.int n]) (.own 2)), (12, .ptr 3 0), (14, .int pass), (15, .int q.2)]) (fun q => [.var (encF f), .var (encF f), .own 1 (q.1.map fun n => [AV.int n]).length, .var (encRp r)])
         (fun q => q.1.length ≤ 36000 ∧ (r.from_ ≤ q.2 ∧ q.2 ≤ r.until_) ∧ P = q.1 ++ ((upTo q.2 r.until_).filter (fun i => playedE f.ends i pass) ++ ((upTo (pass + 1) (r.times + 1)).flatMap (passL f r) ++ partL f r.until_ u (!again)))) (fun q => (r.until_ - q.2).toNat) 4 (fun _ => rfl) (out1, r.from_) ⟨hol1, ⟨zBh _, by dsimp only; omega⟩, hd1⟩ ⟨rfl, rfl, rfl, rfl, rfl, rfl, rfl, tI⟩ rfl (fun _ _ => rfl) (fun _ _ => rfl) ?_
        rintro ⟨out2, i⟩ ⟨hol2, hi, hd2⟩
        dsimp only at hol2 hi hd2 ⊢
        by_cases hli : i < r.until_
        · rw [upTo_cons hli] at hd2
          have hen := played9_spec f i pass hf
          cases hpl : playedE f.ends i pass with
          | false =>
            rw [zCb (by rw [hpl]; decide)] at hd2
            rw [hpl] at hen
            repeat' (first | refine aoQ rfl rfl rfl (fun hg => by first | exact std0 | exact pcW (hen) rfl rfl nd rfl nds | exact pbS tabOk rfl rfl nds) (by exact rfl) ?_ | refine sqW ?_ | refine rgK (fun K' hK => ?_) | (refine aoN (hK _ _ ?_); clear hK K') | refine aoE (EStep.appendOwn tabOk rfl rfl rfl (by decide) (Rd.w rfl tI) rfl (Rd.w rfl tI) (.sl rfl (by first | (intro x hx; rcases zAf.1 hx with rfl; rfl) | exact one_by8 _ | exact one_ints _)) (LOk.of (tabOk.get rfl)) (LOk.of (tabOk.get rfl)) rfl rfl (by simp only [lLm, lLa, zAe, zAn]; omega) (by simp only [lLm, lLa, zAe, zAn]; omega) ?_) | (refine cdN rfl tI (fun hc => ?_) (fun hc => ?_) <;> try dsimp only at hc) | refine blK ?_ | refine exW ?_ | refine skW ?_)
            all_goals (first | (exfalso; omega) | skip)
            all_goals first | exact ⟨(out2, i + 1), ⟨hol2, ⟨by dsimp only; omega, by dsimp only; omega⟩, hd2⟩, by dsimp only; omega, ⟨rfl, rfl, rfl, rfl, rfl, rfl, rfl, tI⟩, rfl⟩ | (exfalso; cases hc; done) | (exfalso; simp at hc; done)
          | true =>
            rw [zCa (by exact hpl), zD7] at hd2
            rw [hpl] at hen
            have hl2 : (out2 ++ [i]).length ≤ 36000 := by
             have h := congrArg List.length hd2
             rw [lLa, zAe] at h
             rw [lLa, zBw]; omega
            repeat' (first | refine aoQ rfl rfl rfl (fun hg => by first | exact std0 | exact pcW (hen) rfl rfl nd rfl nds | exact pbS tabOk rfl rfl nds) (by exact rfl) ?_ | refine sqW ?_ | refine rgK (fun K' hK => ?_) | (refine aoN (hK _ _ ?_); clear hK K') | refine aoE (EStep.appendOwn tabOk rfl rfl rfl (by decide) (Rd.w rfl tI) rfl (Rd.w rfl tI) (.sl rfl (by first | (intro x hx; rcases zAf.1 hx with rfl; rfl) | exact one_by8 _ | exact one_ints _)) (LOk.of (tabOk.get rfl)) (LOk.of (tabOk.get rfl)) rfl rfl (by simp only [lLm, lLa, zAe, zAn]; omega) (by simp only [lLm, lLa, zAe, zAn]; omega) ?_) | (refine cdN rfl tI (fun hc => ?_) (fun hc => ?_) <;> try dsimp only at hc) | refine blK ?_ | refine exW ?_ | refine skW ?_)
            all_goals (first | (exfalso; omega) | (exfalso; cases hc; done) | (exfalso; simp at hc; done) | skip)
            refine ⟨(out2 ++ [i], i + 1), ⟨hl2, ⟨by dsimp only; omega, by dsimp only; omega⟩, by dsimp only; rw [hd2, zBb]; rfl⟩, by dsimp only; omega, ⟨rfl, rfl, rfl, congrArg (fun l => AV.sl 1 l (.own 2)) (mapI _ _), rfl, rfl, rfl, tI⟩, ?_⟩
            dsimp only
            rw [show ((out2 ++ [i]).map fun n => [AV.int n]).length = (out2.map fun n => [AV.int n]).length + 1 by simp]; rfl
        · rw [upTo_nil (by omega)] at hd2
          repeat' (first | refine aoQ rfl rfl rfl (fun hg => by exact std0) (by exact rfl) ?_ | refine sqW ?_ | refine rgK (fun K' hK => ?_) | (refine aoN (hK _ _ ?_); clear hK K') | (refine cdN rfl tI (fun hc => ?_) (fun hc => ?_) <;> try dsimp only at hc) | refine blK ?_ | refine exW ?_ | refine skW ?_)
          all_goals (first | (exfalso; omega) | skip)
          exact ⟨(out2, pass + 1), ⟨hol2, ⟨by dsimp only; omega, by dsimp only; omega⟩, hd2⟩, by dsimp only; omega, ⟨rfl, rfl, rfl, rfl, rfl, rfl, tI⟩, rfl⟩
      · rw [upTo_nil (by omega)] at hd1
        repeat' (first | refine aoQ rfl rfl rfl (fun hg => by exact std0) (by exact rfl) ?_ | refine sqW ?_ | refine rgK (fun K' hK => ?_) | (refine aoN (hK _ _ ?_); clear hK K') | (refine cdN rfl tI (fun hc => ?_) (fun hc => ?_) <;> try dsimp only at hc) | refine blK ?_ | refine exW ?_ | refine skW ?_)
        all_goals (first | (exfalso; omega) | skip)
        exact ⟨(out1, r.until_), ⟨hol1, ⟨by dsimp only; omega, by dsimp only; omega⟩, hd1⟩, by dsimp only; omega, ⟨rfl, rfl, rfl, rfl, rfl, tI⟩, rfl⟩
 · rw [part_end (by omega), zCy] at hinv
   repeat' (first | refine aoQ rfl rfl rfl (fun hg => by exact std0) (by exact rfl) ?_ | refine sqW ?_ | refine rgK (fun K' hK => ?_) | (refine aoN (hK _ _ ?_); clear hK K') | (refine cdN rfl tI (fun hc => ?_) (fun hc => ?_) <;> try dsimp only at hc) | refine blK ?_ | refine exW ?_ | refine skW ?_ | refine rtW ?_)
   all_goals (first | (exfalso; omega) | skip)
   refine ⟨.inr rfl, _, _, ⟨rfl, rfl⟩, ?_, ?_, ?_, ?_, ?_⟩
   all_goals rw [hP, hinv]
   all_goals first | rfl | exact Nat.le_succ_of_le (zCg _) | trace_state
structure FAll (f : PForm) : Prop where
 good : FGood f
 nojump : f.jump.at_ = 0 → f.jump = ⟨0, 0, 0⟩
theorem FAll.of {f : PForm} (h : formA f = true) : FAll f := by
 refine ⟨FGood.of h, fun h0 => ?_⟩
 unfold formA at h
 simp only [zA0] at h
 have hj := h.1.2
 unfold jumpOk at hj
 rw [zB6] at hj
 rcases hj with hj | hj
 · exact of_decide_eq_true hj
 · simp only [zA0, zB8, zAk, dEf] at hj
   omega
theorem part_len {f : PForm} (hB : FOk f) (a u : Int) (all : Bool) (ha : 0 ≤ a) (hu : u ≤ 4000) : (partL f a u all).length ≤ 36000 := by
 have := Go.Pl.partF_len (f := f) (M := 4000) (fun r h => by have := hB.reps r h; omega) (fun r h => by have := hB.reps r h; have := hB.bars; omega) u hu all (u - a).toNat a
 unfold partL; omega
set_option maxHeartbeats 2000000 in
theorem whole9_spec (f : PForm) (hf : FIn f) (hA : FAll f) : PCall Tryz.prog 82 [.agg (encF f)] (.sl 1 ((wholeL f).map fun n => [AV.int n]) .no) := by
 have hB := hA.good.ok
 obtain ⟨j1, j2, j3, j4, j5⟩ := hA.good.j
 have hbars := hB.bars
 by_cases h0 : f.jump.at_ = 0
 · have hj := hA.nojump h0
   have e1 : wholeL f = partL f 0 f.bars (!false) := by
    unfold wholeL
    rw [if_pos h0, hj]
    show _ ++ partL f 0 0 false = _
    rw [part_end (zBh _), zCy]; rfl
   have hp := part9_spec f hf hB 0 f.bars false ⟨zBh _, by decide⟩ hbars
   rw [← e1] at hp
   refine PCall.body Tryz.func82 rfl rfl Tryz.ntmps82 rfl rfl ?_
   repeat' (first | refine aoQ rfl rfl rfl (fun hg => by first | exact std0 | exact pcW (hp) rfl rfl nd rfl nds) (by exact rfl) ?_ | refine sqW ?_ | refine rgK (fun K' hK => ?_) | (refine aoN (hK _ _ ?_); clear hK K') | refine aoE (bxW rfl rfl rfl rfl rfl tI rfl rfl ?_) | (refine cdN rfl tI (fun hc => ?_) (fun hc => ?_) <;> try dsimp only at hc) | refine skW ?_ | refine rtW ?_)
   · exact ⟨.inr rfl, fun _ _ h => h⟩
   all_goals (exfalso; simp [h0] at hc)
 · have hp := TCall.val (first := []) (caps := []) (avs := [.agg (encF f), .int 0, .int f.jump.at_, .b false]) (part9_T f hf hB 0 f.jump.at_ false ⟨zBh _, by decide⟩ j3)
   have hp2 := part9_spec f hf hB f.jump.to f.jump.fine true ⟨j2, j4⟩ j5
   have hl1 := part_len hB 0 f.jump.at_ (!false) (zBh _) j3
   have hl2 := part_len hB f.jump.to f.jump.fine (!true) j2 j5
   have e1 : wholeL f = partL f 0 f.jump.at_ (!false) ++ partL f f.jump.to f.jump.fine (!true) := by
    unfold wholeL
    rw [if_neg h0]; rfl
   rw [e1, zC2]
   generalize partL f 0 f.jump.at_ (!false) = l1 at *
   generalize partL f f.jump.to f.jump.fine (!true) = l2 at *
   refine PCall.body Tryz.func82 rfl rfl Tryz.ntmps82 rfl rfl ?_
   repeat' (first | refine aoQ rfl rfl rfl (fun hg => by exact std0) (by exact rfl) ?_ | refine sqW ?_ | refine rgK (fun K' hK => ?_) | (refine aoN (hK _ _ ?_); clear hK K') | refine aoE (bxW rfl rfl rfl rfl rfl tI rfl rfl ?_) | refine aoE (scT (hp) rfl rfl rfl rfl rfl nd rfl rfl nds ?_) | (refine cdN rfl tI (fun hc => ?_) (fun hc => ?_) <;> try dsimp only at hc) | refine skW ?_)
   all_goals (first | (exfalso; simp [h0] at hc; done) | skip)
   rintro _ _ ⟨rfl, rfl⟩
   repeat' (first | refine aoQ rfl rfl rfl (fun hg => by first | exact std0 | exact pcW (hp2) rfl rfl nd rfl nds) (by exact rfl) ?_ | refine sqW ?_ | refine rgK (fun K' hK => ?_) | (refine aoN (hK _ _ ?_); clear hK K') | refine aoE (EStep.appendOwn tabOk rfl rfl rfl (by decide) (Rd.w rfl tI) rfl (Rd.w rfl tI) (.sl rfl (by first | (intro x hx; rcases zAf.1 hx with rfl; rfl) | exact one_by8 _ | exact one_ints _)) (LOk.of (tabOk.get rfl)) (LOk.of (tabOk.get rfl)) rfl rfl (by simp only [lLm, lLa, zAe, zAn]; omega) (by simp only [lLm, lLa, zAe, zAn]; omega) ?_) | refine rtW ?_)
   exact ⟨.inr rfl, Ent.of rfl⟩
set_option maxHeartbeats 2000000 in
theorem valid9_spec (f : PForm) (hf : FIn f) : PCall Tryz.prog 25 [.agg (encF f)] (.b (formOk f)) := by
 have h1 := repeats9_spec f.reps f.bars hf.reps
 have h2 := endings9_spec f hf
 have h3 := jump9_spec f hf
 have hl := hf.cuts
 obtain ⟨Z, hZ⟩ : ∃ Z, (decide (1 ≤ f.bars) && decide (f.bars ≤ 4000) && (repsOk f.bars 0 f.reps && decide (f.reps.length ≤ 100)) && (endsOk f.reps 0 f.ends && decide (f.ends.length ≤ 100)) && jumpOk f) = Z := ⟨_, rfl⟩
 have hA : formA f = (Z && (cutsOk f.bars f.cuts && decide (f.cuts.length ≤ 100))) := by rw [← hZ]; rfl
 have hcond : (decide (f.bars < 1) || decide (f.bars > 4000) || !(repsOk f.bars 0 f.reps && decide (f.reps.length ≤ 100)) || !(endsOk f.reps 0 f.ends && decide (f.ends.length ≤ 100)) || !jumpOk f || decide ((f.cuts.length : Int) > 100)) = !(Z && decide (f.cuts.length ≤ 100)) := by
  rw [← hZ]
  have e1 : decide (f.bars < 1) = !decide (1 ≤ f.bars) := by rw [zAl]; simp
  have e2 : decide (f.bars > 4000) = !decide (f.bars ≤ 4000) := by rw [zAl]; simp
  have e3 : decide ((f.cuts.length : Int) > 100) = !decide (f.cuts.length ≤ 100) := by rw [zAl]; simp; omega
  rw [e1, e2, e3]
  generalize decide (1 ≤ f.bars) = a
  generalize decide (f.bars ≤ 4000) = b
  generalize (repsOk f.bars 0 f.reps && decide (f.reps.length ≤ 100)) = c
  generalize (endsOk f.reps 0 f.ends && decide (f.ends.length ≤ 100)) = d
  generalize jumpOk f = e
  generalize decide (f.cuts.length ≤ 100) = g
  revert a b c d e g
  decide
 rw [formOk_eq, hA]
 refine PCall.body Tryz.func25 rfl rfl Tryz.ntmps25 rfl rfl ?_
 repeat' (first | refine aoQ rfl rfl rfl (fun hg => by first | exact std0 | exact pcW (h1) rfl rfl nd rfl nds | exact pcW (h2) rfl rfl nd rfl nds | exact pcW (h3) rfl rfl nd rfl nds | exact std1) (by exact rfl) ?_ | refine sqW ?_ | refine rgK (fun K' hK => ?_) | (refine aoN (hK _ _ ?_); clear hK K') | refine aoE (bxW rfl rfl rfl rfl rfl tI rfl rfl ?_) | (refine cdN rfl tI (fun hc => ?_) (fun hc => ?_) <;> try dsimp only at hc) | refine blK ?_ | refine skW ?_ | refine rtW ?_)
 · refine ⟨.inr rfl, Ent.b ?_⟩
   have hc2 : (!(Z && decide (f.cuts.length ≤ 100))) = true := by rw [← hcond]; exact hc
   revert hc2
   generalize decide (f.cuts.length ≤ 100) = g
   generalize cutsOk f.bars f.cuts = x
   generalize decide ((wholeL f).length ≤ 20000) = y
   revert Z
   intro Z _ _ _
   cases Z <;> cases g <;> simp
 have hc2 : (Z && decide (f.cuts.length ≤ 100)) = true := by
  have h9 : (!(Z && decide (f.cuts.length ≤ 100))) = false := by rw [← hcond]; exact hc
  simpa using h9
 rw [zA0] at hc2
 clear hc hcond
 refine lpD (ι := Nat) (fun k => [(1, .ptr 0 0), (3, .int k)]) (fun _ => [.var (encF f)])
  (fun k => k ≤ f.cuts.length ∧ (∀ j, j < k → cutOk f.bars (f.cuts.getD j default) = true) ∧ (f.cuts.take k).Nodup) (fun k => f.cuts.length - k) 1 (fun _ => rfl) 0 ⟨nZl _, fun j h => absurd h (by omega), by simp⟩ ⟨rfl, rfl, tI⟩ rfl (fun _ _ => rfl) (fun k _ => rfl) ?_
 rintro k ⟨hk, hall, hnd⟩
 by_cases hlt : k < f.cuts.length
 · obtain ⟨C, hC⟩ : ∃ C, f.cuts.getD k default = C := ⟨_, rfl⟩
   have hc9 := cut9_spec f C
   have hh := has9_spec (f.cuts.take k) C (by rw [zC4]; omega)
   have hge := hasC_ge (f.cuts.take k) C
   have hm := getD_in hlt
   rw [hC] at hm
   repeat' (first | refine aoQ rfl rfl rfl (fun hg => by first | exact std0 | exact std1) (by exact rfl) ?_ | refine sqW ?_ | refine rgK (fun K' hK => ?_) | (refine aoN (hK _ _ ?_); clear hK K') | (refine cdN rfl tI (fun hc => ?_) (fun hc => ?_) <;> try dsimp only at hc) | refine blK ?_ | refine exW ?_ | refine skW ?_ | refine rtW ?_ | refine dK2 (by decide +kernel) (by kernel_rfl) (by decide +kernel) rfl (fun K' hK => ?_) | (refine aqN (hK _ ?_); clear hK K') | refine aqQ rfl rfl (fun hg => by first | exact iX encCt f.cuts ((k : Nat) : Int) hC (hb := by omega) | exact std0 | exact pcW (hc9) rfl rfl nd rfl nds | exact pcW (hh) rfl rfl nd rfl nds | exact PRun.sliceHiM tabOk rfl rfl nd rfl nd rfl (by omega)) (by exact rfl) ?_)
   all_goals first | (exfalso; omega) | skip
   · refine ⟨.inr rfl, Ent.b (Eq.symm ?_)⟩
     rw [hge] at hc
     have hcu : cutsOk f.bars f.cuts = false := by
      cases h1 : cutsOk f.bars f.cuts with
      | false => rfl
      | true =>
        exfalso
        unfold cutsOk at h1
        simp only [zA0, zA6, dEt] at h1
        rw [h1.1 _ hm] at hc
        have h2 : C ∈ f.cuts.take k := by simpa using hc
        have h3 := h1.2
        rw [← zD2 k f.cuts, drop_at hlt, hC, zCc] at h3
        exact h3.2.2 _ h2 _ (zAt ..) rfl
     rw [hcu, zBq, zCj, zBq]
   · rw [hge] at hc
     simp only [zAk, zB7, dEf] at hc
     have e1 : f.cuts.take (k + 1) = f.cuts.take k ++ [C] := by
      rw [zBi, zA1 hlt, ← getD_at' hlt, hC]; rfl
     refine ⟨k + 1, ⟨by omega, fun j hj => lt_succ_cases hall (by rw [hC]; exact hc.1) hj, ?_⟩, by omega, ⟨rfl, rfl, tI⟩, rfl⟩
     rw [e1, zCc]
     exact ⟨hnd, by simp, fun a ha b hb e => by rw [zAf.1 hb] at e; exact hc.2 (e ▸ ha)⟩
 · have e : f.cuts.take k = f.cuts := zAi (by omega)
   rw [e] at hnd
   have hcu : cutsOk f.bars f.cuts = true := by
    unfold cutsOk
    simp only [zA0, zA6, dEt]
    refine ⟨fun x hx => ?_, hnd⟩
    obtain ⟨j, hj, e⟩ := zDc hx
    have := hall j (by omega)
    rw [getD_at' hj, e] at this; exact this
   have hA2 : formA f = true := by rw [hA, hcu, hc2.1, hc2.2]; rfl
   have hw := whole9_spec f hf (FAll.of hA2)
   have hwl := (FAll.of hA2).good.len
   repeat' (first | refine aoQ rfl rfl rfl (fun hg => by first | exact std0 | exact pcW (hw) rfl rfl nd rfl nds | exact std1) (by exact rfl) ?_ | refine sqW ?_ | refine rgK (fun K' hK => ?_) | (refine aoN (hK _ _ ?_); clear hK K') | (refine cdN rfl tI (fun hc => ?_) (fun hc => ?_) <;> try dsimp only at hc) | refine blK ?_ | refine exW ?_ | refine skW ?_ | refine rtW ?_ | refine dK2 (by decide +kernel) (by kernel_rfl) (by decide +kernel) rfl (fun K' hK => ?_) | refine aqQ rfl rfl (fun hg => by first | exact std0 | exact std1) (by exact rfl) ?_)
   all_goals first | (exfalso; omega) | skip
   refine ⟨.inr rfl, Ent.b ?_⟩
   rw [hcu, hc2.1, hc2.2, zAl]
   simp
   omega
end Go.Proofs.YtdglbdfdkabjfaaGreatDoor.Pl
namespace Go.Proofs.YtdglbdfdkabjfaaGreatDoor.Pl
open Go.RowKit Go.Extern.Stop Go.Stop Go.Extern Go.Ab
theorem valueOfP (t : Addr) (w : World) : (ReflectliteValue.unpack (.iface 159 (.pointer (some t)))).run Tryz.prog w
 = .ok (.agg #[.pointer (some ⟨2, 159, none⟩), .pointer (some ⟨w.heap.size, 0, none⟩), .int .u64 150]) (w.alloc (.cells #[.pointer (some t)] 159)) := by kernel_rfl
theorem typeP (a : Addr) (w : World) : (ReflectliteValue.methodAny (ReflectliteValue.valueError "reflectlite.Value.Type" 0) (fun t _ _ _ => ReflectliteType.toType t) #[.agg #[.pointer (some ⟨2, 159, none⟩), .pointer (some a), .int .u64 150]]).run Tryz.prog w
 = .ok (.iface 242 (.agg #[.pointer (some ⟨2, 159, none⟩)])) w := by kernel_rfl
theorem methodKind (h : Value) (w : World) : (Go.method 425 242 (.agg #[h]) "Kind").run Tryz.prog w = .ok (269, h) w := by kernel_rfl
theorem kindP (w : World) : ((ReflectliteType.abiMethod fun t => (fun a : Nat => Value.int IntKind.u8 (a : Int)) <$> Rtype.kind t) #[.pointer (some ⟨2, 159, none⟩)]).run Tryz.prog w = .ok (.int .u8 22) w := by kernel_rfl
theorem kindR (w : World) : ((ReflectliteType.abiMethod fun t => (fun a : Nat => Value.int IntKind.u8 (a : Int)) <$> Rtype.kind t) #[.pointer (some ⟨2, 149, none⟩)]).run Tryz.prog w = .ok (.int .u8 25) w := by kernel_rfl
theorem rlm (z : Sem Value) (f : TypeId → Addr → Nat → Nat → Sem Value) (v : Value) :
    ReflectliteValue.method z f #[v] = (do match ← ReflectliteValue.parts v with | none => z | some (t, a, fl) => f t a fl (fl % 32)) := rfl
theorem partsP (a : Addr) (w : World) : (ReflectliteValue.parts (.agg #[.pointer (some ⟨2, 159, none⟩), .pointer (some a), .int .u64 150])).run Tryz.prog w = .ok (some (159, a, 150)) w := by kernel_rfl
theorem isNilP (a p : Addr) (W : World) (ha : W.cell? a = some (.pointer (some p))) :
 (ReflectliteValue.method (ReflectliteValue.valueError "reflectlite.Value.IsNil" 0) ReflectliteValue.isNil #[.agg #[.pointer (some ⟨2, 159, none⟩), .pointer (some a), .int .u64 150]]).run Tryz.prog W = .ok (.bool false) W := by
 rw [rlm]
 simp only [Sem.run_bind, partsP, Result.andThen]
 simp [ReflectliteValue.isNil, loadVar, isAgg, underlying, Tryz.underlying159, ha, Result.andThen]
theorem methodElem (h : Value) (w : World) : (Go.method 425 242 (.agg #[h]) "Elem").run Tryz.prog w = .ok (281, .agg #[h]) w := by kernel_rfl
theorem methodImplements (h : Value) (w : World) : (Go.method 425 242 (.agg #[h]) "Implements").run Tryz.prog w = .ok (282, .agg #[h]) w := by kernel_rfl
theorem methodAssignableTo (h : Value) (w : World) : (Go.method 425 242 (.agg #[h]) "AssignableTo").run Tryz.prog w = .ok (279, .agg #[h]) w := by kernel_rfl
theorem elemP (w : World) : (ReflectliteType.method ReflectliteType.elem #[.agg #[.pointer (some ⟨2, 159, none⟩)]]).run Tryz.prog w = .ok (.iface 242 (.agg #[.pointer (some ⟨2, 149, none⟩)])) w := by kernel_rfl
theorem implementsR (w : World) : (ReflectliteType.relation "Implements" ReflectliteType.implements_ #[.agg #[.pointer (some ⟨2, 149, none⟩)], .iface 242 (.agg #[.pointer (some ⟨2, 92, none⟩)])]).run Tryz.prog w = .ok (.bool true) w := by kernel_rfl
theorem typeOfR (v : Value) (w : World) : (ReflectliteType.typeOf #[.iface 149 v]).run Tryz.prog w = .ok (.iface 242 (.agg #[.pointer (some ⟨2, 149, none⟩)])) w := by kernel_rfl
theorem assignableR (w : World) : (ReflectliteType.relation "AssignableTo" ReflectliteType.assignableTo #[.agg #[.pointer (some ⟨2, 149, none⟩)], .iface 242 (.agg #[.pointer (some ⟨2, 149, none⟩)])]).run Tryz.prog w = .ok (.bool true) w := by kernel_rfl
theorem valueOfR (x : Int) (w : World) : (ReflectliteValue.unpack (.iface 149 (.agg #[.int .i64 x]))).run Tryz.prog w
 = .ok (.agg #[.pointer (some ⟨2, 149, none⟩), .pointer (some ⟨w.heap.size, 0, none⟩), .int .u64 153]) (w.alloc (.cells #[.int .i64 x] 149)) := by kernel_rfl
theorem elemOfP (w : World) : (Rtype.elem? 159).run Tryz.prog w = .ok (some 149) w := by kernel_rfl
theorem mkR (p : Addr) (w : World) : (ReflectliteValue.mk 149 p ReflectliteValue.flagAddr).run Tryz.prog w = .ok (.agg #[.pointer (some ⟨2, 149, none⟩), .pointer (some p), .int .u64 409]) w := by kernel_rfl
theorem elemVP (a p : Addr) (W : World) (ha : W.cell? a = some (.pointer (some p))) :
 (ReflectliteValue.method (ReflectliteValue.valueError "reflectlite.Value.Elem" 0) ReflectliteValue.elem #[.agg #[.pointer (some ⟨2, 159, none⟩), .pointer (some a), .int .u64 150]]).run Tryz.prog W
  = .ok (.agg #[.pointer (some ⟨2, 149, none⟩), .pointer (some p), .int .u64 409]) W := by
 rw [rlm]
 simp only [Sem.run_bind, partsP, Result.andThen]
 simp [ReflectliteValue.elem, loadVar, isAgg, underlying, Tryz.underlying159, ha, Result.andThen, elemOfP, mkR]
theorem rls (v x : Value) : ReflectliteValue.set #[v, x] = (do
 let (some (dst, a, fl), some (src, b, _)) := (← ReflectliteValue.parts v, ← ReflectliteValue.parts x)
  | unsupported (.noEntry "extern/(internal/reflectlite.Value).Set.zeroValue")
 if fl / ReflectliteValue.flagAddr % 2 == 0 then unsupported (.noEntry "extern/(internal/reflectlite.Value).Set.unaddressable")
 let val ← loadVar src b
 if ← Rtype.directlyAssignable dst src then storeVar dst a val
 else if ← Rtype.implements dst src then
  if (← Rtype.kind src) == 20 then
   match val with
   | .nilIface => unsupported (.noEntry "extern/reflectlite: a nil value of one interface type handed on as a value of another")
   | _ => storeVar dst a val
  else storeVar dst a (.iface src val)
 else panicString ("reflectlite.Set: value of type " ++ (← Rtype.spelt src) ++ " is not assignable to type " ++ (← Rtype.spelt dst))
 pure (.tuple #[])) := rfl
theorem partsRa (a : Addr) (w : World) : (ReflectliteValue.parts (.agg #[.pointer (some ⟨2, 149, none⟩), .pointer (some a), .int .u64 409])).run Tryz.prog w = .ok (some (149, a, 409)) w := by kernel_rfl
theorem partsR (a : Addr) (w : World) : (ReflectliteValue.parts (.agg #[.pointer (some ⟨2, 149, none⟩), .pointer (some a), .int .u64 153])).run Tryz.prog w = .ok (some (149, a, 153)) w := by kernel_rfl
theorem directR (w : World) : (Rtype.directlyAssignable 149 149).run Tryz.prog w = .ok true w := by kernel_rfl
theorem sizeR (w : World) : (sizeOf 149).run Tryz.prog w = .ok 1 w := by kernel_rfl
theorem setR (ta b : Addr) (x : Int) (old : Value) (W : World) (hb : W.cell? b = some (.int .i64 x)) (ht : W.cell? ta = some old) (hf : W.frozen? ta = false) :
 (ReflectliteValue.set #[.agg #[.pointer (some ⟨2, 149, none⟩), .pointer (some ta), .int .u64 409], .agg #[.pointer (some ⟨2, 149, none⟩), .pointer (some b), .int .u64 153]]).run Tryz.prog W
  = .ok (.tuple #[]) (W.setCell ta (.int .i64 x)) := by
 rw [rls]
 simp only [Sem.run_bind, partsRa, partsR, Result.andThen]
 have hl : (loadCellsFrom b 0 1 #[]).run Tryz.prog W = .ok #[.int .i64 x] W := by
  have h0 := run_loadCellsFrom (P := Tryz.prog) W b (fun _ => .int .i64 x) 1 0 #[] (fun j hj => by
   have : 0 + j = 0 := by omega
   rw [this]; exact hb)
  exact h0
 have hst : (store ta (.int .i64 x)).run Tryz.prog W = .ok () (W.setCell ta (.int .i64 x)) := by
  have h0 := run_store Tryz.prog W ta (.int .i64 x) .plain (by rfl)
  rw [ht, hf] at h0
  simpa using h0
 have hz := sizeR
 simp [ReflectliteValue.flagAddr, loadVar, isAgg, underlying, Tryz.underlying149, Sem.run_bind, Result.andThen, directR, storeVar, Value.cells, storeCells, Addr.add, sizeR, loadCells, hl, hst]
end Go.Proofs.YtdglbdfdkabjfaaGreatDoor.Pl
