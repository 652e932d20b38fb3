/- The law BowingMatchesReference by content. No statement is proved here. -/
import Derived.Test.YtficfljjnbnhbaaGreatDoorP32
set_option linter.unusedVariables false
set_option linter.unusedSimpArgs false
namespace Go.Proofs.YtficfljjnbnhbaaGreatDoor.Bw
open Go.Ab Go.Sort Mk
attribute [local irreducible] AWP AOps EStep AQ PStep PRun PCall TCall VCall DStep TDies AWD DCall
theorem restore_len {s : Score} {l : List Jo.Mark} {sec : Int} {ex : List Int} {id : Int} : (restoreR s l sec ex id).1.1.length ≤ 20000 := by
 unfold restoreR
 split
 · split
   · exact nZl _
   · split
     · exact nZl _
     · rename_i h
       unfold bigR at h
       simp only [zBe, dEt, not_or] at h
       show (resL _ _ _ _ _).length ≤ _
       unfold resL
       rw [lLa, news_len]
       omega
 · exact nZl _
set_option maxHeartbeats 32000000 in
set_option maxRecDepth 20000 in
theorem bmatches_law (s : Score) (hs : s.Sized) (l : List Jo.Mark) (hl : l.length ≤ 9223372036854775807) (ht : TextsIn l) (sec : Int) (ex : List Int) (hex : ex.length ≤ 9223372036854775807) (id : Int) (c : Cl) (hz : c.Sized) :
 PCall Tryz.prog 3 [.agg (encS s), .sl 10 (l.map encMk) .no, .int sec, .sl 1 (ex.map eI) .no, .int id, .agg (encC c)] (.b true) := by
 have hh := head20
 have f1 := few20_spec s hs l hl
 rw [show (((decide ((s.bars.length : Int) ≤ 12) && decide ((s.parts.length : Int) ≤ 8)) && decide ((s.notes.length : Int) ≤ 40)) && decide ((l.length : Int) ≤ 40)) = few20 s l from rfl] at f1
 by_cases hu : few20 s l = true ∧ ex.length ≤ 60 ∧ c.notes.length ≤ 100 ∧ c.vals.length ≤ 100 ∧ c.rdrs.length ≤ 100
 · obtain ⟨w1, w2, l1, l2, l3⟩ := hu
   have h20 : In20 s l sec ex := in20 w1 ht (by omega)
   have c1 := clashes_spec h20
   have c2 := rclashes_spec h20
   have c3 := restore_spec h20 id c1
   have c4 := rrestore_spec h20 id
   have c5 := choices_spec c hz
   have c6 := rchoices_spec c hz
   have hcl : (clashesR s l sec ex).1.length ≤ 1000000 ∧ ∀ g ∈ (clashesR s l sec ex).1, g.length ≤ 1000000 := by
    unfold clashesR
    split
    · rename_i hf
      obtain ⟨g1, g2⟩ := clash_small (h20.bows hf)
      exact ⟨zBb g1 (by decide), fun g hg => zBb (g2 g hg) (by decide)⟩
    · exact ⟨nZl _, fun g hg => by cases hg⟩
   have s1 := sameL_spec (clashesR s l sec ex).1 hcl.1 hcl.2
   have hrl := restore_len (s := s) (l := l) (sec := sec) (ex := ex) (id := id)
   have s2 := same19_spec (restoreR s l sec ex id).1.1 (restoreR s l sec ex id).1.1 (by omega) (by omega)
   rw [beq_self_eq_true] at s2
   have hsl : (choR c).1.1.length ≤ 2 := by
    unfold choR
    split
    · exact (sel_has c).2.2.2
    · exact nZl _
   have s3 := sameInts_spec (choR c).1.1 (by omega)
   rw [w1] at f1
   generalize clashesR s l sec ex = r1 at *
   generalize restoreR s l sec ex id = r2 at *
   generalize choR c = r3 at *
   obtain ⟨x1, y1⟩ := r1
   obtain ⟨⟨x2, y2⟩, z2⟩ := r2
   obtain ⟨⟨x3, y3⟩, z3⟩ := r3
   clear h20 hcl hrl hsl
   dsimp only at s1 s2 s3
   have c1 : PCall Tryz.prog 12 [.agg (encS s), .sl 10 (l.map encMk) .no, .int sec, .sl 1 (ex.map eI) .no] (.tup [.sl 3 (x1.map clE) .no, .int y1]) := c1
   have c2 : PCall Tryz.prog 13 [.agg (encS s), .sl 10 (l.map encMk) .no, .int sec, .sl 1 (ex.map eI) .no] (.tup [.sl 3 (x1.map clE) .no, .int y1]) := c2
   refine PCall.body Tryz.func3 rfl rfl Tryz.ntmps3 rfl rfl ?_
   repeat' (first | refine aoQ rfl rfl rfl (fun hg => by first | exact std0 | exact pcW (hh) rfl rfl nd rfl nds | exact pcW (f1) rfl rfl nd rfl nds | exact pcW (c1) rfl rfl nd rfl nds | exact pcW (c2) rfl rfl nd rfl nds | exact pcW (c3) rfl rfl nd rfl nds | exact pcW (c4) rfl rfl nd rfl nds | exact pcW (c5) rfl rfl nd rfl nds | exact pcW (c6) rfl rfl nd rfl nds | exact pcW (s1) rfl rfl nd rfl nds | exact pcW (s2) rfl rfl nd rfl nds | exact pcW (s3) rfl rfl nd rfl nds | exact std1) (by exact rfl) ?_ | refine sqW ?_ | refine rgK (fun K' hK => ?_) | (refine aoN (hK _ _ ?_); clear hK K') | refine aoE (bxW rfl rfl rfl rfl rfl tI rfl rfl ?_) | refine aoE (stW tabOk rfl rfl rfl tI rfl rfl tI rfl rfl rfl rfl rfl rfl rfl ?_) | refine aoE (alW tabOk rfl rfl rfl rfl rfl rfl ?_) | refine cdN rfl tI (fun hc => ?_) (fun hc => ?_) | refine blK ?_ | refine exW ?_ | refine skW ?_ | refine rtW ?_ | refine dK2 (by decide +kernel) (by kernel_rfl) (by decide +kernel) rfl (fun K' hK => ?_) | refine dL2 (by kernel_rfl) (by decide +kernel) rfl (fun K' hK => ?_) | (refine aqN (hK _ ?_); clear hK K') | refine aqN ?_ | refine aqQ rfl rfl (fun hg => by first | exact std0 | exact pcW (hh) rfl rfl nd rfl nds | exact pcW (f1) rfl rfl nd rfl nds | exact pcW (c1) rfl rfl nd rfl nds | exact pcW (c2) rfl rfl nd rfl nds | exact pcW (c3) rfl rfl nd rfl nds | exact pcW (c4) rfl rfl nd rfl nds | exact pcW (c5) rfl rfl nd rfl nds | exact pcW (c6) rfl rfl nd rfl nds | exact pcW (s1) rfl rfl nd rfl nds | exact pcW (s2) rfl rfl nd rfl nds | exact pcW (s3) rfl rfl nd rfl nds | exact std1) (by exact rfl) ?_)
   all_goals (first | exact dd | skip)
   refine ⟨.inr rfl, Ent.b ?_⟩
   simp only [beq_self_eq_true, Bool.and_self, zBl]
 · refine PCall.body Tryz.func3 rfl rfl Tryz.ntmps3 rfl rfl ?_
   repeat' (first | refine aoQ rfl rfl rfl (fun hg => by first | exact std0 | exact pcW (hh) rfl rfl nd rfl nds | exact pcW (f1) rfl rfl nd rfl nds | exact std1) (by exact rfl) ?_ | refine sqW ?_ | refine rgK (fun K' hK => ?_) | (refine aoN (hK _ _ ?_); clear hK K') | refine aoE (bxW rfl rfl rfl rfl rfl tI rfl rfl ?_) | refine aoE (stW tabOk rfl rfl rfl tI rfl rfl tI rfl rfl rfl rfl rfl rfl rfl ?_) | refine aoE (alW tabOk rfl rfl rfl rfl rfl rfl ?_) | refine cdN rfl tI (fun hc => ?_) (fun hc => ?_) | refine blK ?_ | refine exW ?_ | refine skW ?_ | refine rtW ?_ | (refine aqN (hK _ ?_); clear hK K') | refine aqN ?_ | refine aqQ rfl rfl (fun hg => by first | exact std0 | exact pcW (hh) rfl rfl nd rfl nds | exact pcW (f1) rfl rfl nd rfl nds | exact std1) (by exact rfl) ?_)
   all_goals (first | (exact ⟨.inr rfl, Ent.b rfl⟩) | skip)
   exfalso
   cases hw : few20 s l with
   | false => rw [hw] at hc; simp at hc
   | true =>
     rw [hw] at hc
     simp at hc
     exact hu ⟨hw, by omega, by omega, by omega, by omega⟩
end Go.Proofs.YtficfljjnbnhbaaGreatDoor.Bw
