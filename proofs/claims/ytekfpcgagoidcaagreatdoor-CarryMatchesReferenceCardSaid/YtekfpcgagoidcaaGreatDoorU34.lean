/- The law CarryMatchesReference by content. No statement is proved here. -/
import Derived.Test.YtekfpcgagoidcaaGreatDoorU30
import Derived.Test.YtekfpcgagoidcaaGreatDoorU33
set_option linter.unusedVariables false
set_option linter.unusedSimpArgs false
namespace Go.Proofs.YtekfpcgagoidcaaGreatDoor.Cy
open Go.Ab Go.Sort Al Mk
attribute [local irreducible] AWP AOps EStep AQ PStep PRun PCall TCall VCall
theorem allR_len (l : List Score) (ms : List Jo.Mark) (v : Int) : (allR l ms v).1.1.length ≤ ms.length ∧ (allR l ms v).1.2.length ≤ ms.length := by
 unfold allR
 split
 · split
   · exact ⟨nZl _, nZl _⟩
   · exact ⟨placedL_len _ _, heldL_len _ _⟩
 · exact ⟨nZl _, nZl _⟩
set_option maxHeartbeats 16000000 in
set_option maxRecDepth 20000 in
theorem cmatches_law (l : List Score) (hl : l.length ≤ 9223372036854775807) (hsz : ∀ s ∈ l, s.Sized) (m : Jo.Mark) (hm : m.text.length ≤ 9223372036854775807) (ms : List Jo.Mark) (hms : ms.length ≤ 9223372036854775807) (ht : TextsIn ms) (v : Int) :
 PCall Tryz.prog 9 [.sl 4 (l.map encS) .no, .agg (encMk m), .sl 10 (ms.map encMk) .no, .int v] (.b true) := by
 have hh := head21_spec
 have hu := few21_spec l hl hsz ms hms
 cases g1 : fewL l ms.length with
 | false =>
   rw [g1] at hu
   refine PCall.body Tryz.func9 rfl rfl Tryz.ntmps9 rfl rfl ?_
   repeat' (first | refine aoQ rfl rfl rfl (fun hg => by first | exact std0 | exact pcW (hh) rfl rfl nd rfl nds | exact pcW (hu) rfl rfl nd rfl nds) (by exact rfl) ?_ | refine sqW ?_ | refine rgK (fun K' hK => ?_) | (refine aoN (hK _ _ ?_); clear hK K') | refine aoE (bxW rfl rfl rfl rfl rfl tI rfl rfl ?_) | refine cdN rfl tI (fun hc => ?_) (fun hc => ?_) | refine skW ?_ | refine rtW ?_)
   · exact ⟨.inr rfl, Ent.b rfl⟩
   all_goals (exfalso; simp at hc)
 | true =>
   rw [g1] at hu
   obtain ⟨hf, h4, h12⟩ := fewL_iff g1
   have c1 := Carry_spec l (by omega) hf m hm v
   have c2 := rCarry_spec l (by omega) hf m hm v
   have a1 := All_spec l (by omega) hf ms (by omega) ht v
   have a2 := rAll_spec l (by omega) hf ms (by omega) ht v
   obtain ⟨l1, l2⟩ := allR_len l ms v
   generalize carryR l m v = x at *
   generalize allR l ms v = y at *
   obtain ⟨x1, x2⟩ := x
   obtain ⟨⟨y1, y2⟩, y3⟩ := y
   have s1 := same19_spec y1 y1 (by dsimp only at l1; omega) (by dsimp only at l1; omega)
   have s2 := same19_spec y2 y2 (by dsimp only at l2; omega) (by dsimp only at l2; omega)
   rw [beq_self_eq_true] at s1 s2
   unfold tupC at c1 c2
   unfold tupA at a1 a2
   dsimp only at c1 c2 a1 a2
   generalize x1.getD Jo.noMark = z at *
   generalize x1.isSome = q at *
   refine PCall.body Tryz.func9 rfl rfl Tryz.ntmps9 rfl rfl ?_
   repeat' (first | refine aoQ rfl rfl rfl (fun hg => by first | exact std0 | exact pcW (hh) rfl rfl nd rfl nds | exact pcW (hu) rfl rfl nd rfl nds | exact pcW (c1) rfl rfl nd rfl nds | exact pcW (c2) rfl rfl nd rfl nds | exact pcW (a1) rfl rfl nd rfl nds | exact pcW (a2) rfl rfl nd rfl nds | exact pcW (s1) rfl rfl nd rfl nds | exact pcW (s2) rfl rfl nd rfl nds | exact PRun.eqN Mk.flM rfl rfl nd rfl nd rfl) (by exact rfl) ?_ | refine sqW ?_ | refine rgK (fun K' hK => ?_) | (refine aoN (hK _ _ ?_); clear hK K') | refine aoE (bxW rfl rfl rfl rfl rfl tI rfl rfl ?_) | refine aoE (stW tabOk rfl rfl rfl tI rfl rfl tI rfl rfl rfl rfl rfl rfl rfl ?_) | refine aoE (alW tabOk rfl rfl rfl rfl rfl rfl ?_) | refine cdN rfl tI (fun hc => ?_) (fun hc => ?_) | refine skW ?_ | refine rtW ?_)
   all_goals (first | (exfalso; simp at hc; done) | skip)
   exact ⟨.inr rfl, Ent.b (by simp [bs_beq])⟩
end Go.Proofs.YtekfpcgagoidcaaGreatDoor.Cy
