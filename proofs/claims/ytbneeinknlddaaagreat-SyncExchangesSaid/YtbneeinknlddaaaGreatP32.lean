/- SyncExchanges by content: for every two tablets the function returns true. The row is joined in another text. No statement is proved here. -/
import Derived.Test.YtbneeinknlddaaaGreatP30
set_option linter.unusedVariables false
set_option linter.unusedSimpArgs false
namespace Go.Proofs.YtbneeinknlddaaaGreat
open Go.Ab Go.Jo Go.Sy
attribute [local irreducible] AWP AOps EStep AQ PStep PRun PCall TCall VCall DStep TDies AWD DCall
set_option maxHeartbeats 6400000 in
set_option maxRecDepth 20000 in
theorem exchanges_law (t u : Sy.Tab) (ht : Txt t.s.evs) (hu : Txt u.s.evs) : PCall Tryz.prog 4 [.agg (encTab t), .agg (encTab u)] (.b true) := by
 have hh := head_spec
 have h1 := usable_spec t ht
 have h2 := usable_spec u hu
 cases hA : (usableT t && usableT u) with
 | false =>
   refine PCall.body Tryz.func4 rfl rfl Tryz.ntmps4 rfl rfl ?_
   repeat' (first | refine aoQ rfl rfl rfl (fun hg => by first | exact std0 | exact pcW (hh) rfl rfl nd rfl nds | exact pcW (h1) rfl rfl nd rfl nds | exact pcW (h2) rfl rfl nd rfl nds | fail) (by exact rfl) ?_ | refine sqW ?_ | refine rgK (fun K' hK => ?_) | (refine aoN (hK _ _ ?_); clear hK K') | refine aoE (bxW rfl rfl rfl rfl rfl tI rfl rfl ?_))
   refine cdW rfl tI (fun hc => ?_) (fun hc => ?_)
   · repeat' (first | refine aoQ rfl rfl rfl (fun hg => by exact std0) (by exact rfl) ?_ | refine sqW ?_ | refine rgK (fun K' hK => ?_) | (refine aoN (hK _ _ ?_); clear hK K') | refine rtW ?_)
     exact ⟨.inr rfl, Ent.b rfl⟩
   · exfalso
     have hc2 : (!usableT t || !usableT u) = false := hc
     revert hA hc2
     cases usableT t <;> cases usableT u <;> simp
 | true =>
   have hd : (!usableT t || !usableT u) = false := by revert hA; cases usableT t <;> cases usableT u <;> simp
   have hv := usableT_in (t := t) (by revert hA; cases usableT t <;> simp)
   have hw := usableT_in (t := u) (by revert hA; cases usableT t <;> cases usableT u <;> simp)
   have x1 := exch_spec t u (tabIn_of hv) (tabIn_of hw)
   have x2 := exch_spec u t (tabIn_of hw) (tabIn_of hv)
   rw [exch_swap t u] at x2
   by_cases h0 : (exchT t u).2.2 = 0
   · obtain ⟨l1, l2, l3, l4, l5, l6⟩ := exch_law h0
     have a22 := add22_spec t.s.evs u.s.evs (tabIn_of hv).txt (tabIn_of hw).txt (tabIn_of hv).evs (by have := (validE_iff.1 (validT_evs hw)).2.2; omega)
     generalize exchT t u = X at *
     obtain ⟨A, B, E⟩ := X
     dsimp only at h0 l1 l3 l4 l5 l6
     subst h0
     generalize addE t.s.evs u.s.evs = L at *
     obtain ⟨L1, L2⟩ := L
     dsimp only at l2 l3 l4
     subst l2
     have x3 := exch_spec A B (tabIn_of l5) (tabIn_of l6)
     rw [l1] at x3
     change PCall _ _ _ (.tup [.agg (encTab A), .agg (encTab B), .int 0]) at x1
     change PCall _ _ _ (.tup [.agg (encTab B), .agg (encTab A), .int 0]) at x2
     change PCall _ _ _ (.tup [.agg (encTab A), .agg (encTab B), .int 0]) at x3
     change PCall _ _ _ (.tup [.sl 14 (L1.map encE) .no, .int 0]) at a22
     have s1 := same42_spec A A (tabIn_of l5).evs (tabIn_of l5).evs (tabIn_of l5).b (tabIn_of l5).b
     have s2 := same42_spec B B (tabIn_of l6).evs (tabIn_of l6).evs (tabIn_of l6).b (tabIn_of l6).b
     rw [decide_eq_true rfl] at s1 s2
     have e1 := same22_spec A.s.evs L1 (tabIn_of l5).evs (by rw [← l3]; exact (tabIn_of l5).evs)
     have e2 := same22_spec B.s.evs L1 (tabIn_of l6).evs (by rw [← l3]; exact (tabIn_of l5).evs)
     rw [show (A.s.evs == L1) = true by rw [l3]; exact beq_self_eq_true _] at e1
     rw [show (B.s.evs == L1) = true by rw [l4]; exact beq_self_eq_true _] at e2
     have v1 := tvalid_spec A (tabIn_of l5)
     have v2 := tvalid_spec B (tabIn_of l6)
     rw [l5] at v1
     rw [l6] at v2
     refine PCall.body Tryz.func4 rfl rfl Tryz.ntmps4 rfl rfl ?_
     repeat' (first | refine aoQ rfl rfl rfl (fun hg => by first | exact std0 | exact pcW (hh) rfl rfl nd rfl nds | exact pcW (h1) rfl rfl nd rfl nds | exact pcW (h2) rfl rfl nd rfl nds | fail) (by exact rfl) ?_ | refine sqW ?_ | refine rgK (fun K' hK => ?_) | (refine aoN (hK _ _ ?_); clear hK K') | refine aoE (bxW rfl rfl rfl rfl rfl tI rfl rfl ?_))
     refine cdW rfl tI (fun hc => ?_) (fun hc => ?_)
     · exfalso; rw [hd] at hc; cases hc
     repeat' (first | refine aoQ rfl rfl rfl (fun hg => by first | exact std0 | exact pcW (x1) rfl rfl nd rfl nds | exact pcW (x2) rfl rfl nd rfl nds | exact pcW (x3) rfl rfl nd rfl nds | exact pcW (a22) rfl rfl nd rfl nds | exact pcW (s1) rfl rfl nd rfl nds | exact pcW (s2) rfl rfl nd rfl nds | exact pcW (e1) rfl rfl nd rfl nds | exact pcW (e2) rfl rfl nd rfl nds | exact pcW (v1) rfl rfl nd rfl nds | exact pcW (v2) rfl rfl nd rfl nds | fail) (by exact rfl) ?_ | refine sqW ?_ | refine rgK (fun K' hK => ?_) | (refine aoN (hK _ _ ?_); clear hK K') | refine aoE (stW tabOk rfl rfl rfl tI rfl rfl tI rfl rfl rfl rfl rfl rfl rfl ?_) | refine aoE (alW tabOk rfl rfl rfl rfl rfl rfl ?_) | refine cdN rfl tI (fun hc => ?_) (fun hc => ?_) | refine skW ?_ | refine rtW ?_)
     all_goals first | (exfalso; simp at hc; done) | skip
     exact ⟨.inr rfl, Ent.b rfl⟩
   · obtain ⟨n1, n2⟩ := exch_wrong h0
     generalize exchT t u = X at *
     obtain ⟨A, B, E⟩ := X
     dsimp only at h0 n1 n2
     subst n1 n2
     change PCall _ _ _ (.tup [.agg (encTab noTab), .agg (encTab noTab), .int E]) at x1
     change PCall _ _ _ (.tup [.agg (encTab noTab), .agg (encTab noTab), .int E]) at x2
     have s1 := same42_spec noTab noTab (nZl _) (nZl _) (nZl _) (nZl _)
     rw [decide_eq_true rfl] at s1
     have s2 := sameNo_spec
     refine PCall.body Tryz.func4 rfl rfl Tryz.ntmps4 rfl rfl ?_
     repeat' (first | refine aoQ rfl rfl rfl (fun hg => by first | exact std0 | exact pcW (hh) rfl rfl nd rfl nds | exact pcW (h1) rfl rfl nd rfl nds | exact pcW (h2) rfl rfl nd rfl nds | fail) (by exact rfl) ?_ | refine sqW ?_ | refine rgK (fun K' hK => ?_) | (refine aoN (hK _ _ ?_); clear hK K') | refine aoE (bxW rfl rfl rfl rfl rfl tI rfl rfl ?_))
     refine cdW rfl tI (fun hc => ?_) (fun hc => ?_)
     · exfalso; rw [hd] at hc; cases hc
     repeat' (first | refine aoQ rfl rfl rfl (fun hg => by first | exact std0 | exact pcW (x1) rfl rfl nd rfl nds | exact pcW (x2) rfl rfl nd rfl nds | exact pcW (s1) rfl rfl nd rfl nds | fail) (by exact rfl) ?_ | refine sqW ?_ | refine rgK (fun K' hK => ?_) | (refine aoN (hK _ _ ?_); clear hK K') | refine aoE (stW tabOk rfl rfl rfl tI rfl rfl tI rfl rfl rfl rfl rfl rfl rfl ?_) | refine aoE (alW tabOk rfl rfl rfl rfl rfl rfl ?_) | refine skW ?_)
     refine cdW rfl tI (fun hc => ?_) (fun hc => ?_)
     · exfalso; simp at hc
     repeat' (first | refine aoQ rfl rfl rfl (fun hg => by exact std0) (by exact rfl) ?_ | refine sqW ?_ | refine rgK (fun K' hK => ?_) | (refine aoN (hK _ _ ?_); clear hK K') | refine skW ?_)
     refine cdW rfl tI (fun hc => ?_) (fun hc => ?_)
     · repeat' (first | refine aoQ rfl rfl rfl (fun hg => by first | exact std0 | exact pcW (s2) rfl rfl nd rfl nds | exact pbD tabOk rfl rfl nds) (by exact rfl) ?_ | refine sqW ?_ | refine rgK (fun K' hK => ?_) | (refine aoN (hK _ _ ?_); clear hK K') | refine rtW ?_)
       exact ⟨.inr rfl, Ent.b rfl⟩
     · exfalso; exact h0 (by simpa using hc)
end Go.Proofs.YtbneeinknlddaaaGreat
