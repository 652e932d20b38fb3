/- The law BowingChoices by content. No statement is proved here. -/
import Derived.Test.YtficfljjnbnhbaaGreatDoorP32
set_option linter.unusedVariables false
set_option linter.unusedSimpArgs false
namespace Go.Proofs.YtficfljjnbnhbaaGreatDoor.Bw
open Go.Ab Go.Sort Mk
attribute [local irreducible] AWP AOps EStep AQ PStep PRun PCall TCall VCall DStep TDies AWD DCall
set_option maxHeartbeats 32000000 in
set_option maxRecDepth 20000 in
theorem choices_law (c : Cl) (hz : c.Sized) : PCall Tryz.prog 8 [.agg (encC c)] (.b true) := by
 have hh := head20
 obtain ⟨z1, z2, z3⟩ := hz
 by_cases hfew : c.notes.length ≤ 100 ∧ c.vals.length ≤ 100 ∧ c.rdrs.length ≤ 100
 · obtain ⟨l1, l2, l3⟩ := hfew
   have k1 := choices_spec c ⟨z1, z2, z3⟩
   by_cases hok : clOk c = true
   · have hcf : clForm c = true := by
      unfold clOk at hok
      simp only [zA0] at hok
      exact hok.1
     obtain ⟨e1, e2, e3⟩ := clForm_iff hcf
     rw [show choR c = ((selC c, leastC c), 0) from if_pos hok] at k1
     have q1 := rOthers_spec c e1 (by omega) 1
     have q2 := rOthers_spec c e1 (by omega) 2
     obtain ⟨s1, s2, s3, s4⟩ := sel_has c
     have hb := both_cost e1
     have r1 := has20_spec (selC c) (by omega) 1
     have r2 := has20_spec (selC c) (by omega) 2
     rw [s1] at r1
     rw [s2] at r2
     have ol1 := oth_len 1 (psC c)
     have ol2 := oth_len 2 (psC c)
     rw [psC_len e1] at ol1 ol2
     have hmin : leastC c = min ((oth (psC c) 1).length : Int) ((oth (psC c) 2).length : Int) := rfl
     generalize leastC c = m at *
     generalize oth (psC c) 1 = o1 at *
     generalize oth (psC c) 2 = o2 at *
     generalize selC c = sl at *
     clear s1 s2
     refine PCall.body Tryz.func8 rfl rfl Tryz.ntmps8 rfl rfl ?_
     repeat' (first | refine aoQ rfl rfl rfl (fun hg => by first | exact std0 | exact pcW (hh) rfl rfl nd rfl nds | exact pcW (k1) rfl rfl nd rfl nds | exact pcW (q1) rfl rfl nd rfl nds | exact pcW (q2) rfl rfl nd rfl nds | exact std1) (by exact rfl) ?_ | refine sqW ?_ | refine rgK (fun K' hK => ?_) | (refine aoN (hK _ _ ?_); clear hK K') | refine aoE (bxW rfl rfl rfl rfl rfl tI rfl rfl ?_) | refine aoE (stW tabOk rfl rfl rfl tI rfl rfl tI rfl rfl rfl rfl rfl rfl rfl ?_) | refine aoE (alW tabOk rfl rfl rfl rfl rfl rfl ?_) | refine aoE (EStep.makeMapW rfl rfl rfl rfl ?_) | refine cdN rfl tI (fun hc => ?_) (fun hc => ?_) | refine blK ?_ | refine exW ?_ | refine skW ?_ | refine rtW ?_ | refine dK2 (by decide +kernel) (by kernel_rfl) (by decide +kernel) rfl (fun K' hK => ?_) | refine dL2 (by kernel_rfl) (by decide +kernel) rfl (fun K' hK => ?_) | (refine aqN (hK _ ?_); clear hK K') | refine aqN ?_ | refine aqQ rfl rfl (fun hg => by first | exact std0 | exact pcW (hh) rfl rfl nd rfl nds | exact pcW (k1) rfl rfl nd rfl nds | exact pcW (q1) rfl rfl nd rfl nds | exact pcW (q2) rfl rfl nd rfl nds | exact std1) (by exact rfl) ?_)
     all_goals (first | exact dd | skip)
     refine lpD (ι := Nat) (fun k => [(3, .b true), (4, .sl 1 (sl.map eI) .no), (5, .int m), (7, .int o1.length), (8, .int o2.length), (9, .map 1), (56, .sl 1 (c.notes.map eI) .no), (57, .int c.notes.length), (58, .int k)]) (fun k => [.var (encC c), .map (Go.Ab.encM ekI AV.b (lftM (c.notes.take k)))])
      (fun k => k ≤ c.notes.length) (fun k => c.notes.length - k) 2 (fun _ => rfl) 0 (nZl _) ⟨rfl, rfl, rfl, rfl, rfl, rfl, rfl, rfl, rfl, tI⟩ rfl (fun _ _ => rfl) (fun k _ => by simp only [zBu, zC8, okMapM, zBm]; rfl) ?_
     intro k hk
     by_cases hlt : k < c.notes.length
     · obtain ⟨n, hn⟩ : ∃ n, c.notes.getD k default = n := ⟨_, rfl⟩
       have h1 := lftM_succ hlt
       rw [hn] at h1
       repeat' (first | refine aoQ rfl rfl rfl (fun hg => by first | exact iX eI c.notes ((k : Nat) : Int) hn (hb := by omega) | exact std0 | exact std1) (by exact rfl) ?_ | refine sqW ?_ | refine rgK (fun K' hK => ?_) | (refine aoN (hK _ _ ?_); clear hK K') | refine aoE (bxW rfl rfl rfl rfl rfl tI rfl rfl ?_) | refine aoE (stW tabOk rfl rfl rfl tI rfl rfl tI rfl rfl rfl rfl rfl rfl rfl ?_) | refine aoE (alW tabOk rfl rfl rfl rfl rfl rfl ?_) | refine aoE (EStep.mapUpd (l := 1) (ek := ekI) (ev := AV.b) (v := true) (keyLaw_int (LOk.of (tabOk.get rfl))) (LOk.of (tabOk.get rfl)) rfl rfl rfl (Rd.w rfl tI) rfl (Rd.w rfl tI) rfl (Rd.w rfl tI) ?_) | refine cdN rfl tI (fun hc => ?_) (fun hc => ?_) | refine blK ?_ | refine exW ?_ | refine skW ?_ | refine rtW ?_ | refine dK2 (by decide +kernel) (by kernel_rfl) (by decide +kernel) rfl (fun K' hK => ?_) | refine dL2 (by kernel_rfl) (by decide +kernel) rfl (fun K' hK => ?_) | (refine aqN (hK _ ?_); clear hK K') | refine aqN ?_ | refine aqQ rfl rfl (fun hg => by first | exact iX eI c.notes ((k : Nat) : Int) hn (hb := by omega) | exact std0 | exact std1) (by exact rfl) ?_)
       all_goals (first | exact dd | skip)
       exact ⟨k + 1, hlt, by show c.notes.length - (k + 1) < c.notes.length - k; omega, ⟨rfl, rfl, rfl, rfl, rfl, rfl, rfl, rfl, rfl, tI⟩, by show _ = [_, AObj.map (Go.Ab.encM ekI AV.b (lftM (c.notes.take (k + 1))))]; rw [h1]; rfl⟩
     · obtain rfl : k = c.notes.length := by omega
       rw [zAr]
       generalize lftM c.notes = al at *
       repeat' (first | refine aoQ rfl rfl rfl (fun hg => by first | exact std0 | exact pcW (r1) rfl rfl nd rfl nds | exact pcW (r2) rfl rfl nd rfl nds | exact PRun.lenMap (ek := ekI) (ev := AV.b) rfl (Rd.w rfl nd) (Or.inr ⟨_, rfl, rfl⟩) (LOk.of (tabOk.get rfl)) | exact std1) (by exact rfl) ?_ | refine sqW ?_ | refine rgK (fun K' hK => ?_) | (refine aoN (hK _ _ ?_); clear hK K') | refine aoE (bxW rfl rfl rfl rfl rfl tI rfl rfl ?_) | refine aoE (stW tabOk rfl rfl rfl tI rfl rfl tI rfl rfl rfl rfl rfl rfl rfl ?_) | refine aoE (alW tabOk rfl rfl rfl rfl rfl rfl ?_) | refine cdN rfl tI (fun hc => ?_) (fun hc => ?_) | refine blK ?_ | refine exW ?_ | refine skW ?_ | refine rtW ?_ | refine dK2 (by decide +kernel) (by kernel_rfl) (by decide +kernel) rfl (fun K' hK => ?_) | refine dL2 (by kernel_rfl) (by decide +kernel) rfl (fun K' hK => ?_) | (refine aqN (hK _ ?_); clear hK K') | refine aqN ?_ | refine aqQ rfl rfl (fun hg => by first | exact std0 | exact pcW (r1) rfl rfl nd rfl nds | exact pcW (r2) rfl rfl nd rfl nds | exact PRun.lenMap (ek := ekI) (ev := AV.b) rfl (Rd.w rfl nd) (Or.inr ⟨_, rfl, rfl⟩) (LOk.of (tabOk.get rfl)) | exact std1) (by exact rfl) ?_)
       all_goals (first | exact dd | skip)
       refine ⟨.inr rfl, Ent.b ?_⟩
       have g1 : (m == min ((o1.length : Nat) : Int) ((o2.length : Nat) : Int)) = true := by rw [hmin]; simp
       have g2 : decide (((o1.length : Nat) : Int) + ((o2.length : Nat) : Int) ≥ ((al.length : Nat) : Int)) = true := decide_eq_true (by omega)
       have g3 : decide (((sl.length : Nat) : Int) ≥ 1) = true := decide_eq_true (by omega)
       have g4 : decide (((sl.length : Nat) : Int) ≤ 2) = true := decide_eq_true (by omega)
       simp only [g1, g2, g3, g4, zBl, zBm, beq_self_eq_true, Bool.and_self]
   · rw [show choR c = (([], 0), 1) from if_neg hok] at k1
     refine PCall.body Tryz.func8 rfl rfl Tryz.ntmps8 rfl rfl ?_
     repeat' (first | refine aoQ rfl rfl rfl (fun hg => by first | exact std0 | exact pcW (hh) rfl rfl nd rfl nds | exact pcW (k1) rfl rfl nd rfl nds | exact std1) (by exact rfl) ?_ | refine sqW ?_ | refine rgK (fun K' hK => ?_) | (refine aoN (hK _ _ ?_); clear hK K') | refine aoE (bxW rfl rfl rfl rfl rfl tI rfl rfl ?_) | refine aoE (stW tabOk rfl rfl rfl tI rfl rfl tI rfl rfl rfl rfl rfl rfl rfl ?_) | refine aoE (alW tabOk rfl rfl rfl rfl rfl rfl ?_) | refine cdN rfl tI (fun hc => ?_) (fun hc => ?_) | refine blK ?_ | refine exW ?_ | refine skW ?_ | refine rtW ?_ | refine dK2 (by decide +kernel) (by kernel_rfl) (by decide +kernel) rfl (fun K' hK => ?_) | refine dL2 (by kernel_rfl) (by decide +kernel) rfl (fun K' hK => ?_) | (refine aqN (hK _ ?_); clear hK K') | refine aqN ?_ | refine aqQ rfl rfl (fun hg => by first | exact std0 | exact pcW (hh) rfl rfl nd rfl nds | exact pcW (k1) rfl rfl nd rfl nds | exact std1) (by exact rfl) ?_)
     all_goals (first | exact dd | skip)
     exact ⟨.inr rfl, Ent.b rfl⟩
 · refine PCall.body Tryz.func8 rfl rfl Tryz.ntmps8 rfl rfl ?_
   repeat' (first | refine aoQ rfl rfl rfl (fun hg => by first | exact std0 | exact pcW (hh) rfl rfl nd rfl nds | exact std1) (by exact rfl) ?_ | refine sqW ?_ | refine rgK (fun K' hK => ?_) | (refine aoN (hK _ _ ?_); clear hK K') | refine aoE (bxW rfl rfl rfl rfl rfl tI rfl rfl ?_) | refine aoE (stW tabOk rfl rfl rfl tI rfl rfl tI rfl rfl rfl rfl rfl rfl rfl ?_) | refine aoE (alW tabOk rfl rfl rfl rfl rfl rfl ?_) | refine cdN rfl tI (fun hc => ?_) (fun hc => ?_) | refine blK ?_ | refine exW ?_ | refine skW ?_ | refine rtW ?_ | (refine aqN (hK _ ?_); clear hK K') | refine aqN ?_ | refine aqQ rfl rfl (fun hg => by first | exact std0 | exact pcW (hh) rfl rfl nd rfl nds | exact std1) (by exact rfl) ?_)
   all_goals (first | (exact ⟨.inr rfl, Ent.b rfl⟩) | skip)
   exfalso
   simp at hc
   exact hfew ⟨by omega, by omega, by omega⟩
end Go.Proofs.YtficfljjnbnhbaaGreatDoor.Bw
