/- The law PlaceCuts by content. No statement is proved here. -/
import Derived.Test.YtdglbdfdkabjfaaGreatDoorC2
import Derived.Test.YtdglbdfdkabjfaaGreatDoorP29
set_option linter.unusedVariables false
set_option linter.unusedSimpArgs false

namespace Go.Proofs.YtdglbdfdkabjfaaGreatDoor.Pl
open Go.Ab Go.Pl
attribute [local irreducible] AWP AOps EStep AQ PStep PRun PCall TCall VCall
theorem cutR_cases (f : PForm) (k : PCut) : (cutR f k).2 ≠ 0 ∨ (cutR f k = (withCut f k, 0) ∧ formOk f = true ∧ cutOk f.bars k = true ∧ k ∉ f.cuts ∧ f.cuts.length < 100) := by
 unfold cutR
 by_cases hA : (!formOk f || !cutOk f.bars k) = true
 · rw [if_pos hA]; exact .inl (by decide)
 rw [if_neg hA]
 by_cases hB : k ∈ f.cuts
 · rw [if_pos hB]; exact .inl (by decide)
 rw [if_neg hB]
 by_cases hC : f.cuts.length = 100
 · rw [if_pos hC]; exact .inl (by decide)
 rw [if_neg hC]
 have hA2 : (!formOk f || !cutOk f.bars k) = false := by simpa using hA
 rw [Bool.or_eq_false_iff] at hA2
 have h1 : formOk f = true := by simpa using hA2.1
 have := cuts_len h1
 exact .inr ⟨rfl, h1, by simpa using hA2.2, hB, by omega⟩
set_option maxHeartbeats 8000000 in
set_option maxRecDepth 20000 in
theorem cuts_law (s : Score) (hs : s.Sized) (e : Ed.Edition) (hw : Ed.Wf e) (r : Room) (hz : FSized r.form) (c : Call) (hcl : c.letter.size ≤ 9223372036854775807) (k : PCut) :
 PCall Tryz.prog 8 [.agg (encS s), .agg (Ed.encE e), .agg (encRm r), .agg (encCl c), .agg (encCt k)] (.b true) := by
 have hh := head_spec
 have hu := usable_spec s hs e r hz
 by_cases husa : usableB s e r = true
 · rw [husa] at hu
   obtain ⟨⟨hsm, hf⟩, hr⟩ := usable_parts husa
   obtain ⟨hsc, hfm, hform, hbars, _⟩ := right_parts hr
   have h0 := cut_spec r.form hf k
   rcases cutR_cases r.form k with hx | ⟨hx, _, hk, hn, hl⟩
   · generalize cutR r.form k = X at *
     obtain ⟨F, x⟩ := X
     dsimp only at hx
     change PCall _ _ _ (.tup [.agg (encF F), .int x]) at h0
     refine PCall.body Tryz.func8 rfl rfl Tryz.ntmps8 rfl rfl ?_
     repeat' (first | refine AOps.q rfl rfl rfl (fun hg => by first | exact std0 | exact PRun.callW (hh) rfl rfl nd rfl nds | exact PRun.callW (hu) rfl rfl nd rfl nds) (by exact rfl) ?_ | refine AWP.seq ?_ | refine AWP.regionK (fun K' hK => ?_) | (refine AOps.nil (hK _ _ ?_); clear hK K') | refine AOps.e (EStep.boxW rfl rfl rfl rfl rfl True.intro rfl rfl ?_))
     refine AWP.condW rfl True.intro (fun hc => absurd hc (by decide)) (fun hc => ?_)
     refine AWP.keep [(5, .ptr 0 0), (6, .ptr 1 0), (7, .ptr 2 0), (8, .ptr 3 0), (9, .ptr 4 0), (11, .b true)] ⟨rfl, rfl, rfl, rfl, rfl, rfl, True.intro⟩ ?_
     repeat' (first | refine AOps.q rfl rfl rfl (fun hg => by first | exact std0 | exact PRun.callW (h0) rfl rfl nd rfl nds) (by exact rfl) ?_ | refine AWP.seq ?_ | refine AWP.regionK (fun K' hK => ?_) | (refine AOps.nil (hK _ _ ?_); clear hK K') | refine AOps.e (EStep.storeW tabOk rfl rfl rfl True.intro rfl rfl True.intro rfl rfl rfl rfl rfl rfl rfl ?_) | refine AOps.e (EStep.allocW tabOk rfl rfl rfl rfl rfl rfl ?_) | refine AWP.skip ?_)
     refine AWP.condW rfl True.intro (fun hc => ?_) (fun hc => absurd hc (by simp; exact hx))
     repeat' (first | refine AOps.q rfl rfl rfl (fun hg => by exact std0) (by exact rfl) ?_ | refine AWP.seq ?_ | refine AWP.regionK (fun K' hK => ?_) | (refine AOps.nil (hK _ _ ?_); clear hK K') | refine AWP.ret ?_)
     exact ⟨.inr rfl, Ent.b rfl⟩
   · rw [hx] at h0
     change PCall _ _ _ (.tup [.agg (encF (withCut r.form k)), .int 0]) at h0
     have hf2 : FIn (roomCut r k).form := ⟨hf.reps, hf.ends, by show (r.form.cuts ++ [k]).length ≤ _; rw [List.length_append, List.length_singleton]; omega⟩
     have h1 := resolve_spec s hsm e hw r hf c hcl
     have h2 := resolve_spec s hsm e hw (roomCut r k) hf2 c hcl
     have h5 := open_spec (withCut r.form k) hf2 k
     have ho : openR (withCut r.form k) k = (r.form, 0) := by
      unfold openR
      rw [form_cut hform hk hn hl, if_neg (by decide), if_neg (by intro h; exact h (List.mem_append.2 (.inr (List.mem_singleton.2 rfl)))), open_cut hn]
     rw [ho] at h5
     change PCall _ _ _ (.tup [.agg (encF r.form), .int 0]) at h5
     obtain ⟨g1, g2⟩ := resolve_cut (s := s) (e := e) (c := c) hr hk hn hl
     obtain ⟨X, hX⟩ : ∃ X, resolve s e r c = X := ⟨_, rfl⟩
     obtain ⟨Y, hY⟩ : ∃ Y, resolve s e (roomCut r k) c = Y := ⟨_, rfl⟩
     rw [hX] at h1 g1 g2
     rw [hY] at h2 g1 g2
     obtain ⟨⟨mb, mp, mq⟩, x⟩ := X
     obtain ⟨⟨nb, np, nq⟩, y⟩ := Y
     dsimp only at g1 g2
     change PCall _ _ _ (.tup [.agg [.int mb, .int mp, .int mq.n, .int mq.d], .int x]) at h1
     change PCall _ _ _ (.tup [.agg [.int nb, .int np, .int nq.n, .int nq.d], .int y]) at h2
     by_cases hx0 : x ≠ 0
     · obtain rfl := g1 hx0
       refine PCall.body Tryz.func8 rfl rfl Tryz.ntmps8 rfl rfl ?_
       repeat' (first | refine AOps.q rfl rfl rfl (fun hg => by first | exact std0 | exact PRun.callW (hh) rfl rfl nd rfl nds | exact PRun.callW (hu) rfl rfl nd rfl nds) (by exact rfl) ?_ | refine AWP.seq ?_ | refine AWP.regionK (fun K' hK => ?_) | (refine AOps.nil (hK _ _ ?_); clear hK K') | refine AOps.e (EStep.boxW rfl rfl rfl rfl rfl True.intro rfl rfl ?_))
       refine AWP.condW rfl True.intro (fun hc => absurd hc (by decide)) (fun hc => ?_)
       refine AWP.keep [(5, .ptr 0 0), (6, .ptr 1 0), (7, .ptr 2 0), (8, .ptr 3 0), (9, .ptr 4 0), (11, .b true)] ⟨rfl, rfl, rfl, rfl, rfl, rfl, True.intro⟩ ?_
       repeat' (first | refine AOps.q rfl rfl rfl (fun hg => by first | exact std0 | exact PRun.callW (h0) rfl rfl nd rfl nds) (by exact rfl) ?_ | refine AWP.seq ?_ | refine AWP.regionK (fun K' hK => ?_) | (refine AOps.nil (hK _ _ ?_); clear hK K') | refine AOps.e (EStep.storeW tabOk rfl rfl rfl True.intro rfl rfl True.intro rfl rfl rfl rfl rfl rfl rfl ?_) | refine AOps.e (EStep.allocW tabOk rfl rfl rfl rfl rfl rfl ?_) | refine AWP.skip ?_)
       refine AWP.condW rfl True.intro (fun hc => absurd hc (by decide)) (fun hc => ?_)
       refine AWP.keep [(5, .ptr 0 0), (6, .ptr 1 0), (7, .ptr 2 0), (8, .ptr 3 0), (9, .ptr 4 0), (11, .b true), (12, .ptr 5 0)] ⟨rfl, rfl, rfl, rfl, rfl, rfl, rfl, True.intro⟩ ?_
       repeat' (first | refine AOps.q rfl rfl rfl (fun hg => by first | exact std0 | exact PRun.callW (h1) rfl rfl nd rfl nds | exact PRun.callW (h2) rfl rfl nd rfl nds) (by exact rfl) ?_ | refine AWP.seq ?_ | refine AWP.regionK (fun K' hK => ?_) | (refine AOps.nil (hK _ _ ?_); clear hK K') | refine AOps.e (EStep.storeW tabOk rfl rfl rfl True.intro rfl rfl True.intro rfl rfl rfl rfl rfl rfl rfl ?_) | refine AOps.e (EStep.allocW tabOk rfl rfl rfl rfl rfl rfl ?_) | refine AWP.skip ?_)
       refine AWP.condW rfl True.intro (fun hc => ?_) (fun hc => absurd hc (by simp; exact hx0))
       repeat' (first | refine AOps.q rfl rfl rfl (fun hg => by exact std0) (by exact rfl) ?_ | refine AWP.seq ?_ | refine AWP.regionK (fun K' hK => ?_) | (refine AOps.nil (hK _ _ ?_); clear hK K') | refine AWP.ret ?_)
       refine ⟨.inr rfl, Ent.b ?_⟩
       simp
     · obtain rfl : x = 0 := by simpa using hx0
       have g3 := g2 rfl
       have hbl := hsm.1
       have hbar := r7bar_spec s.bars mb (by omega)
       generalize barAt s.bars mb = at_ at *
       by_cases hlv : leaves k ⟨at_, mp⟩ = true
       · rw [if_pos hlv] at g3
         have e1 : nb = 0 ∧ np = 0 ∧ nq = ⟨0, 0⟩ ∧ y = 31 := by
          unfold noMom at g3
          simp only [Prod.mk.injEq, Mom.mk.injEq] at g3
          exact ⟨g3.1.1, g3.1.2.1, g3.1.2.2, g3.2⟩
         obtain ⟨rfl, rfl, rfl, rfl⟩ := e1
         unfold leaves at hlv
         refine PCall.body Tryz.func8 rfl rfl Tryz.ntmps8 rfl rfl ?_
         repeat' (first | refine AOps.q rfl rfl rfl (fun hg => by first | exact std0 | exact PRun.callW (hh) rfl rfl nd rfl nds | exact PRun.callW (hu) rfl rfl nd rfl nds) (by exact rfl) ?_ | refine AWP.seq ?_ | refine AWP.regionK (fun K' hK => ?_) | (refine AOps.nil (hK _ _ ?_); clear hK K') | refine AOps.e (EStep.boxW rfl rfl rfl rfl rfl True.intro rfl rfl ?_))
         refine AWP.condW rfl True.intro (fun hc => absurd hc (by decide)) (fun hc => ?_)
         refine AWP.keep [(5, .ptr 0 0), (6, .ptr 1 0), (7, .ptr 2 0), (8, .ptr 3 0), (9, .ptr 4 0), (11, .b true)] ⟨rfl, rfl, rfl, rfl, rfl, rfl, True.intro⟩ ?_
         repeat' (first | refine AOps.q rfl rfl rfl (fun hg => by first | exact std0 | exact PRun.callW (h0) rfl rfl nd rfl nds) (by exact rfl) ?_ | refine AWP.seq ?_ | refine AWP.regionK (fun K' hK => ?_) | (refine AOps.nil (hK _ _ ?_); clear hK K') | refine AOps.e (EStep.storeW tabOk rfl rfl rfl True.intro rfl rfl True.intro rfl rfl rfl rfl rfl rfl rfl ?_) | refine AOps.e (EStep.allocW tabOk rfl rfl rfl rfl rfl rfl ?_) | refine AWP.skip ?_)
         refine AWP.condW rfl True.intro (fun hc => absurd hc (by decide)) (fun hc => ?_)
         refine AWP.keep [(5, .ptr 0 0), (6, .ptr 1 0), (7, .ptr 2 0), (8, .ptr 3 0), (9, .ptr 4 0), (11, .b true), (12, .ptr 5 0)] ⟨rfl, rfl, rfl, rfl, rfl, rfl, rfl, True.intro⟩ ?_
         repeat' (first | refine AOps.q rfl rfl rfl (fun hg => by first | exact std0 | exact PRun.callW (h1) rfl rfl nd rfl nds | exact PRun.callW (h2) rfl rfl nd rfl nds) (by exact rfl) ?_ | refine AWP.seq ?_ | refine AWP.regionK (fun K' hK => ?_) | (refine AOps.nil (hK _ _ ?_); clear hK K') | refine AOps.e (EStep.storeW tabOk rfl rfl rfl True.intro rfl rfl True.intro rfl rfl rfl rfl rfl rfl rfl ?_) | refine AOps.e (EStep.allocW tabOk rfl rfl rfl rfl rfl rfl ?_) | refine AWP.skip ?_)
         refine AWP.condW rfl True.intro (fun hc => absurd hc (by decide)) (fun hc => ?_)
         refine AWP.keep [(5, .ptr 0 0), (6, .ptr 1 0), (8, .ptr 3 0), (9, .ptr 4 0), (11, .b true), (12, .ptr 5 0), (14, .ptr 6 0), (16, .ptr 7 0), (17, .ptr 8 0), (18, .int 31)] ⟨rfl, rfl, rfl, rfl, rfl, rfl, rfl, rfl, rfl, rfl, True.intro⟩ ?_
         show AWP _ _ _ _ _ [.var (encS s), .var (Ed.encE e), .var (encRm r), .var (encCl c), .var (encCt k), .var (encF (withCut r.form k)), .var [.int mb, .int mp, .int mq.n, .int mq.d], .var (encRm (roomCut r k)), .var [.int 0, .int 0, .int 0, .int 0]]
         repeat' (first | refine AOps.q rfl rfl rfl (fun hg => by first | exact std0 | exact PRun.callW (hbar) rfl rfl nd rfl nds | exact PRun.buildW tabOk rfl rfl nds | exact PRun.neN flMo rfl rfl nd rfl nd rfl) (by exact rfl) ?_ | refine AWP.seq ?_ | refine AWP.regionK (fun K' hK => ?_) | (refine AOps.nil (hK _ _ ?_); clear hK K') | refine AWP.skip ?_)
         refine AWP.condW rfl True.intro (fun hc => absurd hc ?_) (fun hc => ?_)
         · simp at hlv ⊢
           omega
         refine AWP.keep [(5, .ptr 0 0), (6, .ptr 1 0), (8, .ptr 3 0), (9, .ptr 4 0), (11, .b true), (12, .ptr 5 0), (14, .ptr 6 0), (16, .ptr 7 0)] ⟨rfl, rfl, rfl, rfl, rfl, rfl, rfl, rfl, True.intro⟩ ?_
         show AWP _ _ _ _ _ [.var (encS s), .var (Ed.encE e), .var (encRm r), .var (encCl c), .var (encCt k), .var (encF (withCut r.form k)), .var [.int mb, .int mp, .int mq.n, .int mq.d], .var (encRm (roomCut r k)), .var [.int 0, .int 0, .int 0, .int 0]]
         repeat' (first | refine AOps.q rfl rfl rfl (fun hg => by first | exact std0 | exact PRun.callW (h5) rfl rfl nd rfl nds | exact PRun.callW (h1) rfl rfl nd rfl nds | exact PRun.eqN flMo rfl rfl nd rfl nd rfl) (by exact rfl) ?_ | refine AWP.seq ?_ | refine AWP.regionK (fun K' hK => ?_) | (refine AOps.nil (hK _ _ ?_); clear hK K') | refine AOps.e (EStep.storeW tabOk rfl rfl rfl True.intro rfl rfl True.intro rfl rfl rfl rfl rfl rfl rfl ?_) | refine AOps.e (EStep.allocW tabOk rfl rfl rfl rfl rfl rfl ?_) | refine AWP.skip ?_ | refine AWP.ret ?_)
         refine ⟨.inr rfl, Ent.b ?_⟩
         simp
       · rw [if_neg hlv] at g3
         have e1 : nb = mb ∧ np = mp ∧ nq = mq ∧ y = 0 := by
          simp only [Prod.mk.injEq, Mom.mk.injEq] at g3
          exact ⟨g3.1.1, g3.1.2.1, g3.1.2.2, g3.2⟩
         obtain ⟨rfl, rfl, rfl, rfl⟩ := e1
         unfold leaves at hlv
         refine PCall.body Tryz.func8 rfl rfl Tryz.ntmps8 rfl rfl ?_
         repeat' (first | refine AOps.q rfl rfl rfl (fun hg => by first | exact std0 | exact PRun.callW (hh) rfl rfl nd rfl nds | exact PRun.callW (hu) rfl rfl nd rfl nds) (by exact rfl) ?_ | refine AWP.seq ?_ | refine AWP.regionK (fun K' hK => ?_) | (refine AOps.nil (hK _ _ ?_); clear hK K') | refine AOps.e (EStep.boxW rfl rfl rfl rfl rfl True.intro rfl rfl ?_))
         refine AWP.condW rfl True.intro (fun hc => absurd hc (by decide)) (fun hc => ?_)
         refine AWP.keep [(5, .ptr 0 0), (6, .ptr 1 0), (7, .ptr 2 0), (8, .ptr 3 0), (9, .ptr 4 0), (11, .b true)] ⟨rfl, rfl, rfl, rfl, rfl, rfl, True.intro⟩ ?_
         repeat' (first | refine AOps.q rfl rfl rfl (fun hg => by first | exact std0 | exact PRun.callW (h0) rfl rfl nd rfl nds) (by exact rfl) ?_ | refine AWP.seq ?_ | refine AWP.regionK (fun K' hK => ?_) | (refine AOps.nil (hK _ _ ?_); clear hK K') | refine AOps.e (EStep.storeW tabOk rfl rfl rfl True.intro rfl rfl True.intro rfl rfl rfl rfl rfl rfl rfl ?_) | refine AOps.e (EStep.allocW tabOk rfl rfl rfl rfl rfl rfl ?_) | refine AWP.skip ?_)
         refine AWP.condW rfl True.intro (fun hc => absurd hc (by decide)) (fun hc => ?_)
         refine AWP.keep [(5, .ptr 0 0), (6, .ptr 1 0), (7, .ptr 2 0), (8, .ptr 3 0), (9, .ptr 4 0), (11, .b true), (12, .ptr 5 0)] ⟨rfl, rfl, rfl, rfl, rfl, rfl, rfl, True.intro⟩ ?_
         repeat' (first | refine AOps.q rfl rfl rfl (fun hg => by first | exact std0 | exact PRun.callW (h1) rfl rfl nd rfl nds | exact PRun.callW (h2) rfl rfl nd rfl nds) (by exact rfl) ?_ | refine AWP.seq ?_ | refine AWP.regionK (fun K' hK => ?_) | (refine AOps.nil (hK _ _ ?_); clear hK K') | refine AOps.e (EStep.storeW tabOk rfl rfl rfl True.intro rfl rfl True.intro rfl rfl rfl rfl rfl rfl rfl ?_) | refine AOps.e (EStep.allocW tabOk rfl rfl rfl rfl rfl rfl ?_) | refine AWP.skip ?_)
         refine AWP.condW rfl True.intro (fun hc => absurd hc (by decide)) (fun hc => ?_)
         refine AWP.keep [(5, .ptr 0 0), (6, .ptr 1 0), (8, .ptr 3 0), (9, .ptr 4 0), (11, .b true), (12, .ptr 5 0), (14, .ptr 6 0), (16, .ptr 7 0), (17, .ptr 8 0), (18, .int 0)] ⟨rfl, rfl, rfl, rfl, rfl, rfl, rfl, rfl, rfl, rfl, True.intro⟩ ?_
         show AWP _ _ _ _ _ [.var (encS s), .var (Ed.encE e), .var (encRm r), .var (encCl c), .var (encCt k), .var (encF (withCut r.form k)), .var [.int nb, .int np, .int nq.n, .int nq.d], .var (encRm (roomCut r k)), .var [.int nb, .int np, .int nq.n, .int nq.d]]
         repeat' (first | refine AOps.q rfl rfl rfl (fun hg => by first | exact std0 | exact PRun.callW (hbar) rfl rfl nd rfl nds | exact PRun.buildW tabOk rfl rfl nds | exact PRun.neN flMo rfl rfl nd rfl nd rfl) (by exact rfl) ?_ | refine AWP.seq ?_ | refine AWP.regionK (fun K' hK => ?_) | (refine AOps.nil (hK _ _ ?_); clear hK K') | refine AWP.skip ?_)
         refine AWP.condW rfl True.intro (fun hc => absurd hc ?_) (fun hc => ?_)
         · simp at hlv ⊢
           omega
         refine AWP.keep [(5, .ptr 0 0), (6, .ptr 1 0), (8, .ptr 3 0), (9, .ptr 4 0), (11, .b true), (12, .ptr 5 0), (14, .ptr 6 0), (16, .ptr 7 0)] ⟨rfl, rfl, rfl, rfl, rfl, rfl, rfl, rfl, True.intro⟩ ?_
         show AWP _ _ _ _ _ [.var (encS s), .var (Ed.encE e), .var (encRm r), .var (encCl c), .var (encCt k), .var (encF (withCut r.form k)), .var [.int nb, .int np, .int nq.n, .int nq.d], .var (encRm (roomCut r k)), .var [.int nb, .int np, .int nq.n, .int nq.d]]
         repeat' (first | refine AOps.q rfl rfl rfl (fun hg => by first | exact std0 | exact PRun.callW (h5) rfl rfl nd rfl nds | exact PRun.callW (h1) rfl rfl nd rfl nds | exact PRun.eqN flMo rfl rfl nd rfl nd rfl) (by exact rfl) ?_ | refine AWP.seq ?_ | refine AWP.regionK (fun K' hK => ?_) | (refine AOps.nil (hK _ _ ?_); clear hK K') | refine AOps.e (EStep.storeW tabOk rfl rfl rfl True.intro rfl rfl True.intro rfl rfl rfl rfl rfl rfl rfl ?_) | refine AOps.e (EStep.allocW tabOk rfl rfl rfl rfl rfl rfl ?_) | refine AWP.skip ?_ | refine AWP.ret ?_)
         refine ⟨.inr rfl, Ent.b ?_⟩
         simp
 · have husa : usableB s e r = false := by simpa using husa
   rw [husa] at hu
   refine PCall.body Tryz.func8 rfl rfl Tryz.ntmps8 rfl rfl ?_
   repeat' (first | refine AOps.q rfl rfl rfl (fun hg => by first | exact std0 | exact PRun.callW (hh) rfl rfl nd rfl nds | exact PRun.callW (hu) rfl rfl nd rfl nds) (by exact rfl) ?_ | refine AWP.seq ?_ | refine AWP.regionK (fun K' hK => ?_) | (refine AOps.nil (hK _ _ ?_); clear hK K') | refine AOps.e (EStep.boxW rfl rfl rfl rfl rfl True.intro rfl rfl ?_))
   refine AWP.condW rfl True.intro (fun hc => ?_) (fun hc => absurd hc (by simp))
   repeat' (first | refine AOps.q rfl rfl rfl (fun hg => by exact std0) (by exact rfl) ?_ | refine AWP.seq ?_ | refine AWP.regionK (fun K' hK => ?_) | (refine AOps.nil (hK _ _ ?_); clear hK K') | refine AWP.ret ?_)
   exact ⟨.inr rfl, Ent.b rfl⟩
end Go.Proofs.YtdglbdfdkabjfaaGreatDoor.Pl
