/- Contracts by content: the marks that a reader sees: the program. No statement is proved here. -/
import Derived.Test.YtficfljjnbnhbaaGreatDoorP16
set_option linter.unusedVariables false
set_option linter.unusedSimpArgs false
namespace Go.Proofs.YtficfljjnbnhbaaGreatDoor.Mk
open Go.Ab Go.Jo
attribute [local irreducible] AWP AOps EStep AQ PStep PRun PCall TCall VCall DStep TDies AWD DCall
set_option maxHeartbeats 8000000 in
set_option maxRecDepth 20000 in
theorem shown_spec (s : Score) (hs : s.Small) (hn : s.notes.length ≤ 1000000) (l : List Jo.Mark) (hl : l.length ≤ 1000000000) (ht : TextsIn l) (r : Rdr) :
 PCall Tryz.prog 22 [.agg (encS s), .sl 10 (l.map encMk) .no, .agg (encRd r)] (tupM (shownR s l r)) := by
 have hv := svalid_spec s hs
 have hm := areMarks_spec l (by omega) ht
 have hr := mrdr_spec r
 have hp := sPart_spec s hs r.part
 have hpl := plays_spec s hs r.part
 obtain ⟨h1, h2, h3⟩ := hs
 by_cases hgood : ((scoreOk s && marksOk l) && isRdr r) = true
 · have hgood2 := hgood
   simp only [zA0] at hgood2
   obtain ⟨⟨g1, g2⟩, g3⟩ := hgood2
   rw [g1] at hv
   rw [g2] at hm
   rw [g3] at hr
   by_cases hf : partI s r.part ≥ 0
   · obtain ⟨k, e1, e2, e3, e4⟩ := findI_lt hf
     have e1' : partI s r.part = k := e1
     rw [partR_yes g1 g3 e1'] at hp
     have er : playsR s r.part = (playedL s.notes (s.parts.getD k default), 0) := by unfold playsR; rw [if_pos g1, if_pos (show findI (fun x : Part => x.id == r.part) s.parts ≥ 0 from hf), e1]; rfl
     rw [er] at hpl
     have hpn := played_len s.notes (s.parts.getD k default)
     by_cases hdk : (s.parts.getD k default).desks < r.desk
     · have es : shownR s l r = ([], 22) := by
        unfold shownR; rw [if_pos hgood, if_pos hf, e1', if_pos (by exact hdk)]
       rw [es]
       obtain ⟨p, hP⟩ : ∃ p, s.parts.getD k default = p := ⟨_, rfl⟩
       rw [hP] at hdk
       refine PCall.body Tryz.func22 rfl rfl Tryz.ntmps22 rfl rfl ?_
       repeat' (first | refine aoQ rfl rfl rfl (fun hg => by first | exact std0 | exact pcW (hv) rfl rfl nd rfl nds | exact pcW (hm) rfl rfl nd rfl nds | exact pcW (hr) rfl rfl nd rfl nds | exact pcW (hp) rfl rfl nd rfl nds) (by exact rfl) ?_ | refine sqW ?_ | refine rgK (fun K' hK => ?_) | (refine aoN (hK _ _ ?_); clear hK K') | refine aoE (bxW rfl rfl rfl rfl rfl tI rfl rfl ?_) | refine cdN rfl tI (fun hc => ?_) (fun hc => ?_) | refine skW ?_ | refine rtW ?_ | refine dK2 (by decide +kernel) (by kernel_rfl) (by decide +kernel) rfl (fun K' hK => ?_) | (refine aqN (hK _ ?_); clear hK K') | refine aqQ rfl rfl (fun hg => by first | exact iX encP s.parts ((k : Nat) : Int) hP (hb := by omega) | exact std0) (by exact rfl) ?_)
       · exfalso; simp at hc
       · exact ⟨.inr rfl, Ent.tup2 Ent.nil (Ent.rfl' _)⟩
       · exfalso; (try simp at hc); omega
     · have es : shownR s l r = (shownL (shownF s l (s.parts.getD k default) r) (playedL s.notes (s.parts.getD k default)), 0) := by
        unfold shownR; rw [if_pos hgood, if_pos hf, e1', if_neg (by exact hdk)]; rfl
       rw [es]
       clear es er
       obtain ⟨p, hP⟩ : ∃ p, s.parts.getD k default = p := ⟨_, rfl⟩
       rw [hP] at hpl hpn hdk ⊢
       obtain ⟨ns, hns⟩ : ∃ ns, playedL s.notes p = ns := ⟨_, rfl⟩
       rw [hns] at hpl hpn ⊢
       refine PCall.body Tryz.func22 rfl rfl Tryz.ntmps22 rfl rfl ?_
       repeat' (first | refine aoQ rfl rfl rfl (fun hg => by first | exact std0 | exact pcW (hv) rfl rfl nd rfl nds | exact pcW (hm) rfl rfl nd rfl nds | exact pcW (hr) rfl rfl nd rfl nds | exact pcW (hp) rfl rfl nd rfl nds | exact pcW (hpl) rfl rfl nd rfl nds | exact pcW (layers_spec) rfl rfl nd rfl nds | exact std1) (by exact rfl) ?_ | refine sqW ?_ | refine rgK (fun K' hK => ?_) | (refine aoN (hK _ _ ?_); clear hK K') | refine aoE (bxW rfl rfl rfl rfl rfl tI rfl rfl ?_) | refine aoE (EStep.makeMapW rfl rfl rfl rfl ?_) | refine cdN rfl tI (fun hc => ?_) (fun hc => ?_) | refine blK ?_ | refine skW ?_ | refine rtW ?_ | refine dK2 (by decide +kernel) (by kernel_rfl) (by decide +kernel) rfl (fun K' hK => ?_) | (refine aqN (hK _ ?_); clear hK K') | refine aqQ rfl rfl (fun hg => by first | exact iX encP s.parts ((k : Nat) : Int) hP (hb := by omega) | exact std0) (by exact rfl) ?_)
       · exfalso; simp at hc
       · exfalso; (try simp at hc); omega
       · exfalso; simp at hc
       clear hv hm hr hp hpl
       refine lpD (ι := Nat) (fun j => [(1, .sl 10 (l.map encMk) .no), (3, .ptr 0 0), (5, .ptr 1 0), (8, .int k), (11, .sl 12 (ns.map encN) .no), (12, .map 2), (13, .imap (Go.Ab.encM ekI layF [(1, 1), (2, 2), (3, 3), (4, 4)])), (75, .sl 10 (l.map encMk) .no), (76, .int l.length), (77, .int j)])
        (fun j => [.var (encS s), .var (encRd r), .map (Go.Ab.encM ekP evM (bestAL s.version p.section_ r (l.take j)))])
        (fun j => j ≤ l.length) (fun j => l.length - j) 3 (fun _ => rfl) 0 (nZl _) ⟨rfl, rfl, rfl, rfl, rfl, rfl, rfl, rfl, rfl, rfl, tI⟩ rfl (fun _ _ => rfl) (fun j _ => by simp only [zBu, zC8, zBm, zA0]; exact ⟨rfl, rfl, okObj_mapM _ _⟩) ?_
       intro j hj
       by_cases hjl : j < l.length
       · have hmk := marksOk_at g2 hjl
         have hst := bestAL_snoc s.version p.section_ r (l.take j) (l.getD j default)
         rw [← take_snoc hjl] at hst
         obtain ⟨m, hm⟩ : ∃ m, l.getD j default = m := ⟨_, rfl⟩
         rw [hm] at hst hmk
         obtain ⟨al, hal⟩ : ∃ al, bestAL s.version p.section_ r (l.take j) = al := ⟨_, rfl⟩
         rw [hal] at hst ⊢
         have hcn := counts_spec m ((lk al (m.note, m.kind)).getD noMark)
         clear hpn
         rcases markOk_layer hmk with hly | hly | hly | hly
         · have hlk : lk [((1 : Int), (1 : Nat)), (2, 2), (3, 3), (4, 4)] m.layer = some 1 := by rw [hly]; rfl
           have hfo : forM m p.section_ r = (m.who == r) := by unfold forM; rw [hly]; rfl
           have v3 := mea1_spec m.who p.section_ r
           rw [← hfo] at v3
           clear hfo hmk
           repeat' (first | refine aoQ rfl rfl rfl (fun hg => by first | exact iX encMk l ((j : Nat) : Int) hm (hb := by omega) | exact std0 | exact PRun.buildAW tabOk rfl rfl nds | exact PRun.lookup (ek := ekP) (ev := evM) (zv := noMark) (key := (m.note, m.kind)) pairK (LOk.of (tabOk.get rfl)) (LOk.of (tabOk.get rfl)) rfl rfl (Rd.w rfl nd) (Or.inr ⟨_, rfl, rfl⟩) (Rd.w rfl nd) rfl | exact pcW (hcn) rfl rfl nd rfl nds | exact std1) (by exact rfl) ?_ | refine sqW ?_ | refine rgK (fun K' hK => ?_) | (refine aoN (hK _ _ ?_); clear hK K') | refine aoE (stW tabOk rfl rfl rfl tI rfl rfl tI rfl rfl rfl rfl rfl rfl rfl ?_) | refine aoE (alW tabOk rfl rfl rfl rfl rfl rfl ?_) | refine aoE (EStep.mapUpd (ek := ekP) (ev := evM) (key := (m.note, m.kind)) (v := m) pairK (LOk.of (tabOk.get rfl)) rfl rfl rfl (Rd.w rfl tI) rfl (Rd.w rfl tI) rfl (Rd.w rfl tI) ?_) | refine cdN rfl tI (fun hc => ?_) (fun hc => ?_) | refine blK ?_ | refine exW ?_ | refine skW ?_ | refine dK2 (by decide +kernel) (by kernel_rfl) (by decide +kernel) rfl (fun K' hK => ?_) | (refine aqN (hK _ ?_); clear hK K') | refine aqQ rfl rfl (fun hg => by first | exact PRun.lookupV (ek := ekI) (ev := layF) (zv := 0) hlk (keyLaw_int (LOk.of (tabOk.get rfl))) (LOk.of (tabOk.get rfl)) (LOk.of (tabOk.get rfl)) rfl rfl (Rd.w rfl nd) (Or.inl rfl) (Rd.w rfl nd) rfl | exact iX encP s.parts ((k : Nat) : Int) hP (hb := by omega) | exact std0 | exact pcW (v3) rfl rfl nd rfl nds) (by exact rfl) ?_)
           all_goals (first | (exfalso; omega) | skip)
           · refine ⟨j + 1, by omega, by omega, ⟨rfl, rfl, rfl, rfl, rfl, rfl, rfl, rfl, rfl, rfl, tI⟩, ?_⟩
             rw [hst]; unfold stepAL; rw [if_pos (by exact hc)]; rfl
           · rename_i h1
             refine ⟨j + 1, by omega, by omega, ⟨rfl, rfl, rfl, rfl, rfl, rfl, rfl, rfl, rfl, rfl, tI⟩, ?_⟩
             rw [hst]; unfold stepAL; rw [if_neg (by rw [show (m.version != s.version || !forM m p.section_ r) = false from h1]; decide), if_pos (by exact hc)]; rfl
           · rename_i h1
             refine ⟨j + 1, by omega, by omega, ⟨rfl, rfl, rfl, rfl, rfl, rfl, rfl, rfl, rfl, rfl, tI⟩, ?_⟩
             rw [hst]; unfold stepAL; rw [if_neg (by rw [show (m.version != s.version || !forM m p.section_ r) = false from h1]; decide), if_neg (by rw [show (!(lk al (m.note, m.kind)).isSome || cnt m ((lk al (m.note, m.kind)).getD noMark)) = false from hc]; decide)]; rfl
         · have hlk : lk [((1 : Int), (1 : Nat)), (2, 2), (3, 3), (4, 4)] m.layer = some 2 := by rw [hly]; rfl
           have hfo : forM m p.section_ r = (m.who.part == r.part && m.who.desk == r.desk) := by unfold forM; rw [hly]; rfl
           have v3 := mea3_spec m.who p.section_ r
           rw [← hfo] at v3
           clear hfo hmk
           repeat' (first | refine aoQ rfl rfl rfl (fun hg => by first | exact iX encMk l ((j : Nat) : Int) hm (hb := by omega) | exact std0 | exact PRun.buildAW tabOk rfl rfl nds | exact PRun.lookup (ek := ekP) (ev := evM) (zv := noMark) (key := (m.note, m.kind)) pairK (LOk.of (tabOk.get rfl)) (LOk.of (tabOk.get rfl)) rfl rfl (Rd.w rfl nd) (Or.inr ⟨_, rfl, rfl⟩) (Rd.w rfl nd) rfl | exact pcW (hcn) rfl rfl nd rfl nds | exact std1) (by exact rfl) ?_ | refine sqW ?_ | refine rgK (fun K' hK => ?_) | (refine aoN (hK _ _ ?_); clear hK K') | refine aoE (stW tabOk rfl rfl rfl tI rfl rfl tI rfl rfl rfl rfl rfl rfl rfl ?_) | refine aoE (alW tabOk rfl rfl rfl rfl rfl rfl ?_) | refine aoE (EStep.mapUpd (ek := ekP) (ev := evM) (key := (m.note, m.kind)) (v := m) pairK (LOk.of (tabOk.get rfl)) rfl rfl rfl (Rd.w rfl tI) rfl (Rd.w rfl tI) rfl (Rd.w rfl tI) ?_) | refine cdN rfl tI (fun hc => ?_) (fun hc => ?_) | refine blK ?_ | refine exW ?_ | refine skW ?_ | refine dK2 (by decide +kernel) (by kernel_rfl) (by decide +kernel) rfl (fun K' hK => ?_) | (refine aqN (hK _ ?_); clear hK K') | refine aqQ rfl rfl (fun hg => by first | exact PRun.lookupV (ek := ekI) (ev := layF) (zv := 0) hlk (keyLaw_int (LOk.of (tabOk.get rfl))) (LOk.of (tabOk.get rfl)) (LOk.of (tabOk.get rfl)) rfl rfl (Rd.w rfl nd) (Or.inl rfl) (Rd.w rfl nd) rfl | exact iX encP s.parts ((k : Nat) : Int) hP (hb := by omega) | exact std0 | exact pcW (v3) rfl rfl nd rfl nds) (by exact rfl) ?_)
           all_goals (first | (exfalso; omega) | skip)
           · refine ⟨j + 1, by omega, by omega, ⟨rfl, rfl, rfl, rfl, rfl, rfl, rfl, rfl, rfl, rfl, tI⟩, ?_⟩
             rw [hst]; unfold stepAL; rw [if_pos (by exact hc)]; rfl
           · rename_i h1
             refine ⟨j + 1, by omega, by omega, ⟨rfl, rfl, rfl, rfl, rfl, rfl, rfl, rfl, rfl, rfl, tI⟩, ?_⟩
             rw [hst]; unfold stepAL; rw [if_neg (by rw [show (m.version != s.version || !forM m p.section_ r) = false from h1]; decide), if_pos (by exact hc)]; rfl
           · rename_i h1
             refine ⟨j + 1, by omega, by omega, ⟨rfl, rfl, rfl, rfl, rfl, rfl, rfl, rfl, rfl, rfl, tI⟩, ?_⟩
             rw [hst]; unfold stepAL; rw [if_neg (by rw [show (m.version != s.version || !forM m p.section_ r) = false from h1]; decide), if_neg (by rw [show (!(lk al (m.note, m.kind)).isSome || cnt m ((lk al (m.note, m.kind)).getD noMark)) = false from hc]; decide)]; rfl
         · have hlk : lk [((1 : Int), (1 : Nat)), (2, 2), (3, 3), (4, 4)] m.layer = some 3 := by rw [hly]; rfl
           have hfo : forM m p.section_ r = (m.who.part == p.section_) := by unfold forM; rw [hly]; rfl
           have v3 := mea5_spec m.who p.section_ r
           rw [← hfo] at v3
           clear hfo hmk
           repeat' (first | refine aoQ rfl rfl rfl (fun hg => by first | exact iX encMk l ((j : Nat) : Int) hm (hb := by omega) | exact std0 | exact PRun.buildAW tabOk rfl rfl nds | exact PRun.lookup (ek := ekP) (ev := evM) (zv := noMark) (key := (m.note, m.kind)) pairK (LOk.of (tabOk.get rfl)) (LOk.of (tabOk.get rfl)) rfl rfl (Rd.w rfl nd) (Or.inr ⟨_, rfl, rfl⟩) (Rd.w rfl nd) rfl | exact pcW (hcn) rfl rfl nd rfl nds | exact std1) (by exact rfl) ?_ | refine sqW ?_ | refine rgK (fun K' hK => ?_) | (refine aoN (hK _ _ ?_); clear hK K') | refine aoE (stW tabOk rfl rfl rfl tI rfl rfl tI rfl rfl rfl rfl rfl rfl rfl ?_) | refine aoE (alW tabOk rfl rfl rfl rfl rfl rfl ?_) | refine aoE (EStep.mapUpd (ek := ekP) (ev := evM) (key := (m.note, m.kind)) (v := m) pairK (LOk.of (tabOk.get rfl)) rfl rfl rfl (Rd.w rfl tI) rfl (Rd.w rfl tI) rfl (Rd.w rfl tI) ?_) | refine cdN rfl tI (fun hc => ?_) (fun hc => ?_) | refine blK ?_ | refine exW ?_ | refine skW ?_ | refine dK2 (by decide +kernel) (by kernel_rfl) (by decide +kernel) rfl (fun K' hK => ?_) | (refine aqN (hK _ ?_); clear hK K') | refine aqQ rfl rfl (fun hg => by first | exact PRun.lookupV (ek := ekI) (ev := layF) (zv := 0) hlk (keyLaw_int (LOk.of (tabOk.get rfl))) (LOk.of (tabOk.get rfl)) (LOk.of (tabOk.get rfl)) rfl rfl (Rd.w rfl nd) (Or.inl rfl) (Rd.w rfl nd) rfl | exact iX encP s.parts ((k : Nat) : Int) hP (hb := by omega) | exact std0 | exact pcW (v3) rfl rfl nd rfl nds) (by exact rfl) ?_)
           all_goals (first | (exfalso; omega) | skip)
           · refine ⟨j + 1, by omega, by omega, ⟨rfl, rfl, rfl, rfl, rfl, rfl, rfl, rfl, rfl, rfl, tI⟩, ?_⟩
             rw [hst]; unfold stepAL; rw [if_pos (by exact hc)]; rfl
           · rename_i h1
             refine ⟨j + 1, by omega, by omega, ⟨rfl, rfl, rfl, rfl, rfl, rfl, rfl, rfl, rfl, rfl, tI⟩, ?_⟩
             rw [hst]; unfold stepAL; rw [if_neg (by rw [show (m.version != s.version || !forM m p.section_ r) = false from h1]; decide), if_pos (by exact hc)]; rfl
           · rename_i h1
             refine ⟨j + 1, by omega, by omega, ⟨rfl, rfl, rfl, rfl, rfl, rfl, rfl, rfl, rfl, rfl, tI⟩, ?_⟩
             rw [hst]; unfold stepAL; rw [if_neg (by rw [show (m.version != s.version || !forM m p.section_ r) = false from h1]; decide), if_neg (by rw [show (!(lk al (m.note, m.kind)).isSome || cnt m ((lk al (m.note, m.kind)).getD noMark)) = false from hc]; decide)]; rfl
         · have hlk : lk [((1 : Int), (1 : Nat)), (2, 2), (3, 3), (4, 4)] m.layer = some 4 := by rw [hly]; rfl
           have hfo : forM m p.section_ r = (true) := by unfold forM; rw [hly]; rfl
           have v3 := mea7_spec m.who p.section_ r
           rw [← hfo] at v3
           clear hfo hmk
           repeat' (first | refine aoQ rfl rfl rfl (fun hg => by first | exact iX encMk l ((j : Nat) : Int) hm (hb := by omega) | exact std0 | exact PRun.buildAW tabOk rfl rfl nds | exact PRun.lookup (ek := ekP) (ev := evM) (zv := noMark) (key := (m.note, m.kind)) pairK (LOk.of (tabOk.get rfl)) (LOk.of (tabOk.get rfl)) rfl rfl (Rd.w rfl nd) (Or.inr ⟨_, rfl, rfl⟩) (Rd.w rfl nd) rfl | exact pcW (hcn) rfl rfl nd rfl nds | exact std1) (by exact rfl) ?_ | refine sqW ?_ | refine rgK (fun K' hK => ?_) | (refine aoN (hK _ _ ?_); clear hK K') | refine aoE (stW tabOk rfl rfl rfl tI rfl rfl tI rfl rfl rfl rfl rfl rfl rfl ?_) | refine aoE (alW tabOk rfl rfl rfl rfl rfl rfl ?_) | refine aoE (EStep.mapUpd (ek := ekP) (ev := evM) (key := (m.note, m.kind)) (v := m) pairK (LOk.of (tabOk.get rfl)) rfl rfl rfl (Rd.w rfl tI) rfl (Rd.w rfl tI) rfl (Rd.w rfl tI) ?_) | refine cdN rfl tI (fun hc => ?_) (fun hc => ?_) | refine blK ?_ | refine exW ?_ | refine skW ?_ | refine dK2 (by decide +kernel) (by kernel_rfl) (by decide +kernel) rfl (fun K' hK => ?_) | (refine aqN (hK _ ?_); clear hK K') | refine aqQ rfl rfl (fun hg => by first | exact PRun.lookupV (ek := ekI) (ev := layF) (zv := 0) hlk (keyLaw_int (LOk.of (tabOk.get rfl))) (LOk.of (tabOk.get rfl)) (LOk.of (tabOk.get rfl)) rfl rfl (Rd.w rfl nd) (Or.inl rfl) (Rd.w rfl nd) rfl | exact iX encP s.parts ((k : Nat) : Int) hP (hb := by omega) | exact std0 | exact pcW (v3) rfl rfl nd rfl nds) (by exact rfl) ?_)
           all_goals (first | (exfalso; omega) | skip)
           · refine ⟨j + 1, by omega, by omega, ⟨rfl, rfl, rfl, rfl, rfl, rfl, rfl, rfl, rfl, rfl, tI⟩, ?_⟩
             rw [hst]; unfold stepAL; rw [if_pos (by exact hc)]; rfl
           · rename_i h1
             refine ⟨j + 1, by omega, by omega, ⟨rfl, rfl, rfl, rfl, rfl, rfl, rfl, rfl, rfl, rfl, tI⟩, ?_⟩
             rw [hst]; unfold stepAL; rw [if_neg (by rw [show (m.version != s.version || !forM m p.section_ r) = false from h1]; decide), if_pos (by exact hc)]; rfl
           · rename_i h1
             refine ⟨j + 1, by omega, by omega, ⟨rfl, rfl, rfl, rfl, rfl, rfl, rfl, rfl, rfl, rfl, tI⟩, ?_⟩
             rw [hst]; unfold stepAL; rw [if_neg (by rw [show (m.version != s.version || !forM m p.section_ r) = false from h1]; decide), if_neg (by rw [show (!(lk al (m.note, m.kind)).isSome || cnt m ((lk al (m.note, m.kind)).getD noMark)) = false from hc]; decide)]; rfl
       · obtain rfl : j = l.length := by omega
         rw [zAr]
         have hbest : ∀ n kd, lk (bestAL s.version p.section_ r l) (n, kd) = shownF s l p r n kd := fun n kd => lk_best _ _ _ _ _ _
         generalize bestAL s.version p.section_ r l = al at *
         generalize shownF s l p r = f at *
         repeat' (first | refine aoQ rfl rfl rfl (fun hg => by first | exact std0 | exact std1) (by exact rfl) ?_ | refine sqW ?_ | refine rgK (fun K' hK => ?_) | (refine aoN (hK _ _ ?_); clear hK K') | refine aoE (stW tabOk rfl rfl rfl tI rfl rfl tI rfl rfl rfl rfl rfl rfl rfl ?_) | refine aoE (alW tabOk rfl rfl rfl rfl rfl rfl ?_) | refine cdN rfl tI (fun hc => ?_) (fun hc => ?_) | refine blK ?_ | refine exW ?_ | refine skW ?_ | refine dK2 (by decide +kernel) (by kernel_rfl) (by decide +kernel) rfl (fun K' hK => ?_) | refine aqQ rfl rfl (fun hg => by exact std0) (by exact rfl) ?_)
         all_goals (first | (exfalso; omega) | skip)
         refine AWP.ownNil (d := 19) (sz := 10) rfl ?_
         skip
         refine lpD (ι := Nat) (fun j => [(11, .sl 12 (ns.map encN) .no), (12, .map 2), (19, .sl 10 ((shownL f (ns.take j)).map encMk) (.own 3)), (126, .sl 12 (ns.map encN) .no), (127, .int ns.length), (128, .int j)])
          (fun j => [.var (encS s), .var (encRd r), .map (Go.Ab.encM ekP evM al), .own 10 ((shownL f (ns.take j)).map encMk).length])
          (fun j => j ≤ ns.length) (fun j => ns.length - j) 4 (fun _ => rfl) 0 (nZl _) ⟨rfl, rfl, rfl, rfl, rfl, rfl, tI⟩ rfl (fun _ _ => rfl) (fun j _ => by simp only [zBu, zC8, zBm, zA0]; exact ⟨rfl, rfl, okObj_mapM _ _, rfl⟩) ?_
         intro j hj
         have hol := shownL_len f (ns.take j)
         rw [zAc] at hol
         by_cases hjl : j < ns.length
         · have hsn := shownL_snoc f hjl
           obtain ⟨n, hn1⟩ : ∃ n, ns.getD j default = n := ⟨_, rfl⟩
           rw [hn1] at hsn
           repeat' (first | refine aoQ rfl rfl rfl (fun hg => by first | exact iX encN ns ((j : Nat) : Int) hn1 (hb := by omega) | exact std0) (by exact rfl) ?_ | refine sqW ?_ | refine rgK (fun K' hK => ?_) | (refine aoN (hK _ _ ?_); clear hK K') | refine aoE (stW tabOk rfl rfl rfl tI rfl rfl tI rfl rfl rfl rfl rfl rfl rfl ?_) | refine aoE (alW tabOk rfl rfl rfl rfl rfl rfl ?_) | refine cdN rfl tI (fun hc => ?_) (fun hc => ?_) | refine blK ?_ | refine exW ?_ | refine skW ?_ | refine rtW ?_)
           all_goals (first | (exfalso; omega) | skip)
           generalize shownL f (ns.take j) = out at *
           refine lpD (ι := Nat) (fun kd => [(11, .sl 12 (ns.map encN) .no), (12, .map 2), (19, .sl 10 ((out ++ (kinds.take kd).filterMap (f n.id)).map encMk) (.own 3)), (21, .ptr 4 0), (22, .int ((kd : Int) + 1)), (126, .sl 12 (ns.map encN) .no), (127, .int ns.length), (128, .int j)])
            (fun kd => [.var (encS s), .var (encRd r), .map (Go.Ab.encM ekP evM al), .own 10 ((out ++ (kinds.take kd).filterMap (f n.id)).map encMk).length, .var (encN n)])
            (fun kd => kd ≤ 5) (fun kd => 5 - kd) 5 (fun _ => rfl) 0 (nZl _) ⟨rfl, rfl, (by show AV.sl 10 (List.map encMk out) (.own 3) = AV.sl 10 (List.map encMk (out ++ [])) (.own 3); rw [zBh]), rfl, rfl, rfl, rfl, rfl, tI⟩ (by show [_, _, _, AObj.own 10 (List.map encMk out).length, _] = [_, _, _, AObj.own 10 (List.map encMk (out ++ [])).length, _]; rw [zBh]; rfl) (fun _ _ => rfl) (fun kd _ => by simp only [zBu, zC8, zBm, zA0]; exact ⟨rfl, rfl, okObj_mapM _ _, rfl, rfl⟩) ?_
           intro kd hkd
           have hol2 : (out ++ (kinds.take kd).filterMap (f n.id)).length ≤ 5 * min j ns.length + 5 := by
            rw [lLa]
            have h9 := filterMap_len (f n.id) (kinds.take kd)
            rw [zAc] at h9
            have : kinds.length = 5 := rfl
            omega
           by_cases hk5 : kd < 5
           · have hka := kinds_at hk5 (f n.id)
             have hlk := hbest n.id ((kd : Int) + 1)
             obtain ⟨O, hO⟩ : ∃ O, out ++ (kinds.take kd).filterMap (f n.id) = O := ⟨_, rfl⟩
             have hO2 : out ++ (kinds.take (kd + 1)).filterMap (f n.id) = O ++ (match f n.id ((kd : Int) + 1) with | none => [] | some m => [m]) := by
              rw [hka, ← hO, zAt]; try rfl
             rw [hO] at hol2 ⊢
             cases hfm : f n.id ((kd : Int) + 1) with
             | none =>
               rw [hfm] at hlk hO2
               repeat' (first | refine aoQ rfl rfl rfl (fun hg => by first | exact std0 | exact PRun.buildAW tabOk rfl rfl nds | exact PRun.lookupV (ek := ekP) (ev := evM) (zv := noMark) (key := (n.id, (kd : Int) + 1)) hlk pairK (LOk.of (tabOk.get rfl)) (LOk.of (tabOk.get rfl)) rfl rfl (Rd.w rfl nd) (Or.inr ⟨_, rfl, rfl⟩) (Rd.w rfl nd) rfl) (by exact rfl) ?_ | refine sqW ?_ | refine rgK (fun K' hK => ?_) | (refine aoN (hK _ _ ?_); clear hK K') | refine aoE (stW tabOk rfl rfl rfl tI rfl rfl tI rfl rfl rfl rfl rfl rfl rfl ?_) | refine aoE (alW tabOk rfl rfl rfl rfl rfl rfl ?_) | refine cdN rfl tI (fun hc => ?_) (fun hc => ?_) | refine blK ?_ | refine exW ?_ | refine skW ?_)
               all_goals (first | (exfalso; omega) | (exfalso; simp at hc; done) | skip)
               refine ⟨kd + 1, by omega, by omega, ⟨rfl, rfl, ?_, rfl, ?_, rfl, rfl, rfl, tI⟩, ?_⟩
               · rw [hO2, zBh]; rfl
               · show AV.int _ = AV.int _; congr 1
               · rw [hO2, zBh]; rfl
             | some m =>
               rw [hfm] at hlk hO2
               repeat' (first | refine aoQ rfl rfl rfl (fun hg => by first | exact std0 | exact PRun.buildAW tabOk rfl rfl nds | exact pbS tabOk rfl rfl nds | exact PRun.lookupV (ek := ekP) (ev := evM) (zv := noMark) (key := (n.id, (kd : Int) + 1)) hlk pairK (LOk.of (tabOk.get rfl)) (LOk.of (tabOk.get rfl)) rfl rfl (Rd.w rfl nd) (Or.inr ⟨_, rfl, rfl⟩) (Rd.w rfl nd) rfl) (by exact rfl) ?_ | refine sqW ?_ | refine rgK (fun K' hK => ?_) | (refine aoN (hK _ _ ?_); clear hK K') | refine aoE (stW tabOk rfl rfl rfl tI rfl rfl tI rfl rfl rfl rfl rfl rfl rfl ?_) | refine aoE (alW tabOk rfl rfl rfl rfl rfl rfl ?_) | refine aoE (apO tabOk rfl rfl rfl (by decide) (Rd.w rfl tI) rfl (Rd.w rfl tI) (.sl rfl (by first | (intro x hx; rcases zAl.1 hx with rfl; rfl) | exact one_encMk [m])) (LOk.of (tabOk.get rfl)) (LOk.of (tabOk.get rfl)) rfl rfl (by simp only [lLm, lLa, zA5, zAb, zAc, zAx]; omega) (by simp only [lLm, lLa, zA5, zAb, zAc, zAx]; omega) ?_) | refine cdN rfl tI (fun hc => ?_) (fun hc => ?_) | refine blK ?_ | refine exW ?_ | refine skW ?_)
               all_goals (first | (exfalso; omega) | (exfalso; simp at hc; done) | skip)
               refine ⟨kd + 1, by omega, by omega, ⟨rfl, rfl, ?_, rfl, ?_, rfl, rfl, rfl, tI⟩, ?_⟩
               · rw [hO2, zAe]; rfl
               · show AV.int _ = AV.int _; congr 1
               · rw [hO2, zAe]; rfl
           · obtain rfl : kd = 5 := by omega
             repeat' (first | refine aoQ rfl rfl rfl (fun hg => by exact std0) (by exact rfl) ?_ | refine sqW ?_ | refine rgK (fun K' hK => ?_) | (refine aoN (hK _ _ ?_); clear hK K') | refine cdN rfl tI (fun hc => ?_) (fun hc => ?_) | refine blK ?_ | refine exW ?_ | refine skW ?_)
             all_goals (first | (exfalso; omega) | skip)
             refine ⟨j + 1, by omega, by omega, ⟨rfl, rfl, ?_, rfl, rfl, rfl, tI⟩, ?_⟩
             · rw [hsn]; rfl
             · rw [hsn]; rfl
         · obtain rfl : j = ns.length := by omega
           repeat' (first | refine aoQ rfl rfl rfl (fun hg => by first | exact std0 | exact std1) (by exact rfl) ?_ | refine sqW ?_ | refine rgK (fun K' hK => ?_) | (refine aoN (hK _ _ ?_); clear hK K') | refine aoE (stW tabOk rfl rfl rfl tI rfl rfl tI rfl rfl rfl rfl rfl rfl rfl ?_) | refine aoE (alW tabOk rfl rfl rfl rfl rfl rfl ?_) | refine cdN rfl tI (fun hc => ?_) (fun hc => ?_) | refine blK ?_ | refine exW ?_ | refine skW ?_ | refine rtW ?_)
           all_goals (first | (exfalso; omega) | skip)
           refine ⟨.inr rfl, Ent.of ?_⟩
           rw [zAr]; rfl
   · have es : shownR s l r = ([], 22) := by unfold shownR; rw [if_pos hgood, if_neg hf]
     rw [es]
     rw [partR_no g1 g3 hf] at hp
     refine PCall.body Tryz.func22 rfl rfl Tryz.ntmps22 rfl rfl ?_
     repeat' (first | refine aoQ rfl rfl rfl (fun hg => by first | exact std0 | exact pcW (hv) rfl rfl nd rfl nds | exact pcW (hm) rfl rfl nd rfl nds | exact pcW (hr) rfl rfl nd rfl nds | exact pcW (hp) rfl rfl nd rfl nds) (by exact rfl) ?_ | refine sqW ?_ | refine rgK (fun K' hK => ?_) | (refine aoN (hK _ _ ?_); clear hK K') | refine aoE (bxW rfl rfl rfl rfl rfl tI rfl rfl ?_) | refine cdN rfl tI (fun hc => ?_) (fun hc => ?_) | refine skW ?_ | refine rtW ?_)
     · exfalso; simp at hc
     refine dK2 (by decide +kernel) (by kernel_rfl) (by decide +kernel) rfl (fun K' hK => ?_)
     repeat' (first | refine aoQ rfl rfl rfl (fun hg => by exact std0) (by exact rfl) ?_ | refine sqW ?_ | refine rgK (fun K' hK => ?_) | (refine aoN (hK _ _ ?_); clear hK K') | refine cdN rfl tI (fun hc => ?_) (fun hc => ?_) | refine skW ?_ | refine rtW ?_ | (refine aqN (hK _ ?_); clear hK K') | refine aqQ rfl rfl (fun hg => by first | exact std0 | exact (Bool.noConfusion (show false = true from hg) : PRun _ _ _ _ (.b false)) | fail) (by exact rfl) ?_)
     · exact ⟨.inr rfl, Ent.tup2 Ent.nil (Ent.rfl' _)⟩
     all_goals (exfalso; simp at hc)
 · have es : shownR s l r = ([], 1) := by unfold shownR; rw [if_neg hgood]
   rw [es]
   have hbad : ((!scoreOk s || !marksOk l) || !isRdr r) = true := by
    revert hgood; cases scoreOk s <;> cases marksOk l <;> cases isRdr r <;> simp
   refine PCall.body Tryz.func22 rfl rfl Tryz.ntmps22 rfl rfl ?_
   repeat' (first | refine aoQ rfl rfl rfl (fun hg => by first | exact std0 | exact pcW (hv) rfl rfl nd rfl nds | exact pcW (hm) rfl rfl nd rfl nds | exact pcW (hr) rfl rfl nd rfl nds) (by exact rfl) ?_ | refine sqW ?_ | refine rgK (fun K' hK => ?_) | (refine aoN (hK _ _ ?_); clear hK K') | refine aoE (bxW rfl rfl rfl rfl rfl tI rfl rfl ?_) | refine cdN rfl tI (fun hc => ?_) (fun hc => ?_) | refine skW ?_ | refine rtW ?_)
   · exact ⟨.inr rfl, Ent.tup2 Ent.nil (Ent.rfl' _)⟩
   all_goals (exfalso; first | (rw [hbad] at hc; cases hc) | (rename_i h9; rw [hbad] at h9; cases h9))
end Go.Proofs.YtficfljjnbnhbaaGreatDoor.Mk
