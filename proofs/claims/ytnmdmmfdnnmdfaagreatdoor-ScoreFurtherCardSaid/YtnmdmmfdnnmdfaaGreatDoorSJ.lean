/- Contracts by content: the reference's With; the head of the laws. No statement is proved here. -/
import Derived.Test.YtnmdmmfdnnmdfaaGreatDoorSI
import Derived.Test.YtnmdmmfdnnmdfaaGreatDoorFX
import Derived.Test.YtnmdmmfdnnmdfaaGreatDoorFW
set_option linter.unusedVariables false
set_option linter.unusedSimpArgs false
namespace Go.Proofs.YtnmdmmfdnnmdfaaGreatDoor
open Go.Ab
attribute [local irreducible] AWP AOps EStep AQ PStep PRun PCall TCall VCall

theorem stepsR {bars : List Bar} {l : List Note} (h : notesOk bars l = true) : (sortR bars l).1 = putsL (idxAL bars) l := by
  unfold sortR; rw [if_pos h]; exact sortN_puts (notesOk_in h) (notesOk_nodup h)
def lawN (a b c d e : Int) : Note := ⟨a, b, 5, 0, 0, ⟨c, 1⟩, ⟨1, 1⟩, ⟨d, 0, e⟩⟩
theorem at_spec (a b : Int) : PCall Tryz.prog 61 [.int a, .int b] (.agg (encPi ⟨a, 0, b⟩)) := by
  refine PCall.bodyS tabOk Tryz.func61 rfl rfl Tryz.ntmps61 rfl ?_
  repeat' (first | refine AOps.q rfl rfl rfl (fun hg => by first | exact std0 | exact PRun.buildW tabOk rfl rfl nds | exact std1) (by exact rfl) ?_ | refine AWP.seq ?_ | refine AWP.regionK (fun K' hK => ?_) | (refine AOps.nil (hK _ _ ?_); clear hK K') | refine AOps.e (EStep.boxW rfl rfl rfl rfl rfl True.intro rfl rfl ?_) | refine AOps.e (EStep.storeW tabOk rfl rfl rfl True.intro rfl rfl True.intro rfl rfl rfl rfl rfl rfl rfl ?_) | refine AOps.e (EStep.allocW tabOk rfl rfl rfl rfl rfl rfl ?_) | (refine AWP.condW rfl True.intro (fun hc => ?_) (fun hc => ?_) <;> (first | (simp only [decide_eq_true_eq] at hc) | (simp only [decide_eq_false_iff_not, Int.not_lt, Int.not_le] at hc) | skip)) | refine AWP.block ?_ | refine AWP.exit ?_ | refine AWP.skip ?_ | refine AWP.ret ?_ | refine AWP.drawK2 (by decide +kernel) (by kernel_rfl) (by decide +kernel) rfl (fun K' hK => ?_) | refine AWP.drawL2 (by kernel_rfl) (by decide +kernel) rfl (fun K' hK => ?_) | (refine AQ.nil (hK _ ?_); clear hK K') | refine AQ.nil ?_ | refine AQ.q rfl rfl (fun hg => by first | exact std0 | exact PRun.buildW tabOk rfl rfl nds | exact std1) (by exact rfl) ?_)
  exact ⟨.inr rfl, _, rfl, Ent.of rfl⟩
theorem note_spec (a b c d e : Int) : PCall Tryz.prog 26 [.int a, .int b, .int c, .int d, .int e] (.agg (encN (lawN a b c d e))) := by
  refine PCall.bodyS tabOk Tryz.func26 rfl rfl Tryz.ntmps26 rfl ?_
  repeat' (first | refine AOps.q rfl rfl rfl (fun hg => by first | exact std0 | exact PRun.buildW tabOk rfl rfl nds | exact PRun.callW (at_spec d e) rfl rfl nd rfl nds | exact std1) (by exact rfl) ?_ | refine AWP.seq ?_ | refine AWP.regionK (fun K' hK => ?_) | (refine AOps.nil (hK _ _ ?_); clear hK K') | refine AOps.e (EStep.boxW rfl rfl rfl rfl rfl True.intro rfl rfl ?_) | refine AOps.e (EStep.storeW tabOk rfl rfl rfl True.intro rfl rfl True.intro rfl rfl rfl rfl rfl rfl rfl ?_) | refine AOps.e (EStep.allocW tabOk rfl rfl rfl rfl rfl rfl ?_) | (refine AWP.condW rfl True.intro (fun hc => ?_) (fun hc => ?_) <;> (first | (simp only [decide_eq_true_eq] at hc) | (simp only [decide_eq_false_iff_not, Int.not_lt, Int.not_le] at hc) | skip)) | refine AWP.block ?_ | refine AWP.exit ?_ | refine AWP.skip ?_ | refine AWP.ret ?_ | refine AWP.drawK2 (by decide +kernel) (by kernel_rfl) (by decide +kernel) rfl (fun K' hK => ?_) | refine AWP.drawL2 (by kernel_rfl) (by decide +kernel) rfl (fun K' hK => ?_) | (refine AQ.nil (hK _ ?_); clear hK K') | refine AQ.nil ?_ | refine AQ.q rfl rfl (fun hg => by first | exact std0 | exact PRun.buildW tabOk rfl rfl nds | exact PRun.callW (at_spec d e) rfl rfl nd rfl nds | exact std1) (by exact rfl) ?_)
  exact ⟨.inr rfl, _, rfl, Ent.of rfl⟩
def exS : Score := ⟨1, [⟨5, ⟨4, 1⟩, 0⟩], [⟨1, 0, 0, 0, 1, ⟨0, 0⟩, ⟨0, 0, 3⟩, ⟨0, 0, 6⟩⟩, ⟨2, 0, 1, -1, 1, ⟨0, 0⟩, ⟨0, 0, 2⟩, ⟨0, 0, 5⟩⟩], [lawN 8 1 0 0 4, lawN 7 1 1 2 4]⟩
set_option maxHeartbeats 4000000 in
theorem example_spec : PCall Tryz.prog 25 [] (.agg (encS exS)) := by
  refine PCall.bodyS tabOk Tryz.func25 rfl rfl Tryz.ntmps25 rfl ?_
  repeat' (first | refine AOps.q rfl rfl rfl (fun hg => by first | exact std0 | exact PRun.callW (at_spec _ _) rfl rfl nd rfl nds | exact PRun.callW (note_spec _ _ _ _ _) rfl rfl nd rfl nds | exact PRun.buildW tabOk rfl rfl nds | exact PRun.buildSlW tabOk rfl rfl nds | exact std1) (by exact rfl) ?_ | refine AWP.seq ?_ | refine AWP.regionK (fun K' hK => ?_) | (refine AOps.nil (hK _ _ ?_); clear hK K') | refine AOps.e (EStep.boxW rfl rfl rfl rfl rfl True.intro rfl rfl ?_) | refine AOps.e (EStep.storeW tabOk rfl rfl rfl True.intro rfl rfl True.intro rfl rfl rfl rfl rfl rfl rfl ?_) | refine AOps.e (EStep.allocW tabOk rfl rfl rfl rfl rfl rfl ?_) | (refine AWP.condW rfl True.intro (fun hc => ?_) (fun hc => ?_) <;> (first | (simp only [decide_eq_true_eq] at hc) | (simp only [decide_eq_false_iff_not, Int.not_lt, Int.not_le] at hc) | skip)) | refine AWP.block ?_ | refine AWP.exit ?_ | refine AWP.skip ?_ | refine AWP.ret ?_ | refine AWP.drawK2 (by decide +kernel) (by kernel_rfl) (by decide +kernel) rfl (fun K' hK => ?_) | refine AWP.drawL2 (by kernel_rfl) (by decide +kernel) rfl (fun K' hK => ?_) | (refine AQ.nil (hK _ ?_); clear hK K') | refine AQ.nil ?_ | refine AQ.q rfl rfl (fun hg => by first | exact std0 | exact PRun.callW (at_spec _ _) rfl rfl nd rfl nds | exact PRun.callW (note_spec _ _ _ _ _) rfl rfl nd rfl nds | exact PRun.buildW tabOk rfl rfl nds | exact PRun.buildSlW tabOk rfl rfl nds | exact std1) (by exact rfl) ?_)
  exact ⟨.inr rfl, _, rfl, Ent.of rfl⟩
def exS2 : Score := ⟨2, exS.bars, exS.parts, exS.notes⟩
/-- With, by the insertion. -/
def withX (s : Score) (v : Int) (l : List Note) : Score × Int :=
  if (!scoreX s || !inB v 1 1000000) || !notesOk s.bars l then (noScore, 1) else if wrongR s.parts l != 0 then (noScore, wrongR s.parts l) else (⟨v, s.bars, s.parts, putsL (idxAL s.bars) l⟩, 0)
theorem withX_eq (s : Score) (v : Int) (l : List Note) : withR s v l = withX s v l := by
  unfold withR withX
  rw [scoreOk_eq]
  split
  · rfl
  · rename_i h
    simp only [Bool.or_eq_true, not_or, Bool.not_eq_true, Bool.not_eq_false'] at h
    rw [stepsR h.2]
theorem ex_ok : scoreOk exS = true := by rw [scoreOk_eq]; decide +kernel
theorem ex_plays : playsR exS 2 = ([lawN 8 2 0 0 3, lawN 7 2 1 2 3], 0) := by unfold playsR; rw [ex_ok]; decide +kernel
theorem ex_plays3 : playsR exS 3 = ([], 22) := by unfold playsR; rw [ex_ok]; decide +kernel
theorem ex_with1 : withR exS 2 (exS.notes ++ [lawN 9 2 2 6 2]) = (noScore, 22) := by rw [withX_eq]; decide +kernel
theorem ex_with2 : withR exS 2 (exS.notes ++ [lawN 9 1 2 6 2]) = (noScore, 20) := by rw [withX_eq]; decide +kernel
theorem ex_with3 : withR exS 2 [lawN 7 1 1 2 4, lawN 8 1 0 0 4] = (exS2, 0) := by rw [withX_eq]; decide +kernel
theorem ex_note : noteR exS 7 = (1, true, 0) := by unfold noteR askedB; rw [ex_ok]; decide +kernel
theorem ex_part : partR exS 3 = (0, false, 0) := by unfold partR askedB; rw [ex_ok]; decide +kernel
theorem no_plays : playsR noScore 1 = ([], 1) := by unfold playsR; rw [scoreOk_eq]; decide +kernel
theorem ex_ok2 : scoreOk exS2 = true := by rw [scoreOk_eq]; decide +kernel
abbrev zS : List AV := [.int 0, .nils, .nils, .nils]
abbrev copyS (s : Store) (r : List AV) (a b : Nat) : Nat → Nat → Store := fun j1 j2 => s ++ [.own 12 (match j1 with | 0 => 0 | 1 => a | _ => b)] ++ (match j2 with | 0 => [] | 1 => [.var zS] | _ => [.var r])
set_option maxHeartbeats 8000000 in
set_option maxRecDepth 20000 in
theorem head_spec : PCall Tryz.prog 5 [] (.b true) := by
  have sm : exS.Small := ⟨by decide, by decide, by decide⟩
  have sm2 : exS2.Small := ⟨by decide, by decide, by decide⟩
  have p2 := plays_spec exS sm 2
  have p3 := plays_spec exS sm 3
  have p1 := plays_spec noScore ⟨by decide, by decide, by decide⟩ 1
  have w1 := with_spec exS sm 2 (exS.notes ++ [lawN 9 2 2 6 2]) (by decide)
  have w2 := with_spec exS sm 2 (exS.notes ++ [lawN 9 1 2 6 2]) (by decide)
  have w3 := with_spec exS sm 2 [lawN 7 1 1 2 4, lawN 8 1 0 0 4] (by decide)
  have n7 := sNote_spec exS sm 7
  have q3 := sPart_spec exS sm 3
  have v2 := svalid_spec exS2 sm2
  have e1 := sameN_spec [lawN 8 2 0 0 3, lawN 7 2 1 2 3] [lawN 8 2 0 0 3, lawN 7 2 1 2 3] (by decide) (by decide)
  have e2 := same8_spec exS2 exS2 sm2 sm2
  rw [ex_plays] at p2
  rw [ex_plays3] at p3
  rw [no_plays] at p1
  rw [ex_with1] at w1
  rw [ex_with2] at w2
  rw [ex_with3] at w3
  rw [ex_note] at n7
  rw [ex_part] at q3
  rw [ex_ok2] at v2
  rw [beq_self_eq_true] at e1 e2
  have no1 : PCall Tryz.prog 9 [.agg [.int 0, .nils, .nils, .nils], .int 1] (.tup [.sl 12 [] .no, .int 1]) := PCall.argE entNo p1
  refine PCall.body Tryz.func5 rfl rfl Tryz.ntmps5 rfl rfl ?_
  repeat' (first | refine AOps.q rfl rfl rfl (fun hg => by first | exact std0 | exact PRun.callW (example_spec) rfl rfl nd rfl nds | exact PRun.callW (p2) rfl rfl nd rfl nds | exact std1) (by exact rfl) ?_ | refine AWP.seq ?_ | refine AWP.regionK (fun K' hK => ?_) | (refine AOps.nil (hK _ _ ?_); clear hK K') | refine AOps.e (EStep.boxW rfl rfl rfl rfl rfl True.intro rfl rfl ?_) | refine AOps.e (EStep.storeW tabOk rfl rfl rfl True.intro rfl rfl True.intro rfl rfl rfl rfl rfl rfl rfl ?_) | refine AOps.e (EStep.allocW tabOk rfl rfl rfl rfl rfl rfl ?_) | (refine AWP.condW rfl True.intro (fun hc => ?_) (fun hc => ?_) <;> (first | (simp only [decide_eq_true_eq] at hc) | (simp only [decide_eq_false_iff_not, Int.not_lt, Int.not_le] at hc) | skip)) | refine AWP.block ?_ | refine AWP.exit ?_ | refine AWP.skip ?_ | refine AWP.ret ?_ | refine AWP.drawK2 (by decide +kernel) (by kernel_rfl) (by decide +kernel) rfl (fun K' hK => ?_) | refine AWP.drawL2 (by kernel_rfl) (by decide +kernel) rfl (fun K' hK => ?_) | (refine AQ.nil (hK _ ?_); clear hK K') | refine AQ.nil ?_ | refine AQ.q rfl rfl (fun hg => by first | exact std0 | exact PRun.callW (example_spec) rfl rfl nd rfl nds | exact PRun.callW (p2) rfl rfl nd rfl nds | exact std1) (by exact rfl) ?_)
  refine AWP.newOwn 12 ?_
  refine AWP.drawW clsA (copyS [.var (encS exS)] (encS noScore) 2 3) rfl (by kernel_rfl) (by decide +kernel) rfl (by decide +kernel) (fun K' hK => ?_)
  repeat' (first
    | refine WQ.q rfl (by decide +kernel) rfl rfl (fun k1 k2 h1 h2 hg => by (have a1 : k1 = 0 ∨ k1 = 1 ∨ k1 = 2 := (by omega)); (have a2 : k2 = 0 ∨ k2 = 1 ∨ k2 = 2 := (by omega)); (rcases a1 with rfl | rfl | rfl) <;> (rcases a2 with rfl | rfl | rfl) <;> (first | exact std0 | exact PRun.buildSl0 tabOk rfl rfl | exact std1)) (by exact rfl) ?_)
  refine WQ.e1 1 (v := .sl 12 (exS.notes.map encN) (.own 1)) (d := some 32) rfl (by decide +kernel) rfl ?_ ?_
  · intro env' he k2 hk2
    have hk3 : k2 = 0 ∨ k2 = 1 := by omega
    rcases hk3 with rfl | rfl <;> exact EStep.appendAt (l := 1) tabOk rfl rfl rfl (by decide) (Rd.w ((rdv_congr (he 29 (by decide +kernel))).trans rfl) (by rw [rdn_congr (he 29 (by decide +kernel))]; first | exact True.intro | exact rfl)) rfl (Rd.w ((rdv_congr (he 31 (by decide +kernel))).trans rfl) (by rw [rdn_congr (he 31 (by decide +kernel))]; first | exact True.intro | exact rfl)) (.sl rfl (one_encN _)) (by decide) (LOk.of (tabOk.get rfl)) (LOk.of (tabOk.get rfl)) rfl rfl (by decide) (by decide) ⟨rfl, rfl⟩
  repeat' (first
    | refine WQ.q rfl (by decide +kernel) rfl rfl (fun k1 k2 h1 h2 hg => by (have a1 : k1 = 0 ∨ k1 = 1 ∨ k1 = 2 := (by omega)); (have a2 : k2 = 0 ∨ k2 = 1 ∨ k2 = 2 := (by omega)); (rcases a1 with rfl | rfl | rfl) <;> (rcases a2 with rfl | rfl | rfl) <;> (first | exact std0 | exact PRun.callW (note_spec 9 2 2 6 2) rfl rfl nd rfl nds | exact PRun.buildSlW tabOk rfl rfl nds | exact std1)) (by exact rfl) ?_)
  refine WQ.e1 1 (v := .sl 12 ((exS.notes ++ [lawN 9 2 2 6 2]).map encN) (.own 1)) (d := some 35) rfl (by decide +kernel) rfl ?_ ?_
  · intro env' he k2 hk2
    have hk3 : k2 = 0 ∨ k2 = 1 := by omega
    rcases hk3 with rfl | rfl <;> exact EStep.appendOwn' (l := 1) tabOk rfl rfl rfl (by decide) (Rd.w ((rdv_congr (he 32 (by decide +kernel))).trans rfl) (by rw [rdn_congr (he 32 (by decide +kernel))]; first | exact True.intro | exact rfl)) rfl (Rd.w ((rdv_congr (he 34 (by decide +kernel))).trans rfl) (by rw [rdn_congr (he 34 (by decide +kernel))]; first | exact True.intro | exact rfl)) (.sl rfl (by intro x hx; rcases List.mem_singleton.1 hx with rfl; rfl)) (LOk.of (tabOk.get rfl)) (LOk.of (tabOk.get rfl)) rfl rfl (by decide) (by decide) ⟨rfl, rfl⟩
  repeat' (first
    | refine WQ.q rfl (by decide +kernel) rfl rfl (fun k1 k2 h1 h2 hg => by (have a1 : k1 = 0 ∨ k1 = 1 ∨ k1 = 2 := (by omega)); (have a2 : k2 = 0 ∨ k2 = 1 ∨ k2 = 2 := (by omega)); (rcases a1 with rfl | rfl | rfl) <;> (rcases a2 with rfl | rfl | rfl) <;> (first | exact std0 | exact PRun.callW (w1) rfl rfl nd rfl nds | exact std1)) (by exact rfl) ?_)
  refine WQ.e2 0 2 (v := .ptr 2 0) (d := some 4) rfl (by decide +kernel) rfl ?_ ?_
  · intro env' he k1 _ hk1
    have hk3 : k1 = 0 ∨ k1 = 1 ∨ k1 = 2 := by omega
    rcases hk3 with rfl | rfl | rfl <;> exact EStep.allocW tabOk rfl rfl rfl rfl rfl rfl ⟨rfl, rfl⟩
  repeat' (first
    | refine WQ.q rfl (by decide +kernel) rfl rfl (fun k1 k2 h1 h2 hg => by (have a1 : k1 = 0 ∨ k1 = 1 ∨ k1 = 2 := (by omega)); (have a2 : k2 = 0 ∨ k2 = 1 ∨ k2 = 2 := (by omega)); (rcases a1 with rfl | rfl | rfl) <;> (rcases a2 with rfl | rfl | rfl) <;> (first | exact std0 | exact std1)) (by exact rfl) ?_)
  refine WQ.e2 0 2 (v := .any) (d := none) rfl (by decide +kernel) rfl ?_ ?_
  · intro env' he k1 _ hk1
    have hk3 : k1 = 0 ∨ k1 = 1 ∨ k1 = 2 := by omega
    rcases hk3 with rfl | rfl | rfl <;> exact EStep.storeW tabOk rfl rfl ((rdv_congr (he 4 (by decide +kernel))).trans rfl) (by rw [rdn_congr (he 4 (by decide +kernel))]; first | exact True.intro | exact rfl) rfl ((rdv_congr (he 37 (by decide +kernel))).trans rfl) (by rw [rdn_congr (he 37 (by decide +kernel))]; first | exact True.intro | exact rfl) rfl rfl rfl rfl rfl rfl rfl ⟨rfl, rfl⟩
  repeat' (first
    | refine WQ.q rfl (by decide +kernel) rfl rfl (fun k1 k2 h1 h2 hg => by (have a1 : k1 = 0 ∨ k1 = 1 ∨ k1 = 2 := (by omega)); (have a2 : k2 = 0 ∨ k2 = 1 ∨ k2 = 2 := (by omega)); (rcases a1 with rfl | rfl | rfl) <;> (rcases a2 with rfl | rfl | rfl) <;> (first | exact std0 | exact std1)) (by exact rfl) ?_)
  refine WQ.nil (hK _ _ _ ?_)
  clear hK K'
  show AWP _ _ _ _ _ _
  refine AWP.keep [(1, .ptr 0 0), (2, .sl 12 ([lawN 8 2 0 0 3, lawN 7 2 1 2 3].map encN) .no), (3, .int 0), (5, .int 22)] ⟨rfl, rfl, rfl, rfl, True.intro⟩ ?_
  refine AWP.seq ?_
  refine AWP.newOwn 12 ?_
  refine AWP.drawW clsA (copyS [.var (encS exS), .own 12 3, .var (encS noScore)] (encS noScore) 2 3) rfl (by kernel_rfl) (by decide +kernel) rfl (by decide +kernel) (fun K' hK => ?_)
  repeat' (first
    | refine WQ.q rfl (by decide +kernel) rfl rfl (fun k1 k2 h1 h2 hg => by (have a1 : k1 = 0 ∨ k1 = 1 ∨ k1 = 2 := (by omega)); (have a2 : k2 = 0 ∨ k2 = 1 ∨ k2 = 2 := (by omega)); (rcases a1 with rfl | rfl | rfl) <;> (rcases a2 with rfl | rfl | rfl) <;> (first | exact std0 | exact PRun.buildSl0 tabOk rfl rfl | exact std1)) (by exact rfl) ?_)
  refine WQ.e1 1 (v := .sl 12 (exS.notes.map encN) (.own 3)) (d := some 44) rfl (by decide +kernel) rfl ?_ ?_
  · intro env' he k2 hk2
    have hk3 : k2 = 0 ∨ k2 = 1 := by omega
    rcases hk3 with rfl | rfl <;> exact EStep.appendAt (l := 3) tabOk rfl rfl rfl (by decide) (Rd.w ((rdv_congr (he 41 (by decide +kernel))).trans rfl) (by rw [rdn_congr (he 41 (by decide +kernel))]; first | exact True.intro | exact rfl)) rfl (Rd.w ((rdv_congr (he 43 (by decide +kernel))).trans rfl) (by rw [rdn_congr (he 43 (by decide +kernel))]; first | exact True.intro | exact rfl)) (.sl rfl (one_encN _)) (by decide) (LOk.of (tabOk.get rfl)) (LOk.of (tabOk.get rfl)) rfl rfl (by decide) (by decide) ⟨rfl, rfl⟩
  repeat' (first
    | refine WQ.q rfl (by decide +kernel) rfl rfl (fun k1 k2 h1 h2 hg => by (have a1 : k1 = 0 ∨ k1 = 1 ∨ k1 = 2 := (by omega)); (have a2 : k2 = 0 ∨ k2 = 1 ∨ k2 = 2 := (by omega)); (rcases a1 with rfl | rfl | rfl) <;> (rcases a2 with rfl | rfl | rfl) <;> (first | exact std0 | exact PRun.callW (note_spec 9 1 2 6 2) rfl rfl nd rfl nds | exact PRun.buildSlW tabOk rfl rfl nds | exact std1)) (by exact rfl) ?_)
  refine WQ.e1 1 (v := .sl 12 ((exS.notes ++ [lawN 9 1 2 6 2]).map encN) (.own 3)) (d := some 47) rfl (by decide +kernel) rfl ?_ ?_
  · intro env' he k2 hk2
    have hk3 : k2 = 0 ∨ k2 = 1 := by omega
    rcases hk3 with rfl | rfl <;> exact EStep.appendOwn' (l := 3) tabOk rfl rfl rfl (by decide) (Rd.w ((rdv_congr (he 44 (by decide +kernel))).trans rfl) (by rw [rdn_congr (he 44 (by decide +kernel))]; first | exact True.intro | exact rfl)) rfl (Rd.w ((rdv_congr (he 46 (by decide +kernel))).trans rfl) (by rw [rdn_congr (he 46 (by decide +kernel))]; first | exact True.intro | exact rfl)) (.sl rfl (by intro x hx; rcases List.mem_singleton.1 hx with rfl; rfl)) (LOk.of (tabOk.get rfl)) (LOk.of (tabOk.get rfl)) rfl rfl (by decide) (by decide) ⟨rfl, rfl⟩
  repeat' (first
    | refine WQ.q rfl (by decide +kernel) rfl rfl (fun k1 k2 h1 h2 hg => by (have a1 : k1 = 0 ∨ k1 = 1 ∨ k1 = 2 := (by omega)); (have a2 : k2 = 0 ∨ k2 = 1 ∨ k2 = 2 := (by omega)); (rcases a1 with rfl | rfl | rfl) <;> (rcases a2 with rfl | rfl | rfl) <;> (first | exact std0 | exact PRun.callW (w2) rfl rfl nd rfl nds | exact std1)) (by exact rfl) ?_)
  refine WQ.e2 0 2 (v := .ptr 4 0) (d := some 6) rfl (by decide +kernel) rfl ?_ ?_
  · intro env' he k1 _ hk1
    have hk3 : k1 = 0 ∨ k1 = 1 ∨ k1 = 2 := by omega
    rcases hk3 with rfl | rfl | rfl <;> exact EStep.allocW tabOk rfl rfl rfl rfl rfl rfl ⟨rfl, rfl⟩
  repeat' (first
    | refine WQ.q rfl (by decide +kernel) rfl rfl (fun k1 k2 h1 h2 hg => by (have a1 : k1 = 0 ∨ k1 = 1 ∨ k1 = 2 := (by omega)); (have a2 : k2 = 0 ∨ k2 = 1 ∨ k2 = 2 := (by omega)); (rcases a1 with rfl | rfl | rfl) <;> (rcases a2 with rfl | rfl | rfl) <;> (first | exact std0 | exact std1)) (by exact rfl) ?_)
  refine WQ.e2 0 2 (v := .any) (d := none) rfl (by decide +kernel) rfl ?_ ?_
  · intro env' he k1 _ hk1
    have hk3 : k1 = 0 ∨ k1 = 1 ∨ k1 = 2 := by omega
    rcases hk3 with rfl | rfl | rfl <;> exact EStep.storeW tabOk rfl rfl ((rdv_congr (he 6 (by decide +kernel))).trans rfl) (by rw [rdn_congr (he 6 (by decide +kernel))]; first | exact True.intro | exact rfl) rfl ((rdv_congr (he 49 (by decide +kernel))).trans rfl) (by rw [rdn_congr (he 49 (by decide +kernel))]; first | exact True.intro | exact rfl) rfl rfl rfl rfl rfl rfl rfl ⟨rfl, rfl⟩
  repeat' (first
    | refine WQ.q rfl (by decide +kernel) rfl rfl (fun k1 k2 h1 h2 hg => by (have a1 : k1 = 0 ∨ k1 = 1 ∨ k1 = 2 := (by omega)); (have a2 : k2 = 0 ∨ k2 = 1 ∨ k2 = 2 := (by omega)); (rcases a1 with rfl | rfl | rfl) <;> (rcases a2 with rfl | rfl | rfl) <;> (first | exact std0 | exact std1)) (by exact rfl) ?_)
  refine WQ.nil (hK _ _ _ ?_)
  clear hK K'
  show AWP _ _ _ _ _ _
  refine AWP.keep [(1, .ptr 0 0), (2, .sl 12 ([lawN 8 2 0 0 3, lawN 7 2 1 2 3].map encN) .no), (3, .int 0), (5, .int 22), (7, .int 20)] ⟨rfl, rfl, rfl, rfl, rfl, True.intro⟩ ?_
  repeat' (first | refine AOps.q rfl rfl rfl (fun hg => by first | exact std0 | exact PRun.callW (n7) rfl rfl nd rfl nds | exact PRun.callW (q3) rfl rfl nd rfl nds | exact PRun.callW (p3) rfl rfl nd rfl nds | exact PRun.buildW tabOk rfl rfl nds | exact PRun.callW (no1) rfl rfl nd rfl nds | exact PRun.buildSlW tabOk rfl rfl nds | exact PRun.callW (w3) rfl rfl nd rfl nds | exact PRun.callW (note_spec 8 2 0 0 3) rfl rfl nd rfl nds | exact PRun.callW (note_spec 7 2 1 2 3) rfl rfl nd rfl nds | exact PRun.callW (e1) rfl rfl nd rfl nds | exact PRun.callW (e2) rfl rfl nd rfl nds | exact PRun.callW (v2) rfl rfl nd rfl nds | exact std1) (by exact rfl) ?_ | refine AWP.seq ?_ | refine AWP.regionK (fun K' hK => ?_) | (refine AOps.nil (hK _ _ ?_); clear hK K') | refine AOps.e (EStep.boxW rfl rfl rfl rfl rfl True.intro rfl rfl ?_) | refine AOps.e (EStep.storeW tabOk rfl rfl rfl True.intro rfl rfl True.intro rfl rfl rfl rfl rfl rfl rfl ?_) | refine AOps.e (EStep.allocW tabOk rfl rfl rfl rfl rfl rfl ?_) | (refine AWP.condW rfl True.intro (fun hc => ?_) (fun hc => ?_) <;> (first | (simp only [decide_eq_true_eq] at hc) | (simp only [decide_eq_false_iff_not, Int.not_lt, Int.not_le] at hc) | skip)) | refine AWP.block ?_ | refine AWP.exit ?_ | refine AWP.skip ?_ | refine AWP.ret ?_ | refine AWP.drawK2 (by decide +kernel) (by kernel_rfl) (by decide +kernel) rfl (fun K' hK => ?_) | refine AWP.drawL2 (by kernel_rfl) (by decide +kernel) rfl (fun K' hK => ?_) | (refine AQ.nil (hK _ ?_); clear hK K') | refine AQ.nil ?_ | refine AQ.q rfl rfl (fun hg => by first | exact std0 | exact PRun.callW (n7) rfl rfl nd rfl nds | exact PRun.callW (q3) rfl rfl nd rfl nds | exact PRun.callW (p3) rfl rfl nd rfl nds | exact PRun.buildW tabOk rfl rfl nds | exact PRun.callW (no1) rfl rfl nd rfl nds | exact PRun.buildSlW tabOk rfl rfl nds | exact PRun.callW (w3) rfl rfl nd rfl nds | exact PRun.callW (note_spec 8 2 0 0 3) rfl rfl nd rfl nds | exact PRun.callW (note_spec 7 2 1 2 3) rfl rfl nd rfl nds | exact PRun.callW (e1) rfl rfl nd rfl nds | exact PRun.callW (e2) rfl rfl nd rfl nds | exact PRun.callW (v2) rfl rfl nd rfl nds | exact std1) (by exact rfl) ?_)
  refine AWP.drawW clsA (fun _ j2 => [.var (encS exS), .own 12 3, .var (encS noScore), .own 12 3, .var (encS noScore)] ++ (match j2 with | 0 => [] | 1 => [.var zS] | _ => [.var (encS exS2)])) rfl (by kernel_rfl) (by decide +kernel) rfl (by decide +kernel) (fun K' hK => ?_)
  repeat' (first
    | refine WQ.q rfl (by decide +kernel) rfl rfl (fun k1 k2 h1 h2 hg => by (have a1 : k1 = 0 ∨ k1 = 1 ∨ k1 = 2 := (by omega)); (have a2 : k2 = 0 ∨ k2 = 1 ∨ k2 = 2 := (by omega)); (rcases a1 with rfl | rfl | rfl) <;> (rcases a2 with rfl | rfl | rfl) <;> (first | exact std0 | exact PRun.indexMW tabOk rfl rfl nd rfl nd rfl rfl (by decide) | exact PRun.buildSlW tabOk rfl rfl nds | exact PRun.callW (w3) rfl rfl nd rfl nds | exact std1)) (by exact rfl) ?_)
  refine WQ.e2 0 0 (v := .ptr 5 0) (d := some 18) rfl (by decide +kernel) rfl ?_ ?_
  · intro env' he k1 _ _
    exact EStep.allocW tabOk rfl rfl rfl rfl rfl rfl ⟨rfl, rfl⟩
  repeat' (first
    | refine WQ.q rfl (by decide +kernel) rfl rfl (fun k1 k2 h1 h2 hg => by (have a1 : k1 = 0 ∨ k1 = 1 ∨ k1 = 2 := (by omega)); (have a2 : k2 = 0 ∨ k2 = 1 ∨ k2 = 2 := (by omega)); (rcases a1 with rfl | rfl | rfl) <;> (rcases a2 with rfl | rfl | rfl) <;> (first | exact std0 | exact std1)) (by exact rfl) ?_)
  refine WQ.e2 0 0 (v := .any) (d := none) rfl (by decide +kernel) rfl ?_ ?_
  · intro env' he k1 _ _
    exact EStep.storeW tabOk rfl rfl ((rdv_congr (he 18 (by decide +kernel))).trans rfl) (by rw [rdn_congr (he 18 (by decide +kernel))]; first | exact True.intro | exact rfl) rfl ((rdv_congr (he 85 (by decide +kernel))).trans rfl) (by rw [rdn_congr (he 85 (by decide +kernel))]; first | exact True.intro | exact rfl) rfl rfl rfl rfl rfl rfl rfl ⟨rfl, rfl⟩
  repeat' (first
    | refine WQ.q rfl (by decide +kernel) rfl rfl (fun k1 k2 h1 h2 hg => by (have a1 : k1 = 0 ∨ k1 = 1 ∨ k1 = 2 := (by omega)); (have a2 : k2 = 0 ∨ k2 = 1 ∨ k2 = 2 := (by omega)); (rcases a1 with rfl | rfl | rfl) <;> (rcases a2 with rfl | rfl | rfl) <;> (first | exact std0 | exact std1)) (by exact rfl) ?_)
  refine WQ.nil (hK _ _ _ ?_)
  clear hK K'
  show AWP _ _ _ _ _ _
  refine AWP.keep [(1, .ptr 0 0), (2, .sl 12 ([lawN 8 2 0 0 3, lawN 7 2 1 2 3].map encN) .no), (3, .int 0), (5, .int 22), (7, .int 20), (8, .int 1), (9, .b true), (10, .int 0), (12, .b false), (13, .int 0), (15, .int 22), (17, .int 1), (18, .ptr 5 0), (19, .int 0)] ⟨rfl, rfl, rfl, rfl, rfl, rfl, rfl, rfl, rfl, rfl, rfl, rfl, rfl, rfl, True.intro⟩ ?_
  repeat' (first | refine AOps.q rfl rfl rfl (fun hg => by first | exact std0 | exact PRun.callW (note_spec 8 2 0 0 3) rfl rfl nd rfl nds | exact PRun.callW (note_spec 7 2 1 2 3) rfl rfl nd rfl nds | exact PRun.callW (e1) rfl rfl nd rfl nds | exact PRun.callW (e2) rfl rfl nd rfl nds | exact PRun.callW (v2) rfl rfl nd rfl nds | exact PRun.buildSlW tabOk rfl rfl nds | exact std1) (by exact rfl) ?_ | refine AWP.seq ?_ | refine AWP.regionK (fun K' hK => ?_) | (refine AOps.nil (hK _ _ ?_); clear hK K') | refine AOps.e (EStep.boxW rfl rfl rfl rfl rfl True.intro rfl rfl ?_) | refine AOps.e (EStep.storeW tabOk rfl rfl rfl True.intro rfl rfl True.intro rfl rfl rfl rfl rfl rfl rfl ?_) | refine AOps.e (EStep.allocW tabOk rfl rfl rfl rfl rfl rfl ?_) | (refine AWP.condW rfl True.intro (fun hc => ?_) (fun hc => ?_) <;> (first | (simp only [decide_eq_true_eq] at hc) | (simp only [decide_eq_false_iff_not, Int.not_lt, Int.not_le] at hc) | skip)) | refine AWP.block ?_ | refine AWP.exit ?_ | refine AWP.skip ?_ | refine AWP.ret ?_ | refine AWP.drawK2 (by decide +kernel) (by kernel_rfl) (by decide +kernel) rfl (fun K' hK => ?_) | refine AWP.drawL2 (by kernel_rfl) (by decide +kernel) rfl (fun K' hK => ?_) | (refine AQ.nil (hK _ ?_); clear hK K') | refine AQ.nil ?_ | refine AQ.q rfl rfl (fun hg => by first | exact std0 | exact PRun.callW (note_spec 8 2 0 0 3) rfl rfl nd rfl nds | exact PRun.callW (note_spec 7 2 1 2 3) rfl rfl nd rfl nds | exact PRun.callW (e1) rfl rfl nd rfl nds | exact PRun.callW (e2) rfl rfl nd rfl nds | exact PRun.callW (v2) rfl rfl nd rfl nds | exact PRun.buildSlW tabOk rfl rfl nds | exact std1) (by exact rfl) ?_)
  exact ⟨.inr rfl, Ent.b (by decide)⟩
end Go.Proofs.YtnmdmmfdnnmdfaaGreatDoor
