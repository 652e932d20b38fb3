/- Contracts by content: bowing: a mark that restores, Restore. No statement is proved here. -/
import Derived.Test.YtficfljjnbnhbaaGreatDoorP16
import Derived.Test.YtficfljjnbnhbaaGreatDoorP27
set_option linter.unusedVariables false
set_option linter.unusedSimpArgs false
namespace Go.Proofs.YtficfljjnbnhbaaGreatDoor.Bw
open Go.Ab Go.Sort Mk
attribute [local irreducible] AWP AOps EStep AQ PStep PRun PCall TCall VCall DStep TDies AWD DCall
theorem mark1_spec (s : Score) (l : List Jo.Mark) (sec n : Int) (m : Jo.Mark) : PCall Tryz.prog 95 [.agg (encMk m), .iptr (encW s l sec), .iptr [.int n]] (.b (((m.kind == 1 && m.layer == 4) && m.version == s.version) && m.note == n)) := by
 refine PCall.body Tryz.func95 rfl rfl Tryz.ntmps95 rfl rfl ?_
 repeat' (first | refine aoQ rfl rfl rfl (fun hg => by exact std0) (by exact rfl) ?_ | refine sqW ?_ | refine rgK (fun K' hK => ?_) | (refine aoN (hK _ _ ?_); clear hK K') | refine aoE (bxW rfl rfl rfl rfl rfl tI rfl rfl ?_) | refine rtW ?_)
 exact ⟨.inr rfl, Ent.b rfl⟩
set_option maxHeartbeats 8000000 in
set_option maxRecDepth 20000 in
theorem mark_spec (s : Score) (l : List Jo.Mark) (hl : l.length ≤ 1000000) (sec id n w : Int) : PCall Tryz.prog 58 [.agg (encW s l sec), .int id, .int n, .int w] (.agg (encMk (newM s.version sec l id n w))) := by
 have h1 := hasM2_spec 95 (encW s l sec) [.int n] (fun m => ((m.kind == 1 && m.layer == 4) && m.version == s.version) && m.note == n) l (by omega) (fun m _ => mark1_spec s l sec n m)
 rw [findI_any'] at h1
 have e : newM s.version sec l id n w = if condAt l s.version n then ⟨id, 1, 4, ⟨0, 0, 0⟩, s.version, n, w, []⟩ else ⟨id, 1, 3, ⟨sec, 0, 0⟩, s.version, n, w, []⟩ := rfl
 rw [show (l.any fun m => ((m.kind == 1 && m.layer == 4) && m.version == s.version) && m.note == n) = condAt l s.version n from rfl] at h1
 rw [e]
 cases hc0 : condAt l s.version n with
 | true =>
   rw [hc0] at h1
   rw [if_pos rfl]
   refine PCall.bodyS tabOk Tryz.func58 rfl rfl Tryz.ntmps58 rfl ?_
   repeat' (first | refine aoQ rfl rfl rfl (fun hg => by first | exact std0 | exact pbW (h1) rfl rfl nd rfl rfl nds | exact pbD tabOk rfl rfl nds) (by exact rfl) ?_ | refine sqW ?_ | refine rgK (fun K' hK => ?_) | (refine aoN (hK _ _ ?_); clear hK K') | refine aoE (bxW rfl rfl rfl rfl rfl tI rfl rfl ?_) | refine aoE (stW tabOk rfl rfl rfl tI rfl rfl tI rfl rfl rfl rfl rfl rfl rfl ?_) | refine aoE (alW tabOk rfl rfl rfl rfl rfl rfl ?_) | refine cdN rfl tI (fun hc => ?_) (fun hc => ?_) | refine skW ?_ | refine rtW ?_)
   all_goals (first | (exfalso; simp at hc; done) | skip)
   exact ⟨.inr rfl, _, rfl, Ent.of rfl⟩
 | false =>
   rw [hc0] at h1
   rw [if_neg (by decide)]
   refine PCall.bodyS tabOk Tryz.func58 rfl rfl Tryz.ntmps58 rfl ?_
   repeat' (first | refine aoQ rfl rfl rfl (fun hg => by first | exact std0 | exact pbW (h1) rfl rfl nd rfl rfl nds | exact pbD tabOk rfl rfl nds) (by exact rfl) ?_ | refine sqW ?_ | refine rgK (fun K' hK => ?_) | (refine aoN (hK _ _ ?_); clear hK K') | refine aoE (bxW rfl rfl rfl rfl rfl tI rfl rfl ?_) | refine aoE (stW tabOk rfl rfl rfl tI rfl rfl tI rfl rfl rfl rfl rfl rfl rfl ?_) | refine aoE (alW tabOk rfl rfl rfl rfl rfl rfl ?_) | refine cdN rfl tI (fun hc => ?_) (fun hc => ?_) | refine skW ?_ | refine rtW ?_)
   all_goals (first | (exfalso; simp at hc; done) | skip)
   exact ⟨.inr rfl, _, rfl, Ent.of rfl⟩
theorem cloneM0 : PCall Tryz.prog 57 [.sl 10 (([] : List Jo.Mark).map encMk) .no] (.sl 10 (([] : List Jo.Mark).map encMk) .no) := by
 refine PCall.body Tryz.func57 rfl rfl Tryz.ntmps57 rfl rfl ?_
 repeat' (first | refine aoQ rfl rfl rfl (fun hg => by exact std0) (by exact rfl) ?_ | refine sqW ?_ | refine rgK (fun K' hK => ?_) | (refine aoN (hK _ _ ?_); clear hK K') | refine aoE (EStep.nilSl tabOk rfl rfl rfl rfl rfl tI rfl ?_))
 intro b hb
 repeat' (first | refine aoQ rfl rfl rfl (fun hg => by first | exact PRun.buildSl0 tabOk rfl rfl | exact std0) (by exact rfl) ?_ | refine sqW ?_ | refine rgK (fun K' hK => ?_) | (refine aoN (hK _ _ ?_); clear hK K') | refine aoE (EStep.appendE tabOk rfl rfl rfl (by decide) (Rd.w rfl tI) (Rd.w rfl tI) (.sl rfl (one_encMk [])) (LOk.of (tabOk.get rfl)) (LOk.of (tabOk.get rfl)) rfl ?_) | refine cdN rfl tI (fun hc => ?_) (fun hc => ?_) | refine skW ?_)
 · refine rtW ⟨.inr rfl, Ent.nil⟩
 · refine rtW ⟨.inr rfl, Ent.of rfl⟩
def OkAll (o0 o1 o2 : AObj) : Prop := ∀ m, okObj m o0 = true ∧ okObj m o1 = true ∧ okObj m o2 = true
theorem okObj4 {o0 o1 o2 : AObj} (h : OkAll o0 o1 o2) (m k : Nat) : ([o0, o1, o2, .own 10 k] : Store).all (okObj m) = true := by
 obtain ⟨a, b, c⟩ := h m
 simp only [zBu, zC8, a, b, c]; rfl
theorem cloneM_T {l : List Jo.Mark} (hl : l.length ≤ 1000000) (hne : l ≠ []) {o0 o1 o2 : AObj} (h3 : OkAll o0 o1 o2) : TCall Tryz.prog 57 [.sl 10 (l.map encMk) .no] [o0, o1, o2]
 (fun r s => r = .sl 10 (l.map encMk) (.own 3) ∧ s = [o0, o1, o2, .own 10 (l.map encMk).length]) := by
 have hll : (l.map encMk).length = l.length := by simp
 have hpos : 0 < l.length := List.length_pos_iff.2 hne
 refine TCall.body Tryz.func57 rfl rfl Tryz.ntmps57 rfl rfl ?_
 refine AWP.newOwn 10 ?_
 show AWP _ _ _ _ _ [o0, o1, o2, .own 10 0]
 repeat' (first | refine aoQ rfl rfl rfl (fun hg => by exact std0) (by exact rfl) ?_ | refine sqW ?_ | refine rgK (fun K' hK => ?_) | (refine aoN (hK _ _ ?_); clear hK K') | refine aoE (EStep.nilSl tabOk rfl rfl rfl rfl rfl tI rfl ?_))
 intro b hb
 repeat' (first | refine aoQ rfl rfl rfl (fun hg => by first | exact PRun.buildSl0 tabOk rfl rfl | exact std0) (by exact rfl) ?_ | refine sqW ?_ | refine rgK (fun K' hK => ?_) | (refine aoN (hK _ _ ?_); clear hK K') | refine aoE (EStep.appendAt (l := 3) tabOk rfl rfl rfl (by decide) (Rd.w rfl tI) rfl (Rd.w rfl tI) (.sl rfl (one_encMk _)) (by simp only [hll]; omega) (LOk.of (tabOk.get rfl)) (LOk.of (tabOk.get rfl)) rfl rfl (by simp only [hll]; omega) (by simp only [hll]; omega) ?_) | refine cdN rfl tI (fun hc => ?_) (fun hc => ?_) | refine skW ?_ | refine rtW ?_)
 · exact absurd (by simpa using hb hc) hne
 · exact ⟨.inr rfl, .sl 10 (l.map encMk) (.own 3), [o0, o1, o2, .own 10 (l.map encMk).length], ⟨rfl, rfl⟩, rfl, by simp, okObj4 h3 _ _, rfl, rfl⟩
def tupR (r : (List Jo.Mark × Int) × Int) : AV := .tup [.sl 10 (r.1.1.map encMk) .no, .int r.1.2, .int r.2]
theorem entR (e : Int) : Ent (.tup [.nils, .int 0, .int e]) (tupR (([], 0), e)) := Ent.tup rfl fun i u v hu hv => by
 match i, hu, hv with
 | 0, hu, hv => cases hu; cases hv; exact Ent.nil
 | 1, hu, hv => cases hu; cases hv; exact Ent.rfl' _
 | 2, hu, hv => cases hu; cases hv; exact Ent.rfl' _
 | i + 3, hu, hv => cases hu
def RS (s : Score) (l : List Jo.Mark) (sec id : Int) (k : Nat) : Store := [.var (encS s), .var [.int id], .var (encW s l sec), .own 10 k]
theorem okAllR (s : Score) (l : List Jo.Mark) (sec id : Int) : OkAll (.var (encS s)) (.var [.int id]) (.var (encW s l sec)) := fun m => ⟨rfl, rfl, rfl⟩
set_option maxHeartbeats 32000000 in
set_option maxRecDepth 20000 in
theorem restore_spec {s : Score} {l : List Jo.Mark} {sec : Int} {ex : List Int} (h20 : In20 s l sec ex) (id : Int) (c1 : PCall Tryz.prog 12 [.agg (encS s), .sl 10 (l.map encMk) .no, .int sec, .sl 1 (ex.map eI) .no] (tupC (clashesR s l sec ex))) :
 PCall Tryz.prog 18 [.agg (encS s), .sl 10 (l.map encMk) .no, .int sec, .sl 1 (ex.map eI) .no, .int id] (tupR (restoreR s l sec ex id)) := by
 obtain ⟨hs, hp, hn, hb, hl, ht, hex, hbl⟩ := h20
 have c2 := bid_spec id
 have c3 := hasM1_spec 56 [.int id] (fun m => decide (m.id ≥ id)) l (by omega) (fun m _ => br1_spec m id)
 rw [findI_any'] at c3
 by_cases hf : formB s l sec ex = true
 · replace hbl := hbl hf
   rw [show clashesR s l sec ex = (clashes s l sec ex, 0) from if_pos hf] at c1
   by_cases hi : (!Jo.isId id || l.any fun m => decide (m.id ≥ id)) = true
   · have hR : restoreR s l sec ex id = (([], 0), 1) := by unfold restoreR; rw [if_pos hf, if_pos hi]
     rw [hR]
     generalize Jo.isId id = y1 at *
     generalize (l.any fun m => decide (m.id ≥ id)) = y2 at *
     generalize clashes s l sec ex = cs at *
     refine PCall.bodyS tabOk Tryz.func18 rfl rfl Tryz.ntmps18 rfl ?_
     repeat' (first | refine aoQ rfl rfl rfl (fun hg => by first | exact std0 | exact pcW (c1) rfl rfl nd rfl nds | exact pcW (c2) rfl rfl nd rfl nds | exact pbW (c3) rfl rfl nd rfl rfl nds) (by exact rfl) ?_ | refine sqW ?_ | refine rgK (fun K' hK => ?_) | (refine aoN (hK _ _ ?_); clear hK K') | refine aoE (bxW rfl rfl rfl rfl rfl tI rfl rfl ?_) | refine cdN rfl tI (fun hc => ?_) (fun hc => ?_) | refine skW ?_ | refine rtW ?_)
     all_goals (first | exact ⟨.inr rfl, _, rfl, entR 1⟩ | (exact absurd (hi.symm.trans hc) (by decide)) | (exfalso; simp at hc; done) | skip)
   · have hi2 := zCr _ ▸ hi
     rw [zAh] at hi2
     obtain ⟨y1, y2⟩ := hi2
     have y1' : Jo.isId id = true := by simpa using y1
     have hidr : 1 ≤ id ∧ id ≤ 1000000 := by
      have h := y1'
      unfold Jo.isId Jo.inR at h
      simpa using h
     rw [y1'] at c2
     rw [y2] at c3
     have hR : restoreR s l sec ex id = if bigR l.length (fixL (clashes s l sec ex)).length id then (([], 0), 2) else ((resL s.version sec l id (fixL (clashes s l sec ex)), ((fixL (clashes s l sec ex)).length : Int)), 0) := by
      unfold restoreR; rw [if_pos hf, if_neg hi]
     by_cases hne : l = []
     · subst hne
       rw [clashes_nil0] at c1 hR
       have hb0 : bigR ([] : List Jo.Mark).length (fixL []).length id = false := by
        show (decide _ || decide _) = false
        rw [zAh]
        refine ⟨rfl, decide_eq_false ?_⟩
        show ¬ id + ((0 : Nat) : Int) - 1 > 1000000
        omega
       rw [hb0, if_neg (by decide)] at hR
       rw [hR]
       have c4 := cloneM0
       refine PCall.bodyS tabOk Tryz.func18 rfl rfl Tryz.ntmps18 rfl ?_
       repeat' (first | refine aoQ rfl rfl rfl (fun hg => by first | exact std0 | exact pcW (c1) rfl rfl nd rfl nds | exact pcW (c2) rfl rfl nd rfl nds | exact pbW (c3) rfl rfl nd rfl rfl nds | exact pcW (c4) rfl rfl nd rfl nds | exact pbD tabOk rfl rfl nds | exact std1) (by exact rfl) ?_ | refine sqW ?_ | refine rgK (fun K' hK => ?_) | (refine aoN (hK _ _ ?_); clear hK K') | refine aoE (bxW rfl rfl rfl rfl rfl tI rfl rfl ?_) | refine aoE (stW tabOk rfl rfl rfl tI rfl rfl tI rfl rfl rfl rfl rfl rfl rfl ?_) | refine aoE (alW tabOk rfl rfl rfl rfl rfl rfl ?_) | refine cdN rfl tI (fun hc => ?_) (fun hc => ?_) | refine blK ?_ | refine skW ?_ | refine rtW ?_)
       all_goals (first | exact dd | skip)
       refine lpW (ι := Nat) (fun _ => [(16, .sl 10 (([] : List Jo.Mark).map encMk) .no), (1, .sl 10 (([] : List Jo.Mark).map encMk) .no), (9, .ptr 1 0), (51, .int 0), (52, .int 0)]) (fun _ => [.var (encS s), .var [.int id], .var (encW s [] sec)]) (fun _ => True) (fun _ => 0) 0 tI ⟨rfl, rfl, rfl, rfl, rfl, tI⟩ rfl ?_
       intro _ _
       repeat' (first | refine aoQ rfl rfl rfl (fun hg => by first | exact std0 | exact std1) (by exact rfl) ?_ | refine sqW ?_ | refine rgK (fun K' hK => ?_) | (refine aoN (hK _ _ ?_); clear hK K') | refine cdN rfl tI (fun hc => ?_) (fun hc => ?_) | refine blK ?_ | refine exW ?_ | refine skW ?_ | refine rtW ?_)
       all_goals (first | exact dd | skip)
       exact ⟨.inr rfl, _, rfl, Ent.of rfl⟩
     · have hok : scoreOk s = true := by
        have h := hf
        unfold formB at h
        simp only [zA0] at h
        exact h.1.1.1
       have hmk : marksOk l = true := by
        have h := hf
        unfold formB at h
        simp only [zA0] at h
        exact h.1.1.2
       have hcl := TCall.val (first := []) (caps := []) (avs := [.sl 10 (l.map encMk) .no]) (cloneM_T hl hne (okAllR s l sec id))
       have hfx := fix_le (s := s) (l := l) (sec := sec) (ex := ex) hbl
       have hgk : ∀ g ∈ clashes s l sec ex, clOk (clOf g) = true ∧ g.length ≤ 20000 := fun g hgg => ⟨clash_ok hok hmk hbl hgg, zBb (grp_len hgg) hbl⟩
       have hcl0 := clashes_len s l sec ex
       rw [hR]
       clear hR hf hi
       generalize clashes s l sec ex = cs at *
       refine PCall.bodyS tabOk Tryz.func18 rfl rfl Tryz.ntmps18 rfl ?_
       repeat' (first | refine aoQ rfl rfl rfl (fun hg => by first | exact std0 | exact pcW (c1) rfl rfl nd rfl nds | exact pcW (c2) rfl rfl nd rfl nds | exact pbW (c3) rfl rfl nd rfl rfl nds | exact pbD tabOk rfl rfl nds) (by exact rfl) ?_ | refine sqW ?_ | refine rgK (fun K' hK => ?_) | (refine aoN (hK _ _ ?_); clear hK K') | refine aoE (bxW rfl rfl rfl rfl rfl tI rfl rfl ?_) | refine aoE (stW tabOk rfl rfl rfl tI rfl rfl tI rfl rfl rfl rfl rfl rfl rfl ?_) | refine aoE (alW tabOk rfl rfl rfl rfl rfl rfl ?_) | refine aoE (scT (hcl) rfl rfl rfl rfl rfl nd rfl rfl nds ?_) | refine cdN rfl tI (fun hc => ?_) (fun hc => ?_) | refine skW ?_ | refine rtW ?_)
       all_goals (first | exact dd | skip)
       intro r σ' hr
       obtain ⟨rfl, rfl⟩ := hr
       clear hcl c1 c2 c3
       repeat' (first | refine aoQ rfl rfl rfl (fun hg => by first | exact std0 | exact std1) (by exact rfl) ?_ | refine sqW ?_ | refine rgK (fun K' hK => ?_) | (refine aoN (hK _ _ ?_); clear hK K') | refine blK ?_)
       all_goals (first | exact dd | skip)
       refine lpD (ι := Nat) (fun k => [(1, .sl 10 (l.map encMk) .no), (9, .ptr 1 0), (15, .ptr 2 0), (16, .sl 10 ((resL s.version sec l id (fixL (cs.take k))).map encMk) (.own 3)), (50, .sl 3 (cs.map clE) .no), (51, .int cs.length), (52, .int k)])
        (fun k => RS s l sec id ((resL s.version sec l id (fixL (cs.take k))).map encMk).length) (fun k => k ≤ cs.length) (fun k => cs.length - k) 4 (fun _ => rfl) 0 (nZl _)
        ⟨rfl, rfl, rfl, (by show AV.sl 10 (l.map encMk) _ = AV.sl 10 ((l ++ []).map encMk) _; rw [zBh]), rfl, rfl, rfl, tI⟩ (by show RS s l sec id _ = RS s l sec id ((l ++ []).map encMk).length; rw [zBh]) (fun _ _ => rfl) (fun _ _ => rfl) ?_
       intro k hk
       by_cases hlt : k < cs.length
       · obtain ⟨g, hgg⟩ : ∃ g, cs.getD k default = g := ⟨_, rfl⟩
         obtain ⟨gk, gl⟩ := hgk g (by rw [← hgg]; exact getD_mem hlt)
         have d1 := choices_spec (clOf g) (clOf_sized (by omega))
         rw [show choR (clOf g) = ((selC (clOf g), leastC (clOf g)), 0) from if_pos gk, encC_clOf] at d1
         obtain ⟨e1, e2, e3⟩ := clForm_iff (c := clOf g) (by unfold clOk at gk; simp only [zA0] at gk; exact gk.1)
         have d2 := others_spec (clOf g) e1 (by omega) (chose (g.map pairB))
         rw [encC_clOf] at d2
         obtain ⟨r, hr⟩ := sel_chose g
         have hq1 : (selC (clOf g)).getD 0 default = chose (g.map pairB) := by rw [hr]; rfl
         have hq2 : 0 < (selC (clOf g)).length := by rw [hr]; exact zB6 _
         have hfk := hfx k
         have hfk1 := hfx (k + 1)
         rw [fixL_take hlt hgg, fixG_eq, lLa, lLm] at hfk1
         have hnx : fixL (cs.take (k + 1)) = fixL (cs.take k) ++ (oth (psC (clOf g)) (chose (g.map pairB))).map fun n => (n, chose (g.map pairB)) := by rw [fixL_take hlt hgg, fixG_eq]
         generalize leastC (clOf g) = lc at *
         generalize selC (clOf g) = q at *
         generalize chose (g.map pairB) = w at *
         generalize oth (psC (clOf g)) w = o at *
         generalize fixL (cs.take k) = F at *
         clear hr gk e1 e2 e3
         have d1 : PCall Tryz.prog 15 [.agg (clE g)] (.tup [.sl 1 (q.map eI) .no, .int lc, .int 0]) := d1
         repeat' (first | refine aoQ rfl rfl rfl (fun hg => by first | exact iX clE cs ((k : Nat) : Int) hgg (hb := by omega) | exact std0 | exact pcW (d1) rfl rfl nd rfl nds | exact std1) (by exact rfl) ?_ | refine sqW ?_ | refine rgK (fun K' hK => ?_) | (refine aoN (hK _ _ ?_); clear hK K') | refine aoE (stW tabOk rfl rfl rfl tI rfl rfl tI rfl rfl rfl rfl rfl rfl rfl ?_) | refine aoE (alW tabOk rfl rfl rfl rfl rfl rfl ?_) | refine cdN rfl tI (fun hc => ?_) (fun hc => ?_) | refine blK ?_ | refine exW ?_ | refine skW ?_ | refine rtW ?_ | refine dK2 (by decide +kernel) (by kernel_rfl) (by decide +kernel) rfl (fun K' hK => ?_) | (refine aqN (hK _ ?_); clear hK K') | refine aqQ rfl rfl (fun hg => by first | exact PRun.eq (v := .iptr (eI (q.getD (0 : Int).toNat default))) (piW (i := 0) tabOk rfl rfl nd rfl nd rfl rfl ⟨by decide, by omega⟩) (congrArg (fun x => AV.iptr (eI x)) (show q.getD (0 : Int).toNat default = w from hq1)) | exact std0 | exact pcW (d2) rfl rfl nd rfl nds | exact std1) (by exact rfl) ?_)
         all_goals (first | exact dd | skip)
         clear d1 d2
         refine lpD (ι := Nat) (fun j => [(1, .sl 10 (l.map encMk) .no), (9, .ptr 1 0), (15, .ptr 2 0), (16, .sl 10 ((resL s.version sec l id (F ++ (o.take j).map fun n => (n, w))).map encMk) (.own 3)), (19, .sl 1 (q.map eI) .no), (50, .sl 3 (cs.map clE) .no), (51, .int cs.length), (52, .int k), (66, .sl 1 (o.map eI) .no), (67, .int o.length), (68, .int j)])
          (fun j => RS s l sec id ((resL s.version sec l id (F ++ (o.take j).map fun n => (n, w))).map encMk).length ++ [.var (clE g)]) (fun j => j ≤ o.length) (fun j => o.length - j) 5 (fun _ => rfl) 0 (nZl _)
          ⟨rfl, rfl, rfl, (by show AV.sl 10 ((resL s.version sec l id F).map encMk) _ = AV.sl 10 ((resL s.version sec l id (F ++ [])).map encMk) _; rw [zBh]), rfl, rfl, rfl, rfl, rfl, rfl, rfl, tI⟩ (by show _ = RS s l sec id ((resL s.version sec l id (F ++ [])).map encMk).length ++ [.var (clE g)]; rw [zBh]; rfl) (fun _ _ => rfl) (fun _ _ => rfl) ?_
         intro j hj
         by_cases hjl : j < o.length
         · obtain ⟨n, hnn⟩ : ∃ n, o.getD j default = n := ⟨_, rfl⟩
           have hst : resL s.version sec l id (F ++ (o.take (j + 1)).map fun n => (n, w)) = resL s.version sec l id (F ++ (o.take j).map fun n => (n, w)) ++ [newM s.version sec l (id + (F.length + j : Nat)) n w] := by
            unfold resL; rw [news_take hjl hnn, zAt]
           have hcl2 : (resL s.version sec l id (F ++ (o.take j).map fun n => (n, w))).length = l.length + (F.length + j) := by
            unfold resL
            rw [lLa, news_len, lLa, lLm, zAc, Nat.min_eq_left (Nat.le_of_lt hjl)]
           generalize resL s.version sec l id (F ++ (o.take j).map fun n => (n, w)) = R at *
           have m0 := mark_spec s l hl sec (id + (F.length + j : Nat)) n w
           have n1 : PCall Tryz.prog 58 [.agg (encW s l sec), .int (id + ((R.length : Nat) : Int) - ((l.length : Nat) : Int)), .int n, .int w] (.agg (encMk (newM s.version sec l (id + (F.length + j : Nat)) n w))) := by
            rw [show id + ((R.length : Nat) : Int) - ((l.length : Nat) : Int) = id + (F.length + j : Nat) by omega]; exact m0
           have n2 : PCall Tryz.prog 58 [.agg (encW s l sec), .int (id + (((R.map encMk).length : Nat) : Int) - (((l.map encMk).length : Nat) : Int)), .int n, .int w] (.agg (encMk (newM s.version sec l (id + (F.length + j : Nat)) n w))) := by
            rw [lLm, lLm]; exact n1
           clear m0
           generalize newM s.version sec l (id + (F.length + j : Nat)) n w = M at *
           have e1 : (resL s.version sec l id (F ++ (o.take (j + 1)).map fun n => (n, w))).map encMk = R.map encMk ++ [encMk M] := by rw [hst, zAe]; rfl
           have e2 : (R.map encMk).length = R.length := lLm ..
           repeat' (first | refine aoQ rfl rfl rfl (fun hg => by first | exact iX eI o ((j : Nat) : Int) hnn (hb := by omega) | exact std0) (by exact rfl) ?_ | refine sqW ?_ | refine rgK (fun K' hK => ?_) | (refine aoN (hK _ _ ?_); clear hK K') | refine cdN rfl tI (fun hc => ?_) (fun hc => ?_) | refine blK ?_ | refine exW ?_ | refine skW ?_)
           all_goals (first | exact dd | skip)
           refine AWP.drawYM effOp (fun y => [.var (encS s), .var [.int id], .var (encW s l sec), .own 10 (match y with | 0 => (R.map encMk).length | _ => (R.map encMk ++ [encMk M]).length), .var (clE g)]) rfl (by kernel_rfl) (by decide +kernel) rfl (by decide +kernel) (fun K' hK => ?_)
           repeat' (first | refine yqQ rfl rfl rfl (by decide +kernel) rfl rfl (fun k9 h1 h2 hg => by first | exact PRun.eq (v := .iptr (eI (q.getD (0 : Int).toNat default))) (piW (i := 0) tabOk rfl rfl nd rfl nd rfl rfl ⟨by decide, by omega⟩) (congrArg (fun x => AV.iptr (eI x)) (show q.getD (0 : Int).toNat default = w from hq1)) | exact std0 | exact pcW (n1) rfl rfl nd rfl nds | exact pbS tabOk rfl rfl nds | exact std1) (by exact rfl) ?_)
           refine YQ.e (v := .sl 10 (R.map encMk ++ [encMk M]) (.own 3)) (d := some 87) rfl rfl rfl ?_ ?_
           · intro env' he
             exact apO (l := 3) tabOk rfl rfl rfl (by decide) (Rd.w ((rdv_congr (he 72 (by decide +kernel))).trans rfl) (by rw [rdn_congr (he 72 (by decide +kernel))]; first | exact tI | exact rfl)) rfl (Rd.w ((rdv_congr (he 86 (by decide +kernel))).trans rfl) (by rw [rdn_congr (he 86 (by decide +kernel))]; first | exact tI | exact rfl)) (.sl rfl (one_encMk [M])) (LOk.of (tabOk.get rfl)) (LOk.of (tabOk.get rfl)) rfl rfl (by simp only [lLm, zA5, zAb]; omega) (by simp only [lLm, zA5, zAb]; omega) ⟨rfl, rfl⟩
           repeat' (first | refine yqQ rfl rfl rfl (by decide +kernel) rfl rfl (fun k9 h1 h2 hg => by exact std0) (by exact rfl) ?_)
           refine YQ.nil (hK _ _ ?_)
           clear hK K'
           repeat' (first | refine aoQ rfl rfl rfl (fun hg => by exact std0) (by exact rfl) ?_ | refine rgK (fun K' hK => ?_) | (refine aoN (hK _ _ ?_); clear hK K'))
           exact ⟨j + 1, hjl, by show o.length - (j + 1) < o.length - j; omega, ⟨rfl, rfl, rfl, (by rw [e1]; rfl), rfl, rfl, rfl, rfl, rfl, rfl, rfl, tI⟩, (by rw [e1]; rfl)⟩
         · obtain rfl : j = o.length := by omega
           rw [zAr, ← hnx]
           repeat' (first | refine aoQ rfl rfl rfl (fun hg => by first | exact std0 | exact std1) (by exact rfl) ?_ | refine sqW ?_ | refine rgK (fun K' hK => ?_) | (refine aoN (hK _ _ ?_); clear hK K') | refine cdN rfl tI (fun hc => ?_) (fun hc => ?_) | refine blK ?_ | refine exW ?_ | refine skW ?_)
           all_goals (first | exact dd | skip)
           exact ⟨k + 1, hlt, by show cs.length - (k + 1) < cs.length - k; omega, ⟨rfl, rfl, rfl, rfl, rfl, rfl, rfl, tI⟩, rfl⟩
       · obtain rfl : k = cs.length := by omega
         have hfk := hfx cs.length
         rw [zAr] at hfk ⊢
         have hrl : (resL s.version sec l id (fixL cs)).length = l.length + (fixL cs).length := by unfold resL; rw [lLa, news_len]
         have hbg : bigR l.length (fixL cs).length id = (decide (((l.length + (fixL cs).length : Nat) : Int) > 20000) || decide (id + (fixL cs).length - 1 > 1000000)) := rfl
         by_cases hbig : bigR l.length (fixL cs).length id = true
         · rw [if_pos hbig]
           repeat' (first | refine aoQ rfl rfl rfl (fun hg => by first | exact std0 | exact std1) (by exact rfl) ?_ | refine sqW ?_ | refine rgK (fun K' hK => ?_) | (refine aoN (hK _ _ ?_); clear hK K') | refine aoE (stW tabOk rfl rfl rfl tI rfl rfl tI rfl rfl rfl rfl rfl rfl rfl ?_) | refine aoE (alW tabOk rfl rfl rfl rfl rfl rfl ?_) | refine cdN rfl tI (fun hc => ?_) (fun hc => ?_) | refine blK ?_ | refine exW ?_ | refine skW ?_ | refine rtW ?_)
           all_goals (first | exact ⟨.inr rfl, _, rfl, entR 2⟩ | (exfalso; omega) | (exfalso; rw [hbg] at hbig; simp only [zBe, dEt] at hbig; simp at hc; omega) | skip)
         · rw [if_neg hbig]
           repeat' (first | refine aoQ rfl rfl rfl (fun hg => by first | exact std0 | exact std1) (by exact rfl) ?_ | refine sqW ?_ | refine rgK (fun K' hK => ?_) | (refine aoN (hK _ _ ?_); clear hK K') | refine aoE (stW tabOk rfl rfl rfl tI rfl rfl tI rfl rfl rfl rfl rfl rfl rfl ?_) | refine aoE (alW tabOk rfl rfl rfl rfl rfl rfl ?_) | refine cdN rfl tI (fun hc => ?_) (fun hc => ?_) | refine blK ?_ | refine exW ?_ | refine skW ?_ | refine rtW ?_)
           all_goals (first | (exfalso; omega) | (exfalso; rw [hbg] at hbig; simp only [zBe, dEt, not_or] at hbig; simp at hc; omega) | skip)
           have e : (((resL s.version sec l id (fixL cs)).map encMk).length : Int) - ((l.map encMk).length : Int) = (fixL cs).length := by rw [lLm, lLm]; omega
           refine ⟨.inr rfl, _, rfl, Ent.tup rfl fun i u v hu hv => ?_⟩
           match i, hu, hv with
           | 0, hu, hv => cases hu; cases hv; exact Ent.of rfl
           | 1, hu, hv => cases hu; cases hv; exact Ent.int (by first | omega | (simp only [lLm]; omega))
           | 2, hu, hv => cases hu; cases hv; exact Ent.rfl' _
           | i + 3, hu, hv => cases hu
 · rw [show clashesR s l sec ex = ([], 1) from if_neg hf] at c1
   have hR : restoreR s l sec ex id = (([], 0), 1) := if_neg hf
   rw [hR]
   clear c2 c3
   refine PCall.bodyS tabOk Tryz.func18 rfl rfl Tryz.ntmps18 rfl ?_
   repeat' (first | refine aoQ rfl rfl rfl (fun hg => by first | exact std0 | exact pcW (c1) rfl rfl nd rfl nds) (by exact rfl) ?_ | refine sqW ?_ | refine rgK (fun K' hK => ?_) | (refine aoN (hK _ _ ?_); clear hK K') | refine aoE (bxW rfl rfl rfl rfl rfl tI rfl rfl ?_) | refine cdN rfl tI (fun hc => ?_) (fun hc => ?_) | refine skW ?_ | refine rtW ?_)
   all_goals (first | (exact ⟨.inr rfl, _, rfl, entR 1⟩) | (exfalso; simp at hc; done))
end Go.Proofs.YtficfljjnbnhbaaGreatDoor.Bw
