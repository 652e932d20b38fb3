/- Contracts by content: the reference of bowing: Restore.  Bowings in plain words: the example of the laws. No statement is proved here. -/
import Derived.Test.YtficfljjnbnhbaaGreatDoorP18
import Derived.Test.YtficfljjnbnhbaaGreatDoorP28
import Derived.Test.YtficfljjnbnhbaaGreatDoorP29
set_option linter.unusedVariables false
set_option linter.unusedSimpArgs false
namespace Go.Proofs.YtficfljjnbnhbaaGreatDoor.Bw
open Go.Ab Go.Sort Mk
attribute [local irreducible] AWP AOps EStep AQ PStep PRun PCall TCall VCall DStep TDies AWD DCall
theorem conductor_spec (l : List Jo.Mark) (hl : l.length ≤ 9223372036854775807) (v n : Int) : PCall Tryz.prog 60 [.sl 10 (l.map encMk) .no, .int v, .int n] (.b (condAt l v n)) := by
 have e : condAt l v n = decide (findI (fun m : Jo.Mark => ((m.kind == 1 && m.layer == 4) && m.version == v) && m.note == n) l ≥ 0) := (findI_any' _ _).symm
 rw [e]
 refine PCall.body Tryz.func60 rfl rfl Tryz.ntmps60 rfl rfl ?_
 repeat' (first | refine aoQ rfl rfl rfl (fun hg => by first | exact std0 | exact std1) (by exact rfl) ?_ | refine sqW ?_ | refine rgK (fun K' hK => ?_) | (refine aoN (hK _ _ ?_); clear hK K') | refine aoE (bxW rfl rfl rfl rfl rfl tI rfl rfl ?_) | refine aoE (stW tabOk rfl rfl rfl tI rfl rfl tI rfl rfl rfl rfl rfl rfl rfl ?_) | refine aoE (alW tabOk rfl rfl rfl rfl rfl rfl ?_) | refine cdN rfl tI (fun hc => ?_) (fun hc => ?_) | refine blK ?_ | refine exW ?_ | refine skW ?_ | refine rtW ?_ | refine dK2 (by decide +kernel) (by kernel_rfl) (by decide +kernel) rfl (fun K' hK => ?_) | refine dL2 (by kernel_rfl) (by decide +kernel) rfl (fun K' hK => ?_) | (refine aqN (hK _ ?_); clear hK K') | refine aqN ?_ | refine aqQ rfl rfl (fun hg => by first | exact std0 | exact std1) (by exact rfl) ?_)
 refine lpW (ι := Nat) (fun k => [(0, .sl 10 (l.map encMk) .no), (1, .int v), (2, .int n), (7, .int k)]) (fun _ => []) (fun k => k ≤ l.length ∧ ∀ j, j < k → ((((l.getD j default).kind == 1 && (l.getD j default).layer == 4) && (l.getD j default).version == v) && (l.getD j default).note == n) = false) (fun k => l.length - k) 0 ⟨nZl _, fun j h => absurd h (by omega)⟩ ⟨rfl, rfl, rfl, rfl, tI⟩ rfl ?_
 rintro k ⟨hk, hall⟩
 by_cases hlt : k < l.length
 · obtain ⟨m, hm⟩ : ∃ m, l.getD k default = m := ⟨_, rfl⟩
   repeat' (first | refine aoQ rfl rfl rfl (fun hg => by first | exact iX encMk l ((k : Nat) : Int) hm (hb := by omega) | exact std0 | exact std1) (by exact rfl) ?_ | refine sqW ?_ | refine rgK (fun K' hK => ?_) | (refine aoN (hK _ _ ?_); clear hK K') | refine aoE (bxW rfl rfl rfl rfl rfl tI rfl rfl ?_) | refine aoE (stW tabOk rfl rfl rfl tI rfl rfl tI rfl rfl rfl rfl rfl rfl rfl ?_) | refine aoE (alW tabOk rfl rfl rfl rfl rfl rfl ?_) | refine cdN rfl tI (fun hc => ?_) (fun hc => ?_) | refine blK ?_ | refine exW ?_ | refine skW ?_ | refine rtW ?_ | refine dK2 (by decide +kernel) (by kernel_rfl) (by decide +kernel) rfl (fun K' hK => ?_) | refine dL2 (by kernel_rfl) (by decide +kernel) rfl (fun K' hK => ?_) | (refine aqN (hK _ ?_); clear hK K') | refine aqN ?_ | refine aqQ rfl rfl (fun hg => by first | exact iX encMk l ((k : Nat) : Int) hm (hb := by omega) | exact std0 | exact std1) (by exact rfl) ?_)
   all_goals (first | exact dd | skip)
   · exact ⟨.inr rfl, Ent.b (by rw [findI_at (p := fun m : Jo.Mark => ((m.kind == 1 && m.layer == 4) && m.version == v) && m.note == n) hlt (by rw [hm]; exact hc) hall]; exact (decide_eq_true (by omega)).symm)⟩
   · exact ⟨k + 1, ⟨hlt, fun j hj => lt_succ_cases (P := fun j => ((((l.getD j default).kind == 1 && (l.getD j default).layer == 4) && (l.getD j default).version == v) && (l.getD j default).note == n) = false) hall (by rw [hm]; exact hc) hj⟩, by omega, ⟨rfl, rfl, rfl, rfl, tI⟩, rfl⟩
 · repeat' (first | refine aoQ rfl rfl rfl (fun hg => by first | exact std0 | exact std1) (by exact rfl) ?_ | refine sqW ?_ | refine rgK (fun K' hK => ?_) | (refine aoN (hK _ _ ?_); clear hK K') | refine aoE (bxW rfl rfl rfl rfl rfl tI rfl rfl ?_) | refine aoE (stW tabOk rfl rfl rfl tI rfl rfl tI rfl rfl rfl rfl rfl rfl rfl ?_) | refine aoE (alW tabOk rfl rfl rfl rfl rfl rfl ?_) | refine cdN rfl tI (fun hc => ?_) (fun hc => ?_) | refine blK ?_ | refine exW ?_ | refine skW ?_ | refine rtW ?_ | refine dK2 (by decide +kernel) (by kernel_rfl) (by decide +kernel) rfl (fun K' hK => ?_) | refine dL2 (by kernel_rfl) (by decide +kernel) rfl (fun K' hK => ?_) | (refine aqN (hK _ ?_); clear hK K') | refine aqN ?_ | refine aqQ rfl rfl (fun hg => by first | exact std0 | exact std1) (by exact rfl) ?_)
   all_goals (first | exact dd | skip)
   exact ⟨.inr rfl, Ent.b (by rw [findI_no (p := fun m : Jo.Mark => ((m.kind == 1 && m.layer == 4) && m.version == v) && m.note == n) fun j hj => hall j (by omega)]; rfl)⟩
def mk0 : Jo.Mark := ⟨0, 0, 0, ⟨0, 0, 0⟩, 0, 0, 0, []⟩
def RT (s : Score) (k : Nat) : Store := [.var (encS s), .own 10 k]
set_option maxHeartbeats 32000000 in
set_option maxRecDepth 20000 in
theorem rrestore_spec {s : Score} {l : List Jo.Mark} {sec : Int} {ex : List Int} (h20 : In20 s l sec ex) (id : Int) :
 PCall Tryz.prog 19 [.agg (encS s), .sl 10 (l.map encMk) .no, .int sec, .sl 1 (ex.map eI) .no, .int id] (tupR (restoreR s l sec ex id)) := by
 have c1 := rclashes_spec h20
 obtain ⟨hs, hp, hn, hb, hl, ht, hex, hbl⟩ := h20
 have c2 := r20in_spec id 1 1000000
 rw [show Jo.inR id 1 1000000 = Jo.isId id from rfl] at c2
 by_cases hf : formB s l sec ex = true
 · replace hbl := hbl hf
   rw [show clashesR s l sec ex = (clashes s l sec ex, 0) from if_pos hf] at c1
   have hok : scoreOk s = true := by
    have h := hf
    unfold formB at h
    simp only [zA0] at h
    exact h.1.1.1
   have hmk : marksOk l = true := by
    have h := hf
    unfold formB at h
    simp only [zA0] at h
    exact h.1.1.2
   have hfx := fix_le (s := s) (l := l) (sec := sec) (ex := ex) hbl
   have hgk : ∀ g ∈ clashes s l sec ex, clOk (clOf g) = true ∧ g.length ≤ 20000 := fun g hgg => ⟨clash_ok hok hmk hbl hgg, zBb (grp_len hgg) hbl⟩
   have hcl0 := clashes_len s l sec ex
   have hnil : l = [] → clashes s l sec ex = [] := fun h => by rw [h]; exact clashes_nil0 s sec ex
   have hR : restoreR s l sec ex id = if (!Jo.isId id || l.any fun m => decide (m.id ≥ id)) then (([], 0), 1) else if bigR l.length (fixL (clashes s l sec ex)).length id then (([], 0), 2) else ((resL s.version sec l id (fixL (clashes s l sec ex)), ((fixL (clashes s l sec ex)).length : Int)), 0) := by
    unfold restoreR; rw [if_pos hf]
   rw [hR]
   clear hR hf
   generalize clashes s l sec ex = cs at *
   refine PCall.bodyS tabOk Tryz.func19 rfl rfl Tryz.ntmps19 rfl ?_
   repeat' (first | refine aoQ rfl rfl rfl (fun hg => by first | exact std0 | exact pcW (c1) rfl rfl nd rfl nds | exact std1) (by exact rfl) ?_ | refine sqW ?_ | refine rgK (fun K' hK => ?_) | (refine aoN (hK _ _ ?_); clear hK K') | refine aoE (bxW rfl rfl rfl rfl rfl tI rfl rfl ?_) | refine aoE (stW tabOk rfl rfl rfl tI rfl rfl tI rfl rfl rfl rfl rfl rfl rfl ?_) | refine aoE (alW tabOk rfl rfl rfl rfl rfl rfl ?_) | refine cdN rfl tI (fun hc => ?_) (fun hc => ?_) | refine blK ?_ | refine exW ?_ | refine skW ?_ | refine rtW ?_ | refine dK2 (by decide +kernel) (by kernel_rfl) (by decide +kernel) rfl (fun K' hK => ?_) | refine dL2 (by kernel_rfl) (by decide +kernel) rfl (fun K' hK => ?_) | (refine aqN (hK _ ?_); clear hK K') | refine aqN ?_ | refine aqQ rfl rfl (fun hg => by first | exact std0 | exact pcW (c1) rfl rfl nd rfl nds | exact std1) (by exact rfl) ?_)
   all_goals (first | exact dd | skip)
   clear c1
   refine lpW (ι := Nat) (fun k => [(1, .sl 10 (l.map encMk) .no), (2, .int sec), (4, .int id), (5, .ptr 0 0), (13, .sl 3 (cs.map clE) .no), (15, .int k)]) (fun _ => [.var (encS s)]) (fun k => k ≤ l.length ∧ ∀ j, j < k → decide ((l.getD j default).id ≥ id) = false) (fun k => l.length - k) 0 ⟨nZl _, fun j h => absurd h (by omega)⟩ ⟨rfl, rfl, rfl, rfl, rfl, rfl, tI⟩ rfl ?_
   rintro k ⟨hk, hall⟩
   by_cases hlt : k < l.length
   · obtain ⟨m, hm⟩ : ∃ m, l.getD k default = m := ⟨_, rfl⟩
     repeat' (first | refine aoQ rfl rfl rfl (fun hg => by first | exact iX encMk l ((k : Nat) : Int) hm (hb := by omega) | exact std0 | exact std1) (by exact rfl) ?_ | refine sqW ?_ | refine rgK (fun K' hK => ?_) | (refine aoN (hK _ _ ?_); clear hK K') | refine aoE (bxW rfl rfl rfl rfl rfl tI rfl rfl ?_) | refine aoE (stW tabOk rfl rfl rfl tI rfl rfl tI rfl rfl rfl rfl rfl rfl rfl ?_) | refine aoE (alW tabOk rfl rfl rfl rfl rfl rfl ?_) | refine cdN rfl tI (fun hc => ?_) (fun hc => ?_) | refine blK ?_ | refine exW ?_ | refine skW ?_ | refine rtW ?_ | refine dK2 (by decide +kernel) (by kernel_rfl) (by decide +kernel) rfl (fun K' hK => ?_) | refine dL2 (by kernel_rfl) (by decide +kernel) rfl (fun K' hK => ?_) | (refine aqN (hK _ ?_); clear hK K') | refine aqN ?_ | refine aqQ rfl rfl (fun hg => by first | exact iX encMk l ((k : Nat) : Int) hm (hb := by omega) | exact std0 | exact std1) (by exact rfl) ?_)
     all_goals (first | exact dd | skip)
     · rw [if_pos (by rw [zBe]; right; exact any_getD.2 ⟨k, hlt, by rw [hm]; exact decide_eq_true (by omega)⟩)]
       exact ⟨.inr rfl, _, rfl, entR 1⟩
     · exact ⟨k + 1, ⟨hlt, fun j hj => lt_succ_cases (P := fun j => decide ((l.getD j default).id ≥ id) = false) hall (by rw [hm]; exact decide_eq_false (by omega)) hj⟩, by omega, ⟨rfl, rfl, rfl, rfl, rfl, rfl, tI⟩, rfl⟩
   · obtain rfl : k = l.length := by omega
     have hany : (l.any fun m => decide (m.id ≥ id)) = false := by
      cases h : (l.any fun m => decide (m.id ≥ id)) with
      | false => rfl
      | true =>
        obtain ⟨j, hj, h2⟩ := any_getD.1 h
        rw [hall j hj] at h2; cases h2
     rw [hany, Bool.or_false]
     cases hid : Jo.isId id with
     | false =>
       rw [hid] at c2
       repeat' (first | refine aoQ rfl rfl rfl (fun hg => by first | exact std0 | exact pcW (c2) rfl rfl nd rfl nds | exact std1) (by exact rfl) ?_ | refine sqW ?_ | refine rgK (fun K' hK => ?_) | (refine aoN (hK _ _ ?_); clear hK K') | refine aoE (bxW rfl rfl rfl rfl rfl tI rfl rfl ?_) | refine aoE (stW tabOk rfl rfl rfl tI rfl rfl tI rfl rfl rfl rfl rfl rfl rfl ?_) | refine aoE (alW tabOk rfl rfl rfl rfl rfl rfl ?_) | refine cdN rfl tI (fun hc => ?_) (fun hc => ?_) | refine blK ?_ | refine exW ?_ | refine skW ?_ | refine rtW ?_ | (refine aqN (hK _ ?_); clear hK K') | refine aqN ?_ | refine aqQ rfl rfl (fun hg => by first | exact std0 | exact pcW (c2) rfl rfl nd rfl nds | exact std1) (by exact rfl) ?_)
       all_goals (first | (exfalso; omega) | (exfalso; simp at hc; done) | skip)
       exact ⟨.inr rfl, _, rfl, entR 1⟩
     | true =>
       rw [hid] at c2
       rw [Bool.not_true, if_neg (by decide)]
       have hidr : 1 ≤ id ∧ id ≤ 1000000 := by
        have h := hid
        unfold Jo.isId Jo.inR at h
        simpa using h
       by_cases hne : l = []
       · subst hne
         obtain rfl : cs = [] := hnil rfl
         have hb0 : bigR ([] : List Jo.Mark).length (fixL []).length id = false := by
          show (decide _ || decide _) = false
          rw [zAh]
          refine ⟨rfl, decide_eq_false ?_⟩
          show ¬ id + ((0 : Nat) : Int) - 1 > 1000000
          omega
         rw [hb0, if_neg (by decide)]
         repeat' (first | refine aoQ rfl rfl rfl (fun hg => by first | exact PRun.buildSl0 tabOk rfl rfl | exact std0 | exact pcW (c2) rfl rfl nd rfl nds | exact std1) (by exact rfl) ?_ | refine sqW ?_ | refine rgK (fun K' hK => ?_) | (refine aoN (hK _ _ ?_); clear hK K') | refine aoE (bxW rfl rfl rfl rfl rfl tI rfl rfl ?_) | refine aoE (stW tabOk rfl rfl rfl tI rfl rfl tI rfl rfl rfl rfl rfl rfl rfl ?_) | refine aoE (alW tabOk rfl rfl rfl rfl rfl rfl ?_) | refine aoE (EStep.appendE tabOk rfl rfl rfl (by decide) (Rd.w rfl tI) (Rd.w rfl tI) (.sl rfl (one_encMk [])) (LOk.of (tabOk.get rfl)) (LOk.of (tabOk.get rfl)) rfl ?_) | refine cdN rfl tI (fun hc => ?_) (fun hc => ?_) | refine blK ?_ | refine exW ?_ | refine skW ?_ | refine rtW ?_ | refine dK2 (by decide +kernel) (by kernel_rfl) (by decide +kernel) rfl (fun K' hK => ?_) | refine dL2 (by kernel_rfl) (by decide +kernel) rfl (fun K' hK => ?_) | (refine aqN (hK _ ?_); clear hK K') | refine aqN ?_ | refine aqQ rfl rfl (fun hg => by first | exact PRun.buildSl0 tabOk rfl rfl | exact std0 | exact pcW (c2) rfl rfl nd rfl nds | exact std1) (by exact rfl) ?_)
         all_goals (first | exact dd | skip)
         refine lpW (ι := Nat) (fun _ => [(1, .sl 10 (([] : List Jo.Mark).map encMk) .no), (4, .int id), (13, .sl 3 (([] : List (List Bow)).map clE) .no), (16, .sl 10 (([] : List Jo.Mark).map encMk) .fresh), (17, .int 0)]) (fun _ => [.var (encS s)]) (fun _ => True) (fun _ => 0) 0 tI ⟨rfl, rfl, rfl, rfl, rfl, tI⟩ rfl ?_
         intro _ _
         repeat' (first | refine aoQ rfl rfl rfl (fun hg => by first | exact std0 | exact std1) (by exact rfl) ?_ | refine sqW ?_ | refine rgK (fun K' hK => ?_) | (refine aoN (hK _ _ ?_); clear hK K') | refine aoE (bxW rfl rfl rfl rfl rfl tI rfl rfl ?_) | refine aoE (stW tabOk rfl rfl rfl tI rfl rfl tI rfl rfl rfl rfl rfl rfl rfl ?_) | refine aoE (alW tabOk rfl rfl rfl rfl rfl rfl ?_) | refine cdN rfl tI (fun hc => ?_) (fun hc => ?_) | refine blK ?_ | refine exW ?_ | refine skW ?_ | refine rtW ?_ | refine dK2 (by decide +kernel) (by kernel_rfl) (by decide +kernel) rfl (fun K' hK => ?_) | refine dL2 (by kernel_rfl) (by decide +kernel) rfl (fun K' hK => ?_) | (refine aqN (hK _ ?_); clear hK K') | refine aqN ?_ | refine aqQ rfl rfl (fun hg => by first | exact std0 | exact std1) (by exact rfl) ?_)
         all_goals (first | exact dd | skip)
         exact ⟨.inr rfl, _, rfl, Ent.of rfl⟩
       · have hll : (l.map encMk).length = l.length := by simp
         have hpos : 0 < l.length := List.length_pos_iff.2 hne
         refine AWP.newOwn 10 ?_
         show AWP _ _ _ _ _ (RT s 0)
         repeat' (first | refine aoQ rfl rfl rfl (fun hg => by first | exact PRun.buildSl0 tabOk rfl rfl | exact std0 | exact pcW (c2) rfl rfl nd rfl nds | exact std1) (by exact rfl) ?_ | refine sqW ?_ | refine rgK (fun K' hK => ?_) | (refine aoN (hK _ _ ?_); clear hK K') | refine aoE (bxW rfl rfl rfl rfl rfl tI rfl rfl ?_) | refine aoE (stW tabOk rfl rfl rfl tI rfl rfl tI rfl rfl rfl rfl rfl rfl rfl ?_) | refine aoE (alW tabOk rfl rfl rfl rfl rfl rfl ?_) | refine aoE (EStep.appendAt (l := 1) tabOk rfl rfl rfl (by decide) (Rd.w rfl tI) rfl (Rd.w rfl tI) (.sl rfl (one_encMk _)) (by simp only [hll]; omega) (LOk.of (tabOk.get rfl)) (LOk.of (tabOk.get rfl)) rfl rfl (by simp only [hll]; omega) (by simp only [hll]; omega) ?_) | refine cdN rfl tI (fun hc => ?_) (fun hc => ?_) | refine blK ?_ | refine exW ?_ | refine skW ?_ | refine rtW ?_ | refine dK2 (by decide +kernel) (by kernel_rfl) (by decide +kernel) rfl (fun K' hK => ?_) | refine dL2 (by kernel_rfl) (by decide +kernel) rfl (fun K' hK => ?_) | (refine aqN (hK _ ?_); clear hK K') | refine aqN ?_ | refine aqQ rfl rfl (fun hg => by first | exact PRun.buildSl0 tabOk rfl rfl | exact std0 | exact pcW (c2) rfl rfl nd rfl nds | exact std1) (by exact rfl) ?_)
         all_goals (first | exact dd | skip)
         clear c2
         refine lpD (ι := Nat) (fun k => [(1, .sl 10 (l.map encMk) .no), (2, .int sec), (4, .int id), (5, .ptr 0 0), (13, .sl 3 (cs.map clE) .no), (16, .sl 10 ((resL s.version sec l id (fixL (cs.take k))).map encMk) (.own 1)), (17, .int k)])
          (fun k => RT s ((resL s.version sec l id (fixL (cs.take k))).map encMk).length) (fun k => k ≤ cs.length) (fun k => cs.length - k) 2 (fun _ => rfl) 0 (nZl _)
          ⟨rfl, rfl, rfl, rfl, rfl, (by show AV.sl 10 (l.map encMk) _ = AV.sl 10 ((l ++ []).map encMk) _; rw [zBh]), rfl, tI⟩ (by show RT s _ = RT s ((l ++ []).map encMk).length; rw [zBh]) (fun _ _ => rfl) (fun _ _ => rfl) ?_
         intro k hk
         by_cases hlt : k < cs.length
         · obtain ⟨g, hgg⟩ : ∃ g, cs.getD k default = g := ⟨_, rfl⟩
           obtain ⟨gk, gl⟩ := hgk g (by rw [← hgg]; exact getD_mem hlt)
           have d1 := rchoices_spec (clOf g) (clOf_sized (by omega))
           rw [show choR (clOf g) = ((selC (clOf g), leastC (clOf g)), 0) from if_pos gk, encC_clOf] at d1
           obtain ⟨e1, e2, e3⟩ := clForm_iff (c := clOf g) (by unfold clOk at gk; simp only [zA0] at gk; exact gk.1)
           have d2 := rOthers_spec (clOf g) e1 (by omega) (chose (g.map pairB))
           rw [encC_clOf] at d2
           obtain ⟨r, hr⟩ := sel_chose g
           have hq1 : (selC (clOf g)).getD 0 default = chose (g.map pairB) := by rw [hr]; rfl
           have hq2 : 0 < (selC (clOf g)).length := by rw [hr]; exact zB6 _
           have hfk := hfx k
           have hfk1 := hfx (k + 1)
           rw [fixL_take hlt hgg, fixG_eq, lLa, lLm] at hfk1
           have hnx : fixL (cs.take (k + 1)) = fixL (cs.take k) ++ (oth (psC (clOf g)) (chose (g.map pairB))).map fun n => (n, chose (g.map pairB)) := by rw [fixL_take hlt hgg, fixG_eq]
           generalize leastC (clOf g) = lc at *
           generalize selC (clOf g) = q at *
           generalize chose (g.map pairB) = w at *
           generalize oth (psC (clOf g)) w = o at *
           generalize fixL (cs.take k) = F at *
           clear hr gk e1 e2 e3
           have d1 : PCall Tryz.prog 16 [.agg (clE g)] (.tup [.sl 1 (q.map eI) .no, .int lc, .int 0]) := d1
           repeat' (first | refine aoQ rfl rfl rfl (fun hg => by first | exact PRun.eq (v := .iptr (eI (q.getD (0 : Int).toNat default))) (piW (i := 0) tabOk rfl rfl nd rfl nd rfl rfl ⟨by decide, by omega⟩) (congrArg (fun x => AV.iptr (eI x)) (show q.getD (0 : Int).toNat default = w from hq1)) | exact iX clE cs ((k : Nat) : Int) hgg (hb := by omega) | exact std0 | exact pcW (d1) rfl rfl nd rfl nds | exact pcW (d2) rfl rfl nd rfl nds | exact std1) (by exact rfl) ?_ | refine sqW ?_ | refine rgK (fun K' hK => ?_) | (refine aoN (hK _ _ ?_); clear hK K') | refine aoE (bxW rfl rfl rfl rfl rfl tI rfl rfl ?_) | refine aoE (stW tabOk rfl rfl rfl tI rfl rfl tI rfl rfl rfl rfl rfl rfl rfl ?_) | refine aoE (alW tabOk rfl rfl rfl rfl rfl rfl ?_) | refine cdN rfl tI (fun hc => ?_) (fun hc => ?_) | refine blK ?_ | refine exW ?_ | refine skW ?_ | refine rtW ?_ | refine dK2 (by decide +kernel) (by kernel_rfl) (by decide +kernel) rfl (fun K' hK => ?_) | refine dL2 (by kernel_rfl) (by decide +kernel) rfl (fun K' hK => ?_) | (refine aqN (hK _ ?_); clear hK K') | refine aqN ?_ | refine aqQ rfl rfl (fun hg => by first | exact PRun.eq (v := .iptr (eI (q.getD (0 : Int).toNat default))) (piW (i := 0) tabOk rfl rfl nd rfl nd rfl rfl ⟨by decide, by omega⟩) (congrArg (fun x => AV.iptr (eI x)) (show q.getD (0 : Int).toNat default = w from hq1)) | exact iX clE cs ((k : Nat) : Int) hgg (hb := by omega) | exact std0 | exact pcW (d1) rfl rfl nd rfl nds | exact pcW (d2) rfl rfl nd rfl nds | exact std1) (by exact rfl) ?_)
           all_goals (first | exact dd | skip)
           clear d1 d2
           refine lpD (ι := Nat) (fun j => [(1, .sl 10 (l.map encMk) .no), (2, .int sec), (4, .int id), (5, .ptr 0 0), (13, .sl 3 (cs.map clE) .no), (16, .sl 10 ((resL s.version sec l id (F ++ (o.take j).map fun n => (n, w))).map encMk) (.own 1)), (17, .int k), (18, .sl 1 (q.map eI) .no), (21, .sl 1 (o.map eI) .no), (22, .int j)])
            (fun j => RT s ((resL s.version sec l id (F ++ (o.take j).map fun n => (n, w))).map encMk).length) (fun j => j ≤ o.length) (fun j => o.length - j) 2 (fun _ => rfl) 0 (nZl _)
            ⟨rfl, rfl, rfl, rfl, rfl, (by show AV.sl 10 ((resL s.version sec l id F).map encMk) _ = AV.sl 10 ((resL s.version sec l id (F ++ [])).map encMk) _; rw [zBh]), rfl, rfl, rfl, rfl, tI⟩ (by show _ = RT s ((resL s.version sec l id (F ++ [])).map encMk).length; rw [zBh]; try rfl) (fun _ _ => rfl) (fun _ _ => rfl) ?_
           intro j hj
           by_cases hjl : j < o.length
           · obtain ⟨n, hnn⟩ : ∃ n, o.getD j default = n := ⟨_, rfl⟩
             have hst : resL s.version sec l id (F ++ (o.take (j + 1)).map fun n => (n, w)) = resL s.version sec l id (F ++ (o.take j).map fun n => (n, w)) ++ [newM s.version sec l (id + (F.length + j : Nat)) n w] := by
              unfold resL; rw [news_take hjl hnn, zAt]
             have hcl2 : (resL s.version sec l id (F ++ (o.take j).map fun n => (n, w))).length = l.length + (F.length + j) := by
              unfold resL
              rw [lLa, news_len, lLa, lLm, zAc, Nat.min_eq_left (Nat.le_of_lt hjl)]
             generalize resL s.version sec l id (F ++ (o.take j).map fun n => (n, w)) = R at *
             have k0 := conductor_spec l (by omega) s.version n
             have hM : ∀ a, newM s.version sec l a n w = if condAt l s.version n then ⟨a, 1, 4, ⟨0, 0, 0⟩, s.version, n, w, []⟩ else ⟨a, 1, 3, ⟨sec, 0, 0⟩, s.version, n, w, []⟩ := fun a => rfl
             rw [hM] at hst
             obtain ⟨a, hda⟩ : ∃ a : Int, id + ((R.length : Nat) : Int) - ((l.length : Nat) : Int) = a := ⟨_, rfl⟩
             rw [show id + ((F.length + j : Nat) : Int) = a by omega] at hst
             have e2 : (R.map encMk).length = R.length := lLm ..
             repeat' (first | refine aoQ rfl rfl rfl (fun hg => by first | exact std0 | exact std1) (by exact rfl) ?_ | refine sqW ?_ | refine rgK (fun K' hK => ?_) | (refine aoN (hK _ _ ?_); clear hK K') | refine aoE (bxW rfl rfl rfl rfl rfl tI rfl rfl ?_) | refine aoE (stW tabOk rfl rfl rfl tI rfl rfl tI rfl rfl rfl rfl rfl rfl rfl ?_) | refine aoE (alW tabOk rfl rfl rfl rfl rfl rfl ?_) | refine cdN rfl tI (fun hc => ?_) (fun hc => ?_) | refine blK ?_ | refine exW ?_ | refine skW ?_ | refine rtW ?_ | refine dK2 (by decide +kernel) (by kernel_rfl) (by decide +kernel) rfl (fun K' hK => ?_) | refine dL2 (by kernel_rfl) (by decide +kernel) rfl (fun K' hK => ?_) | (refine aqN (hK _ ?_); clear hK K') | refine aqN ?_ | refine aqQ rfl rfl (fun hg => by first | exact std0 | exact std1) (by exact rfl) ?_)
             all_goals (first | exact dd | skip)
             refine AWP.drawYM effOp (fun y => [.var (encS s), .own 10 (R.map encMk).length] ++ (match y with | 0 => [] | 1 => [.var (encMk mk0)] | _ => [.var (encMk ⟨a, 1, 3, ⟨sec, 0, 0⟩, s.version, n, w, []⟩)])) rfl (by kernel_rfl) (by decide +kernel) rfl (by decide +kernel) (fun K' hK => ?_)
             repeat' (first | refine yqQ rfl rfl rfl (by decide +kernel) rfl rfl (fun k9 h1 h2 hg => by first | exact PRun.eq (PRun.step tabOk rfl sd) (congrArg AV.int hda) | exact PRun.eq (v := .iptr (eI (q.getD (0 : Int).toNat default))) (piW (i := 0) tabOk rfl rfl nd rfl nd rfl rfl ⟨by decide, by omega⟩) (congrArg (fun x => AV.iptr (eI x)) (show q.getD (0 : Int).toNat default = w from hq1)) | exact iX eI o ((j : Nat) : Int) hnn (hb := by omega) | exact std0 | exact pbD tabOk rfl rfl nds | exact std1) (by exact rfl) ?_ | refine yqQ (a := 0) (b := 3) rfl (by decide +kernel) (by decide +kernel) rfl rfl rfl (fun k9 h1 h2 hg => by (have hk : k9 = 0 ∨ k9 = 1 ∨ k9 = 2 ∨ k9 = 3 := (by omega)); (rcases hk with rfl | rfl | rfl | rfl) <;> (first | exact PRun.eq (PRun.step tabOk rfl sd) (congrArg AV.int hda) | exact PRun.eq (v := .iptr (eI (q.getD (0 : Int).toNat default))) (piW (i := 0) tabOk rfl rfl nd rfl nd rfl rfl ⟨by decide, by omega⟩) (congrArg (fun x => AV.iptr (eI x)) (show q.getD (0 : Int).toNat default = w from hq1)) | exact iX eI o ((j : Nat) : Int) hnn (hb := by omega) | exact std0 | exact pbD tabOk rfl rfl nds | exact std1)) (by exact rfl) ?_)
             refine YQ.e (v := .ptr 2 0) (d := some 23) rfl rfl rfl ?_ ?_
             · intro env' he
               exact alW tabOk rfl rfl rfl rfl rfl rfl ⟨rfl, rfl⟩
             repeat' (first | refine yqQ rfl rfl rfl (by decide +kernel) rfl rfl (fun k9 h1 h2 hg => by first | exact std0 | exact std1) (by exact rfl) ?_ | refine yqQ (a := 0) (b := 3) rfl (by decide +kernel) (by decide +kernel) rfl rfl rfl (fun k9 h1 h2 hg => by (have hk : k9 = 0 ∨ k9 = 1 ∨ k9 = 2 ∨ k9 = 3 := (by omega)); (rcases hk with rfl | rfl | rfl | rfl) <;> (first | exact std0 | exact std1)) (by exact rfl) ?_)
             refine YQ.e (v := .any) (d := none) rfl rfl rfl ?_ ?_
             · intro env' he
               exact stW tabOk rfl rfl ((rdv_congr (he 23 (by decide +kernel))).trans rfl) (by rw [rdn_congr (he 23 (by decide +kernel))]; first | exact tI | exact rfl) rfl ((rdv_congr (he 103 (by decide +kernel))).trans rfl) (by rw [rdn_congr (he 103 (by decide +kernel))]; first | exact tI | exact rfl) rfl rfl rfl rfl rfl rfl rfl ⟨rfl, rfl⟩
             repeat' (first | refine yqQ rfl rfl rfl (by decide +kernel) rfl rfl (fun k9 h1 h2 hg => by first | exact std0 | exact std1) (by exact rfl) ?_ | refine yqQ (a := 0) (b := 3) rfl (by decide +kernel) (by decide +kernel) rfl rfl rfl (fun k9 h1 h2 hg => by (have hk : k9 = 0 ∨ k9 = 1 ∨ k9 = 2 ∨ k9 = 3 := (by omega)); (rcases hk with rfl | rfl | rfl | rfl) <;> (first | exact std0 | exact std1)) (by exact rfl) ?_)
             refine YQ.nil (hK _ _ ?_)
             clear hK K'
             show AWP _ _ _ _ _ [.var (encS s), .own 10 (R.map encMk).length, .var (encMk ⟨a, 1, 3, ⟨sec, 0, 0⟩, s.version, n, w, []⟩)]
             cases hcd : condAt l s.version n with
             | true =>
               rw [hcd] at k0
               rw [hcd, if_pos rfl] at hst
               have e1 : (resL s.version sec l id (F ++ (o.take (j + 1)).map fun n => (n, w))).map encMk = R.map encMk ++ [encMk ⟨a, 1, 4, ⟨0, 0, 0⟩, s.version, n, w, []⟩] := by rw [hst, zAe]; rfl
               repeat' (first | refine aoQ rfl rfl rfl (fun hg => by first | exact iX eI o ((j : Nat) : Int) hnn (hb := by omega) | exact std0 | exact pcW (k0) rfl rfl nd rfl nds | exact pbD tabOk rfl rfl nds | exact pbS tabOk rfl rfl nds | exact std1) (by exact rfl) ?_ | refine sqW ?_ | refine rgK (fun K' hK => ?_) | (refine aoN (hK _ _ ?_); clear hK K') | refine aoE (bxW rfl rfl rfl rfl rfl tI rfl rfl ?_) | refine aoE (stW tabOk rfl rfl rfl tI rfl rfl tI rfl rfl rfl rfl rfl rfl rfl ?_) | refine aoE (alW tabOk rfl rfl rfl rfl rfl rfl ?_) | refine aoE (apO tabOk rfl rfl rfl (by decide) (Rd.w rfl tI) rfl (Rd.w rfl tI) (.sl rfl (by first | (intro x hx; rcases zAl.1 hx with rfl; rfl) | exact one_encMk [⟨a, 1, 4, ⟨0, 0, 0⟩, s.version, n, w, []⟩])) (LOk.of (tabOk.get rfl)) (LOk.of (tabOk.get rfl)) rfl rfl (by simp only [lLm, lLa, zA5, zAb, zAc, zAx]; omega) (by simp only [lLm, lLa, zA5, zAb, zAc, zAx]; omega) ?_) | refine cdN rfl tI (fun hc => ?_) (fun hc => ?_) | refine blK ?_ | refine exW ?_ | refine skW ?_ | refine rtW ?_ | refine dK2 (by decide +kernel) (by kernel_rfl) (by decide +kernel) rfl (fun K' hK => ?_) | refine dL2 (by kernel_rfl) (by decide +kernel) rfl (fun K' hK => ?_) | (refine aqN (hK _ ?_); clear hK K') | refine aqN ?_ | refine aqQ rfl rfl (fun hg => by first | exact iX eI o ((j : Nat) : Int) hnn (hb := by omega) | exact std0 | exact pcW (k0) rfl rfl nd rfl nds | exact pbD tabOk rfl rfl nds | exact pbS tabOk rfl rfl nds | exact std1) (by exact rfl) ?_)
               all_goals (first | exact dd | skip)
               exact ⟨j + 1, hjl, by show o.length - (j + 1) < o.length - j; omega, ⟨rfl, rfl, rfl, rfl, rfl, (by rw [e1]; rfl), rfl, rfl, rfl, rfl, tI⟩, by rw [e1]; rfl⟩
             | false =>
               rw [hcd] at k0
               rw [hcd, if_neg (by decide)] at hst
               have e1 : (resL s.version sec l id (F ++ (o.take (j + 1)).map fun n => (n, w))).map encMk = R.map encMk ++ [encMk ⟨a, 1, 3, ⟨sec, 0, 0⟩, s.version, n, w, []⟩] := by rw [hst, zAe]; rfl
               repeat' (first | refine aoQ rfl rfl rfl (fun hg => by first | exact iX eI o ((j : Nat) : Int) hnn (hb := by omega) | exact std0 | exact pcW (k0) rfl rfl nd rfl nds | exact pbD tabOk rfl rfl nds | exact pbS tabOk rfl rfl nds | exact std1) (by exact rfl) ?_ | refine sqW ?_ | refine rgK (fun K' hK => ?_) | (refine aoN (hK _ _ ?_); clear hK K') | refine aoE (bxW rfl rfl rfl rfl rfl tI rfl rfl ?_) | refine aoE (stW tabOk rfl rfl rfl tI rfl rfl tI rfl rfl rfl rfl rfl rfl rfl ?_) | refine aoE (alW tabOk rfl rfl rfl rfl rfl rfl ?_) | refine aoE (apO tabOk rfl rfl rfl (by decide) (Rd.w rfl tI) rfl (Rd.w rfl tI) (.sl rfl (by first | (intro x hx; rcases zAl.1 hx with rfl; rfl) | exact one_encMk [⟨a, 1, 3, ⟨sec, 0, 0⟩, s.version, n, w, []⟩])) (LOk.of (tabOk.get rfl)) (LOk.of (tabOk.get rfl)) rfl rfl (by simp only [lLm, lLa, zA5, zAb, zAc, zAx]; omega) (by simp only [lLm, lLa, zA5, zAb, zAc, zAx]; omega) ?_) | refine cdN rfl tI (fun hc => ?_) (fun hc => ?_) | refine blK ?_ | refine exW ?_ | refine skW ?_ | refine rtW ?_ | refine dK2 (by decide +kernel) (by kernel_rfl) (by decide +kernel) rfl (fun K' hK => ?_) | refine dL2 (by kernel_rfl) (by decide +kernel) rfl (fun K' hK => ?_) | (refine aqN (hK _ ?_); clear hK K') | refine aqN ?_ | refine aqQ rfl rfl (fun hg => by first | exact iX eI o ((j : Nat) : Int) hnn (hb := by omega) | exact std0 | exact pcW (k0) rfl rfl nd rfl nds | exact pbD tabOk rfl rfl nds | exact pbS tabOk rfl rfl nds | exact std1) (by exact rfl) ?_)
               all_goals (first | exact dd | skip)
               exact ⟨j + 1, hjl, by show o.length - (j + 1) < o.length - j; omega, ⟨rfl, rfl, rfl, rfl, rfl, (by rw [e1]; rfl), rfl, rfl, rfl, rfl, tI⟩, by rw [e1]; rfl⟩
           · obtain rfl : j = o.length := by omega
             rw [zAr, ← hnx]
             repeat' (first | refine aoQ rfl rfl rfl (fun hg => by first | exact std0 | exact std1) (by exact rfl) ?_ | refine sqW ?_ | refine rgK (fun K' hK => ?_) | (refine aoN (hK _ _ ?_); clear hK K') | refine aoE (bxW rfl rfl rfl rfl rfl tI rfl rfl ?_) | refine aoE (stW tabOk rfl rfl rfl tI rfl rfl tI rfl rfl rfl rfl rfl rfl rfl ?_) | refine aoE (alW tabOk rfl rfl rfl rfl rfl rfl ?_) | refine cdN rfl tI (fun hc => ?_) (fun hc => ?_) | refine blK ?_ | refine exW ?_ | refine skW ?_ | refine rtW ?_ | refine dK2 (by decide +kernel) (by kernel_rfl) (by decide +kernel) rfl (fun K' hK => ?_) | refine dL2 (by kernel_rfl) (by decide +kernel) rfl (fun K' hK => ?_) | (refine aqN (hK _ ?_); clear hK K') | refine aqN ?_ | refine aqQ rfl rfl (fun hg => by first | exact std0 | exact std1) (by exact rfl) ?_)
             all_goals (first | exact dd | skip)
             exact ⟨k + 1, hlt, by show cs.length - (k + 1) < cs.length - k; omega, ⟨rfl, rfl, rfl, rfl, rfl, rfl, rfl, tI⟩, rfl⟩
         · obtain rfl : k = cs.length := by omega
           have hfk := hfx cs.length
           rw [zAr] at hfk ⊢
           have hrl : (resL s.version sec l id (fixL cs)).length = l.length + (fixL cs).length := by unfold resL; rw [lLa, news_len]
           have hbg : bigR l.length (fixL cs).length id = (decide (((l.length + (fixL cs).length : Nat) : Int) > 20000) || decide (id + (fixL cs).length - 1 > 1000000)) := rfl
           by_cases hbig : bigR l.length (fixL cs).length id = true
           · rw [if_pos hbig]
             repeat' (first | refine aoQ rfl rfl rfl (fun hg => by first | exact std0 | exact std1) (by exact rfl) ?_ | refine sqW ?_ | refine rgK (fun K' hK => ?_) | (refine aoN (hK _ _ ?_); clear hK K') | refine aoE (bxW rfl rfl rfl rfl rfl tI rfl rfl ?_) | refine aoE (stW tabOk rfl rfl rfl tI rfl rfl tI rfl rfl rfl rfl rfl rfl rfl ?_) | refine aoE (alW tabOk rfl rfl rfl rfl rfl rfl ?_) | refine cdN rfl tI (fun hc => ?_) (fun hc => ?_) | refine blK ?_ | refine exW ?_ | refine skW ?_ | refine rtW ?_ | (refine aqN (hK _ ?_); clear hK K') | refine aqN ?_ | refine aqQ rfl rfl (fun hg => by first | exact std0 | exact std1) (by exact rfl) ?_)
             all_goals (first | exact ⟨.inr rfl, _, rfl, entR 2⟩ | (exfalso; omega) | (exfalso; rw [hbg] at hbig; simp only [zBe, dEt] at hbig; simp at hc; omega) | skip)
           · rw [if_neg hbig]
             repeat' (first | refine aoQ rfl rfl rfl (fun hg => by first | exact std0 | exact std1) (by exact rfl) ?_ | refine sqW ?_ | refine rgK (fun K' hK => ?_) | (refine aoN (hK _ _ ?_); clear hK K') | refine aoE (bxW rfl rfl rfl rfl rfl tI rfl rfl ?_) | refine aoE (stW tabOk rfl rfl rfl tI rfl rfl tI rfl rfl rfl rfl rfl rfl rfl ?_) | refine aoE (alW tabOk rfl rfl rfl rfl rfl rfl ?_) | refine cdN rfl tI (fun hc => ?_) (fun hc => ?_) | refine blK ?_ | refine exW ?_ | refine skW ?_ | refine rtW ?_ | (refine aqN (hK _ ?_); clear hK K') | refine aqN ?_ | refine aqQ rfl rfl (fun hg => by first | exact std0 | exact std1) (by exact rfl) ?_)
             all_goals (first | (exfalso; omega) | (exfalso; rw [hbg] at hbig; simp only [zBe, dEt, not_or] at hbig; simp at hc; omega) | skip)
             refine ⟨.inr rfl, _, rfl, Ent.tup rfl fun i u v hu hv => ?_⟩
             match i, hu, hv with
             | 0, hu, hv => cases hu; cases hv; exact Ent.of rfl
             | 1, hu, hv => cases hu; cases hv; exact Ent.int (by first | omega | (simp only [lLm]; omega))
             | 2, hu, hv => cases hu; cases hv; exact Ent.rfl' _
             | i + 3, hu, hv => cases hu
 · rw [show clashesR s l sec ex = ([], 1) from if_neg hf] at c1
   have hR : restoreR s l sec ex id = (([], 0), 1) := if_neg hf
   rw [hR]
   clear c2
   refine PCall.bodyS tabOk Tryz.func19 rfl rfl Tryz.ntmps19 rfl ?_
   repeat' (first | refine aoQ rfl rfl rfl (fun hg => by first | exact std0 | exact pcW (c1) rfl rfl nd rfl nds | exact std1) (by exact rfl) ?_ | refine sqW ?_ | refine rgK (fun K' hK => ?_) | (refine aoN (hK _ _ ?_); clear hK K') | refine aoE (bxW rfl rfl rfl rfl rfl tI rfl rfl ?_) | refine aoE (stW tabOk rfl rfl rfl tI rfl rfl tI rfl rfl rfl rfl rfl rfl rfl ?_) | refine aoE (alW tabOk rfl rfl rfl rfl rfl rfl ?_) | refine cdN rfl tI (fun hc => ?_) (fun hc => ?_) | refine blK ?_ | refine exW ?_ | refine skW ?_ | refine rtW ?_ | (refine aqN (hK _ ?_); clear hK K') | refine aqN ?_ | refine aqQ rfl rfl (fun hg => by first | exact std0 | exact pcW (c1) rfl rfl nd rfl nds | exact std1) (by exact rfl) ?_)
   all_goals (first | (exact ⟨.inr rfl, _, rfl, entR 1⟩) | (exfalso; simp at hc; done))
end Go.Proofs.YtficfljjnbnhbaaGreatDoor.Bw
namespace Go.Proofs.YtficfljjnbnhbaaGreatDoor.Bw
open Go.Ab Mk
def exP20 (k : Int) : Part := ⟨k, 4, 0, 0, 1, ⟨0, 0⟩, ⟨0, 0, 3⟩, ⟨0, 0, 6⟩⟩
def exN20 (k p : Int) : Note := ⟨k, p, 3, 0, 0, ⟨0, 1⟩, ⟨1, 1⟩, ⟨0, 0, 4⟩⟩
def exS20 : Score := ⟨1, [⟨3, ⟨1, 1⟩, 0⟩], [exP20 1, exP20 2], [exN20 5 1, exN20 6 2]⟩
def desk20 (id part note value : Int) : Jo.Mark := ⟨id, 1, 2, ⟨part, 1, 0⟩, 1, note, value, []⟩
def exM20 : List Jo.Mark := [desk20 8 1 5 1, desk20 7 2 6 2]
def exG20 : List Bow := [⟨⟨1, 1, 1⟩, exN20 5 1, 1⟩, ⟨⟨2, 1, 1⟩, exN20 6 2, 2⟩]
theorem ex20_score : scoreOk exS20 = true := by decide +kernel
theorem ex20_marks : marksOk exM20 = true := by decide +kernel
theorem ex20_form4 : formB exS20 exM20 4 [] = true := by unfold formB; rw [ex20_score, ex20_marks]; decide +kernel
theorem ex20_form5 : formB exS20 exM20 5 [] = true := by unfold formB; rw [ex20_score, ex20_marks]; decide +kernel
theorem ex20_form6 : formB exS20 exM20 4 [6] = true := by unfold formB; rw [ex20_score, ex20_marks]; decide +kernel
theorem ex20_clash4 : clashes exS20 exM20 4 [] = [exG20] := by decide +kernel
theorem ex20_clash5 : clashes exS20 exM20 5 [] = [] := by decide +kernel
theorem ex20_clash6 : clashes exS20 exM20 4 [6] = [] := by decide +kernel
theorem ex20_r4 : clashesR exS20 exM20 4 [] = ([exG20], 0) := by unfold clashesR; rw [ex20_form4, ex20_clash4]; rfl
theorem ex20_r5 : clashesR exS20 exM20 5 [] = ([], 0) := by unfold clashesR; rw [ex20_form5, ex20_clash5]; rfl
theorem ex20_r6 : clashesR exS20 exM20 4 [6] = ([], 0) := by unfold clashesR; rw [ex20_form6, ex20_clash6]; rfl
theorem ex20_cho : choR (clOf exG20) = (([1, 2], 1), 0) := by decide +kernel
theorem ex20_cho0 : choR ⟨[], [], []⟩ = (([], 0), 1) := by decide +kernel
theorem ex20_res9 : restoreR exS20 exM20 4 [] 9 = ((exM20 ++ [⟨9, 1, 3, ⟨4, 0, 0⟩, 1, 6, 1, []⟩], 1), 0) := by unfold restoreR; rw [ex20_form4, ex20_clash4]; decide +kernel
theorem ex20_res8 : restoreR exS20 exM20 4 [] 8 = (([], 0), 1) := by unfold restoreR; rw [ex20_form4, ex20_clash4]; decide +kernel
end Go.Proofs.YtficfljjnbnhbaaGreatDoor.Bw
