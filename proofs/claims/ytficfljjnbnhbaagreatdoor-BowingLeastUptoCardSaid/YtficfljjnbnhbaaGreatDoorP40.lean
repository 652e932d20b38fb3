/- The law BowingLeast by content. No statement is proved here. -/
import Derived.Test.YtficfljjnbnhbaaGreatDoorP32
set_option linter.unusedVariables false
set_option linter.unusedSimpArgs false
namespace Go.Proofs.YtficfljjnbnhbaaGreatDoor.Bw
open Go.Ab Go.Sort Mk
attribute [local irreducible] AWP AOps EStep AQ PStep PRun PCall TCall VCall DStep TDies AWD DCall
def topN (l : List Jo.Mark) : Nat → Int
 | 0 => 1
 | k + 1 => max (topN l k) ((l.getD k default).id + 1)
theorem topN_above (l : List Jo.Mark) : ∀ k, 1 ≤ topN l k ∧ ∀ j, j < k → (l.getD j default).id < topN l k
 | 0 => ⟨Int.le_refl _, fun j h => by omega⟩
 | k + 1 => by
   obtain ⟨h1, h2⟩ := topN_above l k
   refine ⟨by show 1 ≤ max _ _; omega, fun j hj => ?_⟩
   show _ < max (topN l k) ((l.getD k default).id + 1)
   rcases nLg j k with g | g
   · have := h2 j g; omega
   · obtain rfl : j = k := by omega
     omega
theorem topN_all (l : List Jo.Mark) : (l.any fun m => decide (m.id ≥ topN l l.length)) = false := by
 rw [zDc]
 intro m hm
 obtain ⟨j, hj, rfl⟩ := zAq.1 hm
 have := (topN_above l l.length).2 j hj
 rw [getD_lt hj] at this
 simp; omega
theorem topN_top (l : List Jo.Mark) (h : ∀ m ∈ l, m.id ≤ 1000000) : ∀ k, k ≤ l.length → topN l k ≤ 1000001
 | 0, _ => by show (1 : Int) ≤ _; decide
 | k + 1, hk => by
   have h1 := topN_top l h k (by omega)
   have h2 := h (l.getD k default) (getD_mem (by omega))
   show max (topN l k) ((l.getD k default).id + 1) ≤ _
   omega
theorem mark_id {m : Jo.Mark} (h : Jo.markOk m = true) : 1 ≤ m.id ∧ m.id ≤ 1000000 := by
 unfold Jo.markOk Jo.isId Jo.inR at h
 simp only [zA0, dEt] at h
 omega
set_option maxHeartbeats 32000000 in
set_option maxRecDepth 20000 in
theorem least_law (s : Score) (hs : s.Sized) (l : List Jo.Mark) (hl : l.length ≤ 100000000000) (ht : TextsIn l) (more : List Jo.Mark) (hl2 : more.length ≤ 100000000000) (ht2 : TextsIn more) (sec : Int) (ex : List Int) (hex : ex.length ≤ 9223372036854775807) :
 PCall Tryz.prog 6 [.agg (encS s), .sl 10 (l.map encMk) .no, .sl 10 (more.map encMk) .no, .int sec, .sl 1 (ex.map eI) .no] (.b true) := by
 have hh := head20
 have htA : TextsIn (l ++ more) := fun m hm => (zB5.1 hm).elim (ht m) (ht2 m)
 have hlA : (l ++ more).length = l.length + more.length := lLa
 have u1 := usable20_spec s hs l (by omega) ht sec ex hex
 have u2 := usable20_spec s hs (l ++ more) (by omega) htA sec ex hex
 rw [show ((few20 s l && decide ((ex.length : Int) ≤ 60)) && formB s l sec ex) = use20 s l sec ex from rfl] at u1
 rw [show ((few20 s (l ++ more) && decide ((ex.length : Int) ≤ 60)) && formB s (l ++ more) sec ex) = use20 s (l ++ more) sec ex from rfl] at u2
 have m0 : (l.map encMk).length = l.length := lLm ..
 have m1 : (more.map encMk).length = more.length := lLm ..
 have m2 : l.map encMk ++ more.map encMk = (l ++ more).map encMk := List.map_append.symm
 by_cases hu : more.length ≤ 40 ∧ use20 s l sec ex = true ∧ use20 s (l ++ more) sec ex = true
 · obtain ⟨v1, v2, v3⟩ := hu
   rw [v2] at u1
   rw [v3] at u2
   obtain ⟨w1, w2, hf⟩ := use_parts v2
   obtain ⟨w3, _, hf2⟩ := use_parts v3
   obtain ⟨b1, b2, b3, b4⟩ := few20_iff.1 w1
   obtain ⟨hok, hmk, hsec, f4, f5⟩ := form_parts hf
   obtain ⟨_, hmk2, _, _, _⟩ := form_parts hf2
   have h20 : In20 s l sec ex := in20 w1 ht (by omega)
   have c1 := clashes_spec h20
   have c2 := clashes_ok (in20 w3 htA (by omega)) hf2
   have c3 := restore_spec h20 (topN l l.length) c1
   have hids : ∀ m ∈ l, 1 ≤ m.id ∧ m.id ≤ 1000000 := fun m hm => by
    have h := hmk
    unfold marksOk at h
    simp only [zA0, zA8] at h
    exact mark_id (h.1.1 m hm)
   have htop := topN_top l fun m hm => (hids m hm).2
   have habv := topN_above l
   have hll := least_law0 (sec := sec) (ex := ex) hok hmk2
   have hR : restoreR s l sec ex (topN l l.length) = if Jo.isId (topN l l.length) = true then (if bigR l.length (fixL (clashes s l sec ex)).length (topN l l.length) = true then (([], 0), 2) else ((resL s.version sec l (topN l l.length) (fixL (clashes s l sec ex)), ((fixL (clashes s l sec ex)).length : Int)), 0)) else (([], 0), 1) := by
    unfold restoreR
    rw [if_pos hf, topN_all, Bool.or_false]
    cases Jo.isId (topN l l.length) <;> rfl
   have hid : Jo.isId (topN l l.length) = false → topN l l.length > 1000000 := fun h => by
    unfold Jo.isId Jo.inR at h
    have := (habv l.length).1
    simp at h
    omega
   obtain ⟨A, hA⟩ : ∃ A, l ++ more = A := ⟨_, rfl⟩
   rw [hA] at u2 c2 hll m2 hlA
   generalize clashes s A sec ex = g2 at *
   generalize (fixL (clashes s l sec ex)).length = nf at *
   generalize hx : restoreR s l sec ex (topN l l.length) = R at *
   clear hx c1 hf hf2 h20
   refine PCall.body Tryz.func6 rfl rfl Tryz.ntmps6 rfl rfl ?_
   refine AWP.newOwn 10 ?_
   repeat' (first | refine aoQ rfl rfl rfl (fun hg => by first | exact PRun.buildSl0 tabOk rfl rfl | exact std0 | exact pcW (hh) rfl rfl nd rfl nds | exact std1) (by exact rfl) ?_ | refine sqW ?_ | refine rgK (fun K' hK => ?_) | (refine aoN (hK _ _ ?_); clear hK K') | refine aoE (bxW rfl rfl rfl rfl rfl tI rfl rfl ?_) | refine aoE (stW tabOk rfl rfl rfl tI rfl rfl tI rfl rfl rfl rfl rfl rfl rfl ?_) | refine aoE (alW tabOk rfl rfl rfl rfl rfl rfl ?_) | refine aoE (EStep.appendV (l := 0) (es := []) (m := l.length) (es3 := l.map encMk) tabOk rfl rfl rfl (by decide) (.inr ⟨rfl, rfl⟩) (Rd.w rfl tI) rfl (Rd.w rfl tI) (.sl rfl (one_encMk _)) (LOk.of (tabOk.get rfl)) (LOk.of (tabOk.get rfl)) rfl rfl (by rw [m0]; simp only [zAb]; omega) (by rw [m0]; simp only [zAb]; omega) rfl (by rw [m0]; simp only [zAb]; omega) ?_) | refine cdN rfl tI (fun hc => ?_) (fun hc => ?_) | refine blK ?_ | refine exW ?_ | refine skW ?_ | refine rtW ?_ | refine dK2 (by decide +kernel) (by kernel_rfl) (by decide +kernel) rfl (fun K' hK => ?_) | refine dL2 (by kernel_rfl) (by decide +kernel) rfl (fun K' hK => ?_) | (refine aqN (hK _ ?_); clear hK K') | refine aqN ?_ | refine aqQ rfl rfl (fun hg => by first | exact PRun.buildSl0 tabOk rfl rfl | exact std0 | exact pcW (hh) rfl rfl nd rfl nds | exact std1) (by exact rfl) ?_)
   intro tk1 ht1
   repeat' (first | refine aoQ rfl rfl rfl (fun hg => by first | exact std0 | exact std1) (by exact rfl) ?_ | refine sqW ?_ | refine rgK (fun K' hK => ?_) | (refine aoN (hK _ _ ?_); clear hK K') | refine aoE (bxW rfl rfl rfl rfl rfl tI rfl rfl ?_) | refine aoE (stW tabOk rfl rfl rfl tI rfl rfl tI rfl rfl rfl rfl rfl rfl rfl ?_) | refine aoE (alW tabOk rfl rfl rfl rfl rfl rfl ?_) | refine aoE (EStep.appendV (l := 0) (es := l.map encMk) (m := A.length) (es3 := A.map encMk) tabOk rfl rfl rfl (by decide) ht1 (Rd.w rfl tI) (by rw [m0]; rfl) (Rd.w rfl tI) (.sl rfl (one_encMk _)) (LOk.of (tabOk.get rfl)) (LOk.of (tabOk.get rfl)) rfl rfl (by simp only [m0, m1]; omega) (by simp only [m0, m1]; omega) m2 (by rw [m0, m1]; omega) ?_) | refine cdN rfl tI (fun hc => ?_) (fun hc => ?_) | refine blK ?_ | refine exW ?_ | refine skW ?_ | refine rtW ?_ | refine dK2 (by decide +kernel) (by kernel_rfl) (by decide +kernel) rfl (fun K' hK => ?_) | refine dL2 (by kernel_rfl) (by decide +kernel) rfl (fun K' hK => ?_) | (refine aqN (hK _ ?_); clear hK K') | refine aqN ?_ | refine aqQ rfl rfl (fun hg => by first | exact std0 | exact std1) (by exact rfl) ?_)
   intro tk2 ht2'
   repeat' (first | refine aoQ rfl rfl rfl (fun hg => by first | exact std0 | exact pcW (u1) rfl rfl nd rfl nds | exact pcW (u2) rfl rfl nd rfl nds | exact std1) (by exact rfl) ?_ | refine sqW ?_ | refine rgK (fun K' hK => ?_) | (refine aoN (hK _ _ ?_); clear hK K') | refine aoE (bxW rfl rfl rfl rfl rfl tI rfl rfl ?_) | refine aoE (stW tabOk rfl rfl rfl tI rfl rfl tI rfl rfl rfl rfl rfl rfl rfl ?_) | refine aoE (alW tabOk rfl rfl rfl rfl rfl rfl ?_) | refine cdN rfl tI (fun hc => ?_) (fun hc => ?_) | refine blK ?_ | refine exW ?_ | refine skW ?_ | refine rtW ?_ | refine dK2 (by decide +kernel) (by kernel_rfl) (by decide +kernel) rfl (fun K' hK => ?_) | refine dL2 (by kernel_rfl) (by decide +kernel) rfl (fun K' hK => ?_) | (refine aqN (hK _ ?_); clear hK K') | refine aqN ?_ | refine aqQ rfl rfl (fun hg => by first | exact std0 | exact pcW (u1) rfl rfl nd rfl nds | exact pcW (u2) rfl rfl nd rfl nds | exact std1) (by exact rfl) ?_)
   all_goals (first | exact dd | skip)
   clear hh u1 u2
   refine AWP.unown9 12 rfl ?_
   refine lpD (ι := Nat) (fun i => [(1, .sl 10 (l.map encMk) .no), (2, .sl 10 (more.map encMk) .no), (3, .int sec), (4, .sl 1 (ex.map eI) .no), (5, .ptr 1 0), (11, .b true), (12, .sl 10 (A.map encMk) .no), (13, .int (topN l i)), (14, .int i)]) (fun _ => [.own 10 A.length, .var (encS s)])
    (fun i => i ≤ l.length) (fun i => l.length - i) 2 (fun _ => rfl) 0 (nZl _) ⟨rfl, rfl, rfl, rfl, rfl, rfl, rfl, rfl, rfl, tI⟩ rfl (fun _ _ => rfl) (fun _ _ => rfl) ?_
   intro i hi
   by_cases hlt : i < l.length
   · obtain ⟨m, hm⟩ : ∃ m, l.getD i default = m := ⟨_, rfl⟩
     have hst : topN l (i + 1) = max (topN l i) (m.id + 1) := by rw [← hm]; rfl
     have hb1 := htop i hi
     have hb2 := habv i
     have hb3 := hids m (by rw [← hm]; exact getD_mem hlt)
     repeat' (first | refine aoQ rfl rfl rfl (fun hg => by first | exact iX encMk l ((i : Nat) : Int) hm (hb := by omega) | exact std0 | exact std1) (by exact rfl) ?_ | refine sqW ?_ | refine rgK (fun K' hK => ?_) | (refine aoN (hK _ _ ?_); clear hK K') | refine aoE (bxW rfl rfl rfl rfl rfl tI rfl rfl ?_) | refine aoE (stW tabOk rfl rfl rfl tI rfl rfl tI rfl rfl rfl rfl rfl rfl rfl ?_) | refine aoE (alW tabOk rfl rfl rfl rfl rfl rfl ?_) | refine cdN rfl tI (fun hc => ?_) (fun hc => ?_) | refine blK ?_ | refine exW ?_ | refine skW ?_ | refine rtW ?_ | refine dK2 (by decide +kernel) (by kernel_rfl) (by decide +kernel) rfl (fun K' hK => ?_) | refine dL2 (by kernel_rfl) (by decide +kernel) rfl (fun K' hK => ?_) | (refine aqN (hK _ ?_); clear hK K') | refine aqN ?_ | refine aqQ rfl rfl (fun hg => by first | exact iX encMk l ((i : Nat) : Int) hm (hb := by omega) | exact std0 | exact std1) (by exact rfl) ?_)
     all_goals (first | exact dd | skip)
     exact ⟨i + 1, hlt, by show l.length - (i + 1) < l.length - i; omega, ⟨rfl, rfl, rfl, rfl, rfl, rfl, rfl, (by rw [hst]; rfl), rfl, tI⟩, rfl⟩
   · obtain rfl : i = l.length := by omega
     generalize topN l l.length = t at *
     cases hi1 : Jo.isId t with
     | false =>
       rw [hR, hi1, if_neg (by decide)] at c3
       have := hid hi1
       repeat' (first | refine aoQ rfl rfl rfl (fun hg => by first | exact std0 | exact pcW (c2) rfl rfl nd rfl nds | exact pcW (c3) rfl rfl nd rfl nds | exact std1) (by exact rfl) ?_ | refine sqW ?_ | refine rgK (fun K' hK => ?_) | (refine aoN (hK _ _ ?_); clear hK K') | refine aoE (bxW rfl rfl rfl rfl rfl tI rfl rfl ?_) | refine aoE (stW tabOk rfl rfl rfl tI rfl rfl tI rfl rfl rfl rfl rfl rfl rfl ?_) | refine aoE (alW tabOk rfl rfl rfl rfl rfl rfl ?_) | refine cdN rfl tI (fun hc => ?_) (fun hc => ?_) | refine blK ?_ | refine exW ?_ | refine skW ?_ | refine rtW ?_ | refine dK2 (by decide +kernel) (by kernel_rfl) (by decide +kernel) rfl (fun K' hK => ?_) | refine dL2 (by kernel_rfl) (by decide +kernel) rfl (fun K' hK => ?_) | (refine aqN (hK _ ?_); clear hK K') | refine aqN ?_ | refine aqQ rfl rfl (fun hg => by first | exact std0 | exact pcW (c2) rfl rfl nd rfl nds | exact pcW (c3) rfl rfl nd rfl nds | exact std1) (by exact rfl) ?_)
       all_goals (first | exact dd | skip)
       refine ⟨.inr rfl, Ent.b ?_⟩
       rw [decide_eq_true this]; rfl
     | true =>
       rw [hi1, if_pos rfl] at hR
       cases hb : bigR l.length nf t with
       | true =>
         rw [hR, hb, if_pos rfl] at c3
         repeat' (first | refine aoQ rfl rfl rfl (fun hg => by first | exact std0 | exact pcW (c2) rfl rfl nd rfl nds | exact pcW (c3) rfl rfl nd rfl nds | exact std1) (by exact rfl) ?_ | refine sqW ?_ | refine rgK (fun K' hK => ?_) | (refine aoN (hK _ _ ?_); clear hK K') | refine aoE (bxW rfl rfl rfl rfl rfl tI rfl rfl ?_) | refine aoE (stW tabOk rfl rfl rfl tI rfl rfl tI rfl rfl rfl rfl rfl rfl rfl ?_) | refine aoE (alW tabOk rfl rfl rfl rfl rfl rfl ?_) | refine cdN rfl tI (fun hc => ?_) (fun hc => ?_) | refine blK ?_ | refine exW ?_ | refine skW ?_ | refine rtW ?_ | refine dK2 (by decide +kernel) (by kernel_rfl) (by decide +kernel) rfl (fun K' hK => ?_) | refine dL2 (by kernel_rfl) (by decide +kernel) rfl (fun K' hK => ?_) | (refine aqN (hK _ ?_); clear hK K') | refine aqN ?_ | refine aqQ rfl rfl (fun hg => by first | exact std0 | exact pcW (c2) rfl rfl nd rfl nds | exact pcW (c3) rfl rfl nd rfl nds | exact std1) (by exact rfl) ?_)
         all_goals (first | exact dd | skip)
         exact ⟨.inr rfl, Ent.b rfl⟩
       | false =>
         rw [hR, hb, if_neg (by decide)] at c3
         have hn : (decide (((g2.length : Nat) : Int) > 0) || decide (((more.length : Nat) : Int) ≥ ((nf : Nat) : Int))) = true := by
          cases g2 with
          | nil => rw [decide_eq_true (p := ((more.length : Nat) : Int) ≥ ((nf : Nat) : Int)) (by have := hll rfl; omega)]; simp
          | cons a r => rw [decide_eq_true (by show (((r.length + 1 : Nat)) : Int) > 0; omega)]; rfl
         repeat' (first | refine aoQ rfl rfl rfl (fun hg => by first | exact std0 | exact pcW (c2) rfl rfl nd rfl nds | exact pcW (c3) rfl rfl nd rfl nds | exact std1) (by exact rfl) ?_ | refine sqW ?_ | refine rgK (fun K' hK => ?_) | (refine aoN (hK _ _ ?_); clear hK K') | refine aoE (bxW rfl rfl rfl rfl rfl tI rfl rfl ?_) | refine aoE (stW tabOk rfl rfl rfl tI rfl rfl tI rfl rfl rfl rfl rfl rfl rfl ?_) | refine aoE (alW tabOk rfl rfl rfl rfl rfl rfl ?_) | refine cdN rfl tI (fun hc => ?_) (fun hc => ?_) | refine blK ?_ | refine exW ?_ | refine skW ?_ | refine rtW ?_ | refine dK2 (by decide +kernel) (by kernel_rfl) (by decide +kernel) rfl (fun K' hK => ?_) | refine dL2 (by kernel_rfl) (by decide +kernel) rfl (fun K' hK => ?_) | (refine aqN (hK _ ?_); clear hK K') | refine aqN ?_ | refine aqQ rfl rfl (fun hg => by first | exact std0 | exact pcW (c2) rfl rfl nd rfl nds | exact pcW (c3) rfl rfl nd rfl nds | exact std1) (by exact rfl) ?_)
         all_goals (first | exact dd | skip)
         refine ⟨.inr rfl, Ent.b ?_⟩
         rw [hn]; rfl
 · refine PCall.body Tryz.func6 rfl rfl Tryz.ntmps6 rfl rfl ?_
   refine AWP.newOwn 10 ?_
   repeat' (first | refine aoQ rfl rfl rfl (fun hg => by first | exact PRun.buildSl0 tabOk rfl rfl | exact std0 | exact pcW (hh) rfl rfl nd rfl nds | exact std1) (by exact rfl) ?_ | refine sqW ?_ | refine rgK (fun K' hK => ?_) | (refine aoN (hK _ _ ?_); clear hK K') | refine aoE (bxW rfl rfl rfl rfl rfl tI rfl rfl ?_) | refine aoE (stW tabOk rfl rfl rfl tI rfl rfl tI rfl rfl rfl rfl rfl rfl rfl ?_) | refine aoE (alW tabOk rfl rfl rfl rfl rfl rfl ?_) | refine aoE (EStep.appendV (l := 0) (es := []) (m := l.length) (es3 := l.map encMk) tabOk rfl rfl rfl (by decide) (.inr ⟨rfl, rfl⟩) (Rd.w rfl tI) rfl (Rd.w rfl tI) (.sl rfl (one_encMk _)) (LOk.of (tabOk.get rfl)) (LOk.of (tabOk.get rfl)) rfl rfl (by rw [m0]; simp only [zAb]; omega) (by rw [m0]; simp only [zAb]; omega) rfl (by rw [m0]; simp only [zAb]; omega) ?_) | refine cdN rfl tI (fun hc => ?_) (fun hc => ?_) | refine blK ?_ | refine exW ?_ | refine skW ?_ | refine rtW ?_ | refine dK2 (by decide +kernel) (by kernel_rfl) (by decide +kernel) rfl (fun K' hK => ?_) | refine dL2 (by kernel_rfl) (by decide +kernel) rfl (fun K' hK => ?_) | (refine aqN (hK _ ?_); clear hK K') | refine aqN ?_ | refine aqQ rfl rfl (fun hg => by first | exact PRun.buildSl0 tabOk rfl rfl | exact std0 | exact pcW (hh) rfl rfl nd rfl nds | exact std1) (by exact rfl) ?_)
   intro tk1 ht1
   repeat' (first | refine aoQ rfl rfl rfl (fun hg => by first | exact std0 | exact std1) (by exact rfl) ?_ | refine sqW ?_ | refine rgK (fun K' hK => ?_) | (refine aoN (hK _ _ ?_); clear hK K') | refine aoE (bxW rfl rfl rfl rfl rfl tI rfl rfl ?_) | refine aoE (stW tabOk rfl rfl rfl tI rfl rfl tI rfl rfl rfl rfl rfl rfl rfl ?_) | refine aoE (alW tabOk rfl rfl rfl rfl rfl rfl ?_) | refine aoE (EStep.appendV (l := 0) (es := l.map encMk) (m := (l ++ more).length) (es3 := (l ++ more).map encMk) tabOk rfl rfl rfl (by decide) ht1 (Rd.w rfl tI) (by rw [m0]; rfl) (Rd.w rfl tI) (.sl rfl (one_encMk _)) (LOk.of (tabOk.get rfl)) (LOk.of (tabOk.get rfl)) rfl rfl (by simp only [m0, m1]; omega) (by simp only [m0, m1]; omega) m2 (by rw [m0, m1]; omega) ?_) | refine cdN rfl tI (fun hc => ?_) (fun hc => ?_) | refine blK ?_ | refine exW ?_ | refine skW ?_ | refine rtW ?_ | (refine aqN (hK _ ?_); clear hK K') | refine aqN ?_ | refine aqQ rfl rfl (fun hg => by first | exact std0 | exact std1) (by exact rfl) ?_)
   intro tk2 ht2'
   repeat' (first | refine aoQ rfl rfl rfl (fun hg => by first | exact std0 | exact pcW (u1) rfl rfl nd rfl nds | exact pcW (u2) rfl rfl nd rfl nds | exact std1) (by exact rfl) ?_ | refine sqW ?_ | refine rgK (fun K' hK => ?_) | (refine aoN (hK _ _ ?_); clear hK K') | refine aoE (bxW rfl rfl rfl rfl rfl tI rfl rfl ?_) | refine aoE (stW tabOk rfl rfl rfl tI rfl rfl tI rfl rfl rfl rfl rfl rfl rfl ?_) | refine aoE (alW tabOk rfl rfl rfl rfl rfl rfl ?_) | refine cdN rfl tI (fun hc => ?_) (fun hc => ?_) | refine blK ?_ | refine exW ?_ | refine skW ?_ | refine rtW ?_ | (refine aqN (hK _ ?_); clear hK K') | refine aqN ?_ | refine aqQ rfl rfl (fun hg => by first | exact std0 | exact pcW (u1) rfl rfl nd rfl nds | exact pcW (u2) rfl rfl nd rfl nds | exact std1) (by exact rfl) ?_)
   all_goals (first | (exact ⟨.inr rfl, Ent.b rfl⟩) | skip)
   exfalso
   simp at hc
   exact hu ⟨by omega, hc.1.2, hc.2⟩
end Go.Proofs.YtficfljjnbnhbaaGreatDoor.Bw
