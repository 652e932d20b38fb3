/- Contracts by content: a tablet takes events.  Contracts by content: sync.Write and Exchange. No statement is proved here. -/
import Derived.Test.YtbneeinknlddaaaGreatQ22
set_option linter.unusedVariables false
set_option linter.unusedSimpArgs false
namespace Go.Proofs.YtbneeinknlddaaaGreat
open Go.Ab Go.Jo Go.Sy
attribute [local irreducible] AWP AOps EStep AQ PStep PRun PCall TCall VCall DStep TDies AWD DCall
def tabAt (t : Sy.Tab) (more : List Ev) (i : Nat) : Sy.Tab := ⟨t.s, t.b ++ cat (more.take i), t.sure, t.up⟩
theorem tabAt_zero (t : Sy.Tab) (more : List Ev) : tabAt t more 0 = t := by
 unfold tabAt
 rw [List.take_zero, show cat [] = [] from rfl, zBp]
theorem append_fit {f : Bs} {e : Ev} (he : evOk e = true) (h : f.length + (fr e).length ≤ 200000) : appendR f e = (f ++ fr e, 0) := by unfold appendR; rw [he, if_pos rfl, if_neg (by omega)]
theorem append_over {f : Bs} {e : Ev} (he : evOk e = true) (h : 200000 < f.length + (fr e).length) : appendR f e = ([], 2) := by unfold appendR; rw [he, if_pos rfl, if_pos h]
theorem take_over {t : Sy.Tab} {more : List Ev} (h : more ≠ [] ∧ 200000 < t.b.length + (cat more).length) : takeT t more = (noTab, 2) := if_pos h
theorem take_bad {t : Sy.Tab} {more : List Ev} (h : ¬ (more ≠ [] ∧ 200000 < t.b.length + (cat more).length)) (h2 : (addE t.s.evs more).2 ≠ 0) : takeT t more = (noTab, (addE t.s.evs more).2) := by unfold takeT; rw [if_neg h, if_pos h2]
theorem take_done {t : Sy.Tab} {more : List Ev} (h : ¬ (more ≠ [] ∧ 200000 < t.b.length + (cat more).length)) (h2 : (addE t.s.evs more).2 = 0) : takeT t more = (⟨{ t.s with evs := (addE t.s.evs more).1, known := knownE (addE t.s.evs more).1 t.s.id }, t.b ++ cat more, t.sure, t.up⟩, 0) := by unfold takeT; rw [if_neg h, if_neg (by rw [h2]; simp)]
set_option maxHeartbeats 3200000 in
set_option maxRecDepth 20000 in
theorem take_spec (t : Sy.Tab) (h : TabIn t) (hid : isId t.s.id = true) (more : List Ev) (hm : ∀ e ∈ more, evOk e = true) (hml : more.length ≤ 100000000) (kf : Nat) (caps : List AV) (hit : IterL Tryz.prog kf [] caps (yEv more) 5) :
 PCall Tryz.prog 25 [.agg (encTab t), .fn (.func kf) [] caps] (tupT (takeT t more)) := by
 have w := bclone_spec t.b h.b
 have hb := h.b
 have ha := eadd_spec t.s.evs more h.txt (Txt.of hm) h.evs (by omega)
 refine PCall.bodyS tabOk Tryz.func25 rfl rfl Tryz.ntmps25 rfl ?_
 repeat' (first | refine aoQ rfl rfl rfl (fun hg => by exact std0) (by exact rfl) ?_ | refine sqW ?_ | refine rgK (fun K' hK => ?_) | (refine aoN (hK _ _ ?_); clear hK K') | refine aoE (bxW rfl rfl rfl rfl rfl tI rfl rfl ?_) | refine aoE (alW tabOk rfl rfl rfl rfl rfl rfl ?_) | refine blK ?_)
 refine AWP.ownNilV (v := 2) (i := 0) (sz := 14) (cs := [.nils]) rfl rfl ?_
 refine AWP.rangeFunc (k := kf) (first := []) (caps := caps) (yEv more) [(2, .ptr 0 0), (4, .ptr 1 0), (6, .ptr 2 0)] (fun j => [.var (encTab t), .var zeroTab, .var [.sl 14 ((more.take j).map encE) (.own 3)], .own 14 ((more.take j).map encE).length]) (fun _ _ _ => False)
  hit rfl tI ?_ ?_ rfl ⟨rfl, rfl, rfl, tI⟩ rfl rfl (fun j _ => ⟨rfl, rfl⟩) (fun _ _ _ h => h.elim) ?_ ?_ (fun _ _ _ _ h => h.elim)
 · intro x hx
   obtain ⟨n, _, rfl⟩ := zC1.1 hx; rfl
 · intro x hx
   obtain ⟨n, _, rfl⟩ := zC1.1 hx; rfl
 · intro j x hx
   simp only [zAd, zA6] at hx
   obtain ⟨n, hn, rfl⟩ := hx
   have hj : j < more.length := by
    rcases nLg j more.length with h | h
    · exact h
    · simp [zA3 h] at hn
   repeat' (first | refine rgK (fun K' hK => ?_) | (refine aoN (hK _ _ ?_); clear hK K') | refine aoE (stW tabOk rfl rfl rfl tI rfl rfl tI rfl rfl rfl rfl rfl rfl rfl ?_) | refine aoE (alW tabOk rfl rfl rfl rfl rfl rfl ?_))
   refine ⟨rfl, ?_⟩
   repeat' (first | refine aoQ rfl rfl rfl (fun hg => by first | exact std0 | exact pbS tabOk rfl rfl nds) (by exact rfl) ?_ | refine rgK (fun K' hK => ?_) | (refine aoN (hK _ _ ?_); clear hK K') | refine aoE (stW tabOk rfl rfl rfl tI rfl rfl tI rfl rfl rfl rfl rfl rfl rfl ?_) | refine aoE (apO tabOk rfl rfl rfl (by decide) (Rd.w rfl tI) rfl (Rd.w rfl tI) (.sl rfl (by first | (intro x hx; rcases zAa.1 hx with rfl; rfl) | exact one_ev _)) (LOk.of (tabOk.get rfl)) (LOk.of (tabOk.get rfl)) rfl rfl (by simp only [lLm, lLa, zA1, zA9, zAk, zAg]; omega) (by simp only [lLm, lLa, zA1, zA9, zAk, zAg]; omega) ?_) | refine blK ?_)
   show [_, _, _, _] = [_, _, _, _]
   have e : more.take (j + 1) = more.take j ++ [n] := by
    rw [List.take_add_one, hn]; rfl
   rw [e, zB3]; rfl
 · rw [lLm, zB1]
   repeat' (first | refine aoQ rfl rfl rfl (fun hg => by first | exact std0 | exact pcW (w) rfl rfl nd rfl nds | exact std1) (by exact rfl) ?_ | refine sqW ?_ | refine rgK (fun K' hK => ?_) | (refine aoN (hK _ _ ?_); clear hK K') | refine aoE (stW tabOk rfl rfl rfl tI rfl rfl tI rfl rfl rfl rfl rfl rfl rfl ?_) | refine blK ?_)
   refine lpD (ι := Nat) (fun i => [(2, .ptr 0 0), (4, .ptr 1 0), (6, .ptr 2 0), (26, .sl 14 (more.map encE) (.own 3)), (27, .int more.length), (28, .int i)]) (fun i => [.var (encTab (tabAt t more i)), .var zeroTab, .var [.sl 14 (more.map encE) (.own 3)], .own 14 (more.map encE).length]) (fun i => i ≤ more.length ∧ (i = 0 ∨ t.b.length + (cat (more.take i)).length ≤ 200000)) (fun i => more.length - i) 4 (fun _ => rfl) 0 ⟨nZl _, .inl rfl⟩ ⟨rfl, rfl, rfl, rfl, rfl, rfl, tI⟩ (by rw [tabAt_zero]; rfl) (fun _ _ => rfl) (fun _ _ => rfl) ?_
   rintro i ⟨hi, hsz⟩
   have hbi : (tabAt t more i).b.length = t.b.length + (cat (more.take i)).length := lLa ..
   have hbb : (tabAt t more i).b.length ≤ 1000000000 := by
    rcases hsz with g | g
    · subst g; rw [tabAt_zero]; exact hb
    · omega
   by_cases hlt : i < more.length
   · have he := hm (more.getD i default) (getD_mem hlt)
     have hcs := cat_take_step hlt
     have hcl : (cat (more.take (i + 1))).length = (cat (more.take i)).length + (fr (more.getD i default)).length := by rw [hcs, lLa]
     have ap := append_spec (tabAt t more i).b (more.getD i default) (by omega) (by have := short_ok he; omega)
     have hts : tabAt t more (i + 1) = ⟨t.s, (tabAt t more i).b ++ fr (more.getD i default), t.sure, t.up⟩ := by
      unfold tabAt
      rw [hcs, zBf]
     have hst : (tabAt t more i).s = t.s := rfl
     by_cases hov : 200000 < (tabAt t more i).b.length + (fr (more.getD i default)).length
     · have hR := take_over (over_of_step (b := t.b) hlt (by omega))
       rw [append_over he hov] at ap
       dsimp only at ap
       generalize tabAt t more i = u at *
       have htk : u.b.take ((u.b.length : Int)).toNat = u.b := by rw [zAh, zB1]
       have ap2 : PCall Tryz.prog 53 [.sl 1 ((u.b.take ((u.b.length : Int)).toNat).map by8) .no, .agg (encE (more.getD i default))] (tupBI [] 2) := by rw [htk]; exact ap
       repeat' (first | refine aoQ rfl rfl rfl (fun hg => by first | exact piW tabOk rfl rfl nd rfl nd rfl rfl ⟨zB4 _, zAf.2 hlt⟩ | exact std0 | exact pbD tabOk rfl rfl nds) (by exact rfl) ?_ | refine sqW ?_ | refine rgK (fun K' hK => ?_) | (refine aoN (hK _ _ ?_); clear hK K') | refine aoE (stW tabOk rfl rfl rfl tI rfl rfl tI rfl rfl rfl rfl rfl rfl rfl ?_) | refine aoE (alW tabOk rfl rfl rfl rfl rfl rfl ?_) | refine cdN rfl tI (fun hc => ?_) (fun hc => ?_) | refine blK ?_ | refine exW ?_ | refine skW ?_ | refine rtW ?_ | refine dK2 (by decide +kernel) (by kernel_rfl) (by decide +kernel) rfl (fun K' hK => ?_) | (refine aqN (hK _ ?_); clear hK K') | refine aqQ rfl rfl (fun hg => by first | exact PRun.slice3M (al := u.b) (f := by8) (j := (u.b.length : Int)) tabOk rfl rfl nd rfl nd rfl nd rfl ⟨by omega, by omega⟩ | exact std0 | exact pcW (ap2) rfl rfl nd rfl nds | exact std1) (by exact rfl) ?_)
       all_goals (first | exact dd | skip)
       refine ⟨.inr rfl, _, rfl, ?_⟩
       rw [hR]
       exact Ent.tup2 ent_no (Ent.rfl' _)
     · rw [append_fit he (by omega)] at ap
       dsimp only at ap
       have hnx : i + 1 = 0 ∨ t.b.length + (cat (more.take (i + 1))).length ≤ 200000 := .inr (by omega)
       generalize hu : tabAt t more i = u at *
       have htk : u.b.take ((u.b.length : Int)).toNat = u.b := by rw [zAh, zB1]
       have ap2 : PCall Tryz.prog 53 [.sl 1 ((u.b.take ((u.b.length : Int)).toNat).map by8) .no, .agg (encE (more.getD i default))] (tupBI (u.b ++ fr (more.getD i default)) 0) := by rw [htk]; exact ap
       repeat' (first | refine aoQ rfl rfl rfl (fun hg => by first | exact piW tabOk rfl rfl nd rfl nd rfl rfl ⟨zB4 _, zAf.2 hlt⟩ | exact std0 | exact pbD tabOk rfl rfl nds) (by exact rfl) ?_ | refine sqW ?_ | refine rgK (fun K' hK => ?_) | (refine aoN (hK _ _ ?_); clear hK K') | refine aoE (stW tabOk rfl rfl rfl tI rfl rfl tI rfl rfl rfl rfl rfl rfl rfl ?_) | refine aoE (alW tabOk rfl rfl rfl rfl rfl rfl ?_) | refine cdN rfl tI (fun hc => ?_) (fun hc => ?_) | refine blK ?_ | refine exW ?_ | refine skW ?_ | refine rtW ?_ | refine dK2 (by decide +kernel) (by kernel_rfl) (by decide +kernel) rfl (fun K' hK => ?_) | (refine aqN (hK _ ?_); clear hK K') | refine aqQ rfl rfl (fun hg => by first | exact PRun.slice3M (al := u.b) (f := by8) (j := (u.b.length : Int)) tabOk rfl rfl nd rfl nd rfl nd rfl ⟨by omega, by omega⟩ | exact std0 | exact pcW (ap2) rfl rfl nd rfl nds | exact std1) (by exact rfl) ?_)
       all_goals (first | exact dd | skip)
       refine ⟨i + 1, ⟨by omega, hnx⟩, by omega, ⟨rfl, rfl, rfl, rfl, rfl, rfl, tI⟩, ?_⟩
       rw [hts]
       have h5 : u.sure = t.sure := by rw [← hu]; rfl
       have h6 : u.up = t.up := by rw [← hu]; rfl
       obtain ⟨us, ub, usu, uup⟩ := u
       dsimp only at hst h5 h6
       subst hst h5 h6
       rfl
   · obtain rfl : i = more.length := by omega
     have hno : ¬ (more ≠ [] ∧ 200000 < t.b.length + (cat more).length) := by
      rintro ⟨g1, g2⟩
      rw [zB1] at hsz
      rcases hsz with g | g
      · exact g1 (zAr g)
      · omega
     have htl : tabAt t more more.length = ⟨t.s, t.b ++ cat more, t.sure, t.up⟩ := by unfold tabAt; rw [zB1]
     rw [htl]
     by_cases h0 : (addE t.s.evs more).2 = 0
     · have hR := take_done hno h0
       obtain ⟨q1, q2, q3, q4, q5⟩ := add_ok h0
       obtain ⟨u1, u2⟩ := un_ok _ _ (validE_iff.1 q1).2.1 q3
       have hve : validE (addE t.s.evs more).1 = true := by
        rw [q5, validE_iff]
        exact ⟨fun e he => ((u2 e).1 he).elim ((validE_iff.1 q1).1 e) (q2 e), u1, q4⟩
       have hkn := known_spec (addE t.s.evs more).1 t.s.id (Txt.of (validE_iff.1 hve).1) (by have := (validE_iff.1 hve).2.2; omega)
       rw [knownR_of hve hid] at hkn
       generalize addE t.s.evs more = A at *
       obtain ⟨A1, A2⟩ := A
       dsimp only at h0
       subst h0
       repeat' (first | refine aoQ rfl rfl rfl (fun hg => by first | exact std0 | exact pcW (ha) rfl rfl nd rfl nds | exact pcW (hkn) rfl rfl nd rfl nds | exact std1) (by exact rfl) ?_ | refine sqW ?_ | refine rgK (fun K' hK => ?_) | (refine aoN (hK _ _ ?_); clear hK K') | refine aoE (stW tabOk rfl rfl rfl tI rfl rfl tI rfl rfl rfl rfl rfl rfl rfl ?_) | refine aoE (alW tabOk rfl rfl rfl rfl rfl rfl ?_) | refine cdN rfl tI (fun hc => ?_) (fun hc => ?_) | refine blK ?_ | refine exW ?_ | refine skW ?_ | refine rtW ?_ | refine dK2 (by decide +kernel) (by kernel_rfl) (by decide +kernel) rfl (fun K' hK => ?_) | refine aqQ rfl rfl (fun hg => by first | exact std0 | exact std1) (by exact rfl) ?_)
       all_goals (first | exact dd | skip)
       refine ⟨.inr rfl, _, rfl, ?_⟩
       rw [hR]
       exact Ent.rfl' _
     · have hR := take_bad hno h0
       generalize addE t.s.evs more = A at *
       repeat' (first | refine aoQ rfl rfl rfl (fun hg => by first | exact std0 | exact pcW (ha) rfl rfl nd rfl nds | exact pbD tabOk rfl rfl nds | exact std1) (by exact rfl) ?_ | refine sqW ?_ | refine rgK (fun K' hK => ?_) | (refine aoN (hK _ _ ?_); clear hK K') | refine aoE (stW tabOk rfl rfl rfl tI rfl rfl tI rfl rfl rfl rfl rfl rfl rfl ?_) | refine aoE (alW tabOk rfl rfl rfl rfl rfl rfl ?_) | refine cdN rfl tI (fun hc => ?_) (fun hc => ?_) | refine blK ?_ | refine exW ?_ | refine skW ?_ | refine rtW ?_ | refine dK2 (by decide +kernel) (by kernel_rfl) (by decide +kernel) rfl (fun K' hK => ?_) | refine aqQ rfl rfl (fun hg => by first | exact std0 | exact std1) (by exact rfl) ?_)
       all_goals first | (exfalso; omega) | skip
       · refine ⟨.inr rfl, _, rfl, ?_⟩
         rw [hR]
         exact Ent.tup2 ent_no (Ent.rfl' _)
       all_goals first | (exfalso; simp at hc; exact h0 hc) | (exfalso; simp at hc; exact hc h0) | skip
theorem later1_spec (x e : Ev) : PCall Tryz.prog 52 [.agg (encE x), .iptr (encE e)] (.b (decide (x.clock ≥ e.clock))) := by
 refine PCall.body Tryz.func52 rfl rfl Tryz.ntmps52 rfl rfl ?_
 repeat' (first | refine aoQ rfl rfl rfl (fun hg => by exact std0) (by exact rfl) ?_ | refine sqW ?_ | refine rgK (fun K' hK => ?_) | (refine aoN (hK _ _ ?_); clear hK K') | refine aoE (bxW rfl rfl rfl rfl rfl tI rfl rfl ?_) | refine rtW ?_)
 exact ⟨.inr rfl, Ent.b rfl⟩
theorem later_any (l : List Ev) (e : Ev) : (!l.any fun x => decide (x.clock ≥ e.clock)) = l.all fun x => decide (x.clock < e.clock) := by
 induction l with
 | nil => rfl
 | cons x l ih =>
   rw [List.any_cons, zCa, Bool.not_or, ih]
   congr 1
   by_cases h : x.clock < e.clock
   · rw [decide_eq_true h, decide_eq_false (by omega)]; rfl
   · rw [decide_eq_false h, decide_eq_true (by omega)]; rfl
theorem later_spec (t : Sy.Tab) (e : Ev) (hl : t.s.evs.length ≤ 1000000000) : PCall Tryz.prog 24 [.agg (encTab t), .agg (encE e)] (.b (laterT t e)) := by
 have w := contEv_spec t.s.evs (.fn (.func 52) [] [.iptr (encE e)]) (fun x => decide (x.clock ≥ e.clock)) (fun x _ => ⟨_, [], [.iptr (encE e)], rfl, later1_spec x e⟩) hl
 unfold laterT
 rw [← later_any]
 refine PCall.body Tryz.func24 rfl rfl Tryz.ntmps24 rfl rfl ?_
 repeat' (first | refine aoQ rfl rfl rfl (fun hg => by first | exact std0 | exact pbW (w) rfl rfl nd rfl rfl nds) (by exact rfl) ?_ | refine sqW ?_ | refine rgK (fun K' hK => ?_) | (refine aoN (hK _ _ ?_); clear hK K') | refine aoE (bxW rfl rfl rfl rfl rfl tI rfl rfl ?_) | refine rtW ?_)
 exact ⟨.inr rfl, Ent.b rfl⟩
theorem write_arg {t : Sy.Tab} {e : Ev} (h : (validT t && decide (e.stand = t.s.id) && validE [e]) = false) : writeT t e = (noTab, 1) := by unfold writeT; rw [h]; rfl
theorem write_state {t : Sy.Tab} {e : Ev} (h : (validT t && decide (e.stand = t.s.id) && validE [e]) = true) (h2 : (t.up && laterT t e) = false) : writeT t e = (noTab, 6) := by unfold writeT; rw [h, if_pos rfl, h2]; rfl
theorem write_take {t : Sy.Tab} {e : Ev} (h : (validT t && decide (e.stand = t.s.id) && validE [e]) = true) (h2 : (t.up && laterT t e) = true) : writeT t e = takeT { t with sure := (t.b.length : Int) } [e] := by unfold writeT; rw [h, if_pos rfl, h2, if_pos rfl]
theorem bneZ (a b : Int) : (a != b) = !decide (a = b) := by by_cases h : a = b <;> simp [h]
set_option maxHeartbeats 3200000 in
set_option maxRecDepth 20000 in
theorem write_spec (t : Sy.Tab) (h : TabIn t) (e : Ev) (he : e.mark.text.length ≤ 9223372036854775807) : PCall Tryz.prog 9 [.agg (encTab t), .agg (encE e)] (tupT (writeT t e)) := by
 have v := tvalid_spec t h
 have x := evalidL_spec [e] (fun y hy => by rw [zAa.1 hy]; exact he) (by simp)
 have y := later_spec t e h.evs
 have z := values_spec [e]
 cases hA : (validT t && decide (e.stand = t.s.id) && validE [e]) with
 | false =>
   have hR := write_arg hA
   refine PCall.bodyS tabOk Tryz.func9 rfl rfl Tryz.ntmps9 rfl ?_
   repeat' (first | refine aoQ rfl rfl rfl (fun hg => by first | exact std0 | exact pcW (v) rfl rfl nd rfl nds | exact pcW (x) rfl rfl nd rfl nds | exact pcW (y) rfl rfl nd rfl nds | exact pbD tabOk rfl rfl nds | exact pbS tabOk rfl rfl nds | exact std1) (by exact rfl) ?_ | refine sqW ?_ | refine rgK (fun K' hK => ?_) | (refine aoN (hK _ _ ?_); clear hK K') | refine aoE (bxW rfl rfl rfl rfl rfl tI rfl rfl ?_) | refine aoE (stW tabOk rfl rfl rfl tI rfl rfl tI rfl rfl rfl rfl rfl rfl rfl ?_) | refine aoE (alW tabOk rfl rfl rfl rfl rfl rfl ?_) | refine cdN rfl tI (fun hc => ?_) (fun hc => ?_) | refine blK ?_ | refine skW ?_ | refine rtW ?_)
   · refine ⟨.inr rfl, _, rfl, ?_⟩
     rw [hR]
     exact Ent.tup2 ent_no (Ent.rfl' _)
   all_goals
    exfalso
    have hc2 : (!validT t || (e.stand != t.s.id) || !validE [e]) = false := by first | assumption | (rename_i g; exact g)
    rw [bneZ] at hc2
    revert hA hc2
    cases validT t <;> cases decide (e.stand = t.s.id) <;> cases validE [e] <;> simp
 | true =>
   have hA2 := hA
   rw [zA2, zA2, dEt] at hA2
   obtain ⟨⟨a1, a2⟩, a3⟩ := hA2
   rw [a1] at v
   rw [a3] at x
   have hd : (!true || (e.stand != t.s.id) || !true) = false := by rw [a2]; simp
   cases hB : (t.up && laterT t e) with
   | false =>
     have hR := write_state hA hB
     refine PCall.bodyS tabOk Tryz.func9 rfl rfl Tryz.ntmps9 rfl ?_
     repeat' (first | refine aoQ rfl rfl rfl (fun hg => by first | exact std0 | exact pcW (v) rfl rfl nd rfl nds | exact pcW (x) rfl rfl nd rfl nds | exact pcW (y) rfl rfl nd rfl nds | exact pbD tabOk rfl rfl nds | exact pbS tabOk rfl rfl nds | exact std1) (by exact rfl) ?_ | refine sqW ?_ | refine rgK (fun K' hK => ?_) | (refine aoN (hK _ _ ?_); clear hK K') | refine aoE (bxW rfl rfl rfl rfl rfl tI rfl rfl ?_) | refine aoE (stW tabOk rfl rfl rfl tI rfl rfl tI rfl rfl rfl rfl rfl rfl rfl ?_) | refine aoE (alW tabOk rfl rfl rfl rfl rfl rfl ?_) | refine cdN rfl tI (fun hc => ?_) (fun hc => ?_) | refine blK ?_ | refine skW ?_ | refine rtW ?_)
     · exfalso; rw [hd] at hc; cases hc
     · refine ⟨.inr rfl, _, rfl, ?_⟩
       rw [hR]
       exact Ent.tup2 ent_no (Ent.rfl' _)
     · exfalso
       have hc2 : (!t.up || !laterT t e) = false := by first | assumption | (rename_i g; exact g)
       revert hB hc2
       cases t.up <;> cases laterT t e <;> simp
   | true =>
     have hR := write_take hA hB
     have hid := (validT_said a1).2.2.2
     have hok : ∀ y ∈ [e], evOk y = true := (validE_iff.1 a3).1
     have w := take_spec { t with sure := (t.b.length : Int) } ⟨h.txt, h.evs, h.b⟩ hid [e] hok (by simp) _ [_] (values_iter [e] (by simp))
     rw [← hR] at w
     generalize writeT t e = W at *
     refine PCall.bodyS tabOk Tryz.func9 rfl rfl Tryz.ntmps9 rfl ?_
     repeat' (first | refine aoQ rfl rfl rfl (fun hg => by first | exact std0 | exact pcW (v) rfl rfl nd rfl nds | exact pcW (x) rfl rfl nd rfl nds | exact pcW (y) rfl rfl nd rfl nds | exact pbD tabOk rfl rfl nds | exact pbS tabOk rfl rfl nds | exact std1) (by exact rfl) ?_ | refine sqW ?_ | refine rgK (fun K' hK => ?_) | (refine aoN (hK _ _ ?_); clear hK K') | refine aoE (bxW rfl rfl rfl rfl rfl tI rfl rfl ?_) | refine aoE (stW tabOk rfl rfl rfl tI rfl rfl tI rfl rfl rfl rfl rfl rfl rfl ?_) | refine aoE (alW tabOk rfl rfl rfl rfl rfl rfl ?_) | refine cdN rfl tI (fun hc => ?_) (fun hc => ?_) | refine blK ?_ | refine skW ?_ | refine rtW ?_)
     · exfalso; rw [hd] at hc; cases hc
     · exfalso
       have hc2 : (!t.up || !laterT t e) = true := hc
       revert hB hc2
       cases t.up <;> cases laterT t e <;> simp
     refine AWP.drawY (fun j => match j with | 0 => [.var (encTab t), .var (encE e), .var zeroTab, .var (encTab (surely t))] | _ => [.var (encTab t), .var (encE e), .var zeroTab, .var (encTab W.1)]) rfl (by kernel_rfl) (by decide +kernel) rfl (by decide +kernel) (fun K' hK => ?_)
     repeat' (first
      | refine yqQ (a := 0) (b := 0) rfl (by decide +kernel) (by decide +kernel) rfl rfl rfl (fun k h1 h2 hg => by (have hk : k = 0 := (by omega)); (rcases hk with rfl) <;> (first | exact std0 | exact pbS tabOk rfl rfl nds | exact pcW (z) rfl rfl nd rfl nds | exact pcW (w) rfl rfl nd rfl nds | exact std1)) (by exact rfl) ?_
      | refine yqQ (a := 0) (b := 1) rfl (by decide +kernel) (by decide +kernel) rfl rfl rfl (fun k h1 h2 hg => by (have hk : k = 0 ∨ k = 1 := (by omega)); (rcases hk with rfl | rfl) <;> (first | exact std0 | exact pbS tabOk rfl rfl nds | exact pcW (z) rfl rfl nd rfl nds | exact pcW (w) rfl rfl nd rfl nds | exact std1)) (by exact rfl) ?_
      | refine yqQ (a := 1) (b := 1) rfl (by decide +kernel) (by decide +kernel) rfl rfl rfl (fun k h1 h2 hg => by (have hk : k = 1 := (by omega)); (rcases hk with rfl) <;> (first | exact std0 | exact pbS tabOk rfl rfl nds | exact pcW (z) rfl rfl nd rfl nds | exact pcW (w) rfl rfl nd rfl nds | exact std1)) (by exact rfl) ?_
      | refine yqQ (a := 0) (b := 2) rfl (by decide +kernel) (by decide +kernel) rfl rfl rfl (fun k h1 h2 hg => by (have hk : k = 0 ∨ k = 1 ∨ k = 2 := (by omega)); (rcases hk with rfl | rfl | rfl) <;> (first | exact std0 | exact pbS tabOk rfl rfl nds | exact pcW (z) rfl rfl nd rfl nds | exact pcW (w) rfl rfl nd rfl nds | exact std1)) (by exact rfl) ?_
      | refine yqQ (a := 1) (b := 2) rfl (by decide +kernel) (by decide +kernel) rfl rfl rfl (fun k h1 h2 hg => by (have hk : k = 1 ∨ k = 2 := (by omega)); (rcases hk with rfl | rfl) <;> (first | exact std0 | exact pbS tabOk rfl rfl nds | exact pcW (z) rfl rfl nd rfl nds | exact pcW (w) rfl rfl nd rfl nds | exact std1)) (by exact rfl) ?_
      | refine yqQ (a := 2) (b := 2) rfl (by decide +kernel) (by decide +kernel) rfl rfl rfl (fun k h1 h2 hg => by (have hk : k = 2 := (by omega)); (rcases hk with rfl) <;> (first | exact std0 | exact pbS tabOk rfl rfl nds | exact pcW (z) rfl rfl nd rfl nds | exact pcW (w) rfl rfl nd rfl nds | exact std1)) (by exact rfl) ?_)
     refine YQ.e (v := .any) (d := none) rfl rfl rfl ?_ ?_
     · intro env' he
       exact stW tabOk rfl rfl ((rdv_congr (he 6 (by decide +kernel))).trans rfl) (by rw [rdn_congr (he 6 (by decide +kernel))]; first | exact tI | exact rfl) rfl ((rdv_congr (he 51 (by decide +kernel))).trans rfl) (by rw [rdn_congr (he 51 (by decide +kernel))]; first | exact tI | exact rfl) rfl rfl rfl rfl rfl rfl rfl ⟨rfl, rfl⟩
     repeat' (first
      | refine yqQ (a := 0) (b := 0) rfl (by decide +kernel) (by decide +kernel) rfl rfl rfl (fun k h1 h2 hg => by (have hk : k = 0 := (by omega)); (rcases hk with rfl) <;> (first | exact std0 | exact pbS tabOk rfl rfl nds | exact pcW (z) rfl rfl nd rfl nds | exact pcW (w) rfl rfl nd rfl nds | exact std1)) (by exact rfl) ?_
      | refine yqQ (a := 0) (b := 1) rfl (by decide +kernel) (by decide +kernel) rfl rfl rfl (fun k h1 h2 hg => by (have hk : k = 0 ∨ k = 1 := (by omega)); (rcases hk with rfl | rfl) <;> (first | exact std0 | exact pbS tabOk rfl rfl nds | exact pcW (z) rfl rfl nd rfl nds | exact pcW (w) rfl rfl nd rfl nds | exact std1)) (by exact rfl) ?_
      | refine yqQ (a := 1) (b := 1) rfl (by decide +kernel) (by decide +kernel) rfl rfl rfl (fun k h1 h2 hg => by (have hk : k = 1 := (by omega)); (rcases hk with rfl) <;> (first | exact std0 | exact pbS tabOk rfl rfl nds | exact pcW (z) rfl rfl nd rfl nds | exact pcW (w) rfl rfl nd rfl nds | exact std1)) (by exact rfl) ?_
      | refine yqQ (a := 0) (b := 2) rfl (by decide +kernel) (by decide +kernel) rfl rfl rfl (fun k h1 h2 hg => by (have hk : k = 0 ∨ k = 1 ∨ k = 2 := (by omega)); (rcases hk with rfl | rfl | rfl) <;> (first | exact std0 | exact pbS tabOk rfl rfl nds | exact pcW (z) rfl rfl nd rfl nds | exact pcW (w) rfl rfl nd rfl nds | exact std1)) (by exact rfl) ?_
      | refine yqQ (a := 1) (b := 2) rfl (by decide +kernel) (by decide +kernel) rfl rfl rfl (fun k h1 h2 hg => by (have hk : k = 1 ∨ k = 2 := (by omega)); (rcases hk with rfl | rfl) <;> (first | exact std0 | exact pbS tabOk rfl rfl nds | exact pcW (z) rfl rfl nd rfl nds | exact pcW (w) rfl rfl nd rfl nds | exact std1)) (by exact rfl) ?_
      | refine yqQ (a := 2) (b := 2) rfl (by decide +kernel) (by decide +kernel) rfl rfl rfl (fun k h1 h2 hg => by (have hk : k = 2 := (by omega)); (rcases hk with rfl) <;> (first | exact std0 | exact pbS tabOk rfl rfl nds | exact pcW (z) rfl rfl nd rfl nds | exact pcW (w) rfl rfl nd rfl nds | exact std1)) (by exact rfl) ?_)
     refine YQ.nil (hK _ _ ?_)
     clear hK K'
     repeat' (first | refine aoQ rfl rfl rfl (fun hg => by exact std0) (by exact rfl) ?_ | refine sqW ?_ | refine rgK (fun K' hK => ?_) | (refine aoN (hK _ _ ?_); clear hK K') | refine aoE (stW tabOk rfl rfl rfl tI rfl rfl tI rfl rfl rfl rfl rfl rfl rfl ?_) | refine rtW ?_)
     exact ⟨.inr rfl, _, rfl, Ent.rfl' _⟩
end Go.Proofs.YtbneeinknlddaaaGreat
