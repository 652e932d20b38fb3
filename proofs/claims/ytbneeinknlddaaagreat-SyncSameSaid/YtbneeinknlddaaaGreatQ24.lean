/- Contracts by content: sync.Exchange. No statement is proved here. -/
import Derived.Test.YtbneeinknlddaaaGreatQ23
set_option linter.unusedVariables false
set_option linter.unusedSimpArgs false
namespace Go.Proofs.YtbneeinknlddaaaGreat
open Go.Ab Go.Jo Go.Sy
attribute [local irreducible] AWP AOps EStep AQ PStep PRun PCall TCall VCall DStep TDies AWD DCall
abbrev tupX (p : Sy.Tab × Sy.Tab × Int) : AV := .tup [.agg (encTab p.1), .agg (encTab p.2.1), .int p.2.2]
theorem ent_no2 (e : Int) : Ent (.tup [.agg zeroTab, .agg zeroTab, .int e]) (tupX (noTab, noTab, e)) := Ent.tup3 ent_no ent_no (Ent.rfl' _)
theorem exch_arg {a b : Sy.Tab} (h : (validT a && validT b && decide (a.s.id ≠ b.s.id)) = false) : exchT a b = (noTab, noTab, 1) := by unfold exchT; rw [h]; rfl
theorem exch_state {a b : Sy.Tab} (h : (validT a && validT b && decide (a.s.id ≠ b.s.id)) = true) (h2 : (a.up && b.up) = false) : exchT a b = (noTab, noTab, 6) := by unfold exchT; rw [h, if_pos rfl, h2]; rfl
theorem exch_add {a b : Sy.Tab} (h : (validT a && validT b && decide (a.s.id ≠ b.s.id)) = true) (h2 : (a.up && b.up) = true) (h3 : (addE a.s.evs b.s.evs).2 ≠ 0) : exchT a b = (noTab, noTab, (addE a.s.evs b.s.evs).2) := by unfold exchT; rw [h, if_pos rfl, h2, if_pos rfl, if_neg h3]
theorem exch_long {a b : Sy.Tab} (h : (validT a && validT b && decide (a.s.id ≠ b.s.id)) = true) (h2 : (a.up && b.up) = true) (h3 : (addE a.s.evs b.s.evs).2 = 0) (h4 : ¬ ((takeT a (missE b.s.evs a.s.evs)).2 = 0 ∧ (takeT b (missE a.s.evs b.s.evs)).2 = 0)) : exchT a b = (noTab, noTab, 2) := by unfold exchT; rw [h, if_pos rfl, h2, if_pos rfl, if_pos h3, if_neg h4]
theorem exch_done {a b : Sy.Tab} (h : (validT a && validT b && decide (a.s.id ≠ b.s.id)) = true) (h2 : (a.up && b.up) = true) (h3 : (addE a.s.evs b.s.evs).2 = 0) (h4 : (takeT a (missE b.s.evs a.s.evs)).2 = 0 ∧ (takeT b (missE a.s.evs b.s.evs)).2 = 0) : exchT a b = (surely (takeT a (missE b.s.evs a.s.evs)).1, surely (takeT b (missE a.s.evs b.s.evs)).1, 0) := by unfold exchT; rw [h, if_pos rfl, h2, if_pos rfl, if_pos h3, if_pos h4]
theorem beqZ (a b : Int) : (a == b) = !decide (a ≠ b) := by by_cases h : a = b <;> simp [h]
theorem miss_ok {l there : List Ev} (h : ∀ e ∈ l, evOk e = true) : ∀ e ∈ missE l there, evOk e = true := fun e he => h e (zBt.1 he).1
theorem validT_evs {t : Sy.Tab} (h : validT t = true) : validE t.s.evs = true := by
 unfold validT validS at h
 simp only [zA2, dEt] at h
 exact h.1.2.1.2.1
set_option maxHeartbeats 6400000 in
set_option maxRecDepth 20000 in
theorem exch_spec (a b : Sy.Tab) (ha : TabIn a) (hb : TabIn b) : PCall Tryz.prog 15 [.agg (encTab a), .agg (encTab b)] (tupX (exchT a b)) := by
 have v := tvalid_spec a ha
 have w := tvalid_spec b hb
 have x := eadd_spec a.s.evs b.s.evs ha.txt hb.txt ha.evs hb.evs
 cases hA : (validT a && validT b && decide (a.s.id ≠ b.s.id)) with
 | false =>
   have hR := exch_arg hA
   refine PCall.bodyS tabOk Tryz.func15 rfl rfl Tryz.ntmps15 rfl ?_
   repeat' (first | refine aoQ rfl rfl rfl (fun hg => by first | exact std0 | exact pcW (v) rfl rfl nd rfl nds | exact pcW (w) rfl rfl nd rfl nds | exact pcW (x) rfl rfl nd rfl nds) (by exact rfl) ?_ | refine sqW ?_ | refine rgK (fun K' hK => ?_) | (refine aoN (hK _ _ ?_); clear hK K') | refine aoE (bxW rfl rfl rfl rfl rfl tI rfl rfl ?_) | refine aoE (alW tabOk rfl rfl rfl rfl rfl rfl ?_) | refine cdN rfl tI (fun hc => ?_) (fun hc => ?_) | refine blK ?_ | refine skW ?_)
   · refine AWP.drawY (fun j => match j with | 0 => [.var (encTab a), .var (encTab b), .var zeroTab, .var zeroTab, .var zeroTab] | 1 => [.var (encTab a), .var (encTab b), .var zeroTab, .var zeroTab, .var zeroTab] | _ => [.var (encTab a), .var (encTab b), .var zeroTab, .var zeroTab, .var zeroTab]) rfl (by kernel_rfl) (by decide +kernel) rfl (by decide +kernel) (fun K' hK => ?_)
     repeat' (first
      | refine yqQ (a := 0) (b := 0) rfl (by decide +kernel) (by decide +kernel) rfl rfl rfl (fun k h1 h2 hg => by (have hk : k = 0 := (by omega)); (rcases hk with rfl) <;> (first | exact std0 | exact std1)) (by exact rfl) ?_
      | refine yqQ (a := 0) (b := 1) rfl (by decide +kernel) (by decide +kernel) rfl rfl rfl (fun k h1 h2 hg => by (have hk : k = 0 ∨ k = 1 := (by omega)); (rcases hk with rfl | rfl) <;> (first | exact std0 | exact std1)) (by exact rfl) ?_
      | refine yqQ (a := 1) (b := 1) rfl (by decide +kernel) (by decide +kernel) rfl rfl rfl (fun k h1 h2 hg => by (have hk : k = 1 := (by omega)); (rcases hk with rfl) <;> (first | exact std0 | exact std1)) (by exact rfl) ?_
      | refine yqQ (a := 0) (b := 2) rfl (by decide +kernel) (by decide +kernel) rfl rfl rfl (fun k h1 h2 hg => by (have hk : k = 0 ∨ k = 1 ∨ k = 2 := (by omega)); (rcases hk with rfl | rfl | rfl) <;> (first | exact std0 | exact std1)) (by exact rfl) ?_
      | refine yqQ (a := 1) (b := 2) rfl (by decide +kernel) (by decide +kernel) rfl rfl rfl (fun k h1 h2 hg => by (have hk : k = 1 ∨ k = 2 := (by omega)); (rcases hk with rfl | rfl) <;> (first | exact std0 | exact std1)) (by exact rfl) ?_
      | refine yqQ (a := 2) (b := 2) rfl (by decide +kernel) (by decide +kernel) rfl rfl rfl (fun k h1 h2 hg => by (have hk : k = 2 := (by omega)); (rcases hk with rfl) <;> (first | exact std0 | exact std1)) (by exact rfl) ?_)
     refine YQ.e (v := .any) (d := none) rfl rfl rfl ?_ ?_
     · intro env' he
       exact stW tabOk rfl rfl ((rdv_congr (he 4 (by decide +kernel))).trans rfl) (by rw [rdn_congr (he 4 (by decide +kernel))]; first | exact tI | exact rfl) rfl ((rdv_congr (he 32 (by decide +kernel))).trans rfl) (by rw [rdn_congr (he 32 (by decide +kernel))]; first | exact tI | exact rfl) rfl rfl rfl rfl rfl rfl rfl ⟨rfl, rfl⟩
     repeat' (first
      | refine yqQ (a := 0) (b := 0) rfl (by decide +kernel) (by decide +kernel) rfl rfl rfl (fun k h1 h2 hg => by (have hk : k = 0 := (by omega)); (rcases hk with rfl) <;> (first | exact std0 | exact std1)) (by exact rfl) ?_
      | refine yqQ (a := 0) (b := 1) rfl (by decide +kernel) (by decide +kernel) rfl rfl rfl (fun k h1 h2 hg => by (have hk : k = 0 ∨ k = 1 := (by omega)); (rcases hk with rfl | rfl) <;> (first | exact std0 | exact std1)) (by exact rfl) ?_
      | refine yqQ (a := 1) (b := 1) rfl (by decide +kernel) (by decide +kernel) rfl rfl rfl (fun k h1 h2 hg => by (have hk : k = 1 := (by omega)); (rcases hk with rfl) <;> (first | exact std0 | exact std1)) (by exact rfl) ?_
      | refine yqQ (a := 0) (b := 2) rfl (by decide +kernel) (by decide +kernel) rfl rfl rfl (fun k h1 h2 hg => by (have hk : k = 0 ∨ k = 1 ∨ k = 2 := (by omega)); (rcases hk with rfl | rfl | rfl) <;> (first | exact std0 | exact std1)) (by exact rfl) ?_
      | refine yqQ (a := 1) (b := 2) rfl (by decide +kernel) (by decide +kernel) rfl rfl rfl (fun k h1 h2 hg => by (have hk : k = 1 ∨ k = 2 := (by omega)); (rcases hk with rfl | rfl) <;> (first | exact std0 | exact std1)) (by exact rfl) ?_
      | refine yqQ (a := 2) (b := 2) rfl (by decide +kernel) (by decide +kernel) rfl rfl rfl (fun k h1 h2 hg => by (have hk : k = 2 := (by omega)); (rcases hk with rfl) <;> (first | exact std0 | exact std1)) (by exact rfl) ?_)
     refine YQ.e (v := .any) (d := none) rfl rfl rfl ?_ ?_
     · intro env' he
       exact stW tabOk rfl rfl ((rdv_congr (he 5 (by decide +kernel))).trans rfl) (by rw [rdn_congr (he 5 (by decide +kernel))]; first | exact tI | exact rfl) rfl ((rdv_congr (he 33 (by decide +kernel))).trans rfl) (by rw [rdn_congr (he 33 (by decide +kernel))]; first | exact tI | exact rfl) rfl rfl rfl rfl rfl rfl rfl ⟨rfl, rfl⟩
     repeat' (first
      | refine yqQ (a := 0) (b := 0) rfl (by decide +kernel) (by decide +kernel) rfl rfl rfl (fun k h1 h2 hg => by (have hk : k = 0 := (by omega)); (rcases hk with rfl) <;> (first | exact std0 | exact std1)) (by exact rfl) ?_
      | refine yqQ (a := 0) (b := 1) rfl (by decide +kernel) (by decide +kernel) rfl rfl rfl (fun k h1 h2 hg => by (have hk : k = 0 ∨ k = 1 := (by omega)); (rcases hk with rfl | rfl) <;> (first | exact std0 | exact std1)) (by exact rfl) ?_
      | refine yqQ (a := 1) (b := 1) rfl (by decide +kernel) (by decide +kernel) rfl rfl rfl (fun k h1 h2 hg => by (have hk : k = 1 := (by omega)); (rcases hk with rfl) <;> (first | exact std0 | exact std1)) (by exact rfl) ?_
      | refine yqQ (a := 0) (b := 2) rfl (by decide +kernel) (by decide +kernel) rfl rfl rfl (fun k h1 h2 hg => by (have hk : k = 0 ∨ k = 1 ∨ k = 2 := (by omega)); (rcases hk with rfl | rfl | rfl) <;> (first | exact std0 | exact std1)) (by exact rfl) ?_
      | refine yqQ (a := 1) (b := 2) rfl (by decide +kernel) (by decide +kernel) rfl rfl rfl (fun k h1 h2 hg => by (have hk : k = 1 ∨ k = 2 := (by omega)); (rcases hk with rfl | rfl) <;> (first | exact std0 | exact std1)) (by exact rfl) ?_
      | refine yqQ (a := 2) (b := 2) rfl (by decide +kernel) (by decide +kernel) rfl rfl rfl (fun k h1 h2 hg => by (have hk : k = 2 := (by omega)); (rcases hk with rfl) <;> (first | exact std0 | exact std1)) (by exact rfl) ?_)
     refine YQ.nil (hK _ _ ?_)
     clear hK K'
     repeat' (first | refine rtW ?_)
     refine ⟨.inr rfl, _, rfl, ?_⟩
     rw [hR]
     exact ent_no2 _
   all_goals
    exfalso
    have hc2 : (!validT a || !validT b || (a.s.id == b.s.id)) = false := by first | assumption | (rename_i g; exact g) | (rename_i g _; exact g) | (rename_i g _ _; exact g)
    rw [beqZ] at hc2
    revert hA hc2
    cases validT a <;> cases validT b <;> cases decide (a.s.id ≠ b.s.id) <;> simp
 | true =>
   have hA2 := hA
   rw [zA2, zA2, dEt] at hA2
   obtain ⟨⟨a1, a2⟩, a3⟩ := hA2
   rw [a1] at v
   rw [a2] at w
   have hd : (!true || !true || (a.s.id == b.s.id)) = false := by rw [beqZ, decide_eq_true a3]; rfl
   cases hB : (a.up && b.up) with
   | false =>
     have hR := exch_state hA hB
     have hd2 : (!a.up || !b.up) = true := by revert hB; cases a.up <;> cases b.up <;> simp
     refine PCall.bodyS tabOk Tryz.func15 rfl rfl Tryz.ntmps15 rfl ?_
     repeat' (first | refine aoQ rfl rfl rfl (fun hg => by first | exact std0 | exact pcW (v) rfl rfl nd rfl nds | exact pcW (w) rfl rfl nd rfl nds) (by exact rfl) ?_ | refine sqW ?_ | refine rgK (fun K' hK => ?_) | (refine aoN (hK _ _ ?_); clear hK K') | refine aoE (bxW rfl rfl rfl rfl rfl tI rfl rfl ?_) | refine aoE (alW tabOk rfl rfl rfl rfl rfl rfl ?_) | refine cdN rfl tI (fun hc => ?_) (fun hc => ?_) | refine blK ?_ | refine skW ?_)
     · exfalso; rw [hd] at hc; cases hc
     · refine AWP.drawY (fun j => match j with | 0 => [.var (encTab a), .var (encTab b), .var zeroTab, .var zeroTab, .var zeroTab] | 1 => [.var (encTab a), .var (encTab b), .var zeroTab, .var zeroTab, .var zeroTab] | _ => [.var (encTab a), .var (encTab b), .var zeroTab, .var zeroTab, .var zeroTab]) rfl (by kernel_rfl) (by decide +kernel) rfl (by decide +kernel) (fun K' hK => ?_)
       repeat' (first
        | refine yqQ (a := 0) (b := 0) rfl (by decide +kernel) (by decide +kernel) rfl rfl rfl (fun k h1 h2 hg => by (have hk : k = 0 := (by omega)); (rcases hk with rfl) <;> (first | exact std0 | exact std1)) (by exact rfl) ?_
        | refine yqQ (a := 0) (b := 1) rfl (by decide +kernel) (by decide +kernel) rfl rfl rfl (fun k h1 h2 hg => by (have hk : k = 0 ∨ k = 1 := (by omega)); (rcases hk with rfl | rfl) <;> (first | exact std0 | exact std1)) (by exact rfl) ?_
        | refine yqQ (a := 1) (b := 1) rfl (by decide +kernel) (by decide +kernel) rfl rfl rfl (fun k h1 h2 hg => by (have hk : k = 1 := (by omega)); (rcases hk with rfl) <;> (first | exact std0 | exact std1)) (by exact rfl) ?_
        | refine yqQ (a := 0) (b := 2) rfl (by decide +kernel) (by decide +kernel) rfl rfl rfl (fun k h1 h2 hg => by (have hk : k = 0 ∨ k = 1 ∨ k = 2 := (by omega)); (rcases hk with rfl | rfl | rfl) <;> (first | exact std0 | exact std1)) (by exact rfl) ?_
        | refine yqQ (a := 1) (b := 2) rfl (by decide +kernel) (by decide +kernel) rfl rfl rfl (fun k h1 h2 hg => by (have hk : k = 1 ∨ k = 2 := (by omega)); (rcases hk with rfl | rfl) <;> (first | exact std0 | exact std1)) (by exact rfl) ?_
        | refine yqQ (a := 2) (b := 2) rfl (by decide +kernel) (by decide +kernel) rfl rfl rfl (fun k h1 h2 hg => by (have hk : k = 2 := (by omega)); (rcases hk with rfl) <;> (first | exact std0 | exact std1)) (by exact rfl) ?_)
       refine YQ.e (v := .any) (d := none) rfl rfl rfl ?_ ?_
       · intro env' he
         exact stW tabOk rfl rfl ((rdv_congr (he 4 (by decide +kernel))).trans rfl) (by rw [rdn_congr (he 4 (by decide +kernel))]; first | exact tI | exact rfl) rfl ((rdv_congr (he 43 (by decide +kernel))).trans rfl) (by rw [rdn_congr (he 43 (by decide +kernel))]; first | exact tI | exact rfl) rfl rfl rfl rfl rfl rfl rfl ⟨rfl, rfl⟩
       repeat' (first
        | refine yqQ (a := 0) (b := 0) rfl (by decide +kernel) (by decide +kernel) rfl rfl rfl (fun k h1 h2 hg => by (have hk : k = 0 := (by omega)); (rcases hk with rfl) <;> (first | exact std0 | exact std1)) (by exact rfl) ?_
        | refine yqQ (a := 0) (b := 1) rfl (by decide +kernel) (by decide +kernel) rfl rfl rfl (fun k h1 h2 hg => by (have hk : k = 0 ∨ k = 1 := (by omega)); (rcases hk with rfl | rfl) <;> (first | exact std0 | exact std1)) (by exact rfl) ?_
        | refine yqQ (a := 1) (b := 1) rfl (by decide +kernel) (by decide +kernel) rfl rfl rfl (fun k h1 h2 hg => by (have hk : k = 1 := (by omega)); (rcases hk with rfl) <;> (first | exact std0 | exact std1)) (by exact rfl) ?_
        | refine yqQ (a := 0) (b := 2) rfl (by decide +kernel) (by decide +kernel) rfl rfl rfl (fun k h1 h2 hg => by (have hk : k = 0 ∨ k = 1 ∨ k = 2 := (by omega)); (rcases hk with rfl | rfl | rfl) <;> (first | exact std0 | exact std1)) (by exact rfl) ?_
        | refine yqQ (a := 1) (b := 2) rfl (by decide +kernel) (by decide +kernel) rfl rfl rfl (fun k h1 h2 hg => by (have hk : k = 1 ∨ k = 2 := (by omega)); (rcases hk with rfl | rfl) <;> (first | exact std0 | exact std1)) (by exact rfl) ?_
        | refine yqQ (a := 2) (b := 2) rfl (by decide +kernel) (by decide +kernel) rfl rfl rfl (fun k h1 h2 hg => by (have hk : k = 2 := (by omega)); (rcases hk with rfl) <;> (first | exact std0 | exact std1)) (by exact rfl) ?_)
       refine YQ.e (v := .any) (d := none) rfl rfl rfl ?_ ?_
       · intro env' he
         exact stW tabOk rfl rfl ((rdv_congr (he 5 (by decide +kernel))).trans rfl) (by rw [rdn_congr (he 5 (by decide +kernel))]; first | exact tI | exact rfl) rfl ((rdv_congr (he 44 (by decide +kernel))).trans rfl) (by rw [rdn_congr (he 44 (by decide +kernel))]; first | exact tI | exact rfl) rfl rfl rfl rfl rfl rfl rfl ⟨rfl, rfl⟩
       repeat' (first
        | refine yqQ (a := 0) (b := 0) rfl (by decide +kernel) (by decide +kernel) rfl rfl rfl (fun k h1 h2 hg => by (have hk : k = 0 := (by omega)); (rcases hk with rfl) <;> (first | exact std0 | exact std1)) (by exact rfl) ?_
        | refine yqQ (a := 0) (b := 1) rfl (by decide +kernel) (by decide +kernel) rfl rfl rfl (fun k h1 h2 hg => by (have hk : k = 0 ∨ k = 1 := (by omega)); (rcases hk with rfl | rfl) <;> (first | exact std0 | exact std1)) (by exact rfl) ?_
        | refine yqQ (a := 1) (b := 1) rfl (by decide +kernel) (by decide +kernel) rfl rfl rfl (fun k h1 h2 hg => by (have hk : k = 1 := (by omega)); (rcases hk with rfl) <;> (first | exact std0 | exact std1)) (by exact rfl) ?_
        | refine yqQ (a := 0) (b := 2) rfl (by decide +kernel) (by decide +kernel) rfl rfl rfl (fun k h1 h2 hg => by (have hk : k = 0 ∨ k = 1 ∨ k = 2 := (by omega)); (rcases hk with rfl | rfl | rfl) <;> (first | exact std0 | exact std1)) (by exact rfl) ?_
        | refine yqQ (a := 1) (b := 2) rfl (by decide +kernel) (by decide +kernel) rfl rfl rfl (fun k h1 h2 hg => by (have hk : k = 1 ∨ k = 2 := (by omega)); (rcases hk with rfl | rfl) <;> (first | exact std0 | exact std1)) (by exact rfl) ?_
        | refine yqQ (a := 2) (b := 2) rfl (by decide +kernel) (by decide +kernel) rfl rfl rfl (fun k h1 h2 hg => by (have hk : k = 2 := (by omega)); (rcases hk with rfl) <;> (first | exact std0 | exact std1)) (by exact rfl) ?_)
       refine YQ.nil (hK _ _ ?_)
       clear hK K'
       repeat' (first | refine rtW ?_)
       refine ⟨.inr rfl, _, rfl, ?_⟩
       rw [hR]
       exact ent_no2 _
     · exfalso; rw [hd2] at hc; cases hc
   | true =>
     have hd2 : (!a.up || !b.up) = false := by revert hB; cases a.up <;> cases b.up <;> simp
     by_cases h3 : (addE a.s.evs b.s.evs).2 = 0
     · have ea := validT_evs a1
       have eb := validT_evs a2
       have oa := (validE_iff.1 ea).1
       have ob := (validE_iff.1 eb).1
       have la := (validE_iff.1 ea).2.2
       have lb := (validE_iff.1 eb).2.2
       have mla := miss_len a.s.evs b.s.evs
       have mlb := miss_len b.s.evs a.s.evs
       have ta := take_spec a ha (validT_said a1).2.2.2 (missE b.s.evs a.s.evs) (miss_ok ob) (by omega) _ [_, _] (missing_iter a b ha.evs hb.evs)
       have tb := take_spec b hb (validT_said a2).2.2.2 (missE a.s.evs b.s.evs) (miss_ok oa) (by omega) _ [_, _] (missing_iter b a hb.evs ha.evs)
       have ma := missing_spec a b
       have mb := missing_spec b a
       have hlong := exch_long hA hB h3
       have hdone := exch_done hA hB h3
       generalize addE a.s.evs b.s.evs = D at *
       generalize takeT a (missE b.s.evs a.s.evs) = X at *
       generalize takeT b (missE a.s.evs b.s.evs) = Y at *
       refine PCall.bodyS tabOk Tryz.func15 rfl rfl Tryz.ntmps15 rfl ?_
       repeat' (first | refine aoQ rfl rfl rfl (fun hg => by first | exact std0 | exact pcW (v) rfl rfl nd rfl nds | exact pcW (w) rfl rfl nd rfl nds | exact pcW (x) rfl rfl nd rfl nds) (by exact rfl) ?_ | refine sqW ?_ | refine rgK (fun K' hK => ?_) | (refine aoN (hK _ _ ?_); clear hK K') | refine aoE (bxW rfl rfl rfl rfl rfl tI rfl rfl ?_) | refine aoE (alW tabOk rfl rfl rfl rfl rfl rfl ?_) | refine cdN rfl tI (fun hc => ?_) (fun hc => ?_) | refine blK ?_ | refine skW ?_)
       · exfalso; rw [hd] at hc; cases hc
       · exfalso; rw [hd2] at hc; cases hc
       · exfalso; rw [h3] at hc; simp at hc
       refine AWP.drawY (fun j => match j with | 0 => [.var (encTab a), .var (encTab b), .var zeroTab, .var zeroTab, .var zeroTab] | 1 => [.var (encTab a), .var (encTab b), .var zeroTab, .var zeroTab, .var zeroTab, .var zeroTab] | _ => [.var (encTab a), .var (encTab b), .var zeroTab, .var zeroTab, .var zeroTab, .var (encTab X.1)]) rfl (by kernel_rfl) (by decide +kernel) rfl (by decide +kernel) (fun K' hK => ?_)
       repeat' (first
        | refine yqQ (a := 0) (b := 0) rfl (by decide +kernel) (by decide +kernel) rfl rfl rfl (fun k h1 h2 hg => by (have hk : k = 0 := (by omega)); (rcases hk with rfl) <;> (first | exact std0 | exact pbD tabOk rfl rfl nds | exact pcW (ma) rfl rfl nd rfl nds | exact pcW (ta) rfl rfl nd rfl nds | exact std1)) (by exact rfl) ?_
        | refine yqQ (a := 0) (b := 1) rfl (by decide +kernel) (by decide +kernel) rfl rfl rfl (fun k h1 h2 hg => by (have hk : k = 0 ∨ k = 1 := (by omega)); (rcases hk with rfl | rfl) <;> (first | exact std0 | exact pbD tabOk rfl rfl nds | exact pcW (ma) rfl rfl nd rfl nds | exact pcW (ta) rfl rfl nd rfl nds | exact std1)) (by exact rfl) ?_
        | refine yqQ (a := 1) (b := 1) rfl (by decide +kernel) (by decide +kernel) rfl rfl rfl (fun k h1 h2 hg => by (have hk : k = 1 := (by omega)); (rcases hk with rfl) <;> (first | exact std0 | exact pbD tabOk rfl rfl nds | exact pcW (ma) rfl rfl nd rfl nds | exact pcW (ta) rfl rfl nd rfl nds | exact std1)) (by exact rfl) ?_
        | refine yqQ (a := 0) (b := 2) rfl (by decide +kernel) (by decide +kernel) rfl rfl rfl (fun k h1 h2 hg => by (have hk : k = 0 ∨ k = 1 ∨ k = 2 := (by omega)); (rcases hk with rfl | rfl | rfl) <;> (first | exact std0 | exact pbD tabOk rfl rfl nds | exact pcW (ma) rfl rfl nd rfl nds | exact pcW (ta) rfl rfl nd rfl nds | exact std1)) (by exact rfl) ?_
        | refine yqQ (a := 1) (b := 2) rfl (by decide +kernel) (by decide +kernel) rfl rfl rfl (fun k h1 h2 hg => by (have hk : k = 1 ∨ k = 2 := (by omega)); (rcases hk with rfl | rfl) <;> (first | exact std0 | exact pbD tabOk rfl rfl nds | exact pcW (ma) rfl rfl nd rfl nds | exact pcW (ta) rfl rfl nd rfl nds | exact std1)) (by exact rfl) ?_
        | refine yqQ (a := 2) (b := 2) rfl (by decide +kernel) (by decide +kernel) rfl rfl rfl (fun k h1 h2 hg => by (have hk : k = 2 := (by omega)); (rcases hk with rfl) <;> (first | exact std0 | exact pbD tabOk rfl rfl nds | exact pcW (ma) rfl rfl nd rfl nds | exact pcW (ta) rfl rfl nd rfl nds | exact std1)) (by exact rfl) ?_)
       refine YQ.e (v := .ptr 5 0) (d := some 10) rfl rfl rfl ?_ ?_
       · intro env' he
         exact alW tabOk rfl rfl rfl rfl rfl rfl ⟨rfl, rfl⟩
       repeat' (first
        | refine yqQ (a := 0) (b := 0) rfl (by decide +kernel) (by decide +kernel) rfl rfl rfl (fun k h1 h2 hg => by (have hk : k = 0 := (by omega)); (rcases hk with rfl) <;> (first | exact std0 | exact pbD tabOk rfl rfl nds | exact pcW (ma) rfl rfl nd rfl nds | exact pcW (ta) rfl rfl nd rfl nds | exact std1)) (by exact rfl) ?_
        | refine yqQ (a := 0) (b := 1) rfl (by decide +kernel) (by decide +kernel) rfl rfl rfl (fun k h1 h2 hg => by (have hk : k = 0 ∨ k = 1 := (by omega)); (rcases hk with rfl | rfl) <;> (first | exact std0 | exact pbD tabOk rfl rfl nds | exact pcW (ma) rfl rfl nd rfl nds | exact pcW (ta) rfl rfl nd rfl nds | exact std1)) (by exact rfl) ?_
        | refine yqQ (a := 1) (b := 1) rfl (by decide +kernel) (by decide +kernel) rfl rfl rfl (fun k h1 h2 hg => by (have hk : k = 1 := (by omega)); (rcases hk with rfl) <;> (first | exact std0 | exact pbD tabOk rfl rfl nds | exact pcW (ma) rfl rfl nd rfl nds | exact pcW (ta) rfl rfl nd rfl nds | exact std1)) (by exact rfl) ?_
        | refine yqQ (a := 0) (b := 2) rfl (by decide +kernel) (by decide +kernel) rfl rfl rfl (fun k h1 h2 hg => by (have hk : k = 0 ∨ k = 1 ∨ k = 2 := (by omega)); (rcases hk with rfl | rfl | rfl) <;> (first | exact std0 | exact pbD tabOk rfl rfl nds | exact pcW (ma) rfl rfl nd rfl nds | exact pcW (ta) rfl rfl nd rfl nds | exact std1)) (by exact rfl) ?_
        | refine yqQ (a := 1) (b := 2) rfl (by decide +kernel) (by decide +kernel) rfl rfl rfl (fun k h1 h2 hg => by (have hk : k = 1 ∨ k = 2 := (by omega)); (rcases hk with rfl | rfl) <;> (first | exact std0 | exact pbD tabOk rfl rfl nds | exact pcW (ma) rfl rfl nd rfl nds | exact pcW (ta) rfl rfl nd rfl nds | exact std1)) (by exact rfl) ?_
        | refine yqQ (a := 2) (b := 2) rfl (by decide +kernel) (by decide +kernel) rfl rfl rfl (fun k h1 h2 hg => by (have hk : k = 2 := (by omega)); (rcases hk with rfl) <;> (first | exact std0 | exact pbD tabOk rfl rfl nds | exact pcW (ma) rfl rfl nd rfl nds | exact pcW (ta) rfl rfl nd rfl nds | exact std1)) (by exact rfl) ?_)
       refine YQ.e (v := .any) (d := none) rfl rfl rfl ?_ ?_
       · intro env' he
         exact stW tabOk rfl rfl ((rdv_congr (he 10 (by decide +kernel))).trans rfl) (by rw [rdn_congr (he 10 (by decide +kernel))]; first | exact tI | exact rfl) rfl ((rdv_congr (he 68 (by decide +kernel))).trans rfl) (by rw [rdn_congr (he 68 (by decide +kernel))]; first | exact tI | exact rfl) rfl rfl rfl rfl rfl rfl rfl ⟨rfl, rfl⟩
       repeat' (first
        | refine yqQ (a := 0) (b := 0) rfl (by decide +kernel) (by decide +kernel) rfl rfl rfl (fun k h1 h2 hg => by (have hk : k = 0 := (by omega)); (rcases hk with rfl) <;> (first | exact std0 | exact pbD tabOk rfl rfl nds | exact pcW (ma) rfl rfl nd rfl nds | exact pcW (ta) rfl rfl nd rfl nds | exact std1)) (by exact rfl) ?_
        | refine yqQ (a := 0) (b := 1) rfl (by decide +kernel) (by decide +kernel) rfl rfl rfl (fun k h1 h2 hg => by (have hk : k = 0 ∨ k = 1 := (by omega)); (rcases hk with rfl | rfl) <;> (first | exact std0 | exact pbD tabOk rfl rfl nds | exact pcW (ma) rfl rfl nd rfl nds | exact pcW (ta) rfl rfl nd rfl nds | exact std1)) (by exact rfl) ?_
        | refine yqQ (a := 1) (b := 1) rfl (by decide +kernel) (by decide +kernel) rfl rfl rfl (fun k h1 h2 hg => by (have hk : k = 1 := (by omega)); (rcases hk with rfl) <;> (first | exact std0 | exact pbD tabOk rfl rfl nds | exact pcW (ma) rfl rfl nd rfl nds | exact pcW (ta) rfl rfl nd rfl nds | exact std1)) (by exact rfl) ?_
        | refine yqQ (a := 0) (b := 2) rfl (by decide +kernel) (by decide +kernel) rfl rfl rfl (fun k h1 h2 hg => by (have hk : k = 0 ∨ k = 1 ∨ k = 2 := (by omega)); (rcases hk with rfl | rfl | rfl) <;> (first | exact std0 | exact pbD tabOk rfl rfl nds | exact pcW (ma) rfl rfl nd rfl nds | exact pcW (ta) rfl rfl nd rfl nds | exact std1)) (by exact rfl) ?_
        | refine yqQ (a := 1) (b := 2) rfl (by decide +kernel) (by decide +kernel) rfl rfl rfl (fun k h1 h2 hg => by (have hk : k = 1 ∨ k = 2 := (by omega)); (rcases hk with rfl | rfl) <;> (first | exact std0 | exact pbD tabOk rfl rfl nds | exact pcW (ma) rfl rfl nd rfl nds | exact pcW (ta) rfl rfl nd rfl nds | exact std1)) (by exact rfl) ?_
        | refine yqQ (a := 2) (b := 2) rfl (by decide +kernel) (by decide +kernel) rfl rfl rfl (fun k h1 h2 hg => by (have hk : k = 2 := (by omega)); (rcases hk with rfl) <;> (first | exact std0 | exact pbD tabOk rfl rfl nds | exact pcW (ma) rfl rfl nd rfl nds | exact pcW (ta) rfl rfl nd rfl nds | exact std1)) (by exact rfl) ?_)
       refine YQ.nil (hK _ _ ?_)
       clear hK K'
       repeat' (first | refine sqW ?_)
       refine AWP.drawY (fun j => match j with | 0 => [.var (encTab a), .var (encTab b), .var zeroTab, .var zeroTab, .var zeroTab, .var (encTab X.1)] | 1 => [.var (encTab a), .var (encTab b), .var zeroTab, .var zeroTab, .var zeroTab, .var (encTab X.1), .var zeroTab] | _ => [.var (encTab a), .var (encTab b), .var zeroTab, .var zeroTab, .var zeroTab, .var (encTab X.1), .var (encTab Y.1)]) rfl (by kernel_rfl) (by decide +kernel) rfl (by decide +kernel) (fun K' hK => ?_)
       repeat' (first
        | refine yqQ (a := 0) (b := 0) rfl (by decide +kernel) (by decide +kernel) rfl rfl rfl (fun k h1 h2 hg => by (have hk : k = 0 := (by omega)); (rcases hk with rfl) <;> (first | exact std0 | exact pbD tabOk rfl rfl nds | exact pcW (mb) rfl rfl nd rfl nds | exact pcW (tb) rfl rfl nd rfl nds | exact std1)) (by exact rfl) ?_
        | refine yqQ (a := 0) (b := 1) rfl (by decide +kernel) (by decide +kernel) rfl rfl rfl (fun k h1 h2 hg => by (have hk : k = 0 ∨ k = 1 := (by omega)); (rcases hk with rfl | rfl) <;> (first | exact std0 | exact pbD tabOk rfl rfl nds | exact pcW (mb) rfl rfl nd rfl nds | exact pcW (tb) rfl rfl nd rfl nds | exact std1)) (by exact rfl) ?_
        | refine yqQ (a := 1) (b := 1) rfl (by decide +kernel) (by decide +kernel) rfl rfl rfl (fun k h1 h2 hg => by (have hk : k = 1 := (by omega)); (rcases hk with rfl) <;> (first | exact std0 | exact pbD tabOk rfl rfl nds | exact pcW (mb) rfl rfl nd rfl nds | exact pcW (tb) rfl rfl nd rfl nds | exact std1)) (by exact rfl) ?_
        | refine yqQ (a := 0) (b := 2) rfl (by decide +kernel) (by decide +kernel) rfl rfl rfl (fun k h1 h2 hg => by (have hk : k = 0 ∨ k = 1 ∨ k = 2 := (by omega)); (rcases hk with rfl | rfl | rfl) <;> (first | exact std0 | exact pbD tabOk rfl rfl nds | exact pcW (mb) rfl rfl nd rfl nds | exact pcW (tb) rfl rfl nd rfl nds | exact std1)) (by exact rfl) ?_
        | refine yqQ (a := 1) (b := 2) rfl (by decide +kernel) (by decide +kernel) rfl rfl rfl (fun k h1 h2 hg => by (have hk : k = 1 ∨ k = 2 := (by omega)); (rcases hk with rfl | rfl) <;> (first | exact std0 | exact pbD tabOk rfl rfl nds | exact pcW (mb) rfl rfl nd rfl nds | exact pcW (tb) rfl rfl nd rfl nds | exact std1)) (by exact rfl) ?_
        | refine yqQ (a := 2) (b := 2) rfl (by decide +kernel) (by decide +kernel) rfl rfl rfl (fun k h1 h2 hg => by (have hk : k = 2 := (by omega)); (rcases hk with rfl) <;> (first | exact std0 | exact pbD tabOk rfl rfl nds | exact pcW (mb) rfl rfl nd rfl nds | exact pcW (tb) rfl rfl nd rfl nds | exact std1)) (by exact rfl) ?_)
       refine YQ.e (v := .ptr 6 0) (d := some 12) rfl rfl rfl ?_ ?_
       · intro env' he
         exact alW tabOk rfl rfl rfl rfl rfl rfl ⟨rfl, rfl⟩
       repeat' (first
        | refine yqQ (a := 0) (b := 0) rfl (by decide +kernel) (by decide +kernel) rfl rfl rfl (fun k h1 h2 hg => by (have hk : k = 0 := (by omega)); (rcases hk with rfl) <;> (first | exact std0 | exact pbD tabOk rfl rfl nds | exact pcW (mb) rfl rfl nd rfl nds | exact pcW (tb) rfl rfl nd rfl nds | exact std1)) (by exact rfl) ?_
        | refine yqQ (a := 0) (b := 1) rfl (by decide +kernel) (by decide +kernel) rfl rfl rfl (fun k h1 h2 hg => by (have hk : k = 0 ∨ k = 1 := (by omega)); (rcases hk with rfl | rfl) <;> (first | exact std0 | exact pbD tabOk rfl rfl nds | exact pcW (mb) rfl rfl nd rfl nds | exact pcW (tb) rfl rfl nd rfl nds | exact std1)) (by exact rfl) ?_
        | refine yqQ (a := 1) (b := 1) rfl (by decide +kernel) (by decide +kernel) rfl rfl rfl (fun k h1 h2 hg => by (have hk : k = 1 := (by omega)); (rcases hk with rfl) <;> (first | exact std0 | exact pbD tabOk rfl rfl nds | exact pcW (mb) rfl rfl nd rfl nds | exact pcW (tb) rfl rfl nd rfl nds | exact std1)) (by exact rfl) ?_
        | refine yqQ (a := 0) (b := 2) rfl (by decide +kernel) (by decide +kernel) rfl rfl rfl (fun k h1 h2 hg => by (have hk : k = 0 ∨ k = 1 ∨ k = 2 := (by omega)); (rcases hk with rfl | rfl | rfl) <;> (first | exact std0 | exact pbD tabOk rfl rfl nds | exact pcW (mb) rfl rfl nd rfl nds | exact pcW (tb) rfl rfl nd rfl nds | exact std1)) (by exact rfl) ?_
        | refine yqQ (a := 1) (b := 2) rfl (by decide +kernel) (by decide +kernel) rfl rfl rfl (fun k h1 h2 hg => by (have hk : k = 1 ∨ k = 2 := (by omega)); (rcases hk with rfl | rfl) <;> (first | exact std0 | exact pbD tabOk rfl rfl nds | exact pcW (mb) rfl rfl nd rfl nds | exact pcW (tb) rfl rfl nd rfl nds | exact std1)) (by exact rfl) ?_
        | refine yqQ (a := 2) (b := 2) rfl (by decide +kernel) (by decide +kernel) rfl rfl rfl (fun k h1 h2 hg => by (have hk : k = 2 := (by omega)); (rcases hk with rfl) <;> (first | exact std0 | exact pbD tabOk rfl rfl nds | exact pcW (mb) rfl rfl nd rfl nds | exact pcW (tb) rfl rfl nd rfl nds | exact std1)) (by exact rfl) ?_)
       refine YQ.e (v := .any) (d := none) rfl rfl rfl ?_ ?_
       · intro env' he
         exact stW tabOk rfl rfl ((rdv_congr (he 12 (by decide +kernel))).trans rfl) (by rw [rdn_congr (he 12 (by decide +kernel))]; first | exact tI | exact rfl) rfl ((rdv_congr (he 78 (by decide +kernel))).trans rfl) (by rw [rdn_congr (he 78 (by decide +kernel))]; first | exact tI | exact rfl) rfl rfl rfl rfl rfl rfl rfl ⟨rfl, rfl⟩
       repeat' (first
        | refine yqQ (a := 0) (b := 0) rfl (by decide +kernel) (by decide +kernel) rfl rfl rfl (fun k h1 h2 hg => by (have hk : k = 0 := (by omega)); (rcases hk with rfl) <;> (first | exact std0 | exact pbD tabOk rfl rfl nds | exact pcW (mb) rfl rfl nd rfl nds | exact pcW (tb) rfl rfl nd rfl nds | exact std1)) (by exact rfl) ?_
        | refine yqQ (a := 0) (b := 1) rfl (by decide +kernel) (by decide +kernel) rfl rfl rfl (fun k h1 h2 hg => by (have hk : k = 0 ∨ k = 1 := (by omega)); (rcases hk with rfl | rfl) <;> (first | exact std0 | exact pbD tabOk rfl rfl nds | exact pcW (mb) rfl rfl nd rfl nds | exact pcW (tb) rfl rfl nd rfl nds | exact std1)) (by exact rfl) ?_
        | refine yqQ (a := 1) (b := 1) rfl (by decide +kernel) (by decide +kernel) rfl rfl rfl (fun k h1 h2 hg => by (have hk : k = 1 := (by omega)); (rcases hk with rfl) <;> (first | exact std0 | exact pbD tabOk rfl rfl nds | exact pcW (mb) rfl rfl nd rfl nds | exact pcW (tb) rfl rfl nd rfl nds | exact std1)) (by exact rfl) ?_
        | refine yqQ (a := 0) (b := 2) rfl (by decide +kernel) (by decide +kernel) rfl rfl rfl (fun k h1 h2 hg => by (have hk : k = 0 ∨ k = 1 ∨ k = 2 := (by omega)); (rcases hk with rfl | rfl | rfl) <;> (first | exact std0 | exact pbD tabOk rfl rfl nds | exact pcW (mb) rfl rfl nd rfl nds | exact pcW (tb) rfl rfl nd rfl nds | exact std1)) (by exact rfl) ?_
        | refine yqQ (a := 1) (b := 2) rfl (by decide +kernel) (by decide +kernel) rfl rfl rfl (fun k h1 h2 hg => by (have hk : k = 1 ∨ k = 2 := (by omega)); (rcases hk with rfl | rfl) <;> (first | exact std0 | exact pbD tabOk rfl rfl nds | exact pcW (mb) rfl rfl nd rfl nds | exact pcW (tb) rfl rfl nd rfl nds | exact std1)) (by exact rfl) ?_
        | refine yqQ (a := 2) (b := 2) rfl (by decide +kernel) (by decide +kernel) rfl rfl rfl (fun k h1 h2 hg => by (have hk : k = 2 := (by omega)); (rcases hk with rfl) <;> (first | exact std0 | exact pbD tabOk rfl rfl nds | exact pcW (mb) rfl rfl nd rfl nds | exact pcW (tb) rfl rfl nd rfl nds | exact std1)) (by exact rfl) ?_)
       refine YQ.nil (hK _ _ ?_)
       clear hK K'
       repeat' (first | refine aoQ rfl rfl rfl (fun hg => by exact std0) (by exact rfl) ?_ | refine sqW ?_ | refine rgK (fun K' hK => ?_) | (refine aoN (hK _ _ ?_); clear hK K') | refine cdN rfl tI (fun hc => ?_) (fun hc => ?_) | refine skW ?_)
       · have hR := hlong (by
          have hc2 : (X.2 != 0 || Y.2 != 0) = true := hc
          rintro ⟨g1, g2⟩
          rw [g1, g2] at hc2
          exact absurd hc2 (by decide))
         refine AWP.drawY (fun j => match j with | 0 => [.var (encTab a), .var (encTab b), .var zeroTab, .var zeroTab, .var zeroTab, .var (encTab X.1), .var (encTab Y.1)] | 1 => [.var (encTab a), .var (encTab b), .var zeroTab, .var zeroTab, .var zeroTab, .var (encTab X.1), .var (encTab Y.1)] | _ => [.var (encTab a), .var (encTab b), .var zeroTab, .var zeroTab, .var zeroTab, .var (encTab X.1), .var (encTab Y.1)]) rfl (by kernel_rfl) (by decide +kernel) rfl (by decide +kernel) (fun K' hK => ?_)
         repeat' (first
          | refine yqQ (a := 0) (b := 0) rfl (by decide +kernel) (by decide +kernel) rfl rfl rfl (fun k h1 h2 hg => by (have hk : k = 0 := (by omega)); (rcases hk with rfl) <;> (first | exact std0 | exact std1)) (by exact rfl) ?_
          | refine yqQ (a := 0) (b := 1) rfl (by decide +kernel) (by decide +kernel) rfl rfl rfl (fun k h1 h2 hg => by (have hk : k = 0 ∨ k = 1 := (by omega)); (rcases hk with rfl | rfl) <;> (first | exact std0 | exact std1)) (by exact rfl) ?_
          | refine yqQ (a := 1) (b := 1) rfl (by decide +kernel) (by decide +kernel) rfl rfl rfl (fun k h1 h2 hg => by (have hk : k = 1 := (by omega)); (rcases hk with rfl) <;> (first | exact std0 | exact std1)) (by exact rfl) ?_
          | refine yqQ (a := 0) (b := 2) rfl (by decide +kernel) (by decide +kernel) rfl rfl rfl (fun k h1 h2 hg => by (have hk : k = 0 ∨ k = 1 ∨ k = 2 := (by omega)); (rcases hk with rfl | rfl | rfl) <;> (first | exact std0 | exact std1)) (by exact rfl) ?_
          | refine yqQ (a := 1) (b := 2) rfl (by decide +kernel) (by decide +kernel) rfl rfl rfl (fun k h1 h2 hg => by (have hk : k = 1 ∨ k = 2 := (by omega)); (rcases hk with rfl | rfl) <;> (first | exact std0 | exact std1)) (by exact rfl) ?_
          | refine yqQ (a := 2) (b := 2) rfl (by decide +kernel) (by decide +kernel) rfl rfl rfl (fun k h1 h2 hg => by (have hk : k = 2 := (by omega)); (rcases hk with rfl) <;> (first | exact std0 | exact std1)) (by exact rfl) ?_)
         refine YQ.e (v := .any) (d := none) rfl rfl rfl ?_ ?_
         · intro env' he
           exact stW tabOk rfl rfl ((rdv_congr (he 4 (by decide +kernel))).trans rfl) (by rw [rdn_congr (he 4 (by decide +kernel))]; first | exact tI | exact rfl) rfl ((rdv_congr (he 86 (by decide +kernel))).trans rfl) (by rw [rdn_congr (he 86 (by decide +kernel))]; first | exact tI | exact rfl) rfl rfl rfl rfl rfl rfl rfl ⟨rfl, rfl⟩
         repeat' (first
          | refine yqQ (a := 0) (b := 0) rfl (by decide +kernel) (by decide +kernel) rfl rfl rfl (fun k h1 h2 hg => by (have hk : k = 0 := (by omega)); (rcases hk with rfl) <;> (first | exact std0 | exact std1)) (by exact rfl) ?_
          | refine yqQ (a := 0) (b := 1) rfl (by decide +kernel) (by decide +kernel) rfl rfl rfl (fun k h1 h2 hg => by (have hk : k = 0 ∨ k = 1 := (by omega)); (rcases hk with rfl | rfl) <;> (first | exact std0 | exact std1)) (by exact rfl) ?_
          | refine yqQ (a := 1) (b := 1) rfl (by decide +kernel) (by decide +kernel) rfl rfl rfl (fun k h1 h2 hg => by (have hk : k = 1 := (by omega)); (rcases hk with rfl) <;> (first | exact std0 | exact std1)) (by exact rfl) ?_
          | refine yqQ (a := 0) (b := 2) rfl (by decide +kernel) (by decide +kernel) rfl rfl rfl (fun k h1 h2 hg => by (have hk : k = 0 ∨ k = 1 ∨ k = 2 := (by omega)); (rcases hk with rfl | rfl | rfl) <;> (first | exact std0 | exact std1)) (by exact rfl) ?_
          | refine yqQ (a := 1) (b := 2) rfl (by decide +kernel) (by decide +kernel) rfl rfl rfl (fun k h1 h2 hg => by (have hk : k = 1 ∨ k = 2 := (by omega)); (rcases hk with rfl | rfl) <;> (first | exact std0 | exact std1)) (by exact rfl) ?_
          | refine yqQ (a := 2) (b := 2) rfl (by decide +kernel) (by decide +kernel) rfl rfl rfl (fun k h1 h2 hg => by (have hk : k = 2 := (by omega)); (rcases hk with rfl) <;> (first | exact std0 | exact std1)) (by exact rfl) ?_)
         refine YQ.e (v := .any) (d := none) rfl rfl rfl ?_ ?_
         · intro env' he
           exact stW tabOk rfl rfl ((rdv_congr (he 5 (by decide +kernel))).trans rfl) (by rw [rdn_congr (he 5 (by decide +kernel))]; first | exact tI | exact rfl) rfl ((rdv_congr (he 87 (by decide +kernel))).trans rfl) (by rw [rdn_congr (he 87 (by decide +kernel))]; first | exact tI | exact rfl) rfl rfl rfl rfl rfl rfl rfl ⟨rfl, rfl⟩
         repeat' (first
          | refine yqQ (a := 0) (b := 0) rfl (by decide +kernel) (by decide +kernel) rfl rfl rfl (fun k h1 h2 hg => by (have hk : k = 0 := (by omega)); (rcases hk with rfl) <;> (first | exact std0 | exact std1)) (by exact rfl) ?_
          | refine yqQ (a := 0) (b := 1) rfl (by decide +kernel) (by decide +kernel) rfl rfl rfl (fun k h1 h2 hg => by (have hk : k = 0 ∨ k = 1 := (by omega)); (rcases hk with rfl | rfl) <;> (first | exact std0 | exact std1)) (by exact rfl) ?_
          | refine yqQ (a := 1) (b := 1) rfl (by decide +kernel) (by decide +kernel) rfl rfl rfl (fun k h1 h2 hg => by (have hk : k = 1 := (by omega)); (rcases hk with rfl) <;> (first | exact std0 | exact std1)) (by exact rfl) ?_
          | refine yqQ (a := 0) (b := 2) rfl (by decide +kernel) (by decide +kernel) rfl rfl rfl (fun k h1 h2 hg => by (have hk : k = 0 ∨ k = 1 ∨ k = 2 := (by omega)); (rcases hk with rfl | rfl | rfl) <;> (first | exact std0 | exact std1)) (by exact rfl) ?_
          | refine yqQ (a := 1) (b := 2) rfl (by decide +kernel) (by decide +kernel) rfl rfl rfl (fun k h1 h2 hg => by (have hk : k = 1 ∨ k = 2 := (by omega)); (rcases hk with rfl | rfl) <;> (first | exact std0 | exact std1)) (by exact rfl) ?_
          | refine yqQ (a := 2) (b := 2) rfl (by decide +kernel) (by decide +kernel) rfl rfl rfl (fun k h1 h2 hg => by (have hk : k = 2 := (by omega)); (rcases hk with rfl) <;> (first | exact std0 | exact std1)) (by exact rfl) ?_)
         refine YQ.nil (hK _ _ ?_)
         clear hK K'
         repeat' (first | refine rtW ?_)
         refine ⟨.inr rfl, _, rfl, ?_⟩
         rw [hR]
         exact ent_no2 _
       · have hR := hdone (by
          have hc2 : (X.2 != 0 || Y.2 != 0) = false := hc
          rw [zAo, bne_eq_false_iff_eq, bne_eq_false_iff_eq] at hc2
          exact hc2)
         refine AWP.drawY (fun j => match j with | 0 => [.var (encTab a), .var (encTab b), .var zeroTab, .var zeroTab, .var zeroTab, .var (encTab X.1), .var (encTab Y.1)] | 1 => [.var (encTab a), .var (encTab b), .var zeroTab, .var zeroTab, .var zeroTab, .var (encTab (surely X.1)), .var (encTab Y.1)] | _ => [.var (encTab a), .var (encTab b), .var zeroTab, .var zeroTab, .var zeroTab, .var (encTab (surely X.1)), .var (encTab (surely Y.1))]) rfl (by kernel_rfl) (by decide +kernel) rfl (by decide +kernel) (fun K' hK => ?_)
         repeat' (first
          | refine yqQ (a := 0) (b := 0) rfl (by decide +kernel) (by decide +kernel) rfl rfl rfl (fun k h1 h2 hg => by (have hk : k = 0 := (by omega)); (rcases hk with rfl) <;> (first | exact std0 | exact std1)) (by exact rfl) ?_
          | refine yqQ (a := 0) (b := 1) rfl (by decide +kernel) (by decide +kernel) rfl rfl rfl (fun k h1 h2 hg => by (have hk : k = 0 ∨ k = 1 := (by omega)); (rcases hk with rfl | rfl) <;> (first | exact std0 | exact std1)) (by exact rfl) ?_
          | refine yqQ (a := 1) (b := 1) rfl (by decide +kernel) (by decide +kernel) rfl rfl rfl (fun k h1 h2 hg => by (have hk : k = 1 := (by omega)); (rcases hk with rfl) <;> (first | exact std0 | exact std1)) (by exact rfl) ?_
          | refine yqQ (a := 0) (b := 2) rfl (by decide +kernel) (by decide +kernel) rfl rfl rfl (fun k h1 h2 hg => by (have hk : k = 0 ∨ k = 1 ∨ k = 2 := (by omega)); (rcases hk with rfl | rfl | rfl) <;> (first | exact std0 | exact std1)) (by exact rfl) ?_
          | refine yqQ (a := 1) (b := 2) rfl (by decide +kernel) (by decide +kernel) rfl rfl rfl (fun k h1 h2 hg => by (have hk : k = 1 ∨ k = 2 := (by omega)); (rcases hk with rfl | rfl) <;> (first | exact std0 | exact std1)) (by exact rfl) ?_
          | refine yqQ (a := 2) (b := 2) rfl (by decide +kernel) (by decide +kernel) rfl rfl rfl (fun k h1 h2 hg => by (have hk : k = 2 := (by omega)); (rcases hk with rfl) <;> (first | exact std0 | exact std1)) (by exact rfl) ?_)
         refine YQ.e (v := .any) (d := none) rfl rfl rfl ?_ ?_
         · intro env' he
           exact stW tabOk rfl rfl ((rdv_congr (he 97 (by decide +kernel))).trans rfl) (by rw [rdn_congr (he 97 (by decide +kernel))]; first | exact tI | exact rfl) rfl ((rdv_congr (he 91 (by decide +kernel))).trans rfl) (by rw [rdn_congr (he 91 (by decide +kernel))]; first | exact tI | exact rfl) rfl rfl rfl rfl rfl rfl rfl ⟨rfl, rfl⟩
         repeat' (first
          | refine yqQ (a := 0) (b := 0) rfl (by decide +kernel) (by decide +kernel) rfl rfl rfl (fun k h1 h2 hg => by (have hk : k = 0 := (by omega)); (rcases hk with rfl) <;> (first | exact std0 | exact std1)) (by exact rfl) ?_
          | refine yqQ (a := 0) (b := 1) rfl (by decide +kernel) (by decide +kernel) rfl rfl rfl (fun k h1 h2 hg => by (have hk : k = 0 ∨ k = 1 := (by omega)); (rcases hk with rfl | rfl) <;> (first | exact std0 | exact std1)) (by exact rfl) ?_
          | refine yqQ (a := 1) (b := 1) rfl (by decide +kernel) (by decide +kernel) rfl rfl rfl (fun k h1 h2 hg => by (have hk : k = 1 := (by omega)); (rcases hk with rfl) <;> (first | exact std0 | exact std1)) (by exact rfl) ?_
          | refine yqQ (a := 0) (b := 2) rfl (by decide +kernel) (by decide +kernel) rfl rfl rfl (fun k h1 h2 hg => by (have hk : k = 0 ∨ k = 1 ∨ k = 2 := (by omega)); (rcases hk with rfl | rfl | rfl) <;> (first | exact std0 | exact std1)) (by exact rfl) ?_
          | refine yqQ (a := 1) (b := 2) rfl (by decide +kernel) (by decide +kernel) rfl rfl rfl (fun k h1 h2 hg => by (have hk : k = 1 ∨ k = 2 := (by omega)); (rcases hk with rfl | rfl) <;> (first | exact std0 | exact std1)) (by exact rfl) ?_
          | refine yqQ (a := 2) (b := 2) rfl (by decide +kernel) (by decide +kernel) rfl rfl rfl (fun k h1 h2 hg => by (have hk : k = 2 := (by omega)); (rcases hk with rfl) <;> (first | exact std0 | exact std1)) (by exact rfl) ?_)
         refine YQ.e (v := .any) (d := none) rfl rfl rfl ?_ ?_
         · intro env' he
           exact stW tabOk rfl rfl ((rdv_congr (he 99 (by decide +kernel))).trans rfl) (by rw [rdn_congr (he 99 (by decide +kernel))]; first | exact tI | exact rfl) rfl ((rdv_congr (he 95 (by decide +kernel))).trans rfl) (by rw [rdn_congr (he 95 (by decide +kernel))]; first | exact tI | exact rfl) rfl rfl rfl rfl rfl rfl rfl ⟨rfl, rfl⟩
         repeat' (first
          | refine yqQ (a := 0) (b := 0) rfl (by decide +kernel) (by decide +kernel) rfl rfl rfl (fun k h1 h2 hg => by (have hk : k = 0 := (by omega)); (rcases hk with rfl) <;> (first | exact std0 | exact std1)) (by exact rfl) ?_
          | refine yqQ (a := 0) (b := 1) rfl (by decide +kernel) (by decide +kernel) rfl rfl rfl (fun k h1 h2 hg => by (have hk : k = 0 ∨ k = 1 := (by omega)); (rcases hk with rfl | rfl) <;> (first | exact std0 | exact std1)) (by exact rfl) ?_
          | refine yqQ (a := 1) (b := 1) rfl (by decide +kernel) (by decide +kernel) rfl rfl rfl (fun k h1 h2 hg => by (have hk : k = 1 := (by omega)); (rcases hk with rfl) <;> (first | exact std0 | exact std1)) (by exact rfl) ?_
          | refine yqQ (a := 0) (b := 2) rfl (by decide +kernel) (by decide +kernel) rfl rfl rfl (fun k h1 h2 hg => by (have hk : k = 0 ∨ k = 1 ∨ k = 2 := (by omega)); (rcases hk with rfl | rfl | rfl) <;> (first | exact std0 | exact std1)) (by exact rfl) ?_
          | refine yqQ (a := 1) (b := 2) rfl (by decide +kernel) (by decide +kernel) rfl rfl rfl (fun k h1 h2 hg => by (have hk : k = 1 ∨ k = 2 := (by omega)); (rcases hk with rfl | rfl) <;> (first | exact std0 | exact std1)) (by exact rfl) ?_
          | refine yqQ (a := 2) (b := 2) rfl (by decide +kernel) (by decide +kernel) rfl rfl rfl (fun k h1 h2 hg => by (have hk : k = 2 := (by omega)); (rcases hk with rfl) <;> (first | exact std0 | exact std1)) (by exact rfl) ?_)
         refine YQ.nil (hK _ _ ?_)
         clear hK K'
         repeat' (first | refine sqW ?_)
         refine AWP.drawY (fun j => match j with | 0 => [.var (encTab a), .var (encTab b), .var zeroTab, .var zeroTab, .var zeroTab, .var (encTab (surely X.1)), .var (encTab (surely Y.1))] | 1 => [.var (encTab a), .var (encTab b), .var (encTab (surely X.1)), .var zeroTab, .var zeroTab, .var (encTab (surely X.1)), .var (encTab (surely Y.1))] | _ => [.var (encTab a), .var (encTab b), .var (encTab (surely X.1)), .var (encTab (surely Y.1)), .var zeroTab, .var (encTab (surely X.1)), .var (encTab (surely Y.1))]) rfl (by kernel_rfl) (by decide +kernel) rfl (by decide +kernel) (fun K' hK => ?_)
         repeat' (first
          | refine yqQ (a := 0) (b := 0) rfl (by decide +kernel) (by decide +kernel) rfl rfl rfl (fun k h1 h2 hg => by (have hk : k = 0 := (by omega)); (rcases hk with rfl) <;> (first | exact std0 | exact std1)) (by exact rfl) ?_
          | refine yqQ (a := 0) (b := 1) rfl (by decide +kernel) (by decide +kernel) rfl rfl rfl (fun k h1 h2 hg => by (have hk : k = 0 ∨ k = 1 := (by omega)); (rcases hk with rfl | rfl) <;> (first | exact std0 | exact std1)) (by exact rfl) ?_
          | refine yqQ (a := 1) (b := 1) rfl (by decide +kernel) (by decide +kernel) rfl rfl rfl (fun k h1 h2 hg => by (have hk : k = 1 := (by omega)); (rcases hk with rfl) <;> (first | exact std0 | exact std1)) (by exact rfl) ?_
          | refine yqQ (a := 0) (b := 2) rfl (by decide +kernel) (by decide +kernel) rfl rfl rfl (fun k h1 h2 hg => by (have hk : k = 0 ∨ k = 1 ∨ k = 2 := (by omega)); (rcases hk with rfl | rfl | rfl) <;> (first | exact std0 | exact std1)) (by exact rfl) ?_
          | refine yqQ (a := 1) (b := 2) rfl (by decide +kernel) (by decide +kernel) rfl rfl rfl (fun k h1 h2 hg => by (have hk : k = 1 ∨ k = 2 := (by omega)); (rcases hk with rfl | rfl) <;> (first | exact std0 | exact std1)) (by exact rfl) ?_
          | refine yqQ (a := 2) (b := 2) rfl (by decide +kernel) (by decide +kernel) rfl rfl rfl (fun k h1 h2 hg => by (have hk : k = 2 := (by omega)); (rcases hk with rfl) <;> (first | exact std0 | exact std1)) (by exact rfl) ?_)
         refine YQ.e (v := .any) (d := none) rfl rfl rfl ?_ ?_
         · intro env' he
           exact stW tabOk rfl rfl ((rdv_congr (he 4 (by decide +kernel))).trans rfl) (by rw [rdn_congr (he 4 (by decide +kernel))]; first | exact tI | exact rfl) rfl ((rdv_congr (he 101 (by decide +kernel))).trans rfl) (by rw [rdn_congr (he 101 (by decide +kernel))]; first | exact tI | exact rfl) rfl rfl rfl rfl rfl rfl rfl ⟨rfl, rfl⟩
         repeat' (first
          | refine yqQ (a := 0) (b := 0) rfl (by decide +kernel) (by decide +kernel) rfl rfl rfl (fun k h1 h2 hg => by (have hk : k = 0 := (by omega)); (rcases hk with rfl) <;> (first | exact std0 | exact std1)) (by exact rfl) ?_
          | refine yqQ (a := 0) (b := 1) rfl (by decide +kernel) (by decide +kernel) rfl rfl rfl (fun k h1 h2 hg => by (have hk : k = 0 ∨ k = 1 := (by omega)); (rcases hk with rfl | rfl) <;> (first | exact std0 | exact std1)) (by exact rfl) ?_
          | refine yqQ (a := 1) (b := 1) rfl (by decide +kernel) (by decide +kernel) rfl rfl rfl (fun k h1 h2 hg => by (have hk : k = 1 := (by omega)); (rcases hk with rfl) <;> (first | exact std0 | exact std1)) (by exact rfl) ?_
          | refine yqQ (a := 0) (b := 2) rfl (by decide +kernel) (by decide +kernel) rfl rfl rfl (fun k h1 h2 hg => by (have hk : k = 0 ∨ k = 1 ∨ k = 2 := (by omega)); (rcases hk with rfl | rfl | rfl) <;> (first | exact std0 | exact std1)) (by exact rfl) ?_
          | refine yqQ (a := 1) (b := 2) rfl (by decide +kernel) (by decide +kernel) rfl rfl rfl (fun k h1 h2 hg => by (have hk : k = 1 ∨ k = 2 := (by omega)); (rcases hk with rfl | rfl) <;> (first | exact std0 | exact std1)) (by exact rfl) ?_
          | refine yqQ (a := 2) (b := 2) rfl (by decide +kernel) (by decide +kernel) rfl rfl rfl (fun k h1 h2 hg => by (have hk : k = 2 := (by omega)); (rcases hk with rfl) <;> (first | exact std0 | exact std1)) (by exact rfl) ?_)
         refine YQ.e (v := .any) (d := none) rfl rfl rfl ?_ ?_
         · intro env' he
           exact stW tabOk rfl rfl ((rdv_congr (he 5 (by decide +kernel))).trans rfl) (by rw [rdn_congr (he 5 (by decide +kernel))]; first | exact tI | exact rfl) rfl ((rdv_congr (he 103 (by decide +kernel))).trans rfl) (by rw [rdn_congr (he 103 (by decide +kernel))]; first | exact tI | exact rfl) rfl rfl rfl rfl rfl rfl rfl ⟨rfl, rfl⟩
         repeat' (first
          | refine yqQ (a := 0) (b := 0) rfl (by decide +kernel) (by decide +kernel) rfl rfl rfl (fun k h1 h2 hg => by (have hk : k = 0 := (by omega)); (rcases hk with rfl) <;> (first | exact std0 | exact std1)) (by exact rfl) ?_
          | refine yqQ (a := 0) (b := 1) rfl (by decide +kernel) (by decide +kernel) rfl rfl rfl (fun k h1 h2 hg => by (have hk : k = 0 ∨ k = 1 := (by omega)); (rcases hk with rfl | rfl) <;> (first | exact std0 | exact std1)) (by exact rfl) ?_
          | refine yqQ (a := 1) (b := 1) rfl (by decide +kernel) (by decide +kernel) rfl rfl rfl (fun k h1 h2 hg => by (have hk : k = 1 := (by omega)); (rcases hk with rfl) <;> (first | exact std0 | exact std1)) (by exact rfl) ?_
          | refine yqQ (a := 0) (b := 2) rfl (by decide +kernel) (by decide +kernel) rfl rfl rfl (fun k h1 h2 hg => by (have hk : k = 0 ∨ k = 1 ∨ k = 2 := (by omega)); (rcases hk with rfl | rfl | rfl) <;> (first | exact std0 | exact std1)) (by exact rfl) ?_
          | refine yqQ (a := 1) (b := 2) rfl (by decide +kernel) (by decide +kernel) rfl rfl rfl (fun k h1 h2 hg => by (have hk : k = 1 ∨ k = 2 := (by omega)); (rcases hk with rfl | rfl) <;> (first | exact std0 | exact std1)) (by exact rfl) ?_
          | refine yqQ (a := 2) (b := 2) rfl (by decide +kernel) (by decide +kernel) rfl rfl rfl (fun k h1 h2 hg => by (have hk : k = 2 := (by omega)); (rcases hk with rfl) <;> (first | exact std0 | exact std1)) (by exact rfl) ?_)
         refine YQ.nil (hK _ _ ?_)
         clear hK K'
         repeat' (first | refine rtW ?_)
         refine ⟨.inr rfl, _, rfl, ?_⟩
         rw [hR]
         exact Ent.rfl' _
     · have hR := exch_add hA hB h3
       generalize addE a.s.evs b.s.evs = D at *
       refine PCall.bodyS tabOk Tryz.func15 rfl rfl Tryz.ntmps15 rfl ?_
       repeat' (first | refine aoQ rfl rfl rfl (fun hg => by first | exact std0 | exact pcW (v) rfl rfl nd rfl nds | exact pcW (w) rfl rfl nd rfl nds | exact pcW (x) rfl rfl nd rfl nds) (by exact rfl) ?_ | refine sqW ?_ | refine rgK (fun K' hK => ?_) | (refine aoN (hK _ _ ?_); clear hK K') | refine aoE (bxW rfl rfl rfl rfl rfl tI rfl rfl ?_) | refine aoE (alW tabOk rfl rfl rfl rfl rfl rfl ?_) | refine cdN rfl tI (fun hc => ?_) (fun hc => ?_) | refine blK ?_ | refine skW ?_)
       · exfalso; rw [hd] at hc; cases hc
       · exfalso; rw [hd2] at hc; cases hc
       · refine AWP.drawY (fun j => match j with | 0 => [.var (encTab a), .var (encTab b), .var zeroTab, .var zeroTab, .var zeroTab] | 1 => [.var (encTab a), .var (encTab b), .var zeroTab, .var zeroTab, .var zeroTab] | _ => [.var (encTab a), .var (encTab b), .var zeroTab, .var zeroTab, .var zeroTab]) rfl (by kernel_rfl) (by decide +kernel) rfl (by decide +kernel) (fun K' hK => ?_)
         repeat' (first
          | refine yqQ (a := 0) (b := 0) rfl (by decide +kernel) (by decide +kernel) rfl rfl rfl (fun k h1 h2 hg => by (have hk : k = 0 := (by omega)); (rcases hk with rfl) <;> (first | exact std0 | exact std1)) (by exact rfl) ?_
          | refine yqQ (a := 0) (b := 1) rfl (by decide +kernel) (by decide +kernel) rfl rfl rfl (fun k h1 h2 hg => by (have hk : k = 0 ∨ k = 1 := (by omega)); (rcases hk with rfl | rfl) <;> (first | exact std0 | exact std1)) (by exact rfl) ?_
          | refine yqQ (a := 1) (b := 1) rfl (by decide +kernel) (by decide +kernel) rfl rfl rfl (fun k h1 h2 hg => by (have hk : k = 1 := (by omega)); (rcases hk with rfl) <;> (first | exact std0 | exact std1)) (by exact rfl) ?_
          | refine yqQ (a := 0) (b := 2) rfl (by decide +kernel) (by decide +kernel) rfl rfl rfl (fun k h1 h2 hg => by (have hk : k = 0 ∨ k = 1 ∨ k = 2 := (by omega)); (rcases hk with rfl | rfl | rfl) <;> (first | exact std0 | exact std1)) (by exact rfl) ?_
          | refine yqQ (a := 1) (b := 2) rfl (by decide +kernel) (by decide +kernel) rfl rfl rfl (fun k h1 h2 hg => by (have hk : k = 1 ∨ k = 2 := (by omega)); (rcases hk with rfl | rfl) <;> (first | exact std0 | exact std1)) (by exact rfl) ?_
          | refine yqQ (a := 2) (b := 2) rfl (by decide +kernel) (by decide +kernel) rfl rfl rfl (fun k h1 h2 hg => by (have hk : k = 2 := (by omega)); (rcases hk with rfl) <;> (first | exact std0 | exact std1)) (by exact rfl) ?_)
         refine YQ.e (v := .any) (d := none) rfl rfl rfl ?_ ?_
         · intro env' he
           exact stW tabOk rfl rfl ((rdv_congr (he 4 (by decide +kernel))).trans rfl) (by rw [rdn_congr (he 4 (by decide +kernel))]; first | exact tI | exact rfl) rfl ((rdv_congr (he 57 (by decide +kernel))).trans rfl) (by rw [rdn_congr (he 57 (by decide +kernel))]; first | exact tI | exact rfl) rfl rfl rfl rfl rfl rfl rfl ⟨rfl, rfl⟩
         repeat' (first
          | refine yqQ (a := 0) (b := 0) rfl (by decide +kernel) (by decide +kernel) rfl rfl rfl (fun k h1 h2 hg => by (have hk : k = 0 := (by omega)); (rcases hk with rfl) <;> (first | exact std0 | exact std1)) (by exact rfl) ?_
          | refine yqQ (a := 0) (b := 1) rfl (by decide +kernel) (by decide +kernel) rfl rfl rfl (fun k h1 h2 hg => by (have hk : k = 0 ∨ k = 1 := (by omega)); (rcases hk with rfl | rfl) <;> (first | exact std0 | exact std1)) (by exact rfl) ?_
          | refine yqQ (a := 1) (b := 1) rfl (by decide +kernel) (by decide +kernel) rfl rfl rfl (fun k h1 h2 hg => by (have hk : k = 1 := (by omega)); (rcases hk with rfl) <;> (first | exact std0 | exact std1)) (by exact rfl) ?_
          | refine yqQ (a := 0) (b := 2) rfl (by decide +kernel) (by decide +kernel) rfl rfl rfl (fun k h1 h2 hg => by (have hk : k = 0 ∨ k = 1 ∨ k = 2 := (by omega)); (rcases hk with rfl | rfl | rfl) <;> (first | exact std0 | exact std1)) (by exact rfl) ?_
          | refine yqQ (a := 1) (b := 2) rfl (by decide +kernel) (by decide +kernel) rfl rfl rfl (fun k h1 h2 hg => by (have hk : k = 1 ∨ k = 2 := (by omega)); (rcases hk with rfl | rfl) <;> (first | exact std0 | exact std1)) (by exact rfl) ?_
          | refine yqQ (a := 2) (b := 2) rfl (by decide +kernel) (by decide +kernel) rfl rfl rfl (fun k h1 h2 hg => by (have hk : k = 2 := (by omega)); (rcases hk with rfl) <;> (first | exact std0 | exact std1)) (by exact rfl) ?_)
         refine YQ.e (v := .any) (d := none) rfl rfl rfl ?_ ?_
         · intro env' he
           exact stW tabOk rfl rfl ((rdv_congr (he 5 (by decide +kernel))).trans rfl) (by rw [rdn_congr (he 5 (by decide +kernel))]; first | exact tI | exact rfl) rfl ((rdv_congr (he 58 (by decide +kernel))).trans rfl) (by rw [rdn_congr (he 58 (by decide +kernel))]; first | exact tI | exact rfl) rfl rfl rfl rfl rfl rfl rfl ⟨rfl, rfl⟩
         repeat' (first
          | refine yqQ (a := 0) (b := 0) rfl (by decide +kernel) (by decide +kernel) rfl rfl rfl (fun k h1 h2 hg => by (have hk : k = 0 := (by omega)); (rcases hk with rfl) <;> (first | exact std0 | exact std1)) (by exact rfl) ?_
          | refine yqQ (a := 0) (b := 1) rfl (by decide +kernel) (by decide +kernel) rfl rfl rfl (fun k h1 h2 hg => by (have hk : k = 0 ∨ k = 1 := (by omega)); (rcases hk with rfl | rfl) <;> (first | exact std0 | exact std1)) (by exact rfl) ?_
          | refine yqQ (a := 1) (b := 1) rfl (by decide +kernel) (by decide +kernel) rfl rfl rfl (fun k h1 h2 hg => by (have hk : k = 1 := (by omega)); (rcases hk with rfl) <;> (first | exact std0 | exact std1)) (by exact rfl) ?_
          | refine yqQ (a := 0) (b := 2) rfl (by decide +kernel) (by decide +kernel) rfl rfl rfl (fun k h1 h2 hg => by (have hk : k = 0 ∨ k = 1 ∨ k = 2 := (by omega)); (rcases hk with rfl | rfl | rfl) <;> (first | exact std0 | exact std1)) (by exact rfl) ?_
          | refine yqQ (a := 1) (b := 2) rfl (by decide +kernel) (by decide +kernel) rfl rfl rfl (fun k h1 h2 hg => by (have hk : k = 1 ∨ k = 2 := (by omega)); (rcases hk with rfl | rfl) <;> (first | exact std0 | exact std1)) (by exact rfl) ?_
          | refine yqQ (a := 2) (b := 2) rfl (by decide +kernel) (by decide +kernel) rfl rfl rfl (fun k h1 h2 hg => by (have hk : k = 2 := (by omega)); (rcases hk with rfl) <;> (first | exact std0 | exact std1)) (by exact rfl) ?_)
         refine YQ.nil (hK _ _ ?_)
         clear hK K'
         repeat' (first | refine rtW ?_)
         refine ⟨.inr rfl, _, rfl, ?_⟩
         rw [hR]
         exact ent_no2 _
       · exfalso; exact h3 (by simpa using hc)
end Go.Proofs.YtbneeinknlddaaaGreat
