/- Contracts by content: the examples at the head of each law. No statement is proved here. -/
import Derived.Test.YtpkolkfglgalpaaK7
set_option linter.unusedVariables false
set_option linter.unusedSimpArgs false
namespace Go.Ab
theorem PCall.argsW {P : Program} {f : FuncId} {avs avs' : List AV} {r : AV} (h : PCall P f avs r) (ha : ∀ M vs, ArgsRel M avs' vs → ArgsRel M avs vs) : PCall P f avs' r :=
  ⟨h.1, fun M w vs hm ha' => h.2 M w vs hm (ha _ _ ha')⟩
theorem PCall.nil1 {P : Program} {f : FuncId} {sz : Nat} {l : List AV} {r : AV} (h : PCall P f (.sl sz [] .no :: l) r) : PCall P f (.nils :: l) r := h.argsW fun M vs ⟨h1, h2⟩ => ⟨h1, fun i c hi => by
  match i, hi with
  | 0, hi =>
    simp at hi; subst hi
    have := h2 0 .nils rfl
    generalize vs.getD 0 undef = v at this
    cases this; exact .slz sz .no trivial
  | i + 1, hi => exact h2 (i + 1) c hi⟩
end Go.Ab
namespace Go.Proofs.Ytpkolkfglgalpaa
open Go.Ab Go.Jo
attribute [local irreducible] AWP AOps EStep AQ PStep PRun PCall TCall VCall DStep TDies AWD DCall

def e0 : Ev := ⟨7, 3, 2, 9, noMark⟩
def e1 : Ev := ⟨7, 3, 1, 0, ⟨1, 4, 4, ⟨0, 0, 0⟩, 2, 5, 0, [112]⟩⟩
def e2 : Ev := ⟨8, 3, 3, 4, noMark⟩
theorem e0_ok : evOk e0 = true := by decide +kernel
theorem e1_ok : evOk e1 = true := by decide +kernel
theorem marked_spec : PCall Try.prog 25 [] (.agg (encE e1)) := by
  refine PCall.bodyS tabOk Try.func25 rfl rfl Try.ntmps25 rfl ?_
  repeat' (first
    | refine AOps.q rfl rfl rfl (fun hg => by first | exact std0 | exact PRun.buildW tabOk rfl rfl nds | exact std1) (by exact rfl) ?_
    | refine AWP.seq ?_
    | refine AWP.regionK (fun K' hK => ?_)
    | (refine AOps.nil (hK _ _ ?_); clear hK K')
    | refine AOps.e (EStep.boxW rfl rfl rfl rfl rfl True.intro rfl rfl ?_)
    | refine AOps.e (EStep.storeW tabOk rfl rfl rfl True.intro rfl rfl True.intro rfl rfl rfl rfl rfl rfl rfl ?_)
    | refine AOps.e (EStep.allocW tabOk rfl rfl rfl rfl rfl rfl ?_)
    | (refine AWP.condW rfl True.intro (fun hc => ?_) (fun hc => ?_) <;> (first | (simp only [decide_eq_true_eq] at hc) | (simp only [decide_eq_false_iff_not, Int.not_lt, Int.not_le] at hc) | skip))
    | refine AWP.block ?_
    | refine AWP.exit ?_
    | refine AWP.skip ?_
    | refine AWP.ret ?_
    | refine AWP.drawK2 (by decide +kernel) (by kernel_rfl) (by decide +kernel) rfl (fun K' hK => ?_)
    | refine AWP.drawL2 (by kernel_rfl) (by decide +kernel) rfl (fun K' hK => ?_)
    | (refine AQ.nil (hK _ ?_); clear hK K')
    | refine AQ.nil ?_
    | refine AQ.q rfl rfl (fun hg => by first | exact std0 | exact PRun.buildW tabOk rfl rfl nds | exact std1) (by exact rfl) ?_)
  exact ⟨.inr rfl, _, rfl, Ent.of rfl⟩
theorem fr_pos (e : Ev) : 0 < (fr e).length := by unfold fr; rw [frame_len]; omega
theorem load01 : Jo.load (fr e0 ++ fr e1) = ([e0, e1], (fr e0 ++ fr e1).length) := by
  rw [load_cons e0_ok, show fr e1 = fr e1 ++ [] by simp, load_cons e1_ok, load_nil]; simp
theorem load01t : Jo.load ((fr e0 ++ fr e1).take ((fr e0 ++ fr e1).length - 1)) = ([e0], (fr e0).length) := by
  have h := load_take [e0, e1] ((fr e0 ++ fr e1).length - 1) (by intro e he; rcases List.mem_cons.1 he with rfl | he; exact e0_ok; rcases List.mem_cons.1 he with rfl | he; exact e1_ok; cases he) (by simp [cat])
  have hc : cat [e0, e1] = fr e0 ++ fr e1 := by simp [cat]
  rw [hc] at h
  rw [h]
  have h1 := fr_pos e1
  unfold upto
  rw [if_pos (by rw [List.length_append]; omega)]
  unfold upto
  rw [if_neg (by rw [List.length_append]; omega)]
  rfl
theorem fr_len2 {e : Ev} (h : evOk e = true) : (fr e).length ≤ 2135 := by
  unfold fr
  rw [frame_len]
  have h1 := (ints_len h).2
  have h2 := flat_len (ints e)
  have h3 := num_small (n := (ints e).length) (by omega)
  unfold putL
  rw [List.length_append]; omega
set_option maxHeartbeats 1600000 in
set_option maxRecDepth 20000 in
theorem head_spec : PCall Try.prog 10 [] (.b true) := by
  have v1 := pints_spec e0 (by decide)
  have v2 := pints_spec e1 (by decide)
  have v3 := event_spec [8, 3, 3, 4] (by decide)
  have v4 := event_spec [8, 3, 3, 4, 5] (by decide)
  have v5 := pints_spec noEv (by decide)
  have v6 := (append_spec [] e0 (by decide) (by decide)).nil1
  have v7 := append_spec (fr e0) e1 (by have := fr_len2 e0_ok; omega) (by decide)
  have v8 := load_spec (fr e0 ++ fr e1) (by rw [List.length_append]; have := fr_len2 e0_ok; have := fr_len2 e1_ok; omega)
  have v9 := load_spec ((fr e0 ++ fr e1).take ((fr e0 ++ fr e1).length - 1)) (by rw [List.length_take, List.length_append]; have := fr_len2 e0_ok; have := fr_len2 e1_ok; omega)
  rw [show intsR e0 = ([7, 3, 2, 9], 0) by decide +kernel] at v1
  rw [show intsR e1 = ([7, 3, 1, 1, 4, 4, 0, 0, 0, 2, 5, 0, 112], 0) by decide +kernel] at v2
  rw [show eventR [8, 3, 3, 4] = (e2, 0) by decide +kernel] at v3
  rw [show eventR [8, 3, 3, 4, 5] = (noEv, 7) by decide +kernel] at v4
  rw [show intsR noEv = ([], 1) by decide +kernel] at v5
  rw [show appendR [] e0 = (fr e0, 0) by unfold appendR; rw [if_pos e0_ok, if_neg (by have := fr_len2 e0_ok; simp; omega)]; rfl] at v6
  rw [show appendR (fr e0) e1 = (fr e0 ++ fr e1, 0) by unfold appendR; rw [if_pos e1_ok, if_neg (by have := fr_len2 e0_ok; have := fr_len2 e1_ok; omega)]] at v7
  rw [loadR_in (by rw [List.length_append]; have := fr_len2 e0_ok; have := fr_len2 e1_ok; omega), load01] at v8
  rw [loadR_in (by rw [List.length_take, List.length_append]; have := fr_len2 e0_ok; have := fr_len2 e1_ok; omega), load01t] at v9
  have h1 := fr_pos e1
  have h2 := fr_len2 e0_ok
  have h3 := fr_len2 e1_ok
  generalize fr e0 = F0 at *
  generalize fr e1 = F1 at *
  have hl : (F0 ++ F1).length = F0.length + F1.length := List.length_append
  have hk : ((((F0 ++ F1).length : Nat) : Int) - 1).toNat = (F0 ++ F1).length - 1 := by omega
  rw [← hk] at v9
  dsimp only at v1 v2 v3 v4 v5 v6 v7 v8 v9
  have w1 := sameInts_spec [7, 3, 2, 9] [7, 3, 2, 9] (by decide) (by decide)
  have w2 := sameInts_spec [7, 3, 1, 1, 4, 4, 0, 0, 0, 2, 5, 0, 112] [7, 3, 1, 1, 4, 4, 0, 0, 0, 2, 5, 0, 112] (by decide) (by decide)
  have w3 := sameEv_spec [e0, e1] [e0, e1] (by decide) (by decide)
  have w4 := sameEv_spec [e0] [e0] (by decide) (by decide)
  refine PCall.body Try.func10 rfl rfl Try.ntmps10 rfl rfl ?_
  repeat' (first
    | refine AOps.q rfl rfl rfl (fun hg => by first | exact std0 | exact PRun.callW (v1) rfl rfl nd rfl nds | exact PRun.callW (v2) rfl rfl nd rfl nds | exact PRun.callW (v3) rfl rfl nd rfl nds | exact PRun.callW (v4) rfl rfl nd rfl nds | exact PRun.callW (v5) rfl rfl nd rfl nds | exact PRun.callW (v6) rfl rfl nd rfl nds | exact PRun.callW (v7) rfl rfl nd rfl nds | exact PRun.callW (v8) rfl rfl nd rfl nds | exact PRun.callW (v9) rfl rfl nd rfl nds | exact PRun.callW (w1) rfl rfl nd rfl nds | exact PRun.callW (w2) rfl rfl nd rfl nds | exact PRun.callW (w3) rfl rfl nd rfl nds | exact PRun.callW (w4) rfl rfl nd rfl nds | exact PRun.callW (marked_spec) rfl rfl nd rfl nds | exact PRun.buildW tabOk rfl rfl nds | exact PRun.buildSlW tabOk rfl rfl nds | exact PRun.sliceLoM tabOk rfl rfl nd rfl nd rfl (by omega) | exact PRun.sliceHiM tabOk rfl rfl nd rfl nd rfl (by omega) | exact PRun.sliceM tabOk rfl rfl nd rfl nd rfl nd rfl (by omega) | exact PRun.eqN flE rfl rfl nd rfl nd rfl | exact std1) (by exact rfl) ?_
    | refine AWP.seq ?_
    | refine AWP.regionK (fun K' hK => ?_)
    | (refine AOps.nil (hK _ _ ?_); clear hK K')
    | refine AOps.e (EStep.boxW rfl rfl rfl rfl rfl True.intro rfl rfl ?_)
    | refine AOps.e (EStep.storeW tabOk rfl rfl rfl True.intro rfl rfl True.intro rfl rfl rfl rfl rfl rfl rfl ?_)
    | refine AOps.e (EStep.allocW tabOk rfl rfl rfl rfl rfl rfl ?_)
    | (refine AWP.condW rfl True.intro (fun hc => ?_) (fun hc => ?_) <;> (first | (simp only [decide_eq_true_eq] at hc) | (simp only [decide_eq_false_iff_not, Int.not_lt, Int.not_le] at hc) | skip))
    | refine AWP.block ?_
    | refine AWP.exit ?_
    | refine AWP.skip ?_
    | refine AWP.ret ?_
    | refine AWP.drawK2 (by decide +kernel) (by kernel_rfl) (by decide +kernel) rfl (fun K' hK => ?_)
    | refine AWP.drawL2 (by kernel_rfl) (by decide +kernel) rfl (fun K' hK => ?_)
    | (refine AQ.nil (hK _ ?_); clear hK K')
    | refine AQ.nil ?_
    | refine AQ.q rfl rfl (fun hg => by first | exact std0 | exact PRun.callW (v1) rfl rfl nd rfl nds | exact PRun.callW (v2) rfl rfl nd rfl nds | exact PRun.callW (v3) rfl rfl nd rfl nds | exact PRun.callW (v4) rfl rfl nd rfl nds | exact PRun.callW (v5) rfl rfl nd rfl nds | exact PRun.callW (v6) rfl rfl nd rfl nds | exact PRun.callW (v7) rfl rfl nd rfl nds | exact PRun.callW (v8) rfl rfl nd rfl nds | exact PRun.callW (v9) rfl rfl nd rfl nds | exact PRun.callW (w1) rfl rfl nd rfl nds | exact PRun.callW (w2) rfl rfl nd rfl nds | exact PRun.callW (w3) rfl rfl nd rfl nds | exact PRun.callW (w4) rfl rfl nd rfl nds | exact PRun.callW (marked_spec) rfl rfl nd rfl nds | exact PRun.buildW tabOk rfl rfl nds | exact PRun.buildSlW tabOk rfl rfl nds | exact PRun.sliceLoM tabOk rfl rfl nd rfl nd rfl (by omega) | exact PRun.sliceHiM tabOk rfl rfl nd rfl nd rfl (by omega) | exact PRun.sliceM tabOk rfl rfl nd rfl nd rfl nd rfl (by omega) | exact PRun.eqN flE rfl rfl nd rfl nd rfl | exact std1) (by exact rfl) ?_)
  · exfalso
    have hz : ((((F0 ++ F1).length : Nat) : Int) == 0) = false := beq_eq_false_iff_ne.2 (by omega)
    rw [hz] at hc
    revert hc; decide
  refine ⟨.inr rfl, Ent.b ?_⟩
  simp only [beq_self_eq_true, Bool.and_true, Bool.true_and]
  decide +kernel
end Go.Proofs.Ytpkolkfglgalpaa
