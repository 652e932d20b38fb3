/- JournalFollows by content: for every events and bytes the function returns true. The row is joined in another text. -/
import Derived.Test.YtpkolkfglgalpaaL1
set_option linter.unusedVariables false
set_option linter.unusedSimpArgs false
namespace Go.Proofs.Ytpkolkfglgalpaa
open Go.Ab Go.Jo
attribute [local irreducible] AWP AOps EStep AQ PStep PRun PCall TCall VCall DStep TDies AWD DCall

set_option maxHeartbeats 1600000 in
set_option maxRecDepth 20000 in
theorem follows_law (l : List Ev) (rest : Bs) : PCall Try.prog 6 [.sl 14 (l.map encE) .no, .sl 1 (rest.map by8) .no] (.b true) := by
  have hh := head_spec
  by_cases hl : l.length ≤ 20 ∧ rest.length ≤ 1000
  · obtain ⟨hl, hr⟩ := hl
    have hw : PCall Try.prog 22 [.sl 14 (l.map encE) .no] (.tup [.sl 1 ((cat (good l)).map by8) .no, .sl 1 ((endsF 0 (good l)).map encN) .no, .sl 14 ((good l).map encE) .no, .b true]) := written_spec l hl
    have hG := good_ok l
    have hGl := good_len l
    generalize good l = G at hw hG hGl
    have hc1 := cat_le hG
    have hc2 : (cat G).length ≤ 42700 := by omega
    have v1 := load_spec (cat G ++ rest) (by rw [List.length_append]; omega)
    rw [loadR_in (by rw [List.length_append]; omega), load_cat G rest hG, List.map_append] at v1
    have v2 := load_spec rest (by omega)
    rw [loadR_in (by omega)] at v2
    have hRl := load_length rest
    obtain ⟨_, _, _, i4⟩ := load_inv rest rest.length (Nat.le_refl _)
    generalize Jo.load rest = R at *
    obtain ⟨Rl, Rn⟩ := R
    dsimp only at v1 v2 hRl i4
    have v3 := sameEv_spec (G ++ Rl) (G ++ Rl) (by rw [List.length_append]; omega) (by rw [List.length_append]; omega)
    rw [List.map_append] at v3
    have v1 : PCall Try.prog 19 [.sl 1 ((cat G).map by8 ++ rest.map by8) .no] (.tup [.sl 14 (G.map encE ++ Rl.map encE) .no, .int ((cat G).length + Rn : Nat), .int 0]) := by rw [show G.map encE ++ Rl.map encE = (G ++ Rl).map encE from List.map_append.symm]; exact v1
    have v2 : PCall Try.prog 19 [.sl 1 (rest.map by8) .no] (.tup [.sl 14 (Rl.map encE) .no, .int (Rn : Nat), .int 0]) := v2
    have g1 : ((((cat G).length + Rn : Nat) : Int) == ((cat G).length : Int) + (Rn : Int)) = true := by simp
    have m1 : (G.map encE).length ≤ 20 := by rw [List.length_map]; omega
    have m2 : (Rl.map encE).length ≤ 1000 := by rw [List.length_map]; omega
    have m3 : ((cat G).map by8).length ≤ 42700 := by rw [List.length_map]; omega
    have m4 : (rest.map by8).length ≤ 1000 := by rw [List.length_map]; omega
    refine PCall.body Try.func6 rfl rfl Try.ntmps6 rfl rfl ?_
    repeat' (first
      | refine AOps.q rfl rfl rfl (fun hg => by first | exact std0 | exact PRun.callW (hh) rfl rfl nd rfl nds | exact PRun.callW (hw) rfl rfl nd rfl nds | exact PRun.callW (v1) rfl rfl nd rfl nds | exact PRun.callW (v2) rfl rfl nd rfl nds | exact PRun.callW (v3) rfl rfl nd rfl nds | exact std1) (by exact rfl) ?_
      | refine AWP.seq ?_
      | refine AWP.regionK (fun K' hK => ?_)
      | (refine AOps.nil (hK _ _ ?_); clear hK K')
      | refine AOps.e (EStep.boxW rfl rfl rfl rfl rfl True.intro rfl rfl ?_)
      | refine AOps.e (EStep.storeW tabOk rfl rfl rfl True.intro rfl rfl True.intro rfl rfl rfl rfl rfl rfl rfl ?_)
      | refine AOps.e (EStep.allocW tabOk rfl rfl rfl rfl rfl rfl ?_)
      | refine AOps.e (EStep.buildOwn (m := 0) tabOk rfl rfl rfl rfl rfl True.intro (pureAll rfl) ?_)
      | refine AOps.e (EStep.appendOwn' tabOk rfl rfl rfl (by decide) (Rd.w rfl True.intro) rfl (Rd.w rfl True.intro) (.sl rfl (by first | exact one_by8 _ | exact one_ev _)) (LOk.of (tabOk.get rfl)) (LOk.of (tabOk.get rfl)) rfl rfl (by simp only [List.length_append, List.length_nil]; omega) (by simp only [List.length_append, List.length_nil]; omega) ?_)
      | refine AOps.e (EStep.gd rfl (by simp [g1]) <| EStep.buildOwn (m := 0) tabOk rfl rfl rfl rfl rfl True.intro (pureAll rfl) ?_)
      | refine AOps.e (EStep.gd rfl (by simp [g1]) <| EStep.appendOwn' tabOk rfl rfl rfl (by decide) (Rd.w rfl (by first | exact True.intro | (change (_ : Bool) = true; simp [g1]))) rfl (Rd.w rfl (by first | exact True.intro | (change (_ : Bool) = true; simp [g1]))) (.sl rfl (by first | exact one_by8 _ | exact one_ev _)) (LOk.of (tabOk.get rfl)) (LOk.of (tabOk.get rfl)) rfl rfl (by simp only [List.length_append, List.length_nil]; omega) (by simp only [List.length_append, List.length_nil]; omega) ?_)
      | (refine AWP.condW rfl True.intro (fun hc => ?_) (fun hc => ?_) <;> (first | (simp only [decide_eq_true_eq] at hc) | (simp only [decide_eq_false_iff_not, Int.not_lt, Int.not_le] at hc) | skip))
      | refine AWP.block ?_
      | refine AWP.exit ?_
      | refine AWP.skip ?_
      | refine AWP.ret ?_
      | refine AWP.drawK2 (by decide +kernel) (by kernel_rfl) (by decide +kernel) rfl (fun K' hK => ?_)
      | refine AWP.drawL2 (by kernel_rfl) (by decide +kernel) rfl (fun K' hK => ?_)
      | (refine AQ.nil (hK _ ?_); clear hK K')
      | refine AQ.nil ?_
      | refine AQ.q rfl rfl (fun hg => by first | exact std0 | exact PRun.callW (hh) rfl rfl nd rfl nds | exact PRun.callW (hw) rfl rfl nd rfl nds | exact PRun.callW (v1) rfl rfl nd rfl nds | exact PRun.callW (v2) rfl rfl nd rfl nds | exact PRun.callW (v3) rfl rfl nd rfl nds | exact std1) (by exact rfl) ?_)
    · exfalso; simp at hc; omega
    · refine ⟨.inr rfl, Ent.b ?_⟩
      simp [g1]
  · refine PCall.body Try.func6 rfl rfl Try.ntmps6 rfl rfl ?_
    repeat' (first
      | refine AOps.q rfl rfl rfl (fun hg => by first | exact std0 | exact PRun.callW (hh) rfl rfl nd rfl nds | exact std1) (by exact rfl) ?_
      | refine AWP.seq ?_
      | refine AWP.regionK (fun K' hK => ?_)
      | (refine AOps.nil (hK _ _ ?_); clear hK K')
      | refine AOps.e (EStep.boxW rfl rfl rfl rfl rfl True.intro rfl rfl ?_)
      | refine AOps.e (EStep.storeW tabOk rfl rfl rfl True.intro rfl rfl True.intro rfl rfl rfl rfl rfl rfl rfl ?_)
      | refine AOps.e (EStep.allocW tabOk rfl rfl rfl rfl rfl rfl ?_)
      | (refine AWP.condW rfl True.intro (fun hc => ?_) (fun hc => ?_) <;> (first | (simp only [decide_eq_true_eq] at hc) | (simp only [decide_eq_false_iff_not, Int.not_lt, Int.not_le] at hc) | skip))
      | refine AWP.block ?_
      | refine AWP.exit ?_
      | refine AWP.skip ?_
      | refine AWP.ret ?_
      | refine AWP.drawK2 (by decide +kernel) (by kernel_rfl) (by decide +kernel) rfl (fun K' hK => ?_)
      | refine AWP.drawL2 (by kernel_rfl) (by decide +kernel) rfl (fun K' hK => ?_)
      | (refine AQ.nil (hK _ ?_); clear hK K')
      | refine AQ.nil ?_
      | refine AQ.q rfl rfl (fun hg => by first | exact std0 | exact PRun.callW (hh) rfl rfl nd rfl nds | exact std1) (by exact rfl) ?_)
    · exact ⟨.inr rfl, Ent.b rfl⟩
    · exfalso; simp at hc; omega
end Go.Proofs.Ytpkolkfglgalpaa
