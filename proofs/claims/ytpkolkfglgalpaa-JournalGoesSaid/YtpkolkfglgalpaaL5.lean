/- JournalGoes by content: for every bytes and events the function returns true. The row is joined in another text. -/
import Derived.Test.YtpkolkfglgalpaaL1
set_option linter.unusedVariables false
set_option linter.unusedSimpArgs false
namespace Go.Ab
/-- A slice of a growing array is told by its content alone. -/
theorem AWP.unown {P : Program} {n : Nat} {c : Code} {K : Exit → Env → Store → Prop} {env : Env} {σ : Store} (d : Nat) {sz l : Nat} {es : List (List AV)} (hd : env d = .sl sz es (.own l)) (hk : AWP P n c K (env.put d (.sl sz es .no)) σ) : AWP P n c K env σ :=
  AWP.weaken (fun M B i x hx => by
    unfold Env.put
    by_cases hi : i = d
    · subst hi
      rw [hd] at hx
      rw [if_pos rfl]
      cases hx with
      | sl _ _ _ b off cap f hz hm hr hc ht => exact .sl sz es .no b off cap f hz hm hr hc trivial
      | slz _ _ ht => exact .slz sz .no trivial
    · rw [if_neg hi]; exact hx) hk
end Go.Ab
namespace Go.Proofs.Ytpkolkfglgalpaa
open Go.Ab Go.Jo
attribute [local irreducible] AWP AOps EStep AQ PStep PRun PCall TCall VCall DStep TDies AWD DCall

set_option maxHeartbeats 3200000 in
set_option maxRecDepth 20000 in
theorem goes_law (b : Bs) (l : List Ev) : PCall Try.prog 8 [.sl 1 (b.map by8) .no, .sl 14 (l.map encE) .no] (.b true) := by
  have hh := head_spec
  by_cases hl : b.length ≤ 1000 ∧ l.length ≤ 10
  · obtain ⟨hb, hl⟩ := hl
    have v1 := load_spec b (by omega)
    rw [loadR_in (by omega)] at v1
    obtain ⟨i1, i2, i3, i4⟩ := load_inv b b.length (Nat.le_refl _)
    have hRl := load_length b
    generalize Jo.load b = R at *
    obtain ⟨A, m⟩ := R
    dsimp only at v1 i1 i2 i3 i4 hRl
    have v1 : PCall Try.prog 19 [.sl 1 (b.map by8) .no] (.tup [.sl 14 (A.map encE) .no, .int (m : Nat), .int 0]) := v1
    have gl : ∀ k, (cat (A ++ good (l.take k))).length ≤ 1000 + 10 * 2135 := fun k => by
      have h1 := cat_le (good_ok (l.take k))
      have h2 := good_len (l.take k)
      rw [List.length_take] at h2
      have h3 : cat (A ++ good (l.take k)) = cat A ++ cat (good (l.take k)) := by simp [cat]
      rw [h3, List.length_append]; omega
    have al : ∀ k, (A ++ good (l.take k)).length ≤ 1010 := fun k => by
      have h2 := good_len (l.take k)
      rw [List.length_take] at h2
      rw [List.length_append]; omega
    have aok : ∀ e ∈ A ++ good l, evOk e = true := fun e he => by
      rcases List.mem_append.1 he with h | h
      · exact i1 e h
      · exact good_ok l e h
    have v3 := load_spec (cat (A ++ good l)) (by have := gl l.length; rw [List.take_length] at this; omega)
    have e3 : Jo.load (cat (A ++ good l)) = (A ++ good l, (cat (A ++ good l)).length) := by
      have := load_cat (A ++ good l) [] aok
      rw [List.append_nil, load_nil] at this
      simpa using this
    rw [loadR_in (by have := gl l.length; rw [List.take_length] at this; omega), e3] at v3
    have v4 := sameEv_spec (A ++ good l) (A ++ good l) (by have := al l.length; rw [List.take_length] at this; omega) (by have := al l.length; rw [List.take_length] at this; omega)
    have v3 : PCall Try.prog 19 [.sl 1 ((cat (A ++ good l)).map by8) .no] (.tup [.sl 14 ((A ++ good l).map encE) .no, .int ((cat (A ++ good l)).length : Nat), .int 0]) := v3
    refine PCall.body Try.func8 rfl rfl Try.ntmps8 rfl rfl ?_
    repeat' (first
      | refine AOps.q rfl rfl rfl (fun hg => by first | exact std0 | exact PRun.callW (hh) rfl rfl nd rfl nds | exact PRun.callW (v1) rfl rfl nd rfl nds | exact PRun.sliceLoM tabOk rfl rfl nd rfl nd rfl (by omega) | exact PRun.sliceHiM tabOk rfl rfl nd rfl nd rfl (by omega) | exact PRun.sliceM tabOk rfl rfl nd rfl nd rfl nd rfl (by omega) | exact std1) (by exact rfl) ?_
      | refine AWP.seq ?_
      | refine AWP.regionK (fun K' hK => ?_)
      | (refine AOps.nil (hK _ _ ?_); clear hK K')
      | refine AOps.e (EStep.boxW rfl rfl rfl rfl rfl True.intro rfl rfl ?_)
      | refine AOps.e (EStep.storeW tabOk rfl rfl rfl True.intro rfl rfl True.intro rfl rfl rfl rfl rfl rfl rfl ?_)
      | refine AOps.e (EStep.allocW tabOk rfl rfl rfl rfl rfl rfl ?_)
      | refine AOps.e (EStep.buildOwn (m := 0) tabOk rfl rfl rfl rfl rfl True.intro (pureAll rfl) ?_)
      | refine AOps.e (EStep.appendOwn' tabOk rfl rfl rfl (by decide) (Rd.w rfl True.intro) rfl (Rd.w rfl True.intro) (.sl rfl (by first | exact one_by8 _ | exact one_ev _)) (LOk.of (tabOk.get rfl)) (LOk.of (tabOk.get rfl)) rfl rfl (by simp only [List.length_map, List.length_append, List.length_cons, List.length_nil, List.length_take]; omega) (by simp only [List.length_map, List.length_append, List.length_cons, List.length_nil, List.length_take]; omega) ?_)
      | (refine AWP.condW rfl True.intro (fun hc => ?_) (fun hc => ?_) <;> (first | (simp only [decide_eq_true_eq] at hc) | (simp only [decide_eq_false_iff_not, Int.not_lt, Int.not_le] at hc) | skip))
      | refine AWP.block ?_
      | refine AWP.exit ?_
      | refine AWP.skip ?_
      | refine AWP.ret ?_
      | refine AWP.drawK2 (by decide +kernel) (by kernel_rfl) (by decide +kernel) rfl (fun K' hK => ?_)
      | refine AWP.drawL2 (by kernel_rfl) (by decide +kernel) rfl (fun K' hK => ?_)
      | (refine AQ.nil (hK _ ?_); clear hK K')
      | refine AQ.nil ?_
      | refine AQ.q rfl rfl (fun hg => by first | exact std0 | exact PRun.callW (hh) rfl rfl nd rfl nds | exact PRun.callW (v1) rfl rfl nd rfl nds | exact PRun.sliceLoM tabOk rfl rfl nd rfl nd rfl (by omega) | exact PRun.sliceHiM tabOk rfl rfl nd rfl nd rfl (by omega) | exact PRun.sliceM tabOk rfl rfl nd rfl nd rfl nd rfl (by omega) | exact std1) (by exact rfl) ?_)
    · exfalso; simp at hc; omega
    · exfalso; simp at hc; omega
    refine AWP.unown 9 rfl ?_
    refine AWP.loopW (ι := Nat) (fun k => [(1, .sl 14 (l.map encE) .no), (5, .b true), (9, .sl 1 ((cat (A ++ good (l.take k))).map by8) .no), (10, .sl 14 ((A ++ good (l.take k)).map encE) (.own 1)), (11, .int k)]) (fun k => [.own 1 ([] ++ (b.take ((m : Nat) : Int).toNat).map by8).length, .own 14 ((A ++ good (l.take k)).map encE).length]) (fun k => k ≤ l.length) (fun k => l.length - k) 0 (Nat.zero_le _) ⟨rfl, rfl, ?_, ?_, rfl, True.intro⟩ ?_ ?_
    · show AV.sl 1 ([] ++ (b.take m).map by8) .no = AV.sl 1 ((cat (A ++ [])).map by8) .no
      rw [i2, List.append_nil, List.nil_append]
    · show AV.sl 14 ([] ++ A.map encE) (.own 1) = AV.sl 14 ((A ++ []).map encE) (.own 1)
      rw [List.append_nil, List.nil_append]
    · show [AObj.own 1 _, AObj.own 14 ([] ++ A.map encE).length] = [AObj.own 1 _, AObj.own 14 ((A ++ []).map encE).length]
      rw [List.append_nil A, List.nil_append (A.map encE)]
    intro k hk
    have hcl := gl k
    have hal := al k
    have hml : ((A ++ good (l.take k)).map encE).length ≤ 1010 := by rw [List.length_map]; exact hal
    by_cases hlt : k < l.length
    · have gt := good_take hlt
      have hs := short_spec (l.getD k default)
      by_cases hsh : (l.getD k default).mark.text.length ≤ 300
      · rw [show decide ((l.getD k default).mark.text.length ≤ 300) = true from decide_eq_true hsh] at hs
        have hv := event22_spec (l.getD k default) (by omega)
        cases hev : evOk (l.getD k default) with
        | false =>
          rw [hev] at hv gt
          rw [if_neg (by simp)] at gt
          repeat' (first
            | refine AOps.q rfl rfl rfl (fun hg => by first | exact std0 | exact PRun.callW (hs) rfl rfl nd rfl nds | exact PRun.callW (hv) rfl rfl nd rfl nds | exact std1) (by exact rfl) ?_
            | refine AWP.seq ?_
            | refine AWP.regionK (fun K' hK => ?_)
            | (refine AOps.nil (hK _ _ ?_); clear hK K')
            | refine AOps.e (EStep.boxW rfl rfl rfl rfl rfl True.intro rfl rfl ?_)
            | refine AOps.e (EStep.storeW tabOk rfl rfl rfl True.intro rfl rfl True.intro rfl rfl rfl rfl rfl rfl rfl ?_)
            | refine AOps.e (EStep.allocW tabOk rfl rfl rfl rfl rfl rfl ?_)
            | (refine AWP.condW rfl True.intro (fun hc => ?_) (fun hc => ?_) <;> (first | (simp only [decide_eq_true_eq] at hc) | (simp only [decide_eq_false_iff_not, Int.not_lt, Int.not_le] at hc) | skip))
            | refine AWP.block ?_
            | refine AWP.exit ?_
            | refine AWP.skip ?_
            | refine AWP.ret ?_
            | refine AWP.drawK2 (by decide +kernel) (by kernel_rfl) (by decide +kernel) rfl (fun K' hK => ?_)
            | refine AWP.drawL2 (by kernel_rfl) (by decide +kernel) rfl (fun K' hK => ?_)
            | (refine AQ.nil (hK _ ?_); clear hK K')
            | refine AQ.nil ?_
            | refine AQ.q rfl rfl (fun hg => by first | exact std0 | exact PRun.callW (hs) rfl rfl nd rfl nds | exact PRun.callW (hv) rfl rfl nd rfl nds | exact std1) (by exact rfl) ?_)
          all_goals first
            | (exfalso; omega)
            | (exfalso; simp at hc; done)
            | exact ⟨k + 1, by omega, by omega, ⟨rfl, rfl, by rw [gt]; rfl, by rw [gt]; rfl, rfl, True.intro⟩, by rw [gt]⟩
        | true =>
          rw [hev] at hv gt
          rw [if_pos rfl] at gt
          have ha := append_spec (cat (A ++ good (l.take k))) (l.getD k default) (by omega) hsh
          have hfl := fr_len2 hev
          rw [show appendR (cat (A ++ good (l.take k))) (l.getD k default) = (cat (A ++ good (l.take k)) ++ fr (l.getD k default), 0) by unfold appendR; rw [hev, if_pos rfl, if_neg (by omega)]] at ha
          dsimp only at ha
          have e1 : A ++ good (l.take (k + 1)) = (A ++ good (l.take k)) ++ [l.getD k default] := by rw [gt, List.append_assoc]
          have e2 : cat (A ++ good (l.take (k + 1))) = cat (A ++ good (l.take k)) ++ fr (l.getD k default) := by rw [e1, cat_snoc]
          repeat' (first
            | refine AOps.q rfl rfl rfl (fun hg => by first | exact std0 | exact PRun.callW (hs) rfl rfl nd rfl nds | exact PRun.callW (hv) rfl rfl nd rfl nds | exact PRun.callW (ha) rfl rfl nd rfl nds | exact PRun.buildSlW tabOk rfl rfl nds | exact std1) (by exact rfl) ?_
            | refine AWP.seq ?_
            | refine AWP.regionK (fun K' hK => ?_)
            | (refine AOps.nil (hK _ _ ?_); clear hK K')
            | refine AOps.e (EStep.boxW rfl rfl rfl rfl rfl True.intro rfl rfl ?_)
            | refine AOps.e (EStep.storeW tabOk rfl rfl rfl True.intro rfl rfl True.intro rfl rfl rfl rfl rfl rfl rfl ?_)
            | refine AOps.e (EStep.allocW tabOk rfl rfl rfl rfl rfl rfl ?_)
            | refine AOps.e (EStep.appendOwn' tabOk rfl rfl rfl (by decide) (Rd.w rfl True.intro) rfl (Rd.w rfl True.intro) (.sl rfl (by intro x hx; rcases List.mem_singleton.1 hx with rfl; rfl)) (LOk.of (tabOk.get rfl)) (LOk.of (tabOk.get rfl)) rfl rfl (by simp only [List.length_cons, List.length_nil]; omega) (by simp only [List.length_cons, List.length_nil]; omega) ?_)
            | (refine AWP.condW rfl True.intro (fun hc => ?_) (fun hc => ?_) <;> (first | (simp only [decide_eq_true_eq] at hc) | (simp only [decide_eq_false_iff_not, Int.not_lt, Int.not_le] at hc) | skip))
            | refine AWP.block ?_
            | refine AWP.exit ?_
            | refine AWP.skip ?_
            | refine AWP.ret ?_
            | refine AWP.drawK2 (by decide +kernel) (by kernel_rfl) (by decide +kernel) rfl (fun K' hK => ?_)
            | refine AWP.drawL2 (by kernel_rfl) (by decide +kernel) rfl (fun K' hK => ?_)
            | (refine AQ.nil (hK _ ?_); clear hK K')
            | refine AQ.nil ?_
            | refine AQ.q rfl rfl (fun hg => by first | exact std0 | exact PRun.callW (hs) rfl rfl nd rfl nds | exact PRun.callW (hv) rfl rfl nd rfl nds | exact PRun.callW (ha) rfl rfl nd rfl nds | exact PRun.buildSlW tabOk rfl rfl nds | exact std1) (by exact rfl) ?_)
          all_goals first
            | (exfalso; omega)
            | (exfalso; simp at hc; done)
            | exact ⟨k + 1, by omega, by omega, ⟨rfl, rfl, by rw [e2]; rfl, Eq.trans (b := AV.sl 14 ((A ++ good (l.take k)).map encE ++ [encE (l.getD k default)]) (.own 1)) rfl (by rw [e1, List.map_append (l₁ := A ++ good (l.take k))]; rfl), rfl, True.intro⟩, Eq.trans (b := [AObj.own 1 ([] ++ (b.take ((m : Nat) : Int).toNat).map by8).length, AObj.own 14 ((A ++ good (l.take k)).map encE ++ [encE (l.getD k default)]).length]) rfl (by rw [e1, List.map_append (l₁ := A ++ good (l.take k))]; rfl)⟩
      · rw [show decide ((l.getD k default).mark.text.length ≤ 300) = false from decide_eq_false hsh] at hs
        have hev : evOk (l.getD k default) = false := by
          cases h : evOk (l.getD k default) with
          | false => rfl
          | true => exact absurd (short_ok h) (by omega)
        rw [hev, if_neg (by simp)] at gt
        repeat' (first
          | refine AOps.q rfl rfl rfl (fun hg => by first | exact std0 | exact PRun.callW (hs) rfl rfl nd rfl nds | exact (Bool.noConfusion (show false = true from hg) : PRun _ _ _ _ (.b false)) | exact std1) (by exact rfl) ?_
          | refine AWP.seq ?_
          | refine AWP.regionK (fun K' hK => ?_)
          | (refine AOps.nil (hK _ _ ?_); clear hK K')
          | refine AOps.e (EStep.boxW rfl rfl rfl rfl rfl True.intro rfl rfl ?_)
          | refine AOps.e (EStep.storeW tabOk rfl rfl rfl True.intro rfl rfl True.intro rfl rfl rfl rfl rfl rfl rfl ?_)
          | refine AOps.e (EStep.allocW tabOk rfl rfl rfl rfl rfl rfl ?_)
          | (refine AWP.condW rfl True.intro (fun hc => ?_) (fun hc => ?_) <;> (first | (simp only [decide_eq_true_eq] at hc) | (simp only [decide_eq_false_iff_not, Int.not_lt, Int.not_le] at hc) | skip))
          | refine AWP.block ?_
          | refine AWP.exit ?_
          | refine AWP.skip ?_
          | refine AWP.ret ?_
          | refine AWP.drawK2 (by decide +kernel) (by kernel_rfl) (by decide +kernel) rfl (fun K' hK => ?_)
          | refine AWP.drawL2 (by kernel_rfl) (by decide +kernel) rfl (fun K' hK => ?_)
          | (refine AQ.nil (hK _ ?_); clear hK K')
          | refine AQ.nil ?_
          | refine AQ.q rfl rfl (fun hg => by first | exact std0 | exact PRun.callW (hs) rfl rfl nd rfl nds | exact (Bool.noConfusion (show false = true from hg) : PRun _ _ _ _ (.b false)) | exact std1) (by exact rfl) ?_)
        all_goals first
          | (exfalso; omega)
          | (exfalso; simp at hc; done)
          | exact ⟨k + 1, by omega, by omega, ⟨rfl, rfl, by rw [gt]; rfl, by rw [gt]; rfl, rfl, True.intro⟩, by rw [gt]⟩
    · have hkl : l.take k = l := List.take_of_length_le (by omega)
      rw [hkl] at hcl hal hml ⊢
      repeat' (first
        | refine AOps.q rfl rfl rfl (fun hg => by first | exact std0 | exact PRun.callW (v3) rfl rfl nd rfl nds | exact PRun.callW (v4) rfl rfl nd rfl nds | exact std1) (by exact rfl) ?_
        | refine AWP.seq ?_
        | refine AWP.regionK (fun K' hK => ?_)
        | (refine AOps.nil (hK _ _ ?_); clear hK K')
        | refine AOps.e (EStep.boxW rfl rfl rfl rfl rfl True.intro rfl rfl ?_)
        | refine AOps.e (EStep.storeW tabOk rfl rfl rfl True.intro rfl rfl True.intro rfl rfl rfl rfl rfl rfl rfl ?_)
        | refine AOps.e (EStep.allocW tabOk rfl rfl rfl rfl rfl rfl ?_)
        | (refine AWP.condW rfl True.intro (fun hc => ?_) (fun hc => ?_) <;> (first | (simp only [decide_eq_true_eq] at hc) | (simp only [decide_eq_false_iff_not, Int.not_lt, Int.not_le] at hc) | skip))
        | refine AWP.block ?_
        | refine AWP.exit ?_
        | refine AWP.skip ?_
        | refine AWP.ret ?_
        | refine AWP.drawK2 (by decide +kernel) (by kernel_rfl) (by decide +kernel) rfl (fun K' hK => ?_)
        | refine AWP.drawL2 (by kernel_rfl) (by decide +kernel) rfl (fun K' hK => ?_)
        | (refine AQ.nil (hK _ ?_); clear hK K')
        | refine AQ.nil ?_
        | refine AQ.q rfl rfl (fun hg => by first | exact std0 | exact PRun.callW (v3) rfl rfl nd rfl nds | exact PRun.callW (v4) rfl rfl nd rfl nds | exact std1) (by exact rfl) ?_)
      · exfalso; omega
      · exact ⟨.inr rfl, Ent.b (by simp)⟩
  · refine PCall.body Try.func8 rfl rfl Try.ntmps8 rfl rfl ?_
    repeat' (first
      | refine AOps.q rfl rfl rfl (fun hg => by first | exact std0 | exact PRun.callW (hh) rfl rfl nd rfl nds | exact std1) (by exact rfl) ?_
      | refine AWP.seq ?_
      | refine AWP.regionK (fun K' hK => ?_)
      | (refine AOps.nil (hK _ _ ?_); clear hK K')
      | refine AOps.e (EStep.boxW rfl rfl rfl rfl rfl True.intro rfl rfl ?_)
      | refine AOps.e (EStep.storeW tabOk rfl rfl rfl True.intro rfl rfl True.intro rfl rfl rfl rfl rfl rfl rfl ?_)
      | refine AOps.e (EStep.allocW tabOk rfl rfl rfl rfl rfl rfl ?_)
      | (refine AWP.condW rfl True.intro (fun hc => ?_) (fun hc => ?_) <;> (first | (simp only [decide_eq_true_eq] at hc) | (simp only [decide_eq_false_iff_not, Int.not_lt, Int.not_le] at hc) | skip))
      | refine AWP.block ?_
      | refine AWP.exit ?_
      | refine AWP.skip ?_
      | refine AWP.ret ?_
      | refine AWP.drawK2 (by decide +kernel) (by kernel_rfl) (by decide +kernel) rfl (fun K' hK => ?_)
      | refine AWP.drawL2 (by kernel_rfl) (by decide +kernel) rfl (fun K' hK => ?_)
      | (refine AQ.nil (hK _ ?_); clear hK K')
      | refine AQ.nil ?_
      | refine AQ.q rfl rfl (fun hg => by first | exact std0 | exact PRun.callW (hh) rfl rfl nd rfl nds | exact std1) (by exact rfl) ?_)
    · exact ⟨.inr rfl, Ent.b rfl⟩
    · exfalso; simp at hc; omega
end Go.Proofs.Ytpkolkfglgalpaa
