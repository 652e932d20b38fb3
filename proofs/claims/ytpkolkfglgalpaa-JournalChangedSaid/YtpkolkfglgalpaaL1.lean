/- Contracts by content: events that are written, one after the other. No statement is proved here. -/
import Derived.Test.YtpkolkfglgalpaaL0
set_option linter.unusedVariables false
set_option linter.unusedSimpArgs false
namespace Go.Ab
theorem AWP.nilNo {P : Program} {n : Nat} {c : Code} {K : Exit → Env → Store → Prop} {env : Env} {σ : Store} (d sz : Nat) (hd : env d = .nils) (hk : AWP P n c K (env.put d (.sl sz [] .no)) σ) : AWP P n c K env σ :=
  AWP.weaken (fun M B i x hx => by
    unfold Env.put
    by_cases hi : i = d
    · subst hi
      rw [hd] at hx
      rw [if_pos rfl]
      cases hx; exact .slz sz .no trivial
    · rw [if_neg hi]; exact hx) hk
/-- An operation behind a guard that is open. -/
theorem EStep.gd {P : Program} {n : Nat} {ops : Array Oper} {o : Oper} {k : Env → Store → Prop} {env : Env} {σ : Store} {g : GG} (hg : gOf ops env o = some g) (hh : g.holds) (h : EStep P n ops { o with guard := none } k env σ) : EStep P n ops o k env σ := by
  intro G a w hr
  have h' := h G a w hr
  rw [if_pos (by simp [Region.wanted])] at h'
  have hw : Region.wanted o (yielded ops a.tmps) = true := by
    unfold gOf at hg
    split at hg
    · rename_i hgd; simp [Region.wanted, hgd]
    · rename_i j want hgd
      split at hg
      · rename_i d hd
        have hz := hr.vals d
        have key : ∀ t, (t == want) = true → a.tmps.getD d undef = .bool t → Region.wanted o (yielded ops a.tmps) = true := fun t ht h1 => by
          have h2 : a.tmps[d]? = some (.bool t) := by
            cases h : a.tmps[d]? with
            | none => simp [h, undef] at h1
            | some y => simp [h] at h1; rw [h1]
          simp only [Region.wanted, hgd, yielded, hd, Option.bind_some, h2]
          cases t <;> cases want <;> first | rfl | cases ht
        split at hg
        · rename_i t he
          simp at hg; subst hg
          rw [he] at hz
          exact key t hh (VRel.prim_eq hz)
        · rename_i g' t he
          simp at hg; subst hg
          have hh' : g' = true ∧ (t == want) = true := by simpa using hh
          rw [he] at hz
          cases hz with
          | when _ _ _ h0 h1 => exact key t hh'.2 (VRel.prim_eq (h0 hh'.1))
        · simp at hg
      · simp at hg
  rw [if_pos hw]
  exact h'
end Go.Ab
namespace Go.Proofs.Ytpkolkfglgalpaa
open Go.Ab Go.Jo
attribute [local irreducible] AWP AOps EStep AQ PStep PRun PCall TCall VCall DStep TDies AWD DCall

theorem one_ev (l : List Ev) : ∀ x ∈ l.map encE, x.all oneAV = true := fun x hx => by obtain ⟨e, _, rfl⟩ := List.mem_map.1 hx; rfl
def endsF (n : Nat) : List Ev → List Int
  | [] => []
  | e :: l => ((n + (fr e).length : Nat) : Int) :: endsF (n + (fr e).length) l
theorem endsF_snoc : ∀ (l : List Ev) (n : Nat) (e : Ev), endsF n (l ++ [e]) = endsF n l ++ [((n + (cat (l ++ [e])).length : Nat) : Int)]
  | [], n, e => by simp [endsF, cat]
  | x :: l, n, e => by
    have e1 : cat (x :: (l ++ [e])) = fr x ++ cat (l ++ [e]) := by simp [cat]
    rw [List.cons_append, endsF, endsF_snoc l, endsF, e1, List.length_append, Nat.add_assoc]; rfl
theorem endsF_len : ∀ (l : List Ev) (n : Nat), (endsF n l).length = l.length
  | [], _ => rfl
  | e :: l, n => by rw [endsF, List.length_cons, endsF_len l, List.length_cons]
theorem cat_snoc (l : List Ev) (e : Ev) : cat (l ++ [e]) = cat l ++ fr e := by simp [cat]
theorem cat_le {l : List Ev} (h : ∀ e ∈ l, evOk e = true) : (cat l).length ≤ l.length * 2135 := by
  induction l with
  | nil => simp [cat]
  | cons e l ih =>
    have e1 : cat (e :: l) = fr e ++ cat l := by simp [cat]
    have := fr_len2 (h e (List.mem_cons_self ..))
    have := ih fun x hx => h x (List.mem_cons_of_mem _ hx)
    rw [e1, List.length_append, List.length_cons]; omega
/-- The events that are well-formed. -/
def good (l : List Ev) : List Ev := l.filter evOk
theorem good_ok (l : List Ev) : ∀ e ∈ good l, evOk e = true := fun e he => (List.mem_filter.1 he).2
theorem good_len (l : List Ev) : (good l).length ≤ l.length := List.length_filter_le ..
theorem good_take {l : List Ev} {k : Nat} (h : k < l.length) : good (l.take (k + 1)) = if evOk (l.getD k default) then good (l.take k) ++ [l.getD k default] else good (l.take k) := by
  unfold good
  rw [List.take_succ_eq_append_getElem h, List.filter_append, getD_lt h]
  cases h : evOk l[k] <;> simp [h]
abbrev wrR (l : List Ev) : AV := .tup [.sl 1 ((cat (good l)).map by8) .no, .sl 1 ((endsF 0 (good l)).map encN) .no, .sl 14 ((good l).map encE) .no, .b true]
set_option maxHeartbeats 1600000 in
set_option maxRecDepth 20000 in
theorem written_spec (l : List Ev) (hl : l.length ≤ 20) : PCall Try.prog 22 [.sl 14 (l.map encE) .no] (wrR l) := by
  refine PCall.body Try.func22 rfl rfl Try.ntmps22 rfl rfl ?_
  repeat' (first
    | refine AOps.q rfl rfl rfl (fun hg => by first | exact std0 | exact std1) (by exact rfl) ?_
    | refine AWP.seq ?_
    | refine AWP.regionK (fun K' hK => ?_)
    | (refine AOps.nil (hK _ _ ?_); clear hK K')
    | refine AOps.e (EStep.boxW rfl rfl rfl rfl rfl True.intro rfl rfl ?_)
    | refine AOps.e (EStep.storeW tabOk rfl rfl rfl True.intro rfl rfl True.intro rfl rfl rfl rfl rfl rfl rfl ?_)
    | refine AOps.e (EStep.allocW tabOk rfl rfl rfl rfl rfl rfl ?_)
    | (refine AWP.condW rfl True.intro (fun hc => ?_) (fun hc => ?_) <;> (first | (simp only [decide_eq_true_eq] at hc) | (simp only [decide_eq_false_iff_not, Int.not_lt, Int.not_le] at hc) | skip))
    | refine AWP.block ?_
    | refine AWP.exit ?_
    | refine AWP.skip ?_
    | refine AWP.ret ?_
    | refine AWP.drawK2 (by decide +kernel) (by kernel_rfl) (by decide +kernel) rfl (fun K' hK => ?_)
    | refine AWP.drawL2 (by kernel_rfl) (by decide +kernel) rfl (fun K' hK => ?_)
    | (refine AQ.nil (hK _ ?_); clear hK K')
    | refine AQ.nil ?_
    | refine AQ.q rfl rfl (fun hg => by first | exact std0 | exact std1) (by exact rfl) ?_)
  refine AWP.nilNo 6 1 rfl ?_
  refine AWP.ownNil (d := 7) (sz := 1) rfl ?_
  refine AWP.ownNil (d := 8) (sz := 14) rfl ?_
  refine AWP.loopW (ι := Nat) (fun k => [(0, .sl 14 (l.map encE) .no), (6, .sl 1 ((cat (good (l.take k))).map by8) .no), (7, .sl 1 ((endsF 0 (good (l.take k))).map encN) (.own 0)), (8, .sl 14 ((good (l.take k)).map encE) (.own 1)), (9, .int k)]) (fun k => [.own 1 ((endsF 0 (good (l.take k))).map encN).length, .own 14 ((good (l.take k)).map encE).length]) (fun k => k ≤ l.length) (fun k => l.length - k) 0 (Nat.zero_le _) ⟨rfl, rfl, rfl, rfl, rfl, True.intro⟩ rfl ?_
  intro k hk
  have hg1 : (good (l.take k)).length ≤ 20 := by have := good_len (l.take k); rw [List.length_take] at this; omega
  have hg2 : (cat (good (l.take k))).length ≤ 20 * 2135 := by have := cat_le (good_ok (l.take k)); omega
  have hg3 : ((endsF 0 (good (l.take k))).map encN).length ≤ 20 := by rw [List.length_map, endsF_len]; exact hg1
  have hg4 : ((good (l.take k)).map encE).length ≤ 20 := by rw [List.length_map]; exact hg1
  by_cases hlt : k < l.length
  · have gt := good_take hlt
    have hs := short_spec (l.getD k default)
    by_cases hsh : (l.getD k default).mark.text.length ≤ 300
    · rw [show decide ((l.getD k default).mark.text.length ≤ 300) = true from decide_eq_true hsh] at hs
      have hv := event22_spec (l.getD k default) (by omega)
      cases hev : evOk (l.getD k default) with
      | false =>
        rw [hev] at hv gt
        rw [if_neg (by simp)] at gt
        repeat' (first
          | refine AOps.q rfl rfl rfl (fun hg => by first | exact std0 | exact PRun.callW (hs) rfl rfl nd rfl nds | exact PRun.callW (hv) rfl rfl nd rfl nds | exact std1) (by exact rfl) ?_
          | refine AWP.seq ?_
          | refine AWP.regionK (fun K' hK => ?_)
          | (refine AOps.nil (hK _ _ ?_); clear hK K')
          | refine AOps.e (EStep.boxW rfl rfl rfl rfl rfl True.intro rfl rfl ?_)
          | refine AOps.e (EStep.storeW tabOk rfl rfl rfl True.intro rfl rfl True.intro rfl rfl rfl rfl rfl rfl rfl ?_)
          | refine AOps.e (EStep.allocW tabOk rfl rfl rfl rfl rfl rfl ?_)
          | (refine AWP.condW rfl True.intro (fun hc => ?_) (fun hc => ?_) <;> (first | (simp only [decide_eq_true_eq] at hc) | (simp only [decide_eq_false_iff_not, Int.not_lt, Int.not_le] at hc) | skip))
          | refine AWP.block ?_
          | refine AWP.exit ?_
          | refine AWP.skip ?_
          | refine AWP.ret ?_
          | refine AWP.drawK2 (by decide +kernel) (by kernel_rfl) (by decide +kernel) rfl (fun K' hK => ?_)
          | refine AWP.drawL2 (by kernel_rfl) (by decide +kernel) rfl (fun K' hK => ?_)
          | (refine AQ.nil (hK _ ?_); clear hK K')
          | refine AQ.nil ?_
          | refine AQ.q rfl rfl (fun hg => by first | exact std0 | exact PRun.callW (hs) rfl rfl nd rfl nds | exact PRun.callW (hv) rfl rfl nd rfl nds | exact std1) (by exact rfl) ?_)
        all_goals first
          | (exfalso; omega)
          | (exfalso; simp at hc; done)
          | exact ⟨k + 1, by omega, by omega, ⟨rfl, by rw [gt]; rfl, by rw [gt]; rfl, by rw [gt]; rfl, rfl, True.intro⟩, by rw [gt]⟩
      | true =>
        rw [hev] at hv gt
        rw [if_pos rfl] at gt
        have ha := append_spec (cat (good (l.take k))) (l.getD k default) (by omega) hsh
        have hfl := fr_len2 hev
        rw [show appendR (cat (good (l.take k))) (l.getD k default) = (cat (good (l.take k)) ++ fr (l.getD k default), 0) by unfold appendR; rw [hev, if_pos rfl, if_neg (by omega)]] at ha
        dsimp only at ha
        repeat' (first
          | refine AOps.q rfl rfl rfl (fun hg => by first | exact std0 | exact PRun.callW (hs) rfl rfl nd rfl nds | exact PRun.callW (hv) rfl rfl nd rfl nds | exact PRun.callW (ha) rfl rfl nd rfl nds | exact std1) (by exact rfl) ?_
          | refine AWP.seq ?_
          | refine AWP.regionK (fun K' hK => ?_)
          | (refine AOps.nil (hK _ _ ?_); clear hK K')
          | refine AOps.e (EStep.boxW rfl rfl rfl rfl rfl True.intro rfl rfl ?_)
          | refine AOps.e (EStep.storeW tabOk rfl rfl rfl True.intro rfl rfl True.intro rfl rfl rfl rfl rfl rfl rfl ?_)
          | refine AOps.e (EStep.allocW tabOk rfl rfl rfl rfl rfl rfl ?_)
          | (refine AWP.condW rfl True.intro (fun hc => ?_) (fun hc => ?_) <;> (first | (simp only [decide_eq_true_eq] at hc) | (simp only [decide_eq_false_iff_not, Int.not_lt, Int.not_le] at hc) | skip))
          | refine AWP.block ?_
          | refine AWP.exit ?_
          | refine AWP.skip ?_
          | refine AWP.ret ?_
          | (refine AQ.nil (hK _ ?_); clear hK K')
          | refine AQ.nil ?_
          | refine AQ.q rfl rfl (fun hg => by first | exact std0 | exact PRun.callW (hs) rfl rfl nd rfl nds | exact PRun.callW (hv) rfl rfl nd rfl nds | exact PRun.callW (ha) rfl rfl nd rfl nds | exact std1) (by exact rfl) ?_)
        · exfalso; simp at hc
        · exfalso; simp at hc
        · have en : endsF 0 (good (l.take (k + 1))) = endsF 0 (good (l.take k)) ++ [(((cat (good (l.take k)) ++ fr (l.getD k default)).length : Nat) : Int)] := by
            rw [gt, endsF_snoc, cat_snoc, Nat.zero_add]
          have ec : cat (good (l.take (k + 1))) = cat (good (l.take k)) ++ fr (l.getD k default) := by rw [gt, cat_snoc]
          clear hc hs hv ha
          generalize good (l.take k) = A at *
          refine AWP.drawY (fun j => match j with | 0 => [.own 1 ((endsF 0 A).map encN).length, .own 14 (A.map encE).length] | 1 => [.own 1 ((endsF 0 A).map encN ++ [encN ((cat A ++ fr (l.getD k default)).length : Nat)]).length, .own 14 (A.map encE).length] | _ => [.own 1 ((endsF 0 A).map encN ++ [encN ((cat A ++ fr (l.getD k default)).length : Nat)]).length, .own 14 (A.map encE ++ [encE (l.getD k default)]).length]) rfl (by kernel_rfl) (by decide +kernel) rfl (by decide +kernel) (fun K' hK => ?_)
          repeat' (first
            | refine YQ.q (a := 0) (b := 0) rfl (by decide +kernel) (by decide +kernel) rfl rfl rfl (fun k h1 h2 hg => by (have hk : k = 0 := (by omega)); (rcases hk with rfl) <;> (first | exact std0 | exact PRun.buildSlW tabOk rfl rfl nds | exact std1)) (by exact rfl) ?_
            | refine YQ.q (a := 0) (b := 1) rfl (by decide +kernel) (by decide +kernel) rfl rfl rfl (fun k h1 h2 hg => by (have hk : k = 0 ∨ k = 1 := (by omega)); (rcases hk with rfl | rfl) <;> (first | exact std0 | exact PRun.buildSlW tabOk rfl rfl nds | exact std1)) (by exact rfl) ?_
            | refine YQ.q (a := 1) (b := 1) rfl (by decide +kernel) (by decide +kernel) rfl rfl rfl (fun k h1 h2 hg => by (have hk : k = 1 := (by omega)); (rcases hk with rfl) <;> (first | exact std0 | exact PRun.buildSlW tabOk rfl rfl nds | exact std1)) (by exact rfl) ?_
            | refine YQ.q (a := 0) (b := 2) rfl (by decide +kernel) (by decide +kernel) rfl rfl rfl (fun k h1 h2 hg => by (have hk : k = 0 ∨ k = 1 ∨ k = 2 := (by omega)); (rcases hk with rfl | rfl | rfl) <;> (first | exact std0 | exact PRun.buildSlW tabOk rfl rfl nds | exact std1)) (by exact rfl) ?_
            | refine YQ.q (a := 1) (b := 2) rfl (by decide +kernel) (by decide +kernel) rfl rfl rfl (fun k h1 h2 hg => by (have hk : k = 1 ∨ k = 2 := (by omega)); (rcases hk with rfl | rfl) <;> (first | exact std0 | exact PRun.buildSlW tabOk rfl rfl nds | exact std1)) (by exact rfl) ?_
            | refine YQ.q (a := 2) (b := 2) rfl (by decide +kernel) (by decide +kernel) rfl rfl rfl (fun k h1 h2 hg => by (have hk : k = 2 := (by omega)); (rcases hk with rfl) <;> (first | exact std0 | exact PRun.buildSlW tabOk rfl rfl nds | exact std1)) (by exact rfl) ?_)
          refine YQ.e (v := .sl 1 ((endsF 0 A).map encN ++ [encN ((cat A ++ fr (l.getD k default)).length : Nat)]) (.own 0)) (d := some 48) rfl rfl rfl ?_ ?_
          · intro env' he
            exact EStep.appendOwn' tabOk rfl rfl rfl (by decide) (Rd.w ((rdv_congr (he 44 (by decide +kernel))).trans rfl) (by rw [rdn_congr (he 44 (by decide +kernel))]; exact True.intro)) rfl (Rd.w ((rdv_congr (he 47 (by decide +kernel))).trans rfl) (by rw [rdn_congr (he 47 (by decide +kernel))]; exact True.intro)) (.sl rfl (by intro x hx; rcases List.mem_singleton.1 hx with rfl; rfl)) (LOk.of (tabOk.get rfl)) (LOk.of (tabOk.get rfl)) rfl rfl (by simp only [List.length_cons, List.length_nil]; omega) (by simp only [List.length_cons, List.length_nil]; omega) ⟨rfl, rfl⟩
          repeat' (first
            | refine YQ.q (a := 0) (b := 0) rfl (by decide +kernel) (by decide +kernel) rfl rfl rfl (fun k h1 h2 hg => by (have hk : k = 0 := (by omega)); (rcases hk with rfl) <;> (first | exact std0 | exact PRun.buildSlW tabOk rfl rfl nds | exact std1)) (by exact rfl) ?_
            | refine YQ.q (a := 0) (b := 1) rfl (by decide +kernel) (by decide +kernel) rfl rfl rfl (fun k h1 h2 hg => by (have hk : k = 0 ∨ k = 1 := (by omega)); (rcases hk with rfl | rfl) <;> (first | exact std0 | exact PRun.buildSlW tabOk rfl rfl nds | exact std1)) (by exact rfl) ?_
            | refine YQ.q (a := 1) (b := 1) rfl (by decide +kernel) (by decide +kernel) rfl rfl rfl (fun k h1 h2 hg => by (have hk : k = 1 := (by omega)); (rcases hk with rfl) <;> (first | exact std0 | exact PRun.buildSlW tabOk rfl rfl nds | exact std1)) (by exact rfl) ?_
            | refine YQ.q (a := 0) (b := 2) rfl (by decide +kernel) (by decide +kernel) rfl rfl rfl (fun k h1 h2 hg => by (have hk : k = 0 ∨ k = 1 ∨ k = 2 := (by omega)); (rcases hk with rfl | rfl | rfl) <;> (first | exact std0 | exact PRun.buildSlW tabOk rfl rfl nds | exact std1)) (by exact rfl) ?_
            | refine YQ.q (a := 1) (b := 2) rfl (by decide +kernel) (by decide +kernel) rfl rfl rfl (fun k h1 h2 hg => by (have hk : k = 1 ∨ k = 2 := (by omega)); (rcases hk with rfl | rfl) <;> (first | exact std0 | exact PRun.buildSlW tabOk rfl rfl nds | exact std1)) (by exact rfl) ?_
            | refine YQ.q (a := 2) (b := 2) rfl (by decide +kernel) (by decide +kernel) rfl rfl rfl (fun k h1 h2 hg => by (have hk : k = 2 := (by omega)); (rcases hk with rfl) <;> (first | exact std0 | exact PRun.buildSlW tabOk rfl rfl nds | exact std1)) (by exact rfl) ?_)
          refine YQ.e (v := .sl 14 (A.map encE ++ [encE (l.getD k default)]) (.own 1)) (d := some 55) rfl rfl rfl ?_ ?_
          · intro env' he
            exact EStep.appendOwn' tabOk rfl rfl rfl (by decide) (Rd.w ((rdv_congr (he 49 (by decide +kernel))).trans rfl) (by rw [rdn_congr (he 49 (by decide +kernel))]; exact True.intro)) rfl (Rd.w ((rdv_congr (he 54 (by decide +kernel))).trans rfl) (by rw [rdn_congr (he 54 (by decide +kernel))]; exact True.intro)) (.sl rfl (by intro x hx; rcases List.mem_singleton.1 hx with rfl; rfl)) (LOk.of (tabOk.get rfl)) (LOk.of (tabOk.get rfl)) rfl rfl (by simp only [List.length_cons, List.length_nil]; omega) (by simp only [List.length_cons, List.length_nil]; omega) ⟨rfl, rfl⟩
          repeat' (first
            | refine YQ.q (a := 0) (b := 0) rfl (by decide +kernel) (by decide +kernel) rfl rfl rfl (fun k h1 h2 hg => by (have hk : k = 0 := (by omega)); (rcases hk with rfl) <;> (first | exact std0 | exact std1)) (by exact rfl) ?_
            | refine YQ.q (a := 0) (b := 1) rfl (by decide +kernel) (by decide +kernel) rfl rfl rfl (fun k h1 h2 hg => by (have hk : k = 0 ∨ k = 1 := (by omega)); (rcases hk with rfl | rfl) <;> (first | exact std0 | exact std1)) (by exact rfl) ?_
            | refine YQ.q (a := 1) (b := 1) rfl (by decide +kernel) (by decide +kernel) rfl rfl rfl (fun k h1 h2 hg => by (have hk : k = 1 := (by omega)); (rcases hk with rfl) <;> (first | exact std0 | exact std1)) (by exact rfl) ?_
            | refine YQ.q (a := 0) (b := 2) rfl (by decide +kernel) (by decide +kernel) rfl rfl rfl (fun k h1 h2 hg => by (have hk : k = 0 ∨ k = 1 ∨ k = 2 := (by omega)); (rcases hk with rfl | rfl | rfl) <;> (first | exact std0 | exact std1)) (by exact rfl) ?_
            | refine YQ.q (a := 1) (b := 2) rfl (by decide +kernel) (by decide +kernel) rfl rfl rfl (fun k h1 h2 hg => by (have hk : k = 1 ∨ k = 2 := (by omega)); (rcases hk with rfl | rfl) <;> (first | exact std0 | exact std1)) (by exact rfl) ?_
            | refine YQ.q (a := 2) (b := 2) rfl (by decide +kernel) (by decide +kernel) rfl rfl rfl (fun k h1 h2 hg => by (have hk : k = 2 := (by omega)); (rcases hk with rfl) <;> (first | exact std0 | exact std1)) (by exact rfl) ?_)
          refine YQ.nil (hK _ _ ?_)
          clear hK K'
          repeat' (first
            | refine AOps.q rfl rfl rfl (fun hg => by first | exact std0 | exact std1) (by exact rfl) ?_
            | refine AWP.seq ?_
            | refine AWP.regionK (fun K' hK => ?_)
            | (refine AOps.nil (hK _ _ ?_); clear hK K')
            | refine AOps.e (EStep.boxW rfl rfl rfl rfl rfl True.intro rfl rfl ?_)
            | refine AOps.e (EStep.storeW tabOk rfl rfl rfl True.intro rfl rfl True.intro rfl rfl rfl rfl rfl rfl rfl ?_)
            | refine AOps.e (EStep.allocW tabOk rfl rfl rfl rfl rfl rfl ?_)
            | (refine AWP.condW rfl True.intro (fun hc => ?_) (fun hc => ?_) <;> (first | (simp only [decide_eq_true_eq] at hc) | (simp only [decide_eq_false_iff_not, Int.not_lt, Int.not_le] at hc) | skip))
            | refine AWP.block ?_
            | refine AWP.exit ?_
            | refine AWP.skip ?_
            | refine AWP.ret ?_
            | (refine AQ.nil (hK _ ?_); clear hK K')
            | refine AQ.nil ?_
            | refine AQ.q rfl rfl (fun hg => by first | exact std0 | exact std1) (by exact rfl) ?_)
          exact ⟨k + 1, by omega, by omega, ⟨rfl, by rw [ec]; rfl, Eq.trans (b := AV.sl 1 ((endsF 0 A).map encN ++ [encN ((cat A ++ fr (l.getD k default)).length : Nat)]) (.own 0)) rfl (by rw [en, List.map_append]; rfl), Eq.trans (b := AV.sl 14 (A.map encE ++ [encE (l.getD k default)]) (.own 1)) rfl (by rw [gt, List.map_append]; rfl), rfl, True.intro⟩, by rw [en, gt, List.map_append, List.map_append]; rfl⟩
        · exfalso; omega
    · rw [show decide ((l.getD k default).mark.text.length ≤ 300) = false from decide_eq_false hsh] at hs
      have hev : evOk (l.getD k default) = false := by
        cases h : evOk (l.getD k default) with
        | false => rfl
        | true => exact absurd (short_ok h) (by omega)
      rw [hev, if_neg (by simp)] at gt
      repeat' (first
        | refine AOps.q rfl rfl rfl (fun hg => by first | exact std0 | exact PRun.callW (hs) rfl rfl nd rfl nds | exact (Bool.noConfusion (show false = true from hg) : PRun _ _ _ _ (.b false)) | exact std1) (by exact rfl) ?_
        | refine AWP.seq ?_
        | refine AWP.regionK (fun K' hK => ?_)
        | (refine AOps.nil (hK _ _ ?_); clear hK K')
        | refine AOps.e (EStep.boxW rfl rfl rfl rfl rfl True.intro rfl rfl ?_)
        | refine AOps.e (EStep.storeW tabOk rfl rfl rfl True.intro rfl rfl True.intro rfl rfl rfl rfl rfl rfl rfl ?_)
        | refine AOps.e (EStep.allocW tabOk rfl rfl rfl rfl rfl rfl ?_)
        | (refine AWP.condW rfl True.intro (fun hc => ?_) (fun hc => ?_) <;> (first | (simp only [decide_eq_true_eq] at hc) | (simp only [decide_eq_false_iff_not, Int.not_lt, Int.not_le] at hc) | skip))
        | refine AWP.block ?_
        | refine AWP.exit ?_
        | refine AWP.skip ?_
        | refine AWP.ret ?_
        | refine AWP.drawK2 (by decide +kernel) (by kernel_rfl) (by decide +kernel) rfl (fun K' hK => ?_)
        | refine AWP.drawL2 (by kernel_rfl) (by decide +kernel) rfl (fun K' hK => ?_)
        | (refine AQ.nil (hK _ ?_); clear hK K')
        | refine AQ.nil ?_
        | refine AQ.q rfl rfl (fun hg => by first | exact std0 | exact PRun.callW (hs) rfl rfl nd rfl nds | exact (Bool.noConfusion (show false = true from hg) : PRun _ _ _ _ (.b false)) | exact std1) (by exact rfl) ?_)
      all_goals first
        | (exfalso; omega)
        | (exfalso; simp at hc; done)
        | exact ⟨k + 1, by omega, by omega, ⟨rfl, by rw [gt]; rfl, by rw [gt]; rfl, by rw [gt]; rfl, rfl, True.intro⟩, by rw [gt]⟩
  · repeat' (first
      | refine AOps.q rfl rfl rfl (fun hg => by first | exact std0 | exact std1) (by exact rfl) ?_
      | refine AWP.seq ?_
      | refine AWP.regionK (fun K' hK => ?_)
      | (refine AOps.nil (hK _ _ ?_); clear hK K')
      | refine AOps.e (EStep.boxW rfl rfl rfl rfl rfl True.intro rfl rfl ?_)
      | refine AOps.e (EStep.storeW tabOk rfl rfl rfl True.intro rfl rfl True.intro rfl rfl rfl rfl rfl rfl rfl ?_)
      | refine AOps.e (EStep.allocW tabOk rfl rfl rfl rfl rfl rfl ?_)
      | (refine AWP.condW rfl True.intro (fun hc => ?_) (fun hc => ?_) <;> (first | (simp only [decide_eq_true_eq] at hc) | (simp only [decide_eq_false_iff_not, Int.not_lt, Int.not_le] at hc) | skip))
      | refine AWP.block ?_
      | refine AWP.exit ?_
      | refine AWP.skip ?_
      | refine AWP.ret ?_
      | refine AWP.drawK2 (by decide +kernel) (by kernel_rfl) (by decide +kernel) rfl (fun K' hK => ?_)
      | refine AWP.drawL2 (by kernel_rfl) (by decide +kernel) rfl (fun K' hK => ?_)
      | (refine AQ.nil (hK _ ?_); clear hK K')
      | refine AQ.nil ?_
      | refine AQ.q rfl rfl (fun hg => by first | exact std0 | exact std1) (by exact rfl) ?_)
    · exfalso; omega
    · have hkl : l.take k = l := List.take_of_length_le (by omega)
      rw [hkl]
      exact ⟨.inr rfl, Ent.of rfl⟩
end Go.Proofs.Ytpkolkfglgalpaa
