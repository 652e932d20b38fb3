/- Contracts by content: align: least, table, total.  Contracts by content: align: table, total. No statement is proved here. -/
import Derived.Test.YtekfpcgagoidcaaGreatDoorP19
set_option linter.unusedVariables false
set_option linter.unusedSimpArgs false
namespace Go.Ab
theorem AWP.unownA {P : Program} {n : Nat} {c : Code} {K : Exit → Env → Store → Prop} {env : Env} {σ : Store} (d : Nat) {sz : Nat} {t : Tok} {es : List (List AV)} (hd : env d = .sl sz es t) (hk : AWP P n c K (env.put d (.sl sz es .no)) σ) : AWP P n c K env σ :=
  fun G a w hr => hk G a w ⟨hr.size, hr.defers, fun i => by
    by_cases h : i = d
    · subst h
      have := hr.vals i
      rw [hd] at this
      simp only [Env.put, if_true]
      exact EntB.no _ _ _ _ _ _ this
    · simp only [Env.put, if_neg h]; exact hr.vals i, hr.st⟩
def effCl (o : Oper) : Bool := match o.op with
  | .call { callee := .value _, .. } => true
  | _ => effOp o
end Go.Ab
namespace Go.Proofs.YtekfpcgagoidcaaGreatDoor.Al
open Go.Ab Go.Sort
attribute [local irreducible] AWP AOps EStep AQ PStep PRun PCall TCall VCall
def encI (n : Int) : List AV := [.int n]
def encRow (r : List Int) : List AV := [.sl 1 (r.map encI) .no]
def leastQ (o0 o1 o2 : AObj) (a b : Score) (al : NL) (kn : List (KeyP × Int)) (i k : Nat) (r : AV) (s : Store) : Prop :=
  r = .int (T (costR a b) i k) ∧ s = PairS o0 o1 o2 a b al (if i = 0 then kn else if k = 0 then kn else knI a b kn (i - 1) (k - 1))
theorem T_in (a b : Score) (i k : Nat) : 0 ≤ T (costR a b) i k ∧ T (costR a b) i k ≤ 2 * ((i : Int) + k) := ⟨(T_low (fun i k => (costR_in a b i k).1) i k).1, T_le i k⟩
set_option maxHeartbeats 8000000 in
set_option maxRecDepth 20000 in
theorem least_spec {o0 o1 o2 : AObj} (h3 : Pure3 o0 o1 o2) {a b : Score} (ha : Nts a) (hb : Nts b) {al : NL} (hg0 : Grp a b al) {kn : List (KeyP × Int)} (hkn : KnOk a b kn) {i k w : Nat} (hi : i ≤ a.bars.length) (hk : k ≤ b.bars.length) (hkw : k < w) :
    TCall Tryz.prog 93 [.ptr 7 0, .sl 1 ((tableL (costR a b) i w).map encRow) .no, .sl 1 ((rowL (costR a b) i k).map encI) .no] (PairS o0 o1 o2 a b al kn) (leastQ o0 o1 o2 a b al kn i k) := by
  have ha1 := ha.bars
  have hb1 := hb.bars
  have l1 := tableL_len (costR a b) i w
  have l2 := rowL_len (costR a b) i k
  cases i with
  | zero =>
    cases k with
    | zero =>
      refine TCall.body Tryz.func93 rfl rfl Tryz.ntmps93 rfl rfl ?_
      repeat' (first | refine AOps.q rfl rfl rfl (fun hg => by first | exact PRun.eq (v := .int (rowL (costR a b) 0 0).length) (PRun.lenM tabOk rfl rfl nd rfl) (congrArg (fun n : Nat => AV.int n) l2) | exact PRun.eq (v := .int (tableL (costR a b) 0 w).length) (PRun.lenM tabOk rfl rfl nd rfl) (congrArg (fun n : Nat => AV.int n) l1) | exact std0 | exact std1) (by exact rfl) ?_ | refine AWP.seq ?_ | refine AWP.regionK (fun K' hK => ?_) | (refine AOps.nil (hK _ _ ?_); clear hK K') | (refine AWP.condW rfl True.intro (fun hc => ?_) (fun hc => ?_) <;> (first | (simp only [dEt] at hc) | (simp only [dEf, iNl, iNe] at hc) | skip)) | refine AWP.skip ?_ | refine AWP.ret ?_ | refine AWP.drawK2 (by decide +kernel) (by kernel_rfl) (by decide +kernel) rfl (fun K' hK => ?_) | refine AQ.q rfl rfl (fun hg => by first | exact std0 | exact std1) (by exact rfl) ?_)
      all_goals (first | (exfalso; omega) | (exfalso; simp at hc; done) | skip)
      exact ⟨.inr rfl, _, PairS o0 o1 o2 a b al kn, ⟨congrArg AV.int (by rw [T_zero]; rfl), rfl⟩, rfl, Nat.le_refl _, pairS_ok h3 (Nat.le_refl _) a b al kn, rfl, rfl⟩
    | succ k =>
      obtain ⟨t1, t2⟩ := T_in a b 0 k
      have e1 : (rowL (costR a b) 0 (k + 1)).getD (((k + 1 : Nat) : Int) - 1).toNat default = T (costR a b) 0 k := by
        rw [show (((k + 1 : Nat) : Int) - 1).toNat = k by omega]; exact rowL_get (Nat.lt_succ_self _) _
      have e2 := T_zero (c := costR a b) (k + 1)
      have e3 := T_zero (c := costR a b) k
      refine TCall.body Tryz.func93 rfl rfl Tryz.ntmps93 rfl rfl ?_
      repeat' (first | refine AOps.q rfl rfl rfl (fun hg => by first | exact PRun.eq (v := .iptr (encI ((rowL (costR a b) 0 (k + 1)).getD (((k + 1 : Nat) : Int) - 1).toNat default))) (PRun.indexMW tabOk rfl rfl nd rfl nd rfl rfl (by rw [l2]; omega)) (congrArg (fun x => AV.iptr (encI x)) e1) | exact PRun.eq (v := .int (rowL (costR a b) 0 (k + 1)).length) (PRun.lenM tabOk rfl rfl nd rfl) (congrArg (fun n : Nat => AV.int n) l2) | exact PRun.eq (v := .int (tableL (costR a b) 0 w).length) (PRun.lenM tabOk rfl rfl nd rfl) (congrArg (fun n : Nat => AV.int n) l1) | exact std0 | exact std1) (by exact rfl) ?_ | refine AWP.seq ?_ | refine AWP.regionK (fun K' hK => ?_) | (refine AOps.nil (hK _ _ ?_); clear hK K') | (refine AWP.condW rfl True.intro (fun hc => ?_) (fun hc => ?_) <;> (first | (simp only [dEt] at hc) | (simp only [dEf, iNl, iNe] at hc) | skip)) | refine AWP.skip ?_ | refine AWP.ret ?_ | refine AWP.drawK2 (by decide +kernel) (by kernel_rfl) (by decide +kernel) rfl (fun K' hK => ?_) | refine AQ.q rfl rfl (fun hg => by first | exact std0 | exact std1) (by exact rfl) ?_)
      all_goals (first | (exfalso; omega) | (exfalso; simp at hc; done) | (exfalso; simp at hc; omega) | skip)
      exact ⟨.inr rfl, _, PairS o0 o1 o2 a b al kn, ⟨congrArg AV.int (by omega), rfl⟩, rfl, Nat.le_refl _, pairS_ok h3 (Nat.le_refl _) a b al kn, rfl, rfl⟩
  | succ i =>
    have e0 : (tableL (costR a b) (i + 1) w).getD (((i + 1 : Nat) : Int) - 1).toNat default = rowL (costR a b) i w := by
      rw [show (((i + 1 : Nat) : Int) - 1).toNat = i by omega]; exact tableL_get (Nat.lt_succ_self _) _
    have l3 := rowL_len (costR a b) i w
    obtain ⟨t1, t2⟩ := T_in a b i k
    have e4 : (rowL (costR a b) i w).getD ((k : Nat) : Int).toNat default = T (costR a b) i k := rowL_get hkw _
    cases k with
    | zero =>
      have e2 := T_left (c := costR a b) (i + 1)
      have e3 := T_left (c := costR a b) i
      refine TCall.body Tryz.func93 rfl rfl Tryz.ntmps93 rfl rfl ?_
      repeat' (first | refine AOps.q rfl rfl rfl (fun hg => by first | exact PRun.eq (v := .iptr (encI ((rowL (costR a b) i w).getD ((0 : Nat) : Int).toNat default))) (PRun.indexMW tabOk rfl rfl nd rfl nd rfl rfl (by rw [l3]; omega)) (congrArg (fun x => AV.iptr (encI x)) e4) | exact PRun.eq (v := .iptr (encRow ((tableL (costR a b) (i + 1) w).getD (((i + 1 : Nat) : Int) - 1).toNat default))) (PRun.indexMW tabOk rfl rfl nd rfl nd rfl rfl (by rw [l1]; omega)) (congrArg (fun x => AV.iptr (encRow x)) e0) | exact PRun.eq (v := .int (rowL (costR a b) (i + 1) 0).length) (PRun.lenM tabOk rfl rfl nd rfl) (congrArg (fun n : Nat => AV.int n) l2) | exact PRun.eq (v := .int (tableL (costR a b) (i + 1) w).length) (PRun.lenM tabOk rfl rfl nd rfl) (congrArg (fun n : Nat => AV.int n) l1) | exact std0 | exact std1) (by exact rfl) ?_ | refine AWP.seq ?_ | refine AWP.regionK (fun K' hK => ?_) | (refine AOps.nil (hK _ _ ?_); clear hK K') | (refine AWP.condW rfl True.intro (fun hc => ?_) (fun hc => ?_) <;> (first | (simp only [dEt] at hc) | (simp only [dEf, iNl, iNe] at hc) | skip)) | refine AWP.skip ?_ | refine AWP.ret ?_ | refine AWP.drawK2 (by decide +kernel) (by kernel_rfl) (by decide +kernel) rfl (fun K' hK => ?_) | refine AQ.q rfl rfl (fun hg => by first | exact PRun.eq (v := .iptr (encI ((rowL (costR a b) i w).getD ((0 : Nat) : Int).toNat default))) (PRun.indexMW tabOk rfl rfl nd rfl nd rfl rfl (by rw [l3]; omega)) (congrArg (fun x => AV.iptr (encI x)) e4) | exact PRun.eq (v := .iptr (encRow ((tableL (costR a b) (i + 1) w).getD (((i + 1 : Nat) : Int) - 1).toNat default))) (PRun.indexMW tabOk rfl rfl nd rfl nd rfl rfl (by rw [l1]; omega)) (congrArg (fun x => AV.iptr (encRow x)) e0) | exact std0) (by exact rfl) ?_)
      all_goals (first | (exfalso; omega) | (exfalso; simp at hc; done) | (exfalso; simp at hc; omega) | skip)
      exact ⟨.inr rfl, _, PairS o0 o1 o2 a b al kn, ⟨congrArg AV.int (by omega), rfl⟩, rfl, Nat.le_refl _, pairS_ok h3 (Nat.le_refl _) a b al kn, rfl, rfl⟩
    | succ k =>
      have e5 : (rowL (costR a b) (i + 1) (k + 1)).getD (((k + 1 : Nat) : Int) - 1).toNat default = T (costR a b) (i + 1) k := by
        rw [show (((k + 1 : Nat) : Int) - 1).toNat = k by omega]; exact rowL_get (Nat.lt_succ_self _) _
      have e6 : (rowL (costR a b) i w).getD (((k + 1 : Nat) : Int) - 1).toNat default = T (costR a b) i k := by
        rw [show (((k + 1 : Nat) : Int) - 1).toNat = k by omega]; exact rowL_get (by omega) _
      have e7 := T_succ (c := costR a b) i k
      have e8 := T_le (c := costR a b) i (k + 1)
      obtain ⟨t3, t4⟩ := T_in a b (i + 1) k
      obtain ⟨t5, t6⟩ := T_in a b i k
      have c1 := costR_in a b i k
      have hc0 := TCall.val (first := []) (caps := []) (avs := [.ptr 7 0, .int i, .int k]) (cost_spec h3 ha hb hg0 hkn (show i < a.bars.length by omega) (show k < b.bars.length by omega))
      have hi1 : AV.int (((i + 1 : Nat) : Int) - 1) = AV.int i := congrArg AV.int (by omega)
      have hk1 : AV.int (((k + 1 : Nat) : Int) - 1) = AV.int k := congrArg AV.int (by omega)
      refine TCall.body Tryz.func93 rfl rfl Tryz.ntmps93 rfl rfl ?_
      repeat' (first | refine AOps.q rfl rfl rfl (fun hg => by first | exact PRun.eq (v := .iptr (encI ((rowL (costR a b) (i + 1) (k + 1)).getD (((k + 1 : Nat) : Int) - 1).toNat default))) (PRun.indexMW tabOk rfl rfl nd rfl nd rfl rfl (by rw [l2]; omega)) (congrArg (fun x => AV.iptr (encI x)) e5) | exact PRun.eq (v := .iptr (encI ((rowL (costR a b) i w).getD ((k + 1 : Nat) : Int).toNat default))) (PRun.indexMW tabOk rfl rfl nd rfl nd rfl rfl (by rw [l3]; omega)) (congrArg (fun x => AV.iptr (encI x)) (show (rowL (costR a b) i w).getD ((k + 1 : Nat) : Int).toNat default = T (costR a b) i (k + 1) from rowL_get hkw _)) | exact PRun.eq (v := .iptr (encRow ((tableL (costR a b) (i + 1) w).getD (((i + 1 : Nat) : Int) - 1).toNat default))) (PRun.indexMW tabOk rfl rfl nd rfl nd rfl rfl (by rw [l1]; omega)) (congrArg (fun x => AV.iptr (encRow x)) e0) | exact PRun.eq (v := .int (rowL (costR a b) (i + 1) (k + 1)).length) (PRun.lenM tabOk rfl rfl nd rfl) (congrArg (fun n : Nat => AV.int n) l2) | exact PRun.eq (v := .int (tableL (costR a b) (i + 1) w).length) (PRun.lenM tabOk rfl rfl nd rfl) (congrArg (fun n : Nat => AV.int n) l1) | exact std0) (by exact rfl) ?_ | refine AWP.seq ?_ | refine AWP.regionK (fun K' hK => ?_) | (refine AOps.nil (hK _ _ ?_); clear hK K') | (refine AWP.condW rfl True.intro (fun hc => ?_) (fun hc => ?_) <;> (first | (simp only [dEt] at hc) | (simp only [dEf, iNl, iNe] at hc) | skip)) | refine AWP.skip ?_ | refine AWP.ret ?_)
      all_goals (first | (exfalso; omega) | (exfalso; simp at hc; done) | (exfalso; simp at hc; omega) | skip)
      refine AWP.drawYM effCl (fun j => match j with | 0 => PairS o0 o1 o2 a b al kn | _ => PairS o0 o1 o2 a b al (knI a b kn i k)) rfl (by kernel_rfl) (by decide +kernel) rfl (by decide +kernel) (fun K' hK => ?_)
      repeat' (first
        | refine YQ.q (a := 0) (b := 0) rfl (by decide +kernel) (by decide +kernel) rfl rfl rfl (fun k h1 h2 hg => by (have hk : k = 0 := (by omega)); (rcases hk with rfl) <;> (first | exact PRun.eq (v := .iptr (encI ((rowL (costR a b) i w).getD ((k : Nat) : Int).toNat default))) (PRun.indexMW tabOk rfl rfl nd rfl nd rfl rfl (by rw [l3]; omega)) (congrArg (fun x => AV.iptr (encI x)) (show (rowL (costR a b) i w).getD ((k : Nat) : Int).toNat default = T (costR a b) i k from rowL_get (by omega) _)) | exact PRun.eq (v := .iptr (encRow ((tableL (costR a b) (i + 1) w).getD ((i : Nat) : Int).toNat default))) (PRun.indexMW tabOk rfl rfl nd rfl nd rfl rfl (by rw [l1]; omega)) (congrArg (fun x => AV.iptr (encRow x)) (tableL_get (Nat.lt_succ_self _) _)) | exact PRun.eq (PRun.step tabOk rfl sd) hk1 | exact PRun.eq (PRun.step tabOk rfl sd) hi1 | exact std0 | exact std1)) (by exact rfl) ?_
        | refine YQ.q (a := 0) (b := 1) rfl (by decide +kernel) (by decide +kernel) rfl rfl rfl (fun k h1 h2 hg => by (have hk : k = 0 ∨ k = 1 := (by omega)); (rcases hk with rfl | rfl) <;> (first | exact PRun.eq (v := .iptr (encI ((rowL (costR a b) i w).getD ((k : Nat) : Int).toNat default))) (PRun.indexMW tabOk rfl rfl nd rfl nd rfl rfl (by rw [l3]; omega)) (congrArg (fun x => AV.iptr (encI x)) (show (rowL (costR a b) i w).getD ((k : Nat) : Int).toNat default = T (costR a b) i k from rowL_get (by omega) _)) | exact PRun.eq (v := .iptr (encRow ((tableL (costR a b) (i + 1) w).getD ((i : Nat) : Int).toNat default))) (PRun.indexMW tabOk rfl rfl nd rfl nd rfl rfl (by rw [l1]; omega)) (congrArg (fun x => AV.iptr (encRow x)) (tableL_get (Nat.lt_succ_self _) _)) | exact PRun.eq (PRun.step tabOk rfl sd) hk1 | exact PRun.eq (PRun.step tabOk rfl sd) hi1 | exact std0 | exact std1)) (by exact rfl) ?_
        | refine YQ.q (a := 1) (b := 1) rfl (by decide +kernel) (by decide +kernel) rfl rfl rfl (fun k h1 h2 hg => by (have hk : k = 1 := (by omega)); (rcases hk with rfl) <;> (first | exact PRun.eq (v := .iptr (encI ((rowL (costR a b) i w).getD ((k : Nat) : Int).toNat default))) (PRun.indexMW tabOk rfl rfl nd rfl nd rfl rfl (by rw [l3]; omega)) (congrArg (fun x => AV.iptr (encI x)) (show (rowL (costR a b) i w).getD ((k : Nat) : Int).toNat default = T (costR a b) i k from rowL_get (by omega) _)) | exact PRun.eq (v := .iptr (encRow ((tableL (costR a b) (i + 1) w).getD ((i : Nat) : Int).toNat default))) (PRun.indexMW tabOk rfl rfl nd rfl nd rfl rfl (by rw [l1]; omega)) (congrArg (fun x => AV.iptr (encRow x)) (tableL_get (Nat.lt_succ_self _) _)) | exact PRun.eq (PRun.step tabOk rfl sd) hk1 | exact PRun.eq (PRun.step tabOk rfl sd) hi1 | exact std0 | exact std1)) (by exact rfl) ?_
        | refine YQ.q (a := 0) (b := 2) rfl (by decide +kernel) (by decide +kernel) rfl rfl rfl (fun k h1 h2 hg => by (have hk : k = 0 ∨ k = 1 ∨ k = 2 := (by omega)); (rcases hk with rfl | rfl | rfl) <;> (first | exact PRun.eq (v := .iptr (encI ((rowL (costR a b) i w).getD ((k : Nat) : Int).toNat default))) (PRun.indexMW tabOk rfl rfl nd rfl nd rfl rfl (by rw [l3]; omega)) (congrArg (fun x => AV.iptr (encI x)) (show (rowL (costR a b) i w).getD ((k : Nat) : Int).toNat default = T (costR a b) i k from rowL_get (by omega) _)) | exact PRun.eq (v := .iptr (encRow ((tableL (costR a b) (i + 1) w).getD ((i : Nat) : Int).toNat default))) (PRun.indexMW tabOk rfl rfl nd rfl nd rfl rfl (by rw [l1]; omega)) (congrArg (fun x => AV.iptr (encRow x)) (tableL_get (Nat.lt_succ_self _) _)) | exact PRun.eq (PRun.step tabOk rfl sd) hk1 | exact PRun.eq (PRun.step tabOk rfl sd) hi1 | exact std0 | exact std1)) (by exact rfl) ?_
        | refine YQ.q (a := 1) (b := 2) rfl (by decide +kernel) (by decide +kernel) rfl rfl rfl (fun k h1 h2 hg => by (have hk : k = 1 ∨ k = 2 := (by omega)); (rcases hk with rfl | rfl) <;> (first | exact PRun.eq (v := .iptr (encI ((rowL (costR a b) i w).getD ((k : Nat) : Int).toNat default))) (PRun.indexMW tabOk rfl rfl nd rfl nd rfl rfl (by rw [l3]; omega)) (congrArg (fun x => AV.iptr (encI x)) (show (rowL (costR a b) i w).getD ((k : Nat) : Int).toNat default = T (costR a b) i k from rowL_get (by omega) _)) | exact PRun.eq (v := .iptr (encRow ((tableL (costR a b) (i + 1) w).getD ((i : Nat) : Int).toNat default))) (PRun.indexMW tabOk rfl rfl nd rfl nd rfl rfl (by rw [l1]; omega)) (congrArg (fun x => AV.iptr (encRow x)) (tableL_get (Nat.lt_succ_self _) _)) | exact PRun.eq (PRun.step tabOk rfl sd) hk1 | exact PRun.eq (PRun.step tabOk rfl sd) hi1 | exact std0 | exact std1)) (by exact rfl) ?_
        | refine YQ.q (a := 2) (b := 2) rfl (by decide +kernel) (by decide +kernel) rfl rfl rfl (fun k h1 h2 hg => by (have hk : k = 2 := (by omega)); (rcases hk with rfl) <;> (first | exact PRun.eq (v := .iptr (encI ((rowL (costR a b) i w).getD ((k : Nat) : Int).toNat default))) (PRun.indexMW tabOk rfl rfl nd rfl nd rfl rfl (by rw [l3]; omega)) (congrArg (fun x => AV.iptr (encI x)) (show (rowL (costR a b) i w).getD ((k : Nat) : Int).toNat default = T (costR a b) i k from rowL_get (by omega) _)) | exact PRun.eq (v := .iptr (encRow ((tableL (costR a b) (i + 1) w).getD ((i : Nat) : Int).toNat default))) (PRun.indexMW tabOk rfl rfl nd rfl nd rfl rfl (by rw [l1]; omega)) (congrArg (fun x => AV.iptr (encRow x)) (tableL_get (Nat.lt_succ_self _) _)) | exact PRun.eq (PRun.step tabOk rfl sd) hk1 | exact PRun.eq (PRun.step tabOk rfl sd) hi1 | exact std0 | exact std1)) (by exact rfl) ?_)
      refine YQ.e (v := .int (costR a b i k)) (d := some 62) rfl rfl rfl ?_ ?_
      · intro env' he
        refine EStep.callT hc0 rfl rfl rfl rfl rfl True.intro rfl (by simp only [rds, rdv_congr (he 57 (by decide +kernel)), rdv_congr (he 59 (by decide +kernel)), rdv_congr (he 61 (by decide +kernel))]; rfl) ⟨(by rw [rdn_congr (he 57 (by decide +kernel))]; first | exact True.intro | exact rfl), (by rw [rdn_congr (he 59 (by decide +kernel))]; first | exact True.intro | exact rfl), (by rw [rdn_congr (he 61 (by decide +kernel))]; first | exact True.intro | exact rfl), True.intro⟩ ?_
        rintro _ _ ⟨rfl, rfl⟩
        exact ⟨rfl, rfl⟩
      repeat' (first
        | refine YQ.q (a := 0) (b := 0) rfl (by decide +kernel) (by decide +kernel) rfl rfl rfl (fun k h1 h2 hg => by (have hk : k = 0 := (by omega)); (rcases hk with rfl) <;> (first | exact std0 | exact std1)) (by exact rfl) ?_
        | refine YQ.q (a := 0) (b := 1) rfl (by decide +kernel) (by decide +kernel) rfl rfl rfl (fun k h1 h2 hg => by (have hk : k = 0 ∨ k = 1 := (by omega)); (rcases hk with rfl | rfl) <;> (first | exact std0 | exact std1)) (by exact rfl) ?_
        | refine YQ.q (a := 1) (b := 1) rfl (by decide +kernel) (by decide +kernel) rfl rfl rfl (fun k h1 h2 hg => by (have hk : k = 1 := (by omega)); (rcases hk with rfl) <;> (first | exact std0 | exact std1)) (by exact rfl) ?_
        | refine YQ.q (a := 0) (b := 2) rfl (by decide +kernel) (by decide +kernel) rfl rfl rfl (fun k h1 h2 hg => by (have hk : k = 0 ∨ k = 1 ∨ k = 2 := (by omega)); (rcases hk with rfl | rfl | rfl) <;> (first | exact std0 | exact std1)) (by exact rfl) ?_
        | refine YQ.q (a := 1) (b := 2) rfl (by decide +kernel) (by decide +kernel) rfl rfl rfl (fun k h1 h2 hg => by (have hk : k = 1 ∨ k = 2 := (by omega)); (rcases hk with rfl | rfl) <;> (first | exact std0 | exact std1)) (by exact rfl) ?_
        | refine YQ.q (a := 2) (b := 2) rfl (by decide +kernel) (by decide +kernel) rfl rfl rfl (fun k h1 h2 hg => by (have hk : k = 2 := (by omega)); (rcases hk with rfl) <;> (first | exact std0 | exact std1)) (by exact rfl) ?_)
      refine YQ.nil (hK _ _ ?_)
      clear hK K'
      repeat' (first | refine AOps.q rfl rfl rfl (fun hg => by exact std0) (by exact rfl) ?_ | refine AWP.seq ?_ | refine AWP.regionK (fun K' hK => ?_) | (refine AOps.nil (hK _ _ ?_); clear hK K') | refine AWP.ret ?_)
      exact ⟨.inr rfl, _, PairS o0 o1 o2 a b al (knI a b kn i k), ⟨congrArg AV.int (by omega), rfl⟩, rfl, Nat.le_refl _, pairS_ok h3 (Nat.le_refl _) a b al _, rfl, rfl⟩
end Go.Proofs.YtekfpcgagoidcaaGreatDoor.Al


namespace Go.Proofs.YtekfpcgagoidcaaGreatDoor.Al
open Go.Ab Go.Sort
attribute [local irreducible] AWP AOps EStep AQ PStep PRun PCall TCall VCall
def tableQ (o0 o1 o2 : AObj) (a b : Score) (al : NL) (r : AV) (s : Store) : Prop :=
  r = .sl 1 ((tableL (costR a b) (a.bars.length + 1) (b.bars.length + 1)).map encRow) .no ∧ ∃ kn, KnOk a b kn ∧ s = PairS o0 o1 o2 a b al kn
theorem okOwn1 (m l n : Nat) (o : Store) : (o ++ [AObj.own l n]).all (okObj m) = o.all (okObj m) := by rw [List.all_append]; simp [okObj]
theorem rowE (c : Nat → Nat → Int) (i k : Nat) : (rowL c i (k + 1)).map encI = (rowL c i k).map encI ++ [[AV.int (T c i k)]] := by rw [rowL_succ, List.map_append]; rfl
theorem tabE (c : Nat → Nat → Int) (i w : Nat) : (tableL c (i + 1) w).map encRow = (tableL c i w).map encRow ++ [[AV.sl 1 ((rowL c i w).map encI) .no]] := by rw [tableL_succ, List.map_append]; rfl
set_option maxHeartbeats 8000000 in
set_option maxRecDepth 20000 in
theorem table_spec {o0 o1 o2 : AObj} (h3 : Pure3 o0 o1 o2) {a b : Score} (ha : Nts a) (hb : Nts b) {al : NL} (hg0 : Grp a b al) {kn : List (KeyP × Int)} (hkn : KnOk a b kn) :
    TCall Tryz.prog 48 [.ptr 7 0] (PairS o0 o1 o2 a b al kn) (tableQ o0 o1 o2 a b al) := by
  have ha1 := ha.bars
  have hb1 := hb.bars
  refine TCall.body Tryz.func48 rfl rfl Tryz.ntmps48 rfl rfl ?_
  repeat' (first | refine AOps.q rfl rfl rfl (fun hg => by first | exact std0 | exact std1) (by exact rfl) ?_ | refine AWP.seq ?_ | refine AWP.regionK (fun K' hK => ?_) | (refine AOps.nil (hK _ _ ?_); clear hK K') | refine AWP.block ?_)
  refine AWP.ownNil (d := 3) (sz := 1) rfl ?_
  refine AWP.loopD (ι := Nat × List (KeyP × Int)) (fun q => [(0, .ptr 7 0), (3, .sl 1 ((tableL (costR a b) q.1 (b.bars.length + 1)).map encRow) (.own 8)), (11, .int (a.bars.length + 1)), (12, .int q.1)]) (fun q => PairS o0 o1 o2 a b al q.2 ++ [.own 1 ((tableL (costR a b) q.1 (b.bars.length + 1)).map encRow).length])
    (fun q => q.1 ≤ a.bars.length + 1 ∧ KnOk a b q.2) (fun q => a.bars.length + 1 - q.1) 9 (fun _ => rfl) (0, kn) ⟨Nat.zero_le _, hkn⟩ ⟨rfl, rfl, rfl, rfl, True.intro⟩ rfl (fun _ _ => rfl) (fun q _ => by rw [okOwn1]; exact pairS_ok h3 (by decide) a b al _) ?_
  rintro ⟨i, kn1⟩ ⟨hi, hk1⟩
  dsimp only at hi hk1
  have l1 := tableL_len (costR a b) i (b.bars.length + 1)
  have et := tabE (costR a b) i (b.bars.length + 1)
  by_cases hlt : i < a.bars.length + 1
  · repeat' (first | refine AOps.q rfl rfl rfl (fun hg => by first | exact std0 | exact std1) (by exact rfl) ?_ | refine AWP.seq ?_ | refine AWP.regionK (fun K' hK => ?_) | (refine AOps.nil (hK _ _ ?_); clear hK K') | (refine AWP.condW rfl True.intro (fun hc => ?_) (fun hc => ?_) <;> (first | (simp only [dEt] at hc) | (simp only [dEf, iNl, iNe] at hc) | skip)) | refine AWP.block ?_ | refine AWP.exit ?_ | refine AWP.skip ?_ | refine AWP.ret ?_)
    all_goals (first | (exfalso; omega) | (exfalso; simp at hc; done) | (exfalso; simp at hc; omega) | (exfalso; simp only [dEf, dEt] at hc; omega) | (rename_i h0; exfalso; simp at h0; done) | (rename_i h0; exfalso; simp at h0; omega) | skip)
    refine AWP.ownNil (d := 4) (sz := 1) rfl ?_
    refine AWP.loopD (ι := Nat × List (KeyP × Int)) (fun q => [(0, .ptr 7 0), (3, .sl 1 ((tableL (costR a b) i (b.bars.length + 1)).map encRow) (.own 8)), (4, .sl 1 ((rowL (costR a b) i q.1).map encI) (.own 9)), (11, .int (a.bars.length + 1)), (12, .int i), (20, .int (b.bars.length + 1)), (21, .int q.1)])
      (fun q => PairS o0 o1 o2 a b al q.2 ++ [.own 1 ((tableL (costR a b) i (b.bars.length + 1)).map encRow).length] ++ [.own 1 ((rowL (costR a b) i q.1).map encI).length])
      (fun q => q.1 ≤ b.bars.length + 1 ∧ KnOk a b q.2) (fun q => b.bars.length + 1 - q.1) 10 (fun _ => rfl) (0, kn1) ⟨Nat.zero_le _, hk1⟩ ⟨rfl, rfl, rfl, rfl, rfl, rfl, rfl, True.intro⟩ rfl (fun _ _ => rfl) (fun q _ => by rw [okOwn1, okOwn1]; exact pairS_ok h3 (by decide) a b al _) ?_
    rintro ⟨k, kn2⟩ ⟨hk, hk2⟩
    dsimp only at hk hk2
    have l2 := rowL_len (costR a b) i k
    by_cases hlk : k < b.bars.length + 1
    · have er := rowE (costR a b) i k
      have hk3 : KnOk a b (if i = 0 then kn2 else if k = 0 then kn2 else knI a b kn2 (i - 1) (k - 1)) := by
        split
        · exact hk2
        · split
          · exact hk2
          · exact hk2.knI _ _
      have hl0 := TCall.frame (least_spec h3 ha hb hg0 hk2 (show i ≤ a.bars.length by omega) (show k ≤ b.bars.length by omega) (show k < b.bars.length + 1 from hlk)) ([.own 1 ((tableL (costR a b) i (b.bars.length + 1)).map encRow).length] ++ [.own 1 ((rowL (costR a b) i k).map encI).length]) (pairS_ok h3 (Nat.le_refl _) a b al _) rfl (fun rv s h => by rw [h.2]; rfl)
      have hl1 := TCall.args (avs' := [.ptr 7 0, .sl 1 ((tableL (costR a b) i (b.bars.length + 1)).map encRow) (.own 8), .sl 1 ((rowL (costR a b) i k).map encI) (.own 9)]) hl0 rfl (fun j u v hu hv => by
        match j, hu, hv with
        | 0, hu, hv => cases hu; cases hv; exact EntB.refl _
        | 1, hu, hv => cases hu; cases hv; exact EntB.no _ _ _
        | 2, hu, hv => cases hu; cases hv; exact EntB.no _ _ _
        | j + 3, hu, hv => cases hu)
      have hv1 := TCall.val (first := []) (caps := []) (avs := [.ptr 7 0, .sl 1 ((tableL (costR a b) i (b.bars.length + 1)).map encRow) (.own 8), .sl 1 ((rowL (costR a b) i k).map encI) (.own 9)]) hl1
      repeat' (first | refine AOps.q rfl rfl rfl (fun hg => by exact std0) (by exact rfl) ?_ | refine AWP.seq ?_ | refine AWP.regionK (fun K' hK => ?_) | (refine AOps.nil (hK _ _ ?_); clear hK K') | refine AOps.e (EStep.callT (hv1) rfl rfl rfl rfl rfl nd rfl rfl nds ?_) | (refine AWP.condW rfl True.intro (fun hc => ?_) (fun hc => ?_) <;> (first | (simp only [dEt] at hc) | (simp only [dEf, iNl, iNe] at hc) | skip)) | refine AWP.block ?_ | refine AWP.exit ?_ | refine AWP.skip ?_)
      all_goals (first | (exfalso; omega) | (exfalso; simp at hc; done) | (exfalso; simp at hc; omega) | (exfalso; simp only [dEf, dEt] at hc; omega) | (rename_i h0; exfalso; simp at h0; done) | (rename_i h0; exfalso; simp at h0; omega) | skip)
      rintro _ _ ⟨σ', rfl, rfl, rfl⟩
      repeat' (first | refine AOps.q rfl rfl rfl (fun hg => by first | exact std0 | exact PRun.buildSlW tabOk rfl rfl nds) (by exact rfl) ?_ | refine AWP.regionK (fun K' hK => ?_) | (refine AOps.nil (hK _ _ ?_); clear hK K') | refine AOps.e (EStep.appendOwn' tabOk rfl rfl rfl (by decide) (Rd.w rfl True.intro) rfl (Rd.w rfl True.intro) (.sl rfl (by first | (intro x hx; rcases List.mem_singleton.1 hx with rfl; rfl) | exact one_encN _)) (LOk.of (tabOk.get rfl)) (LOk.of (tabOk.get rfl)) rfl rfl (by simp only [List.length_map, List.length_append, List.length_cons, List.length_nil, List.length_take, List.length_drop]; omega) (by simp only [List.length_map, List.length_append, List.length_cons, List.length_nil, List.length_take, List.length_drop]; omega) ?_))
      refine ⟨(k + 1, if i = 0 then kn2 else if k = 0 then kn2 else knI a b kn2 (i - 1) (k - 1)), ⟨hlk, hk3⟩, by show b.bars.length + 1 - (k + 1) < b.bars.length + 1 - k; omega, ⟨rfl, rfl, ?_, rfl, rfl, rfl, rfl, True.intro⟩, ?_⟩
      · show _ = AV.sl 1 ((rowL (costR a b) i (k + 1)).map encI) (.own 9)
        rw [er]; rfl
      · show _ = PairS o0 o1 o2 a b al _ ++ [.own 1 ((tableL (costR a b) i (b.bars.length + 1)).map encRow).length] ++ [.own 1 ((rowL (costR a b) i (k + 1)).map encI).length]
        rw [er]; rfl
    · obtain rfl : k = b.bars.length + 1 := by omega
      repeat' (first | refine AOps.q rfl rfl rfl (fun hg => by first | exact std0 | exact PRun.buildSlW tabOk rfl rfl nds) (by exact rfl) ?_ | refine AWP.seq ?_ | refine AWP.regionK (fun K' hK => ?_) | (refine AOps.nil (hK _ _ ?_); clear hK K') | refine AOps.e (EStep.appendOwn' tabOk rfl rfl rfl (by decide) (Rd.w rfl True.intro) rfl (Rd.w rfl True.intro) (.sl rfl (by first | (intro x hx; rcases List.mem_singleton.1 hx with rfl; rfl) | exact one_encN _)) (LOk.of (tabOk.get rfl)) (LOk.of (tabOk.get rfl)) rfl rfl (by simp only [List.length_map, List.length_append, List.length_cons, List.length_nil, List.length_take, List.length_drop]; omega) (by simp only [List.length_map, List.length_append, List.length_cons, List.length_nil, List.length_take, List.length_drop]; omega) ?_) | (refine AWP.condW rfl True.intro (fun hc => ?_) (fun hc => ?_) <;> (first | (simp only [dEt] at hc) | (simp only [dEf, iNl, iNe] at hc) | skip)) | refine AWP.block ?_ | refine AWP.exit ?_ | refine AWP.skip ?_)
      all_goals (first | (exfalso; omega) | (exfalso; simp at hc; done) | (exfalso; simp at hc; omega) | (exfalso; simp only [dEf, dEt] at hc; omega) | (rename_i h0; exfalso; simp at h0; done) | (rename_i h0; exfalso; simp at h0; omega) | skip)
      refine ⟨(i + 1, kn2), ⟨hlt, hk2⟩, by show a.bars.length + 1 - (i + 1) < a.bars.length + 1 - i; omega, ⟨rfl, ?_, rfl, rfl, True.intro⟩, ?_⟩
      · show _ = AV.sl 1 ((tableL (costR a b) (i + 1) (b.bars.length + 1)).map encRow) (.own 8)
        rw [et]; rfl
      · show _ = PairS o0 o1 o2 a b al _ ++ [.own 1 ((tableL (costR a b) (i + 1) (b.bars.length + 1)).map encRow).length]
        rw [et]; rfl
  · obtain rfl : i = a.bars.length + 1 := by omega
    refine AWP.unownA 3 rfl ?_
    repeat' (first | refine AOps.q rfl rfl rfl (fun hg => by first | exact std0 | exact std1) (by exact rfl) ?_ | refine AWP.seq ?_ | refine AWP.regionK (fun K' hK => ?_) | (refine AOps.nil (hK _ _ ?_); clear hK K') | (refine AWP.condW rfl True.intro (fun hc => ?_) (fun hc => ?_) <;> (first | (simp only [dEt] at hc) | (simp only [dEf, iNl, iNe] at hc) | skip)) | refine AWP.block ?_ | refine AWP.exit ?_ | refine AWP.skip ?_ | refine AWP.ret ?_)
    all_goals (first | (exfalso; omega) | (exfalso; simp at hc; done) | (exfalso; simp at hc; omega) | (exfalso; simp only [dEf, dEt] at hc; omega) | (rename_i h0; exfalso; simp at h0; done) | (rename_i h0; exfalso; simp at h0; omega) | skip)
    exact ⟨.inr rfl, _, PairS o0 o1 o2 a b al kn1, ⟨rfl, kn1, hk1, rfl⟩, rfl, Nat.le_refl _, pairS_ok h3 (Nat.le_refl _) a b al _, rfl, rfl⟩
def knP (a b : Score) (kn : List (KeyP × Int)) (l : PL) : List (KeyP × Int) := l.foldl (fun kn p => knI a b kn p.1.toNat p.2.toNat) kn
theorem KnOk.knP {a b : Score} : ∀ {l : PL} {kn : List (KeyP × Int)}, KnOk a b kn → KnOk a b (knP a b kn l)
  | [], _, h => h
  | p :: r, _, h => KnOk.knP (l := r) (h.knI _ _)
theorem knP_take (a b : Score) (kn : List (KeyP × Int)) {l : PL} {k : Nat} (h : k < l.length) : knP a b kn (l.take (k + 1)) = knI a b (knP a b kn (l.take k)) (l.getD k default).1.toNat (l.getD k default).2.toNat := by
  rw [takeS h]; unfold knP; rw [List.foldl_append]; rfl
def totalQ (o0 o1 o2 : AObj) (a b : Score) (al : NL) (kn : List (KeyP × Int)) (l : PL) (r : AV) (s : Store) : Prop :=
  r = .int (totI (costR a b) a.bars.length b.bars.length l) ∧ s = PairS o0 o1 o2 a b al (knP a b kn l)
def sumK (c : Nat → Nat → Int) (l : PL) : Int := (l.map fun p => c p.1.toNat p.2.toNat).sum
theorem sumK_take (c : Nat → Nat → Int) {l : PL} {k : Nat} (h : k < l.length) : sumK c (l.take (k + 1)) = sumK c (l.take k) + c (l.getD k default).1.toNat (l.getD k default).2.toNat := by
  rw [takeS h]; simp [sumK]
theorem sumK_in (a b : Score) : ∀ l : PL, 0 ≤ sumK (costR a b) l ∧ sumK (costR a b) l ≤ 5 * l.length
  | [] => by simp [sumK]
  | p :: r => by
    have := sumK_in a b r
    have := costR_in a b p.1.toNat p.2.toNat
    unfold sumK at *
    simp only [List.map_cons, List.sum_cons, List.length_cons]
    omega
set_option maxHeartbeats 8000000 in
set_option maxRecDepth 20000 in
theorem total_spec {o0 o1 o2 : AObj} (h3 : Pure3 o0 o1 o2) {a b : Score} (ha : Nts a) (hb : Nts b) {al : NL} (hg0 : Grp a b al) {kn : List (KeyP × Int)} (hkn : KnOk a b kn) (l : PL) (hl : l.length ≤ 1000000) (hp : pOk a.bars.length b.bars.length (-1) (-1) l = true) :
    TCall Tryz.prog 54 [.ptr 7 0, .sl 2 (l.map encPr) .no] (PairS o0 o1 o2 a b al kn) (totalQ o0 o1 o2 a b al kn l) := by
  have ha1 := ha.bars
  have hb1 := hb.bars
  have hps := pOk_spec (by omega) (by omega) hp
  refine TCall.body Tryz.func54 rfl rfl Tryz.ntmps54 rfl rfl ?_
  repeat' (first | refine AOps.q rfl rfl rfl (fun hg => by first | exact std0 | exact std1) (by exact rfl) ?_ | refine AWP.seq ?_ | refine AWP.regionK (fun K' hK => ?_) | (refine AOps.nil (hK _ _ ?_); clear hK K') | refine AWP.block ?_ | refine AWP.drawK2 (by decide +kernel) (by kernel_rfl) (by decide +kernel) rfl (fun K' hK => ?_) | (refine AQ.nil (hK _ ?_); clear hK K') | refine AQ.q rfl rfl (fun hg => by first | exact std0 | exact std1) (by exact rfl) ?_)
  refine AWP.loopD (ι := Nat) (fun q => [(0, .ptr 7 0), (5, .int (2 * ((a.bars.length : Int) + b.bars.length - 2 * l.length) + sumK (costR a b) (l.take q))), (26, .sl 2 (l.map encPr) .no), (27, .int l.length), (28, .int q)]) (fun q => PairS o0 o1 o2 a b al (knP a b kn (l.take q)))
    (fun q => q ≤ l.length) (fun q => l.length - q) 8 (fun _ => rfl) 0 (Nat.zero_le _) ⟨rfl, ?_, rfl, rfl, rfl, True.intro⟩ rfl (fun _ _ => rfl) (fun q _ => pairS_ok h3 (Nat.le_refl _) a b al _) ?_
  · show AV.int _ = AV.int (_ + sumK (costR a b) [])
    exact congrArg AV.int (by rw [show sumK (costR a b) [] = 0 from rfl]; omega)
  intro k hk
  have hk1 : KnOk a b (knP a b kn (l.take k)) := hkn.knP
  have hsi := sumK_in a b (l.take k)
  rw [List.length_take] at hsi
  by_cases hlt : k < l.length
  · obtain ⟨z, hz⟩ : ∃ z, l.getD k default = z := ⟨_, rfl⟩
    have hzm : z ∈ l := by rw [← hz, getD_lt hlt]; exact List.getElem_mem hlt
    have hst := sumK_take (costR a b) hlt
    rw [hz] at hst
    have hkt := knP_take a b kn hlt
    rw [hz] at hkt
    obtain ⟨z1, z2, z3, z4⟩ := hps.2 (z.1.toNat, z.2.toNat) (List.mem_map.2 ⟨z, hzm, rfl⟩)
    have hzp : 0 ≤ z.1 ∧ 0 ≤ z.2 := by
      have h5 := ip_np (by omega) (by omega) hp
      have h6 : z ∈ ip (np l) := by rw [h5]; exact hzm
      obtain ⟨q, _, rfl⟩ := List.mem_map.1 h6
      exact ⟨Int.natCast_nonneg _, Int.natCast_nonneg _⟩
    dsimp only at z3 z4
    have c1 := costR_in a b z.1.toNat z.2.toNat
    have hv := TCall.frame (cost_spec h3 ha hb hg0 hk1 z3 z4) [.var (encPr z)] (pairS_ok h3 (Nat.le_refl _) a b al _) rfl (fun rv s h => by rw [h.2]; rfl)
    have hv1 := TCall.val (first := []) (caps := []) (avs := [.ptr 7 0, .int (z.1.toNat : Nat), .int (z.2.toNat : Nat)]) hv
    have n1 : AV.int z.1 = AV.int ((z.1.toNat : Nat) : Int) := congrArg AV.int (by omega)
    have n2 : AV.int z.2 = AV.int ((z.2.toNat : Nat) : Int) := congrArg AV.int (by omega)
    generalize knP a b kn (l.take k) = kn1 at *
    generalize sumK (costR a b) (l.take k) = sm at *
    repeat' (first | refine AOps.q rfl rfl rfl (fun hg => by first | exact PRun.eq (v := .int z.2) (PRun.step tabOk rfl sd) n2 | exact PRun.eq (v := .int z.1) (PRun.step tabOk rfl sd) n1 | exact PRun.eq (v := .iptr (encPr (l.getD ((k : Nat) : Int).toNat default))) (PRun.indexMW tabOk rfl rfl nd rfl nd rfl rfl (by omega)) (congrArg (fun x => AV.iptr (encPr x)) hz) | exact std0) (by exact rfl) ?_ | refine AWP.seq ?_ | refine AWP.regionK (fun K' hK => ?_) | (refine AOps.nil (hK _ _ ?_); clear hK K') | refine AOps.e (EStep.storeW tabOk rfl rfl rfl True.intro rfl rfl True.intro rfl rfl rfl rfl rfl rfl rfl ?_) | refine AOps.e (EStep.allocW tabOk rfl rfl rfl rfl rfl rfl ?_) | refine AOps.e (EStep.callT (hv1) rfl rfl rfl rfl rfl nd rfl rfl nds ?_) | (refine AWP.condW rfl True.intro (fun hc => ?_) (fun hc => ?_) <;> (first | (simp only [dEt] at hc) | (simp only [dEf, iNl, iNe] at hc) | skip)) | refine AWP.block ?_ | refine AWP.exit ?_ | refine AWP.skip ?_ | refine AWP.ret ?_)
    all_goals (first | (exfalso; omega) | (exfalso; simp at hc; done) | (exfalso; simp at hc; omega) | (exfalso; simp only [dEf, dEt] at hc; omega) | (rename_i h0; exfalso; simp at h0; done) | (rename_i h0; exfalso; simp at h0; omega) | skip)
    rintro _ _ ⟨σ', rfl, rfl, rfl⟩
    repeat' (first | refine AOps.q rfl rfl rfl (fun hg => by exact std0) (by exact rfl) ?_ | refine AWP.regionK (fun K' hK => ?_) | (refine AOps.nil (hK _ _ ?_); clear hK K'))
    refine ⟨k + 1, hlt, by show l.length - (k + 1) < l.length - k; omega, ⟨rfl, ?_, rfl, rfl, rfl, True.intro⟩, by show _ = PairS o0 o1 o2 a b al (knP a b kn (l.take (k + 1))); rw [hkt]; rfl⟩
    show _ = AV.int (2 * ((a.bars.length : Int) + b.bars.length - 2 * l.length) + sumK (costR a b) (l.take (k + 1)))
    rw [hst]
    exact congrArg AV.int (by omega)
  · repeat' (first | refine AOps.q rfl rfl rfl (fun hg => by first | exact std0 | exact std1) (by exact rfl) ?_ | refine AWP.seq ?_ | refine AWP.regionK (fun K' hK => ?_) | (refine AOps.nil (hK _ _ ?_); clear hK K') | refine AOps.e (EStep.storeW tabOk rfl rfl rfl True.intro rfl rfl True.intro rfl rfl rfl rfl rfl rfl rfl ?_) | refine AOps.e (EStep.allocW tabOk rfl rfl rfl rfl rfl rfl ?_) | (refine AWP.condW rfl True.intro (fun hc => ?_) (fun hc => ?_) <;> (first | (simp only [dEt] at hc) | (simp only [dEf, iNl, iNe] at hc) | skip)) | refine AWP.block ?_ | refine AWP.exit ?_ | refine AWP.skip ?_ | refine AWP.ret ?_)
    all_goals (first | (exfalso; omega) | (exfalso; simp at hc; done) | (exfalso; simp at hc; omega) | (exfalso; simp only [dEf, dEt] at hc; omega) | (rename_i h0; exfalso; simp at h0; done) | (rename_i h0; exfalso; simp at h0; omega) | skip)
    have et : l.take k = l := List.take_of_length_le (by omega)
    rw [et]
    exact ⟨.inr rfl, _, PairS o0 o1 o2 a b al (knP a b kn l), ⟨rfl, rfl⟩, rfl, Nat.le_refl _, pairS_ok h3 (Nat.le_refl _) a b al _, rfl, rfl⟩
end Go.Proofs.YtekfpcgagoidcaaGreatDoor.Al

