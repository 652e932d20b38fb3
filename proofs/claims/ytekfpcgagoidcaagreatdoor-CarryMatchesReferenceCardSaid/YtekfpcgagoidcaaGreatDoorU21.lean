/- Contracts by content: align: least, table, total.  Contracts by content: align: table, total.  Contracts by content: align: Notes.  Contracts by content: the reference of align: long, Few, Pairs, Total, Cost, SamePairs, Same. No statement is proved here. -/
import Derived.Test.YtekfpcgagoidcaaGreatDoorU18
import Derived.Test.YtekfpcgagoidcaaGreatDoorU19
import Derived.Test.YtekfpcgagoidcaaGreatDoorU20
set_option linter.unusedVariables false
set_option linter.unusedSimpArgs false
namespace Go.Ab
theorem AWP.unownA {P : Program} {n : Nat} {c : Code} {K : Exit → Env → Store → Prop} {env : Env} {σ : Store} (d : Nat) {sz : Nat} {t : Tok} {es : List (List AV)} (hd : env d = .sl sz es t) (hk : AWP P n c K (env.put d (.sl sz es .no)) σ) : AWP P n c K env σ :=
 fun G a w hr => hk G a w ⟨hr.size, hr.defers, fun i => by
  by_cases h : i = d
  · subst h
    have := hr.vals i
    rw [hd] at this
    simp only [Env.put, if_true]
    exact EntB.no _ _ _ _ _ _ this
  · simp only [Env.put, if_neg h]; exact hr.vals i, hr.st⟩
def effCl (o : Oper) : Bool := match o.op with
 | .call { callee := .value _, .. } => true
 | _ => effOp o
end Go.Ab
namespace Go.Proofs.YtekfpcgagoidcaaGreatDoor.Al
open Go.Ab Go.Sort
attribute [local irreducible] AWP AOps EStep AQ PStep PRun PCall TCall VCall
def encI (n : Int) : List AV := [.int n]
def encRow (r : List Int) : List AV := [.sl 1 (r.map encI) .no]
def leastQ (o0 o1 o2 : AObj) (a b : Score) (al : NL) (kn : List (KeyP × Int)) (i k : Nat) (r : AV) (s : Store) : Prop :=
 r = .int (T (costR a b) i k) ∧ s = PairS o0 o1 o2 a b al (if i = 0 then kn else if k = 0 then kn else knI a b kn (i - 1) (k - 1))
theorem T_in (a b : Score) (i k : Nat) : 0 ≤ T (costR a b) i k ∧ T (costR a b) i k ≤ 2 * ((i : Int) + k) := ⟨(T_low (fun i k => (costR_in a b i k).1) i k).1, T_le i k⟩
set_option maxHeartbeats 8000000 in
set_option maxRecDepth 20000 in
theorem least_spec {o0 o1 o2 : AObj} (h3 : Pure3 o0 o1 o2) {a b : Score} (ha : Nts a) (hb : Nts b) {al : NL} (hg0 : Grp a b al) {kn : List (KeyP × Int)} (hkn : KnOk a b kn) {i k w : Nat} (hi : i ≤ a.bars.length) (hk : k ≤ b.bars.length) (hkw : k < w) :
 TCall Tryz.prog 93 [.ptr 7 0, .sl 1 ((tableL (costR a b) i w).map encRow) .no, .sl 1 ((rowL (costR a b) i k).map encI) .no] (PairS o0 o1 o2 a b al kn) (leastQ o0 o1 o2 a b al kn i k) := by
 have ha1 := ha.bars
 have hb1 := hb.bars
 have l1 := tableL_len (costR a b) i w
 have l2 := rowL_len (costR a b) i k
 cases i with
 | zero =>
   cases k with
   | zero =>
     refine TCall.body Tryz.func93 rfl rfl Tryz.ntmps93 rfl rfl ?_
     repeat' (first | refine aoQ rfl rfl rfl (fun hg => by first | exact PRun.eq (v := .int (rowL (costR a b) 0 0).length) (PRun.lenM tabOk rfl rfl nd rfl) (congrArg (fun n : Nat => AV.int n) l2) | exact PRun.eq (v := .int (tableL (costR a b) 0 w).length) (PRun.lenM tabOk rfl rfl nd rfl) (congrArg (fun n : Nat => AV.int n) l1) | exact std0 | exact std1) (by exact rfl) ?_ | refine sqW ?_ | refine rgK (fun K' hK => ?_) | (refine aoN (hK _ _ ?_); clear hK K') | refine cdN rfl tI (fun hc => ?_) (fun hc => ?_) | refine skW ?_ | refine rtW ?_ | refine dK2 (by decide +kernel) (by kernel_rfl) (by decide +kernel) rfl (fun K' hK => ?_) | refine aqQ rfl rfl (fun hg => by first | exact std0 | exact std1) (by exact rfl) ?_)
     all_goals (first | (exfalso; omega) | (exfalso; simp at hc; done) | skip)
     exact ⟨.inr rfl, _, PairS o0 o1 o2 a b al kn, ⟨congrArg AV.int (by rw [T_zero]; rfl), rfl⟩, rfl, nLr _, pairS_ok h3 (nLr _) a b al kn, rfl, rfl⟩
   | succ k =>
     obtain ⟨t1, t2⟩ := T_in a b 0 k
     have e1 : (rowL (costR a b) 0 (k + 1)).getD (((k + 1 : Nat) : Int) - 1).toNat default = T (costR a b) 0 k := by
      rw [show (((k + 1 : Nat) : Int) - 1).toNat = k by omega]; exact rowL_get (zBn _) _
     have e2 := T_zero (c := costR a b) (k + 1)
     have e3 := T_zero (c := costR a b) k
     refine TCall.body Tryz.func93 rfl rfl Tryz.ntmps93 rfl rfl ?_
     repeat' (first | refine aoQ rfl rfl rfl (fun hg => by first | exact iX encI (rowL (costR a b) 0 (k + 1)) (((k + 1 : Nat) : Int) - 1) e1 (hb := by rw [l2]; omega) | exact PRun.eq (v := .int (rowL (costR a b) 0 (k + 1)).length) (PRun.lenM tabOk rfl rfl nd rfl) (congrArg (fun n : Nat => AV.int n) l2) | exact PRun.eq (v := .int (tableL (costR a b) 0 w).length) (PRun.lenM tabOk rfl rfl nd rfl) (congrArg (fun n : Nat => AV.int n) l1) | exact std0 | exact std1) (by exact rfl) ?_ | refine sqW ?_ | refine rgK (fun K' hK => ?_) | (refine aoN (hK _ _ ?_); clear hK K') | refine cdN rfl tI (fun hc => ?_) (fun hc => ?_) | refine skW ?_ | refine rtW ?_ | refine dK2 (by decide +kernel) (by kernel_rfl) (by decide +kernel) rfl (fun K' hK => ?_) | refine aqQ rfl rfl (fun hg => by first | exact std0 | exact std1) (by exact rfl) ?_)
     all_goals (first | (exfalso; omega) | (exfalso; simp at hc; done) | (exfalso; simp at hc; omega) | skip)
     exact ⟨.inr rfl, _, PairS o0 o1 o2 a b al kn, ⟨congrArg AV.int (by omega), rfl⟩, rfl, nLr _, pairS_ok h3 (nLr _) a b al kn, rfl, rfl⟩
 | succ i =>
   have e0 : (tableL (costR a b) (i + 1) w).getD (((i + 1 : Nat) : Int) - 1).toNat default = rowL (costR a b) i w := by
    rw [show (((i + 1 : Nat) : Int) - 1).toNat = i by omega]; exact tableL_get (zBn _) _
   have l3 := rowL_len (costR a b) i w
   obtain ⟨t1, t2⟩ := T_in a b i k
   have e4 : (rowL (costR a b) i w).getD ((k : Nat) : Int).toNat default = T (costR a b) i k := rowL_get hkw _
   cases k with
   | zero =>
     have e2 := T_left (c := costR a b) (i + 1)
     have e3 := T_left (c := costR a b) i
     refine TCall.body Tryz.func93 rfl rfl Tryz.ntmps93 rfl rfl ?_
     repeat' (first | refine aoQ rfl rfl rfl (fun hg => by first | exact iX encI (rowL (costR a b) i w) ((0 : Nat) : Int) e4 (hb := by rw [l3]; omega) | exact iX encRow (tableL (costR a b) (i + 1) w) (((i + 1 : Nat) : Int) - 1) e0 (hb := by rw [l1]; omega) | exact PRun.eq (v := .int (rowL (costR a b) (i + 1) 0).length) (PRun.lenM tabOk rfl rfl nd rfl) (congrArg (fun n : Nat => AV.int n) l2) | exact PRun.eq (v := .int (tableL (costR a b) (i + 1) w).length) (PRun.lenM tabOk rfl rfl nd rfl) (congrArg (fun n : Nat => AV.int n) l1) | exact std0 | exact std1) (by exact rfl) ?_ | refine sqW ?_ | refine rgK (fun K' hK => ?_) | (refine aoN (hK _ _ ?_); clear hK K') | refine cdN rfl tI (fun hc => ?_) (fun hc => ?_) | refine skW ?_ | refine rtW ?_ | refine dK2 (by decide +kernel) (by kernel_rfl) (by decide +kernel) rfl (fun K' hK => ?_) | refine aqQ rfl rfl (fun hg => by first | exact iX encI (rowL (costR a b) i w) ((0 : Nat) : Int) e4 (hb := by rw [l3]; omega) | exact iX encRow (tableL (costR a b) (i + 1) w) (((i + 1 : Nat) : Int) - 1) e0 (hb := by rw [l1]; omega) | exact std0) (by exact rfl) ?_)
     all_goals (first | (exfalso; omega) | (exfalso; simp at hc; done) | (exfalso; simp at hc; omega) | skip)
     exact ⟨.inr rfl, _, PairS o0 o1 o2 a b al kn, ⟨congrArg AV.int (by omega), rfl⟩, rfl, nLr _, pairS_ok h3 (nLr _) a b al kn, rfl, rfl⟩
   | succ k =>
     have e5 : (rowL (costR a b) (i + 1) (k + 1)).getD (((k + 1 : Nat) : Int) - 1).toNat default = T (costR a b) (i + 1) k := by
      rw [show (((k + 1 : Nat) : Int) - 1).toNat = k by omega]; exact rowL_get (zBn _) _
     have e6 : (rowL (costR a b) i w).getD (((k + 1 : Nat) : Int) - 1).toNat default = T (costR a b) i k := by
      rw [show (((k + 1 : Nat) : Int) - 1).toNat = k by omega]; exact rowL_get (by omega) _
     have e7 := T_succ (c := costR a b) i k
     have e8 := T_le (c := costR a b) i (k + 1)
     obtain ⟨t3, t4⟩ := T_in a b (i + 1) k
     obtain ⟨t5, t6⟩ := T_in a b i k
     have c1 := costR_in a b i k
     have hc0 := TCall.val (first := []) (caps := []) (avs := [.ptr 7 0, .int i, .int k]) (cost_spec h3 ha hb hg0 hkn (show i < a.bars.length by omega) (show k < b.bars.length by omega))
     have hi1 : AV.int (((i + 1 : Nat) : Int) - 1) = AV.int i := congrArg AV.int (by omega)
     have hk1 : AV.int (((k + 1 : Nat) : Int) - 1) = AV.int k := congrArg AV.int (by omega)
     refine TCall.body Tryz.func93 rfl rfl Tryz.ntmps93 rfl rfl ?_
     repeat' (first | refine aoQ rfl rfl rfl (fun hg => by first | exact iX encI (rowL (costR a b) (i + 1) (k + 1)) (((k + 1 : Nat) : Int) - 1) e5 (hb := by rw [l2]; omega) | exact iX encI (rowL (costR a b) i w) ((k + 1 : Nat) : Int) (x := T (costR a b) i (k + 1)) (rowL_get hkw _) (hb := by rw [l3]; omega) | exact iX encRow (tableL (costR a b) (i + 1) w) (((i + 1 : Nat) : Int) - 1) e0 (hb := by rw [l1]; omega) | exact PRun.eq (v := .int (rowL (costR a b) (i + 1) (k + 1)).length) (PRun.lenM tabOk rfl rfl nd rfl) (congrArg (fun n : Nat => AV.int n) l2) | exact PRun.eq (v := .int (tableL (costR a b) (i + 1) w).length) (PRun.lenM tabOk rfl rfl nd rfl) (congrArg (fun n : Nat => AV.int n) l1) | exact std0) (by exact rfl) ?_ | refine sqW ?_ | refine rgK (fun K' hK => ?_) | (refine aoN (hK _ _ ?_); clear hK K') | refine cdN rfl tI (fun hc => ?_) (fun hc => ?_) | refine skW ?_ | refine rtW ?_)
     all_goals (first | (exfalso; omega) | (exfalso; simp at hc; done) | (exfalso; simp at hc; omega) | skip)
     refine AWP.drawYM effCl (fun j => match j with | 0 => PairS o0 o1 o2 a b al kn | _ => PairS o0 o1 o2 a b al (knI a b kn i k)) rfl (by kernel_rfl) (by decide +kernel) rfl (by decide +kernel) (fun K' hK => ?_)
     repeat' (first
      | refine yqQ (a := 0) (b := 0) rfl (by decide +kernel) (by decide +kernel) rfl rfl rfl (fun k h1 h2 hg => by (have hk : k = 0 := (by omega)); (rcases hk with rfl) <;> (first | exact iX encI (rowL (costR a b) i w) ((k : Nat) : Int) (x := T (costR a b) i k) (rowL_get (by omega) _) (hb := by rw [l3]; omega) | exact iX encRow (tableL (costR a b) (i + 1) w) ((i : Nat) : Int) (tableL_get (zBn _) _) (hb := by rw [l1]; omega) | exact PRun.eq (PRun.step tabOk rfl sd) hk1 | exact PRun.eq (PRun.step tabOk rfl sd) hi1 | exact std0 | exact std1)) (by exact rfl) ?_
      | refine yqQ (a := 0) (b := 1) rfl (by decide +kernel) (by decide +kernel) rfl rfl rfl (fun k h1 h2 hg => by (have hk : k = 0 ∨ k = 1 := (by omega)); (rcases hk with rfl | rfl) <;> (first | exact iX encI (rowL (costR a b) i w) ((k : Nat) : Int) (x := T (costR a b) i k) (rowL_get (by omega) _) (hb := by rw [l3]; omega) | exact iX encRow (tableL (costR a b) (i + 1) w) ((i : Nat) : Int) (tableL_get (zBn _) _) (hb := by rw [l1]; omega) | exact PRun.eq (PRun.step tabOk rfl sd) hk1 | exact PRun.eq (PRun.step tabOk rfl sd) hi1 | exact std0 | exact std1)) (by exact rfl) ?_
      | refine yqQ (a := 1) (b := 1) rfl (by decide +kernel) (by decide +kernel) rfl rfl rfl (fun k h1 h2 hg => by (have hk : k = 1 := (by omega)); (rcases hk with rfl) <;> (first | exact iX encI (rowL (costR a b) i w) ((k : Nat) : Int) (x := T (costR a b) i k) (rowL_get (by omega) _) (hb := by rw [l3]; omega) | exact iX encRow (tableL (costR a b) (i + 1) w) ((i : Nat) : Int) (tableL_get (zBn _) _) (hb := by rw [l1]; omega) | exact PRun.eq (PRun.step tabOk rfl sd) hk1 | exact PRun.eq (PRun.step tabOk rfl sd) hi1 | exact std0 | exact std1)) (by exact rfl) ?_
      | refine yqQ (a := 0) (b := 2) rfl (by decide +kernel) (by decide +kernel) rfl rfl rfl (fun k h1 h2 hg => by (have hk : k = 0 ∨ k = 1 ∨ k = 2 := (by omega)); (rcases hk with rfl | rfl | rfl) <;> (first | exact iX encI (rowL (costR a b) i w) ((k : Nat) : Int) (x := T (costR a b) i k) (rowL_get (by omega) _) (hb := by rw [l3]; omega) | exact iX encRow (tableL (costR a b) (i + 1) w) ((i : Nat) : Int) (tableL_get (zBn _) _) (hb := by rw [l1]; omega) | exact PRun.eq (PRun.step tabOk rfl sd) hk1 | exact PRun.eq (PRun.step tabOk rfl sd) hi1 | exact std0 | exact std1)) (by exact rfl) ?_
      | refine yqQ (a := 1) (b := 2) rfl (by decide +kernel) (by decide +kernel) rfl rfl rfl (fun k h1 h2 hg => by (have hk : k = 1 ∨ k = 2 := (by omega)); (rcases hk with rfl | rfl) <;> (first | exact iX encI (rowL (costR a b) i w) ((k : Nat) : Int) (x := T (costR a b) i k) (rowL_get (by omega) _) (hb := by rw [l3]; omega) | exact iX encRow (tableL (costR a b) (i + 1) w) ((i : Nat) : Int) (tableL_get (zBn _) _) (hb := by rw [l1]; omega) | exact PRun.eq (PRun.step tabOk rfl sd) hk1 | exact PRun.eq (PRun.step tabOk rfl sd) hi1 | exact std0 | exact std1)) (by exact rfl) ?_
      | refine yqQ (a := 2) (b := 2) rfl (by decide +kernel) (by decide +kernel) rfl rfl rfl (fun k h1 h2 hg => by (have hk : k = 2 := (by omega)); (rcases hk with rfl) <;> (first | exact iX encI (rowL (costR a b) i w) ((k : Nat) : Int) (x := T (costR a b) i k) (rowL_get (by omega) _) (hb := by rw [l3]; omega) | exact iX encRow (tableL (costR a b) (i + 1) w) ((i : Nat) : Int) (tableL_get (zBn _) _) (hb := by rw [l1]; omega) | exact PRun.eq (PRun.step tabOk rfl sd) hk1 | exact PRun.eq (PRun.step tabOk rfl sd) hi1 | exact std0 | exact std1)) (by exact rfl) ?_)
     refine YQ.e (v := .int (costR a b i k)) (d := some 62) rfl rfl rfl ?_ ?_
     · intro env' he
       refine scT hc0 rfl rfl rfl rfl rfl tI rfl (by simp only [rds, rdv_congr (he 57 (by decide +kernel)), rdv_congr (he 59 (by decide +kernel)), rdv_congr (he 61 (by decide +kernel))]; rfl) ⟨(by rw [rdn_congr (he 57 (by decide +kernel))]; first | exact tI | exact rfl), (by rw [rdn_congr (he 59 (by decide +kernel))]; first | exact tI | exact rfl), (by rw [rdn_congr (he 61 (by decide +kernel))]; first | exact tI | exact rfl), tI⟩ ?_
       rintro _ _ ⟨rfl, rfl⟩
       exact ⟨rfl, rfl⟩
     repeat' (first
      | refine yqQ (a := 0) (b := 0) rfl (by decide +kernel) (by decide +kernel) rfl rfl rfl (fun k h1 h2 hg => by (have hk : k = 0 := (by omega)); (rcases hk with rfl) <;> (first | exact std0 | exact std1)) (by exact rfl) ?_
      | refine yqQ (a := 0) (b := 1) rfl (by decide +kernel) (by decide +kernel) rfl rfl rfl (fun k h1 h2 hg => by (have hk : k = 0 ∨ k = 1 := (by omega)); (rcases hk with rfl | rfl) <;> (first | exact std0 | exact std1)) (by exact rfl) ?_
      | refine yqQ (a := 1) (b := 1) rfl (by decide +kernel) (by decide +kernel) rfl rfl rfl (fun k h1 h2 hg => by (have hk : k = 1 := (by omega)); (rcases hk with rfl) <;> (first | exact std0 | exact std1)) (by exact rfl) ?_
      | refine yqQ (a := 0) (b := 2) rfl (by decide +kernel) (by decide +kernel) rfl rfl rfl (fun k h1 h2 hg => by (have hk : k = 0 ∨ k = 1 ∨ k = 2 := (by omega)); (rcases hk with rfl | rfl | rfl) <;> (first | exact std0 | exact std1)) (by exact rfl) ?_
      | refine yqQ (a := 1) (b := 2) rfl (by decide +kernel) (by decide +kernel) rfl rfl rfl (fun k h1 h2 hg => by (have hk : k = 1 ∨ k = 2 := (by omega)); (rcases hk with rfl | rfl) <;> (first | exact std0 | exact std1)) (by exact rfl) ?_
      | refine yqQ (a := 2) (b := 2) rfl (by decide +kernel) (by decide +kernel) rfl rfl rfl (fun k h1 h2 hg => by (have hk : k = 2 := (by omega)); (rcases hk with rfl) <;> (first | exact std0 | exact std1)) (by exact rfl) ?_)
     refine YQ.nil (hK _ _ ?_)
     clear hK K'
     repeat' (first | refine aoQ rfl rfl rfl (fun hg => by exact std0) (by exact rfl) ?_ | refine sqW ?_ | refine rgK (fun K' hK => ?_) | (refine aoN (hK _ _ ?_); clear hK K') | refine rtW ?_)
     exact ⟨.inr rfl, _, PairS o0 o1 o2 a b al (knI a b kn i k), ⟨congrArg AV.int (by omega), rfl⟩, rfl, nLr _, pairS_ok h3 (nLr _) a b al _, rfl, rfl⟩
def tableQ (o0 o1 o2 : AObj) (a b : Score) (al : NL) (r : AV) (s : Store) : Prop :=
 r = .sl 1 ((tableL (costR a b) (a.bars.length + 1) (b.bars.length + 1)).map encRow) .no ∧ ∃ kn, KnOk a b kn ∧ s = PairS o0 o1 o2 a b al kn
theorem okOwn1 (m l n : Nat) (o : Store) : (o ++ [AObj.own l n]).all (okObj m) = o.all (okObj m) := by rw [zCi]; simp [okObj]
theorem rowE (c : Nat → Nat → Int) (i k : Nat) : (rowL c i (k + 1)).map encI = (rowL c i k).map encI ++ [[AV.int (T c i k)]] := by rw [rowL_succ, zAs]; rfl
theorem tabE (c : Nat → Nat → Int) (i w : Nat) : (tableL c (i + 1) w).map encRow = (tableL c i w).map encRow ++ [[AV.sl 1 ((rowL c i w).map encI) .no]] := by rw [tableL_succ, zAs]; rfl
set_option maxHeartbeats 8000000 in
set_option maxRecDepth 20000 in
theorem table_spec {o0 o1 o2 : AObj} (h3 : Pure3 o0 o1 o2) {a b : Score} (ha : Nts a) (hb : Nts b) {al : NL} (hg0 : Grp a b al) {kn : List (KeyP × Int)} (hkn : KnOk a b kn) :
 TCall Tryz.prog 48 [.ptr 7 0] (PairS o0 o1 o2 a b al kn) (tableQ o0 o1 o2 a b al) := by
 have ha1 := ha.bars
 have hb1 := hb.bars
 refine TCall.body Tryz.func48 rfl rfl Tryz.ntmps48 rfl rfl ?_
 repeat' (first | refine aoQ rfl rfl rfl (fun hg => by first | exact std0 | exact std1) (by exact rfl) ?_ | refine sqW ?_ | refine rgK (fun K' hK => ?_) | (refine aoN (hK _ _ ?_); clear hK K') | refine blK ?_)
 refine AWP.ownNil (d := 3) (sz := 1) rfl ?_
 refine lpD (ι := Nat × List (KeyP × Int)) (fun q => [(0, .ptr 7 0), (3, .sl 1 ((tableL (costR a b) q.1 (b.bars.length + 1)).map encRow) (.own 8)), (11, .int (a.bars.length + 1)), (12, .int q.1)]) (fun q => PairS o0 o1 o2 a b al q.2 ++ [.own 1 ((tableL (costR a b) q.1 (b.bars.length + 1)).map encRow).length])
  (fun q => q.1 ≤ a.bars.length + 1 ∧ KnOk a b q.2) (fun q => a.bars.length + 1 - q.1) 9 (fun _ => rfl) (0, kn) ⟨nZl _, hkn⟩ ⟨rfl, rfl, rfl, rfl, tI⟩ rfl (fun _ _ => rfl) (fun q _ => by rw [okOwn1]; exact pairS_ok h3 (by decide) a b al _) ?_
 rintro ⟨i, kn1⟩ ⟨hi, hk1⟩
 dsimp only at hi hk1
 have l1 := tableL_len (costR a b) i (b.bars.length + 1)
 have et := tabE (costR a b) i (b.bars.length + 1)
 by_cases hlt : i < a.bars.length + 1
 · repeat' (first | refine aoQ rfl rfl rfl (fun hg => by first | exact std0 | exact std1) (by exact rfl) ?_ | refine sqW ?_ | refine rgK (fun K' hK => ?_) | (refine aoN (hK _ _ ?_); clear hK K') | refine cdN rfl tI (fun hc => ?_) (fun hc => ?_) | refine blK ?_ | refine exW ?_ | refine skW ?_ | refine rtW ?_)
   all_goals (first | exact dd | skip)
   refine AWP.ownNil (d := 4) (sz := 1) rfl ?_
   refine lpD (ι := Nat × List (KeyP × Int)) (fun q => [(0, .ptr 7 0), (3, .sl 1 ((tableL (costR a b) i (b.bars.length + 1)).map encRow) (.own 8)), (4, .sl 1 ((rowL (costR a b) i q.1).map encI) (.own 9)), (11, .int (a.bars.length + 1)), (12, .int i), (20, .int (b.bars.length + 1)), (21, .int q.1)])
    (fun q => PairS o0 o1 o2 a b al q.2 ++ [.own 1 ((tableL (costR a b) i (b.bars.length + 1)).map encRow).length] ++ [.own 1 ((rowL (costR a b) i q.1).map encI).length])
    (fun q => q.1 ≤ b.bars.length + 1 ∧ KnOk a b q.2) (fun q => b.bars.length + 1 - q.1) 10 (fun _ => rfl) (0, kn1) ⟨nZl _, hk1⟩ ⟨rfl, rfl, rfl, rfl, rfl, rfl, rfl, tI⟩ rfl (fun _ _ => rfl) (fun q _ => by rw [okOwn1, okOwn1]; exact pairS_ok h3 (by decide) a b al _) ?_
   rintro ⟨k, kn2⟩ ⟨hk, hk2⟩
   dsimp only at hk hk2
   have l2 := rowL_len (costR a b) i k
   by_cases hlk : k < b.bars.length + 1
   · have er := rowE (costR a b) i k
     have hk3 : KnOk a b (if i = 0 then kn2 else if k = 0 then kn2 else knI a b kn2 (i - 1) (k - 1)) := by
      split
      · exact hk2
      · split
        · exact hk2
        · exact hk2.knI _ _
     have hl0 := TCall.frame (least_spec h3 ha hb hg0 hk2 (show i ≤ a.bars.length by omega) (show k ≤ b.bars.length by omega) (show k < b.bars.length + 1 from hlk)) ([.own 1 ((tableL (costR a b) i (b.bars.length + 1)).map encRow).length] ++ [.own 1 ((rowL (costR a b) i k).map encI).length]) (pairS_ok h3 (nLr _) a b al _) rfl (fun rv s h => by rw [h.2]; rfl)
     have hl1 := TCall.args (avs' := [.ptr 7 0, .sl 1 ((tableL (costR a b) i (b.bars.length + 1)).map encRow) (.own 8), .sl 1 ((rowL (costR a b) i k).map encI) (.own 9)]) hl0 rfl (fun j u v hu hv => by
      match j, hu, hv with
      | 0, hu, hv => cases hu; cases hv; exact EntB.refl _
      | 1, hu, hv => cases hu; cases hv; exact EntB.no _ _ _
      | 2, hu, hv => cases hu; cases hv; exact EntB.no _ _ _
      | j + 3, hu, hv => cases hu)
     have hv1 := TCall.val (first := []) (caps := []) (avs := [.ptr 7 0, .sl 1 ((tableL (costR a b) i (b.bars.length + 1)).map encRow) (.own 8), .sl 1 ((rowL (costR a b) i k).map encI) (.own 9)]) hl1
     repeat' (first | refine aoQ rfl rfl rfl (fun hg => by exact std0) (by exact rfl) ?_ | refine sqW ?_ | refine rgK (fun K' hK => ?_) | (refine aoN (hK _ _ ?_); clear hK K') | refine aoE (scT (hv1) rfl rfl rfl rfl rfl nd rfl rfl nds ?_) | refine cdN rfl tI (fun hc => ?_) (fun hc => ?_) | refine blK ?_ | refine exW ?_ | refine skW ?_)
     all_goals (first | exact dd | skip)
     rintro _ _ ⟨σ', rfl, rfl, rfl⟩
     repeat' (first | refine aoQ rfl rfl rfl (fun hg => by first | exact std0 | exact pbS tabOk rfl rfl nds) (by exact rfl) ?_ | refine rgK (fun K' hK => ?_) | (refine aoN (hK _ _ ?_); clear hK K') | refine aoE (apO tabOk rfl rfl rfl (by decide) (Rd.w rfl tI) rfl (Rd.w rfl tI) (.sl rfl (by first | (intro x hx; rcases zAn.1 hx with rfl; rfl) | exact one_encN _)) (LOk.of (tabOk.get rfl)) (LOk.of (tabOk.get rfl)) rfl rfl (by simp only [lLm, lLa, zA8, zAg, zAl, zAx]; omega) (by simp only [lLm, lLa, zA8, zAg, zAl, zAx]; omega) ?_))
     refine ⟨(k + 1, if i = 0 then kn2 else if k = 0 then kn2 else knI a b kn2 (i - 1) (k - 1)), ⟨hlk, hk3⟩, by show b.bars.length + 1 - (k + 1) < b.bars.length + 1 - k; omega, ⟨rfl, rfl, ?_, rfl, rfl, rfl, rfl, tI⟩, ?_⟩
     · show _ = AV.sl 1 ((rowL (costR a b) i (k + 1)).map encI) (.own 9)
       rw [er]; rfl
     · show _ = PairS o0 o1 o2 a b al _ ++ [.own 1 ((tableL (costR a b) i (b.bars.length + 1)).map encRow).length] ++ [.own 1 ((rowL (costR a b) i (k + 1)).map encI).length]
       rw [er]; rfl
   · obtain rfl : k = b.bars.length + 1 := by omega
     repeat' (first | refine aoQ rfl rfl rfl (fun hg => by first | exact std0 | exact pbS tabOk rfl rfl nds) (by exact rfl) ?_ | refine sqW ?_ | refine rgK (fun K' hK => ?_) | (refine aoN (hK _ _ ?_); clear hK K') | refine aoE (apO tabOk rfl rfl rfl (by decide) (Rd.w rfl tI) rfl (Rd.w rfl tI) (.sl rfl (by first | (intro x hx; rcases zAn.1 hx with rfl; rfl) | exact one_encN _)) (LOk.of (tabOk.get rfl)) (LOk.of (tabOk.get rfl)) rfl rfl (by simp only [lLm, lLa, zA8, zAg, zAl, zAx]; omega) (by simp only [lLm, lLa, zA8, zAg, zAl, zAx]; omega) ?_) | refine cdN rfl tI (fun hc => ?_) (fun hc => ?_) | refine blK ?_ | refine exW ?_ | refine skW ?_)
     all_goals (first | exact dd | skip)
     refine ⟨(i + 1, kn2), ⟨hlt, hk2⟩, by show a.bars.length + 1 - (i + 1) < a.bars.length + 1 - i; omega, ⟨rfl, ?_, rfl, rfl, tI⟩, ?_⟩
     · show _ = AV.sl 1 ((tableL (costR a b) (i + 1) (b.bars.length + 1)).map encRow) (.own 8)
       rw [et]; rfl
     · show _ = PairS o0 o1 o2 a b al _ ++ [.own 1 ((tableL (costR a b) (i + 1) (b.bars.length + 1)).map encRow).length]
       rw [et]; rfl
 · obtain rfl : i = a.bars.length + 1 := by omega
   refine AWP.unownA 3 rfl ?_
   repeat' (first | refine aoQ rfl rfl rfl (fun hg => by first | exact std0 | exact std1) (by exact rfl) ?_ | refine sqW ?_ | refine rgK (fun K' hK => ?_) | (refine aoN (hK _ _ ?_); clear hK K') | refine cdN rfl tI (fun hc => ?_) (fun hc => ?_) | refine blK ?_ | refine exW ?_ | refine skW ?_ | refine rtW ?_)
   all_goals (first | exact dd | skip)
   exact ⟨.inr rfl, _, PairS o0 o1 o2 a b al kn1, ⟨rfl, kn1, hk1, rfl⟩, rfl, nLr _, pairS_ok h3 (nLr _) a b al _, rfl, rfl⟩
structure Algn where
 pairs : PL
 cost : Int
 table : List (List Int)
 deriving Inhabited
def encA (x : Algn) : List AV := [.sl 2 (x.pairs.map encPr) .no, .int x.cost, .sl 1 (x.table.map encRow) .no]
structure Algn.Sized (x : Algn) : Prop where
 pairs : x.pairs.length ≤ 9223372036854775807
 table : x.table.length ≤ 9223372036854775807
 rows : ∀ r ∈ x.table, r.length ≤ 9223372036854775807
theorem notes1_spec (x y : Note) : PCall Tryz.prog 60 [.agg (encN x), .agg (encN y)] (.b (f1 x y)) := by
 refine PCall.body Tryz.func60 rfl rfl Tryz.ntmps60 rfl rfl ?_
 repeat' (first | refine aoQ rfl rfl rfl (fun hg => by exact std0) (by exact rfl) ?_ | refine sqW ?_ | refine rgK (fun K' hK => ?_) | (refine aoN (hK _ _ ?_); clear hK K') | refine aoE (bxW rfl rfl rfl rfl rfl tI rfl rfl ?_) | refine rtW ?_)
 exact ⟨.inr rfl, Ent.b rfl⟩
theorem notes2_spec (x y : Note) : PCall Tryz.prog 61 [.agg (encN x), .agg (encN y)] (.b (f2 x y)) := by
 refine PCall.body Tryz.func61 rfl rfl Tryz.ntmps61 rfl rfl ?_
 repeat' (first | refine aoQ rfl rfl rfl (fun hg => by exact std0) (by exact rfl) ?_ | refine sqW ?_ | refine rgK (fun K' hK => ?_) | (refine aoN (hK _ _ ?_); clear hK K') | refine aoE (bxW rfl rfl rfl rfl rfl tI rfl rfl ?_) | refine rtW ?_ | refine dK2 (by decide +kernel) (by kernel_rfl) (by decide +kernel) rfl (fun K' hK => ?_) | (refine aqN (hK _ ?_); clear hK K') | refine aqQ rfl rfl (fun hg => by first | exact std0 | exact pcW (bare_spec x) rfl rfl nd rfl nds | exact pcW (bare_spec y) rfl rfl nd rfl nds | exact PRun.eqN flN rfl rfl nd rfl nd rfl) (by exact rfl) ?_)
 exact ⟨.inr rfl, Ent.b (by unfold f2 alike; exact eqNo_eq _ _)⟩
theorem notes3_spec (x y : Note) : PCall Tryz.prog 63 [.agg (encN x), .agg (encN y)] (.b (f3 x y)) := by
 refine PCall.body Tryz.func63 rfl rfl Tryz.ntmps63 rfl rfl ?_
 repeat' (first | refine aoQ rfl rfl rfl (fun hg => by first | exact std0 | exact PRun.eqN flRtA rfl rfl nd rfl nd rfl) (by exact rfl) ?_ | refine sqW ?_ | refine rgK (fun K' hK => ?_) | (refine aoN (hK _ _ ?_); clear hK K') | refine aoE (bxW rfl rfl rfl rfl rfl tI rfl rfl ?_) | refine rtW ?_)
 refine ⟨.inr rfl, Ent.b ?_⟩
 unfold f3
 rw [← eqRa_eq]
 simp only [Bool.and_assoc]; rfl
def outL (ps : PL) (l : List Note) : PL := l.filterMap fun n => (lk ps n.id).map fun y => (n.id, y)
theorem outL_yes {ps : PL} {l : List Note} {k : Nat} (h : k < l.length) {n : Note} (hn : l.getD k default = n) {v : Int} (hv : lk ps n.id = some v) : outL ps (l.take (k + 1)) = outL ps (l.take k) ++ [(n.id, v)] := by
 unfold outL; rw [takeS h, hn, zD6]; simp [hv]
theorem outL_no {ps : PL} {l : List Note} {k : Nat} (h : k < l.length) {n : Note} (hn : l.getD k default = n) (hv : lk ps n.id = none) : outL ps (l.take (k + 1)) = outL ps (l.take k) := by
 unfold outL; rw [takeS h, hn, zD6]; simp [hv]
theorem outL_len (ps : PL) (l : List Note) : (outL ps l).length ≤ l.length := List.length_filterMap_le _ _
def notesR (a b : Score) (x : Algn) : PL × Int := if scoreOk a && (scoreOk b && pOk a.bars.length b.bars.length (-1) (-1) x.pairs) then (notesM a b (np x.pairs), 0) else ([], 1)
def pOf (a b : Score) (x : Algn) (al : NL) : Nat → AObj := fun i => (PairS (.var (encS a)) (.var (encS b)) (.var (encA x)) a b al []).getD i .dead
theorem pOf_ok (a b : Score) (x : Algn) (al : NL) : PureP (pOf a b x al) := fun i m hm => by
 have h := pairS_ok (o0 := .var (encS a)) (o1 := .var (encS b)) (o2 := .var (encA x)) (fun _ => ⟨rfl, rfl, rfl⟩) hm a b al []
 rw [zA7] at h
 unfold pOf
 rw [zBs]
 cases hh : (PairS (.var (encS a)) (.var (encS b)) (.var (encA x)) a b al [])[i]? with
 | none => rfl
 | some v => exact h v (zAk hh)
theorem pairsM_take (a b : Score) {l : PL} {k : Nat} (h : k < l.length) {z : Int × Int} (hz : l.getD k default = z) : pairsM a b (np (l.take (k + 1))) [] = three (inBar a (barI a z.1.toNat).id) (inBar b (barI b z.2.toNat).id) (pairsM a b (np (l.take k)) []) := by
 rw [takeS h, hz]
 unfold pairsM np
 rw [zAs, zBy]; rfl
set_option maxHeartbeats 16000000 in
set_option maxRecDepth 20000 in
theorem aNotes_spec (a b : Score) (ha : a.Small) (hb : b.Small) (x : Algn) (hx : x.pairs.length ≤ 1000000) :
 PCall Tryz.prog 24 [.agg (encS a), .agg (encS b), .agg (encA x)] (.tup [.sl 2 ((notesR a b x).1.map encPr) .no, .int (notesR a b x).2]) := by
 have h3 : Pure3 (.var (encS a)) (.var (encS b)) (.var (encA x)) := fun _ => ⟨rfl, rfl, rfl⟩
 have hv0 := TCall.val (first := []) (caps := []) (avs := [.agg (encS a), .agg (encS b)]) (newPair_spec h3 a b ha hb)
 have hp1 := fun u v => arePairs_spec a b u v ha hb x.pairs hx
 refine PCall.body Tryz.func24 rfl rfl Tryz.ntmps24 rfl rfl ?_
 repeat' (first | refine aoQ rfl rfl rfl (fun hg => by exact std0) (by exact rfl) ?_ | refine sqW ?_ | refine rgK (fun K' hK => ?_) | (refine aoN (hK _ _ ?_); clear hK K') | refine aoE (bxW rfl rfl rfl rfl rfl tI rfl rfl ?_) | refine aoE (scT (hv0) rfl rfl rfl rfl rfl nd rfl rfl nds ?_))
 intro r s hr
 unfold npR at hr
 split at hr
 · rename_i hok
   obtain ⟨rfl, al, hg, rfl⟩ := hr
   simp only [zA0] at hok
   cases hpk : pOk a.bars.length b.bars.length (-1) (-1) x.pairs with
   | false =>
     rw [hpk] at hp1
     repeat' (first | refine aoQ rfl rfl rfl (fun hg => by first | exact std0 | exact pbW (hp1 _ _) rfl rfl nd rfl rfl nds) (by exact rfl) ?_ | refine sqW ?_ | refine rgK (fun K' hK => ?_) | (refine aoN (hK _ _ ?_); clear hK K') | refine cdN rfl tI (fun hc => ?_) (fun hc => ?_) | refine skW ?_ | refine rtW ?_)
     all_goals (first | exact dd | skip)
     have hR : notesR a b x = ([], 1) := by unfold notesR; rw [hpk]; simp
     rw [hR]
     exact ⟨.inr rfl, Ent.tup2 Ent.nil (Ent.rfl' _)⟩
   | true =>
     rw [hpk] at hp1
     have hR : notesR a b x = (notesM a b (np x.pairs), 0) := by unfold notesR; rw [hok.1, hok.2, hpk]; rfl
     have hps := pOk_spec (by omega) (by omega) hpk
     have hsa := ok_sc hok.1
     have hna := ok_nts hok.1
     have hnb := ok_nts hok.2
     have ha3 := hna.len
     repeat' (first | refine aoQ rfl rfl rfl (fun hg => by first | exact std0 | exact pbW (hp1 _ _) rfl rfl nd rfl rfl nds | exact std1) (by exact rfl) ?_ | refine sqW ?_ | refine rgK (fun K' hK => ?_) | (refine aoN (hK _ _ ?_); clear hK K') | refine aoE (EStep.makeMapW rfl rfl rfl rfl ?_) | refine cdN rfl tI (fun hc => ?_) (fun hc => ?_) | refine blK ?_ | refine skW ?_ | refine rtW ?_)
     all_goals (first | exact dd | skip)
     rw [hR]
     clear hp1 hc
     refine lpD (ι := Nat) (fun k => [(3, .ptr 0 0), (4, .ptr 1 0), (8, .ptr 7 0), (10, .map 8), (11, .map 9), (39, .sl 2 (x.pairs.map encPr) .no), (40, .int x.pairs.length), (41, .int k)]) (fun k => MB (pOf a b x al) (pairsM a b (np (x.pairs.take k)) [])) (fun k => k ≤ x.pairs.length) (fun k => x.pairs.length - k) 10 (fun _ => rfl) 0 (nZl _) ⟨rfl, rfl, rfl, rfl, rfl, rfl, rfl, rfl, tI⟩ rfl (fun _ _ => rfl) (fun k _ => MB_ok (pOf_ok a b x al) (nLr _) _) ?_
     intro k hk
     by_cases hlt : k < x.pairs.length
     · obtain ⟨z, hz⟩ : ∃ z, x.pairs.getD k default = z := ⟨_, rfl⟩
       have hzm : z ∈ x.pairs := by rw [← hz, getD_lt hlt]; exact lGm hlt
       obtain ⟨z1, z2, z3, z4⟩ := hps.2 (z.1.toNat, z.2.toNat) (zAu.2 ⟨z, hzm, rfl⟩)
       have hzp : 0 ≤ z.1 ∧ 0 ≤ z.2 := by
        have h5 := ip_np (by omega) (by omega) hpk
        have h6 : z ∈ ip (np x.pairs) := by rw [h5]; exact hzm
        obtain ⟨q, _, rfl⟩ := zAu.1 h6
        exact ⟨zC2 _, zC2 _⟩
       dsimp only at z3 z4
       have n1 : AV.int z.1 = AV.int ((z.1.toNat : Nat) : Int) := congrArg AV.int (by omega)
       have n2 : AV.int z.2 = AV.int ((z.2.toNat : Nat) : Int) := congrArg AV.int (by omega)
       have hst := pairsM_take a b hlt hz
       obtain ⟨u, hu⟩ : ∃ u, barI a z.1.toNat = u := ⟨_, rfl⟩
       obtain ⟨v, hv⟩ : ∃ v, barI b z.2.toNat = v := ⟨_, rfl⟩
       have gx := (hg u.id).1
       have gy := (hg v.id).2
       rw [hu, hv] at hst
       have lx := (hna.inBar u.id).1
       have ly := (hnb.inBar v.id).1
       have hnd := inBar_nodup hsa.notes u.id
       generalize pairsM a b (np (x.pairs.take k)) [] = q at *
       have hM := fun (f : Note → Note → Bool) (g : Nat) (hf : ∀ x y, PCall Tryz.prog g [.agg (encN x), .agg (encN y)] (.b (f x y))) (q : PL) => TCall.val (first := []) (caps := []) (avs := [.sl 12 ((inBar a u.id).map encN) .no, .sl 12 ((inBar b v.id).map encN) .no, .map 8, .map 9, .fn (.func g) [] []]) (TCall.frame (match_spec (pOf_ok a b x al) hf (inBar a u.id) (inBar b v.id) (by omega) (by omega) hnd q) [.var (encPr z)] (MB_ok (pOf_ok a b x al) (nLr _) _) rfl (fun rv s h => by rw [h.2]; rfl))
       have m1 := hM f1 _ notes1_spec q
       have m2 := hM f2 _ notes2_spec (matchL f1 (inBar a u.id) (inBar b v.id) q)
       have m3 := hM f3 _ notes3_spec (matchL f2 (inBar a u.id) (inBar b v.id) (matchL f1 (inBar a u.id) (inBar b v.id) q))
       clear hM
       repeat' (first | refine aoQ rfl rfl rfl (fun hg => by first | exact iX encPr x.pairs ((k : Nat) : Int) hz (hb := by omega) | exact std0 | exact std1) (by exact rfl) ?_ | refine sqW ?_ | refine rgK (fun K' hK => ?_) | (refine aoN (hK _ _ ?_); clear hK K') | refine aoE (stW tabOk rfl rfl rfl tI rfl rfl tI rfl rfl rfl rfl rfl rfl rfl ?_) | refine aoE (alW tabOk rfl rfl rfl rfl rfl rfl ?_) | refine aoE (scT (m1) rfl rfl rfl rfl rfl nd rfl rfl nds ?_) | refine cdN rfl tI (fun hc => ?_) (fun hc => ?_) | refine blK ?_ | refine exW ?_ | refine skW ?_ | refine dK2 (by decide +kernel) (by kernel_rfl) (by decide +kernel) rfl (fun K' hK => ?_) | (refine aqN (hK _ ?_); clear hK K') | refine aqQ rfl rfl (fun hg => by first | exact PRun.eq (PRun.lookupN (ek := ekP) (sz := 12) (f := encN) (al := al) (key := ((1 : Int), v.id)) pairKA (LOk.of (tabOk.get rfl)) (LOk.of (tabOk.get rfl)) rfl rfl (Rd.w rfl nd) (Or.inr ⟨_, rfl, rfl⟩) (Rd.w rfl nd) rfl) (show AV.sl 12 (((lk al ((1 : Int), v.id)).getD []).map encN) .no = AV.sl 12 ((inBar b v.id).map encN) .no by rw [gy]) | exact PRun.eq (PRun.lookupN (ek := ekP) (sz := 12) (f := encN) (al := al) (key := ((0 : Int), u.id)) pairKA (LOk.of (tabOk.get rfl)) (LOk.of (tabOk.get rfl)) rfl rfl (Rd.w rfl nd) (Or.inr ⟨_, rfl, rfl⟩) (Rd.w rfl nd) rfl) (show AV.sl 12 (((lk al ((0 : Int), u.id)).getD []).map encN) .no = AV.sl 12 ((inBar a u.id).map encN) .no by rw [gx]) | exact iX encB b.bars ((z.2.toNat : Nat) : Int) hv (hb := by omega) | exact iX encB a.bars ((z.1.toNat : Nat) : Int) hu (hb := by omega) | exact PRun.eq (v := .int z.2) (PRun.step tabOk rfl sd) n2 | exact PRun.eq (v := .int z.1) (PRun.step tabOk rfl sd) n1 | exact std0 | exact PRun.buildAW tabOk rfl rfl nds | exact std1) (by exact rfl) ?_)
       all_goals (first | exact dd | skip)
       rintro _ _ ⟨σ', rfl, rfl, rfl⟩
       clear m1
       repeat' (first | refine aoQ rfl rfl rfl (fun hg => by exact std0) (by exact rfl) ?_ | refine sqW ?_ | refine rgK (fun K' hK => ?_) | (refine aoN (hK _ _ ?_); clear hK K') | refine aoE (scT (m2) rfl rfl rfl rfl rfl nd rfl rfl nds ?_))
       rintro _ _ ⟨σ', rfl, rfl, rfl⟩
       clear m2
       repeat' (first | refine aoQ rfl rfl rfl (fun hg => by exact std0) (by exact rfl) ?_ | refine rgK (fun K' hK => ?_) | (refine aoN (hK _ _ ?_); clear hK K') | refine aoE (scT (m3) rfl rfl rfl rfl rfl nd rfl rfl nds ?_))
       rintro _ _ ⟨σ', rfl, rfl, rfl⟩
       clear m3
       repeat' (first | refine aoQ rfl rfl rfl (fun hg => by exact std0) (by exact rfl) ?_ | refine rgK (fun K' hK => ?_) | (refine aoN (hK _ _ ?_); clear hK K'))
       exact ⟨k + 1, hlt, by omega, ⟨rfl, rfl, rfl, rfl, rfl, rfl, rfl, rfl, tI⟩, by show _ = MB _ (pairsM a b (np (x.pairs.take (k + 1))) []); rw [hst]; rfl⟩
     · obtain rfl : k = x.pairs.length := by omega
       rw [zB9]
       repeat' (first | refine aoQ rfl rfl rfl (fun hg => by first | exact std0 | exact std1) (by exact rfl) ?_ | refine sqW ?_ | refine rgK (fun K' hK => ?_) | (refine aoN (hK _ _ ?_); clear hK K') | refine aoE (stW tabOk rfl rfl rfl tI rfl rfl tI rfl rfl rfl rfl rfl rfl rfl ?_) | refine aoE (alW tabOk rfl rfl rfl rfl rfl rfl ?_) | refine cdN rfl tI (fun hc => ?_) (fun hc => ?_) | refine blK ?_ | refine exW ?_ | refine skW ?_ | refine dK2 (by decide +kernel) (by kernel_rfl) (by decide +kernel) rfl (fun K' hK => ?_) | refine aqQ rfl rfl (fun hg => by first | exact std0 | exact std1) (by exact rfl) ?_)
       all_goals (first | exact dd | skip)
       have hM : notesM a b (np x.pairs) = outL (pairsM a b (np x.pairs) []) a.notes := rfl
       rw [hM]
       generalize pairsM a b (np x.pairs) [] = q
       clear hps hM hR hpk
       refine AWP.ownNil (d := 16) (sz := 2) rfl ?_
       refine lpD (ι := Nat) (fun k => [(10, .map 8), (16, .sl 2 ((outL q (a.notes.take k)).map encPr) (.own 10)), (88, .sl 12 (a.notes.map encN) .no), (89, .int a.notes.length), (90, .int k)]) (fun k => MB (pOf a b x al) q ++ [.own 2 ((outL q (a.notes.take k)).map encPr).length]) (fun k => k ≤ a.notes.length) (fun k => a.notes.length - k) 11 (fun _ => rfl) 0 (nZl _) ⟨rfl, rfl, rfl, rfl, rfl, tI⟩ rfl (fun _ _ => rfl) (fun k _ => by rw [okOwn1]; exact MB_ok (pOf_ok a b x al) (by decide) _) ?_
       intro k hk
       have hlo := outL_len q (a.notes.take k)
       rw [zAl] at hlo
       by_cases hlt : k < a.notes.length
       · obtain ⟨n, hn⟩ : ∃ n, a.notes.getD k default = n := ⟨_, rfl⟩
         cases hl : lk q n.id with
         | none =>
           have ho := outL_no hlt hn hl
           repeat' (first | refine aoQ rfl rfl rfl (fun hg => by first | exact PRun.eq (v := .tup [.int ((lk q n.id).getD 0), .b (lk q n.id).isSome]) (PRun.lookup (ok := true) (ek := ekI) (ev := AV.int) (al := q) (key := n.id) (zv := 0) (keyLaw_int (LOk.of (tabOk.get rfl))) (LOk.of (tabOk.get rfl)) (LOk.of (tabOk.get rfl)) rfl rfl (Rd.w rfl nd) (Or.inr ⟨_, rfl, rfl⟩) (Rd.w rfl nd) rfl) (show AV.tup [.int ((lk q n.id).getD 0), .b (lk q n.id).isSome] = AV.tup [.int 0, .b false] by rw [hl]; rfl) | exact iX encN a.notes ((k : Nat) : Int) hn (hb := by omega) | exact std0) (by exact rfl) ?_ | refine sqW ?_ | refine rgK (fun K' hK => ?_) | (refine aoN (hK _ _ ?_); clear hK K') | refine aoE (stW tabOk rfl rfl rfl tI rfl rfl tI rfl rfl rfl rfl rfl rfl rfl ?_) | refine aoE (alW tabOk rfl rfl rfl rfl rfl rfl ?_) | refine cdN rfl tI (fun hc => ?_) (fun hc => ?_) | refine blK ?_ | refine exW ?_ | refine skW ?_ | refine rtW ?_)
           all_goals (first | exact dd | skip)
           exact ⟨k + 1, hlt, by omega, ⟨rfl, by rw [ho]; rfl, rfl, rfl, rfl, tI⟩, by show _ = _ ++ [AObj.own 2 ((outL q (a.notes.take (k + 1))).map encPr).length]; rw [ho]; rfl⟩
         | some w =>
           have ho := outL_yes hlt hn hl
           have hom2 : (List.map encPr (outL q (a.notes.take k)) ++ [[AV.int n.id, AV.int w]]).length = (List.map encPr (outL q (a.notes.take k))).length + 1 := by rw [lLa]; rfl
           have hom : ((outL q (a.notes.take k)) ++ [(n.id, w)]).map encPr = (outL q (a.notes.take k)).map encPr ++ [[AV.int n.id, AV.int w]] := by rw [zAs]; rfl
           repeat' (first | refine aoQ rfl rfl rfl (fun hg => by first | exact PRun.eq (v := .tup [.int ((lk q n.id).getD 0), .b (lk q n.id).isSome]) (PRun.lookup (ok := true) (ek := ekI) (ev := AV.int) (al := q) (key := n.id) (zv := 0) (keyLaw_int (LOk.of (tabOk.get rfl))) (LOk.of (tabOk.get rfl)) (LOk.of (tabOk.get rfl)) rfl rfl (Rd.w rfl nd) (Or.inr ⟨_, rfl, rfl⟩) (Rd.w rfl nd) rfl) (show AV.tup [.int ((lk q n.id).getD 0), .b (lk q n.id).isSome] = AV.tup [.int w, .b true] by rw [hl]; rfl) | exact iX encN a.notes ((k : Nat) : Int) hn (hb := by omega) | exact std0 | exact pbD tabOk rfl rfl nds | exact pbS tabOk rfl rfl nds) (by exact rfl) ?_ | refine sqW ?_ | refine rgK (fun K' hK => ?_) | (refine aoN (hK _ _ ?_); clear hK K') | refine aoE (stW tabOk rfl rfl rfl tI rfl rfl tI rfl rfl rfl rfl rfl rfl rfl ?_) | refine aoE (alW tabOk rfl rfl rfl rfl rfl rfl ?_) | refine aoE (EStep.appendOwn tabOk rfl rfl rfl (by decide) (Rd.w rfl tI) rfl (Rd.w rfl tI) (.sl rfl (by first | (intro x hx; rcases zAn.1 hx with rfl; rfl) | exact one_by8 _ | exact one_ints _)) (LOk.of (tabOk.get rfl)) (LOk.of (tabOk.get rfl)) rfl rfl (by simp only [lLm, lLa, zA8, zAg]; omega) (by simp only [lLm, lLa, zA8, zAg]; omega) ?_) | refine cdN rfl tI (fun hc => ?_) (fun hc => ?_) | refine blK ?_ | refine exW ?_ | refine skW ?_ | refine rtW ?_)
           all_goals (first | exact dd | skip)
           exact ⟨k + 1, hlt, by omega, ⟨rfl, by rw [ho, hom]; rfl, rfl, rfl, rfl, tI⟩, by show _ = _ ++ [AObj.own 2 ((outL q (a.notes.take (k + 1))).map encPr).length]; rw [ho, hom, hom2]; rfl⟩
       · obtain rfl : k = a.notes.length := by omega
         rw [zB9]
         repeat' (first | refine aoQ rfl rfl rfl (fun hg => by first | exact std0 | exact std1) (by exact rfl) ?_ | refine sqW ?_ | refine rgK (fun K' hK => ?_) | (refine aoN (hK _ _ ?_); clear hK K') | refine aoE (stW tabOk rfl rfl rfl tI rfl rfl tI rfl rfl rfl rfl rfl rfl rfl ?_) | refine aoE (alW tabOk rfl rfl rfl rfl rfl rfl ?_) | refine cdN rfl tI (fun hc => ?_) (fun hc => ?_) | refine blK ?_ | refine exW ?_ | refine skW ?_ | refine rtW ?_)
         all_goals (first | exact dd | skip)
         exact ⟨.inr rfl, Ent.of rfl⟩
 · rename_i hok
   obtain ⟨rfl, rfl⟩ := hr
   repeat' (first | refine aoQ rfl rfl rfl (fun hg => by first | exact std0 | exact (Bool.noConfusion (show false = true from hg) : PRun _ _ _ _ (.b false))) (by exact rfl) ?_ | refine sqW ?_ | refine rgK (fun K' hK => ?_) | (refine aoN (hK _ _ ?_); clear hK K') | refine cdN rfl tI (fun hc => ?_) (fun hc => ?_) | refine skW ?_ | refine rtW ?_)
   all_goals (first | exact dd | skip)
   have hR : notesR a b x = ([], 1) := by
    unfold notesR
    rw [if_neg (fun h => hok (by simp only [zA0] at h ⊢; exact ⟨h.1, h.2.1⟩))]
   rw [hR]
   exact ⟨.inr rfl, Ent.tup2 Ent.nil (Ent.rfl' _)⟩
theorem long12_spec (a b : Score) (ha : a.Small) (hb : b.Small) : PCall Tryz.prog 51 [.agg (encS a), .agg (encS b)] (.b (decide (a.bars.length > 200 ∨ b.bars.length > 200))) := by
 have ha1 := ha.1
 have hb1 := hb.1
 refine PCall.body Tryz.func51 rfl rfl Tryz.ntmps51 rfl rfl ?_
 repeat' (first | refine aoQ rfl rfl rfl (fun hg => by first | exact std0 | exact std1) (by exact rfl) ?_ | refine sqW ?_ | refine rgK (fun K' hK => ?_) | (refine aoN (hK _ _ ?_); clear hK K') | refine aoE (bxW rfl rfl rfl rfl rfl tI rfl rfl ?_) | refine rtW ?_)
 refine ⟨.inr rfl, Ent.b ?_⟩
 rw [Bool.decide_or, decide_eq_decide.2 (show (a.bars.length : Int) > 200 ↔ a.bars.length > 200 by omega), decide_eq_decide.2 (show (b.bars.length : Int) > 200 ↔ b.bars.length > 200 by omega)]
def few12 (s : Score) : Bool := decide ((s.bars.length : Int) ≤ 12) && decide ((s.parts.length : Int) ≤ 70) && decide ((s.notes.length : Int) ≤ 60)
theorem few12_small {s : Score} (h : few12 s = true) : s.Small := by
 unfold few12 at h
 simp only [zA0, dEt] at h
 exact ⟨by omega, by omega, by omega⟩
theorem few12_spec (s : Score) (hs : s.Sized) : PCall Tryz.prog 42 [.agg (encS s)] (.b (few12 s)) := by
 obtain ⟨h1, h2, h3⟩ := hs
 refine PCall.body Tryz.func42 rfl rfl Tryz.ntmps42 rfl rfl ?_
 repeat' (first | refine aoQ rfl rfl rfl (fun hg => by first | exact std0 | exact std1) (by exact rfl) ?_ | refine sqW ?_ | refine rgK (fun K' hK => ?_) | (refine aoN (hK _ _ ?_); clear hK K') | refine aoE (bxW rfl rfl rfl rfl rfl tI rfl rfl ?_) | refine rtW ?_)
 exact ⟨.inr rfl, Ent.b rfl⟩
end Go.Proofs.YtekfpcgagoidcaaGreatDoor.Al
