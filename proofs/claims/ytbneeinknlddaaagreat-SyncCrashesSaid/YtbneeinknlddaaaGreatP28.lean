/- Contracts by content: events of the reference: Valid, put, Add, Known.  Contracts by content: stands and tablets of the reference; the law's helpers. No statement is proved here. -/
import Derived.Test.YtbneeinknlddaaaGreatP18
import Derived.Test.YtbneeinknlddaaaGreatP22
import Derived.Test.YtbneeinknlddaaaGreatP25
set_option linter.unusedVariables false
set_option linter.unusedSimpArgs false
namespace Go.Ab
theorem EStep.ownNil {P : Program} {n : Nat} {ops : Array Oper} {o : Oper} {env : Env} {σ : Store} {k : Env → Store → Prop} (d sz : Nat) (hg : o.guard = none) (hd : env d = .nils)
 (hk : EStep P n ops o k (env.put d (.sl sz [] (.own σ.length))) (σ ++ [.own sz 0])) : EStep P n ops o k env σ := by
 refine EStep.plain hg fun G a w hr => ?_
 have hr' : ARel n { G with B := G.B ++ [.own none 0 0] } (env.put d (.sl sz [] (.own σ.length))) (σ ++ [.own sz 0]) a w := by
  refine ⟨hr.size, hr.defers, fun i => ?_, hr.st.ownNil sz⟩
  simp only [Env.put]
  split
  · rename_i e; subst e
    have := hr.vals i
    rw [hd] at this
    cases hx : a.tmps.getD i undef <;> rw [hx] at this <;> cases this
    exact .slz sz _ ⟨none, 0, 0, by simp [← hr.st.len], nLr _, fun _ => ⟨rfl, rfl⟩⟩
  · exact (hr.vals i).mono (Mem.Le.refl _) (BLe.append _ _)
 have h := hk _ a w hr'
 rw [if_pos (by simp [Region.wanted, hg])] at h
 refine uponQ_mono ?_ h
 rintro a' w' ⟨e, s, G', h1, h2, h3⟩
 exact ⟨e, s, G', h1, Gh.Le.trans (G' := { G with B := G.B ++ [.own none 0 0] }) (.upB (BLe.append _ _)) h2, h3⟩
theorem EStep.appendNil {P : Program} {n : Nat} {ops : Array Oper} {o : Oper} {env : Env} {σ : Store} {k : Env → Store → Prop} {T : Tab} (hT : T.Ok P) {s0 : Nat} {x : Operand} {t tx e : TypeId} {d sz : Nat} {es2 : List (List AV)} {u : AV} {s1 b1 : Nat} {z : List Z} {le : LI}
 (ho : o.op = .call { callee := .builtin .append, args := #[.tmp s0, x], argTypes := #[t, tx] }) (hg : o.guard = none) (hd : o.dst = some d) (hdn : decide (d < n) = true) (hs : env s0 = .nils) (hx : rdv env x = some u) (nx : rdn env x) (hxs : x ≠ .tmp s0) (hsrc : AppSrc T tx sz u es2)
 (hl : LOk P t ⟨.slice e, s1, b1, z⟩) (he : LOk P e le) (hsz : le.size = sz) (hz0 : le.zero.length = le.size) (hbound : es2.length * le.bytes ≤ 140737488355328) (hb2 : es2.length ≤ 9223372036854775807)
 (hk : k ((env.put s0 (.sl sz [] (.own σ.length))).put d (.sl sz es2 (.own σ.length))) (σ ++ [.own sz es2.length])) : EStep P n ops o k env σ := by
 have hne : ∀ y : Operand, y ≠ .tmp s0 → envOp (env.put s0 (.sl sz [] (.own σ.length))) y = envOp env y := fun y hy => by
  cases y <;> simp only [envOp]
  rename_i i
  unfold Env.put
  rw [if_neg fun e => hy (by rw [e])]
 refine EStep.ownNil s0 sz hg hs (EStep.appendOwn hT (l := σ.length) (es := []) (es2 := es2) ho hg hd (of_decide_eq_true hdn) (Rd.w (by simp [rdv, envOp, Env.put, AV.wh]) (by simp [rdn, envOp, Env.put])) (by simp) (Rd.w (u := u) (by unfold rdv at hx ⊢; rw [hne x hxs]; exact hx) (by unfold rdn at nx ⊢; rw [hne x hxs]; exact nx)) hsrc hl he hsz hz0 (by simpa using hbound) (by simpa using hb2) ?_)
 simpa using hk
end Go.Ab
namespace Go.Proofs.YtbneeinknlddaaaGreat
open Go.Ab Go.Jo Go.Sy
attribute [local irreducible] AWP AOps EStep AQ PStep PRun PCall TCall VCall DStep TDies AWD DCall
theorem all_no {l : List Ev} {k : Nat} (hk : k < l.length) (h : evOk (l.getD k default) = false) : l.all evOk = false := by
 cases hv : l.all evOk with
 | false => rfl
 | true =>
   have := zAb.1 hv (l.getD k default) (by rw [getD_lt' hk]; exact lGm hk)
   rw [h] at this; cases this
theorem all_yes {l : List Ev} (h : ∀ j, j < l.length → evOk (l.getD j default) = true) : l.all evOk = true := zAb.2 fun e he => by
 obtain ⟨j, hj, rfl⟩ := zBj.1 he
 rw [← getD_lt' hj]; exact h j hj
theorem right22_spec (l : List Ev) (ht : Txt l) (hl : l.length ≤ 1000000000) : PCall Tryz.prog 36 [.sl 14 (l.map encE) .no] (.b (l.all evOk)) := by
 refine PCall.body Tryz.func36 rfl rfl Tryz.ntmps36 rfl rfl ?_
 repeat' (first | refine aoQ rfl rfl rfl (fun hg => by exact std0) (by exact rfl) ?_ | refine sqW ?_ | refine rgK (fun K' hK => ?_) | (refine aoN (hK _ _ ?_); clear hK K') | refine blK ?_)
 refine lpW (ι := Nat) (fun k => [(0, .sl 14 (l.map encE) .no), (3, .int k)]) (fun _ => []) (fun k => k ≤ l.length ∧ ∀ j, j < k → evOk (l.getD j default) = true) (fun k => l.length - k) 0 ⟨nZl _, fun j h => absurd h (by omega)⟩ ⟨rfl, rfl, tI⟩ rfl ?_
 rintro k ⟨hk, hall⟩
 by_cases hlt : k < l.length
 · have v := event22_spec (l.getD k default) (ht.at hlt)
   repeat' (first | refine aoQ rfl rfl rfl (fun hg => by first | exact std0 | exact pcW (v) rfl rfl nd rfl nds | exact std1) (by exact rfl) ?_ | refine sqW ?_ | refine rgK (fun K' hK => ?_) | (refine aoN (hK _ _ ?_); clear hK K') | refine cdN rfl tI (fun hc => ?_) (fun hc => ?_) | refine blK ?_ | refine exW ?_ | refine skW ?_ | refine rtW ?_)
   all_goals first | (exfalso; omega) | skip
   · refine ⟨.inr rfl, Ent.b ?_⟩
     rw [all_no hlt (by simpa using hc)]
   · exact ⟨k + 1, ⟨by omega, fun j hj => lt_succ_cases hall (by simpa using hc) hj⟩, by omega, ⟨rfl, rfl, tI⟩, rfl⟩
 · repeat' (first | refine aoQ rfl rfl rfl (fun hg => by first | exact std0 | exact std1) (by exact rfl) ?_ | refine sqW ?_ | refine rgK (fun K' hK => ?_) | (refine aoN (hK _ _ ?_); clear hK K') | refine cdN rfl tI (fun hc => ?_) (fun hc => ?_) | refine blK ?_ | refine exW ?_ | refine skW ?_ | refine rtW ?_)
   all_goals first | (exfalso; omega) | skip
   exact ⟨.inr rfl, Ent.b (all_yes fun j hj => hall j (by omega)).symm⟩
theorem valid22_spec (l : List Ev) (ht : Txt l) (hl : l.length ≤ 1000000000) : PCall Tryz.prog 35 [.sl 14 (l.map encE) .no] (.b (validE l)) := by
 have v := right22_spec l ht hl
 by_cases hbad : l.all evOk = false ∨ 20000 < l.length
 · have hn : validE l = false := by
    unfold validE
    rcases hbad with h | h
    · rw [h]; rfl
    · rw [show decide (l.length ≤ 20000) = false from decide_eq_false (by omega), Bool.and_false]
   rw [hn]
   refine PCall.body Tryz.func35 rfl rfl Tryz.ntmps35 rfl rfl ?_
   repeat' (first | refine aoQ rfl rfl rfl (fun hg => by first | exact std0 | exact pcW (v) rfl rfl nd rfl nds | exact std1) (by exact rfl) ?_ | refine sqW ?_ | refine rgK (fun K' hK => ?_) | (refine aoN (hK _ _ ?_); clear hK K') | refine cdN rfl tI (fun hc => ?_) (fun hc => ?_) | refine blK ?_ | refine skW ?_ | refine rtW ?_)
   · exact ⟨.inr rfl, Ent.b rfl⟩
   exfalso
   simp at hc
   rcases hbad with h | h
   · rw [List.all_eq_false] at h
     obtain ⟨x, hx, h9⟩ := h
     exact h9 (hc.1 x hx)
   · omega
 · have h1 : l.all evOk = true := by cases h : l.all evOk with
    | true => rfl
    | false => exact absurd (.inl h) hbad
   have h2 : l.length ≤ 20000 := by have : ¬ 20000 < l.length := fun h => hbad (.inr h); omega
   have hvs : validE l = decide (Srt l) := by
    unfold validE
    rw [h1, decide_eq_true h2, Bool.and_true, Bool.true_and]
   rw [h1] at v
   rw [hvs]
   refine PCall.body Tryz.func35 rfl rfl Tryz.ntmps35 rfl rfl ?_
   repeat' (first | refine aoQ rfl rfl rfl (fun hg => by first | exact std0 | exact pcW (v) rfl rfl nd rfl nds | exact std1) (by exact rfl) ?_ | refine sqW ?_ | refine rgK (fun K' hK => ?_) | (refine aoN (hK _ _ ?_); clear hK K') | refine cdN rfl tI (fun hc => ?_) (fun hc => ?_) | refine blK ?_ | refine skW ?_ | refine rtW ?_)
   · exfalso; simp at hc; omega
   refine lpW (ι := Nat) (fun k => [(0, .sl 14 (l.map encE) .no), (4, .int k)]) (fun _ => []) (fun k => 1 ≤ k ∧ k ≤ l.length + 1 ∧ Srt (l.take k)) (fun k => l.length + 1 - k) 1 ⟨nLr _, by omega, by
    rcases l with _ | ⟨x, l⟩
    · exact List.Pairwise.nil
    · simp [Srt]⟩ ⟨rfl, rfl, tI⟩ rfl ?_
   rintro k ⟨hk1, hk, hs⟩
   by_cases hlt : k < l.length
   · have e1 : ((k : Int) - 1).toNat = k - 1 := by omega
     have w := before_spec (l.getD (k - 1) default) (l.getD k default)
     rw [← e1] at w
     have hst := srt_step hlt
     repeat' (first | refine aoQ rfl rfl rfl (fun hg => by first | exact std0 | exact std1) (by exact rfl) ?_ | refine sqW ?_ | refine rgK (fun K' hK => ?_) | (refine aoN (hK _ _ ?_); clear hK K') | refine cdN rfl tI (fun hc => ?_) (fun hc => ?_) | refine blK ?_ | refine exW ?_ | refine skW ?_ | refine rtW ?_ | refine dK2 (by decide +kernel) (by kernel_rfl) (by decide +kernel) rfl (fun K' hK => ?_) | (refine aqN (hK _ ?_); clear hK K') | refine aqQ rfl rfl (fun hg => by first | exact piW tabOk rfl rfl nd rfl nd rfl rfl ⟨(by omega), (by omega)⟩ | exact std0 | exact pcW (w) rfl rfl nd rfl nds | fail) (by exact rfl) ?_)
     all_goals first | (exfalso; omega) | skip
     · refine ⟨.inr rfl, Ent.b (decide_eq_false fun hS => ?_).symm⟩
       have h9 := (hst.1 (hS.sublist (List.take_sublist _ _))).2 (by omega)
       rw [← e1] at h9
       rw [h9] at hc; cases hc
     · refine ⟨k + 1, ⟨by omega, by omega, hst.2 ⟨hs, fun _ => ?_⟩⟩, by omega, ⟨rfl, rfl, tI⟩, rfl⟩
       rw [← e1]; simpa using hc
   · repeat' (first | refine aoQ rfl rfl rfl (fun hg => by first | exact std0 | exact std1) (by exact rfl) ?_ | refine sqW ?_ | refine rgK (fun K' hK => ?_) | (refine aoN (hK _ _ ?_); clear hK K') | refine cdN rfl tI (fun hc => ?_) (fun hc => ?_) | refine blK ?_ | refine exW ?_ | refine skW ?_ | refine rtW ?_ | refine dK2 (by decide +kernel) (by kernel_rfl) (by decide +kernel) rfl (fun K' hK => ?_) | refine aqQ rfl rfl (fun hg => by first | exact std0 | exact std1) (by exact rfl) ?_)
     all_goals first | (exfalso; omega) | skip
     rw [zB5 (by omega)] at hs
     exact ⟨.inr rfl, Ent.b (decide_eq_true hs).symm⟩
theorem fork_at {l : List Ev} {i k : Nat} (hi : i < l.length) (hk : k < i) (h : forksE (l.getD k default) (l.getD i default) = true) : ¬ NoFork l := fun hf => by
 rw [nofork_pairs.1 hf i hi k hk] at h; cases h
def putA (l : List Ev) (e : Ev) : List Ev := if 0 < atR l e l.length ∧ l.getD (atR l e l.length - 1) default = e then l else l.take (atR l e l.length) ++ e :: l.drop (atR l e l.length)
theorem atR_yes {l : List Ev} {e : Ev} {k : Nat} (h : before e (l.getD k default) = true) : atR l e (k + 1) = atR l e k := by
 show (if _ then _ else _) = _
 rw [if_pos h]
theorem atR_no {l : List Ev} {e : Ev} {k : Nat} (h : before e (l.getD k default) = false) : atR l e (k + 1) = k + 1 := by
 show (if _ then _ else _) = _
 rw [if_neg (by rw [h]; decide)]
theorem put_split (l : List Ev) (e : Ev) (a : Nat) : l.take a ++ e :: l.drop a = (l.take a ++ [e]) ++ l.drop a := by simp
set_option maxHeartbeats 1600000 in
theorem put22_spec (l : List Ev) (e : Ev) (hl : l.length ≤ 1000000000) : PCall Tryz.prog 38 [.sl 14 (l.map encE) .no, .agg (encE e)] (.sl 14 ((putA l e).map encE) .no) := by
 refine PCall.body Tryz.func38 rfl rfl Tryz.ntmps38 rfl rfl ?_
 repeat' (first | refine aoQ rfl rfl rfl (fun hg => by first | exact std0 | exact std1) (by exact rfl) ?_ | refine sqW ?_ | refine rgK (fun K' hK => ?_) | (refine aoN (hK _ _ ?_); clear hK K') | refine aoE (bxW rfl rfl rfl rfl rfl tI rfl rfl ?_) | refine blK ?_)
 refine lpW (ι := Nat) (fun k => [(0, .sl 14 (l.map encE) .no), (3, .ptr 0 0), (5, .int k)]) (fun _ => [.var (encE e)]) (fun k => k ≤ l.length ∧ atR l e l.length = atR l e k) (fun k => k) l.length ⟨nLr _, rfl⟩ ⟨rfl, rfl, rfl, tI⟩ rfl ?_
 rintro k ⟨hk, hat⟩
 rcases k with _ | m
 · have ha : atR l e l.length = 0 := hat
   have hp : putA l e = l.take 0 ++ e :: l.drop 0 := by unfold putA; rw [if_neg (by rw [ha]; omega), ha]
   repeat' (first | refine aoQ rfl rfl rfl (fun hg => by first | exact std0 | exact PRun.sliceLoM tabOk rfl rfl nd rfl nd rfl (by omega) | exact PRun.sliceHiM tabOk rfl rfl nd rfl nd rfl (by omega) | exact pbS tabOk rfl rfl nds) (by exact rfl) ?_ | refine sqW ?_ | refine rgK (fun K' hK => ?_) | (refine aoN (hK _ _ ?_); clear hK K') | refine aoE (apO tabOk rfl rfl rfl (by decide) (Rd.w rfl tI) rfl (Rd.w rfl tI) (.sl rfl (by first | (intro x hx; rcases zA9.1 hx with rfl; rfl) | exact one_ev _)) (LOk.of (tabOk.get rfl)) (LOk.of (tabOk.get rfl)) rfl rfl (by simp only [lLm, lLa, zA2, zA5, zAg, zAe]; omega) (by simp only [lLm, lLa, zA2, zA5, zAg, zAe]; omega) ?_) | refine aoE (EStep.appendNil (s0 := 34) tabOk rfl rfl rfl rfl rfl rfl tI (by simp) (.sl rfl (one_ev _)) (LOk.of (tabOk.get rfl)) (LOk.of (tabOk.get rfl)) rfl rfl (by simp only [lLm, zAg]; omega) (by simp only [lLm, zAg]; omega) ?_) | refine cdN rfl tI (fun hc => ?_) (fun hc => ?_) | refine blK ?_ | refine exW ?_ | refine skW ?_ | refine rtW ?_ | refine dK2 (by decide +kernel) (by kernel_rfl) (by decide +kernel) rfl (fun K' hK => ?_) | (refine aqN (hK _ ?_); clear hK K') | refine aqQ rfl rfl (fun hg => by first | exact std0 | exact (Bool.noConfusion (show false = true from hg) : PRun _ _ _ _ (.b false)) | fail) (by exact rfl) ?_)
   all_goals (first | exact dd | skip)
   refine ⟨.inr rfl, Ent.of ?_⟩
   rw [hp, put_split, zAr, zAr]; rfl
 · have e1 : (((m + 1 : Nat) : Int) - 1).toNat = m := by omega
   have w := before_spec e (l.getD m default)
   rw [← e1] at w
   cases hbe : before e (l.getD m default) with
   | true =>
     rw [e1, hbe] at w
     rw [← e1] at w
     repeat' (first | refine aoQ rfl rfl rfl (fun hg => by exact std0) (by exact rfl) ?_ | refine sqW ?_ | refine rgK (fun K' hK => ?_) | (refine aoN (hK _ _ ?_); clear hK K') | refine cdN rfl tI (fun hc => ?_) (fun hc => ?_) | refine blK ?_ | refine exW ?_ | refine skW ?_ | refine dK2 (by decide +kernel) (by kernel_rfl) (by decide +kernel) rfl (fun K' hK => ?_) | (refine aqN (hK _ ?_); clear hK K') | refine aqQ rfl rfl (fun hg => by first | exact piW tabOk rfl rfl nd rfl nd rfl rfl ⟨(by omega), (by omega)⟩ | exact std0 | exact pcW (w) rfl rfl nd rfl nds | fail) (by exact rfl) ?_)
     all_goals (first | exact dd | skip)
     exact ⟨m, ⟨by omega, by rw [hat, atR_yes hbe]⟩, by omega, ⟨rfl, rfl, by (show AV.int _ = AV.int _; congr 1; omega), tI⟩, rfl⟩
   | false =>
     rw [e1, hbe] at w
     rw [← e1] at w
     have ha : atR l e l.length = m + 1 := by rw [hat, atR_no hbe]
     have hp : putA l e = if l.getD m default = e then l else l.take (m + 1) ++ e :: l.drop (m + 1) := by
      unfold putA
      rw [ha, Nat.add_sub_cancel]
      by_cases h9 : l.getD m default = e
      · rw [if_pos ⟨zA1 _, h9⟩, if_pos h9]
      · rw [if_neg (fun h => h9 h.2), if_neg h9]
     repeat' (first | refine aoQ rfl rfl rfl (fun hg => by first | exact std0 | exact PRun.sliceLoM tabOk rfl rfl nd rfl nd rfl (by omega) | exact PRun.sliceHiM tabOk rfl rfl nd rfl nd rfl (by omega) | exact pbS tabOk rfl rfl nds) (by exact rfl) ?_ | refine sqW ?_ | refine rgK (fun K' hK => ?_) | (refine aoN (hK _ _ ?_); clear hK K') | refine aoE (apO tabOk rfl rfl rfl (by decide) (Rd.w rfl tI) rfl (Rd.w rfl tI) (.sl rfl (by first | (intro x hx; rcases zA9.1 hx with rfl; rfl) | exact one_ev _)) (LOk.of (tabOk.get rfl)) (LOk.of (tabOk.get rfl)) rfl rfl (by simp only [lLm, lLa, zA2, zA5, zAg, zAe]; omega) (by simp only [lLm, lLa, zA2, zA5, zAg, zAe]; omega) ?_) | refine aoE (EStep.appendNil (s0 := 34) tabOk rfl rfl rfl rfl rfl rfl tI (by simp) (.sl rfl (one_ev _)) (LOk.of (tabOk.get rfl)) (LOk.of (tabOk.get rfl)) rfl rfl (by simp only [lLm, zAg]; omega) (by simp only [lLm, zAg]; omega) ?_) | refine cdN rfl tI (fun hc => ?_) (fun hc => ?_) | refine blK ?_ | refine exW ?_ | refine skW ?_ | refine rtW ?_ | refine dK2 (by decide +kernel) (by kernel_rfl) (by decide +kernel) rfl (fun K' hK => ?_) | (refine aqN (hK _ ?_); clear hK K') | refine aqQ rfl rfl (fun hg => by first | exact piW tabOk rfl rfl nd rfl nd rfl rfl ⟨(by omega), (by omega)⟩ | exact std0 | exact pcW (w) rfl rfl nd rfl nds | exact PRun.eqN flE rfl rfl nd rfl nd rfl) (by exact rfl) ?_)
     all_goals (first | exact dd | skip)
     · have hq : (decide (((m + 1 : Nat) : Int) > 0) && eqE (l.getD (((m + 1 : Nat) : Int) - 1).toNat default) e) = true := hc
       rw [e1, eqE_eq, zA0, beq_iff_eq] at hq
       refine ⟨.inr rfl, Ent.of ?_⟩
       rw [hp, if_pos hq.2]; rfl
     · have hq : (decide (((m + 1 : Nat) : Int) > 0) && eqE (l.getD (((m + 1 : Nat) : Int) - 1).toNat default) e) = false := hc
       rw [e1, eqE_eq, decide_eq_true (show ((m + 1 : Nat) : Int) > 0 by omega), Bool.true_and, beq_eq_false_iff_ne] at hq
       refine ⟨.inr rfl, Ent.of ?_⟩
       rw [hp, if_neg hq, put_split, zAr, zAr]; rfl
theorem putA_eq {l : List Ev} {e : Ev} (h : Srt l) (hf : NoFork (e :: l)) : putA l e = putE l e := (put_at h hf rfl).symm
theorem un_take {l more : List Ev} (h : Srt l) (hf : NoFork (l ++ more)) (i : Nat) (hi : i < more.length) : Srt (unE l (more.take i)) ∧ NoFork (more.getD i default :: unE l (more.take i)) := by
 have hsub : ∀ x ∈ more.take i, x ∈ more := fun x hx => zBx hx
 have hf1 : NoFork (l ++ more.take i) := fun a ha b hb => hf a (zAh.2 ((zAh.1 ha).imp_right (hsub a))) b (zAh.2 ((zAh.1 hb).imp_right (hsub b)))
 obtain ⟨h1, h2⟩ := un_ok (more.take i) l h hf1
 refine ⟨h1, fun a ha b hb => ?_⟩
 have key : ∀ x, x ∈ more.getD i default :: unE l (more.take i) → x ∈ l ++ more := fun x hx => by
  rcases zB3.1 hx with rfl | hx
  · rw [getD_lt' hi]; exact zBl _ (lGm hi)
  · exact zAh.2 (((h2 x).1 hx).imp_right (hsub x))
 exact hf a (key a ha) b (key b hb)
set_option maxHeartbeats 1600000 in
set_option maxRecDepth 20000 in
theorem add22_spec (l more : List Ev) (h1 : Txt l) (h2 : Txt more) (hl : l.length ≤ 1000000000) (hm : more.length ≤ 100000000) : PCall Tryz.prog 16 [.sl 14 (l.map encE) .no, .sl 14 (more.map encE) .no] (tupEs (addE l more)) := by
 have v := valid22_spec l h1 hl
 have w := right22_spec more h2 (by omega)
 cases hb : (validE l && more.all evOk) with
 | false =>
   rw [add_bad hb]
   refine PCall.body Tryz.func16 rfl rfl Tryz.ntmps16 rfl rfl ?_
   repeat' (first | refine aoQ rfl rfl rfl (fun hg => by first | exact std0 | exact pcW (v) rfl rfl nd rfl nds | exact pcW (w) rfl rfl nd rfl nds | fail) (by exact rfl) ?_ | refine sqW ?_ | refine rgK (fun K' hK => ?_) | (refine aoN (hK _ _ ?_); clear hK K') | refine cdN rfl tI (fun hc => ?_) (fun hc => ?_) | refine skW ?_ | refine rtW ?_)
   · exact ⟨.inr rfl, Ent.tup2 Ent.nil (Ent.rfl' _)⟩
   all_goals (exfalso; revert hc hb; cases validE l <;> cases more.all evOk <;> simp)
 | true =>
   have hb' := hb
   rw [zA0] at hb'
   obtain ⟨k1, k2⟩ := hb'
   rw [k1] at v
   rw [k2] at w
   have hl2 : l.length ≤ 20000 := (validE_iff.1 k1).2.2
   have hs := (validE_iff.1 k1).2.1
   refine PCall.body Tryz.func16 rfl rfl Tryz.ntmps16 rfl rfl ?_
   repeat' (first | refine aoQ rfl rfl rfl (fun hg => by first | exact std0 | exact pcW (v) rfl rfl nd rfl nds | exact pcW (w) rfl rfl nd rfl nds | fail) (by exact rfl) ?_ | refine sqW ?_ | refine rgK (fun K' hK => ?_) | (refine aoN (hK _ _ ?_); clear hK K') | refine aoE (apO tabOk rfl rfl rfl (by decide) (Rd.w rfl tI) rfl (Rd.w rfl tI) (.sl rfl (by first | (intro x hx; rcases zA9.1 hx with rfl; rfl) | exact one_ev _)) (LOk.of (tabOk.get rfl)) (LOk.of (tabOk.get rfl)) rfl rfl (by simp only [lLm, lLa, zA2, zA5, zAg, zAe]; omega) (by simp only [lLm, lLa, zA2, zA5, zAg, zAe]; omega) ?_) | refine aoE (EStep.appendNil (s0 := 23) tabOk rfl rfl rfl rfl rfl rfl tI (by simp) (.sl rfl (one_ev _)) (LOk.of (tabOk.get rfl)) (LOk.of (tabOk.get rfl)) rfl rfl (by simp only [lLm, zAg]; omega) (by simp only [lLm, zAg]; omega) ?_) | refine cdN rfl tI (fun hc => ?_) (fun hc => ?_) | refine blK ?_ | refine skW ?_ | refine rtW ?_)
   · exfalso; simp at hc
   clear v w
   have hll : (l ++ more).length = l.length + more.length := lLa ..
   have e8 : AV.sl 14 (l.map encE ++ more.map encE) (.own 0) = .sl 14 ((l ++ more).map encE) (.own 0) := by rw [zAr]
   refine lpW (ι := Nat) (fun i => [(0, .sl 14 (l.map encE) .no), (1, .sl 14 (more.map encE) .no), (8, .sl 14 ((l ++ more).map encE) (.own 0)), (9, .int i)]) (fun _ => [.own 14 (l.map encE ++ more.map encE).length]) (fun i => i ≤ (l ++ more).length ∧ ∀ j, j < i → ∀ k, k < j → forksE ((l ++ more).getD k default) ((l ++ more).getD j default) = false) (fun i => (l ++ more).length - i) 0 ⟨nZl _, fun j h => absurd h (by omega)⟩ ⟨rfl, rfl, e8, rfl, tI⟩ rfl ?_
   rintro i ⟨hi, hall⟩
   by_cases hlt : i < (l ++ more).length
   · repeat' (first | refine aoQ rfl rfl rfl (fun hg => by first | exact std0 | exact std1) (by exact rfl) ?_ | refine sqW ?_ | refine rgK (fun K' hK => ?_) | (refine aoN (hK _ _ ?_); clear hK K') | refine cdN rfl tI (fun hc => ?_) (fun hc => ?_) | refine blK ?_ | refine exW ?_ | refine skW ?_)
     all_goals first | (exfalso; omega) | skip
     refine lpW (ι := Nat) (fun k => [(0, .sl 14 (l.map encE) .no), (1, .sl 14 (more.map encE) .no), (8, .sl 14 ((l ++ more).map encE) (.own 0)), (9, .int i), (10, .int k)]) (fun _ => [.own 14 (l.map encE ++ more.map encE).length]) (fun k => k ≤ i ∧ ∀ k', k' < k → forksE ((l ++ more).getD k' default) ((l ++ more).getD i default) = false) (fun k => i - k) 0 ⟨nZl _, fun j h => absurd h (by omega)⟩ ⟨rfl, rfl, rfl, rfl, rfl, tI⟩ rfl ?_
     rintro k ⟨hk, hall2⟩
     by_cases hkl : k < i
     · repeat' (first | refine aoQ rfl rfl rfl (fun hg => by exact std0) (by exact rfl) ?_ | refine sqW ?_ | refine rgK (fun K' hK => ?_) | (refine aoN (hK _ _ ?_); clear hK K') | refine cdN rfl tI (fun hc => ?_) (fun hc => ?_) | refine blK ?_ | refine exW ?_ | refine skW ?_ | refine rtW ?_ | refine dK2 (by decide +kernel) (by kernel_rfl) (by decide +kernel) rfl (fun K' hK => ?_) | (refine aqN (hK _ ?_); clear hK K') | refine aqQ rfl rfl (fun hg => by first | exact piW tabOk rfl rfl nd rfl nd rfl rfl ⟨(by omega), (by omega)⟩ | exact std0 | exact pcW (forks_spec _ _) rfl rfl nd rfl nds | fail) (by exact rfl) ?_)
       all_goals first | (exfalso; omega) | skip
       · refine ⟨.inr rfl, ?_⟩
         rw [add_fork hb (fork_at hlt hkl hc)]
         exact Ent.tup2 Ent.nil (Ent.rfl' _)
       · exact ⟨k + 1, ⟨by omega, fun k' hk' => by
          rcases nLg k' k with g | g
          · exact hall2 k' g
          · obtain rfl : k' = k := by omega
            exact hc⟩, by omega, ⟨rfl, rfl, rfl, rfl, rfl, tI⟩, rfl⟩
     · repeat' (first | refine aoQ rfl rfl rfl (fun hg => by exact std0) (by exact rfl) ?_ | refine sqW ?_ | refine rgK (fun K' hK => ?_) | (refine aoN (hK _ _ ?_); clear hK K') | refine cdN rfl tI (fun hc => ?_) (fun hc => ?_) | refine blK ?_ | refine exW ?_ | refine skW ?_ | refine dK2 (by decide +kernel) (by kernel_rfl) (by decide +kernel) rfl (fun K' hK => ?_) | refine aqQ rfl rfl (fun hg => by first | exact std0 | exact std1) (by exact rfl) ?_)
       all_goals first | (exfalso; omega) | skip
       exact ⟨i + 1, ⟨by omega, fun j hj k' hk' => by
        rcases nLg j i with g | g
        · exact hall j g k' hk'
        · obtain rfl : j = i := by omega
          exact hall2 k' (by omega)⟩, by omega, ⟨rfl, rfl, rfl, rfl, tI⟩, rfl⟩
   · obtain rfl : i = (l ++ more).length := by omega
     have hf : NoFork (l ++ more) := nofork_pairs.2 fun j hj k hk => hall j hj k hk
     repeat' (first | refine aoQ rfl rfl rfl (fun hg => by first | exact std0 | exact std1) (by exact rfl) ?_ | refine sqW ?_ | refine rgK (fun K' hK => ?_) | (refine aoN (hK _ _ ?_); clear hK K') | refine cdN rfl tI (fun hc => ?_) (fun hc => ?_) | refine blK ?_ | refine exW ?_ | refine skW ?_)
     all_goals first | (exfalso; omega) | skip
     refine lpW (ι := Nat) (fun i => [(0, .sl 14 (l.map encE) .no), (1, .sl 14 (more.map encE) .no), (11, .sl 14 ((unE l (more.take i)).map encE) .no), (12, .int i)]) (fun _ => [.own 14 (l.map encE ++ more.map encE).length]) (fun i => i ≤ more.length) (fun i => more.length - i) 0 (nZl _) ⟨rfl, rfl, rfl, rfl, tI⟩ rfl ?_
     rintro i hi
     have hul := un_len (more.take i) l
     rw [zAg] at hul
     by_cases hlt : i < more.length
     · obtain ⟨q1, q2⟩ := un_take hs hf i hlt
       have hp := put22_spec (unE l (more.take i)) (more.getD i default) (by omega)
       rw [putA_eq q1 q2, ← un_step hlt] at hp
       repeat' (first | refine aoQ rfl rfl rfl (fun hg => by first | exact std0 | exact pcW (hp) rfl rfl nd rfl nds | exact std1) (by exact rfl) ?_ | refine sqW ?_ | refine rgK (fun K' hK => ?_) | (refine aoN (hK _ _ ?_); clear hK K') | refine cdN rfl tI (fun hc => ?_) (fun hc => ?_) | refine blK ?_ | refine exW ?_ | refine skW ?_ | refine rtW ?_)
       all_goals first | (exfalso; omega) | skip
       exact ⟨i + 1, by omega, by omega, ⟨rfl, rfl, rfl, rfl, tI⟩, rfl⟩
     · obtain rfl : i = more.length := by omega
       repeat' (first | refine aoQ rfl rfl rfl (fun hg => by first | exact std0 | exact std1) (by exact rfl) ?_ | refine sqW ?_ | refine rgK (fun K' hK => ?_) | (refine aoN (hK _ _ ?_); clear hK K') | refine cdN rfl tI (fun hc => ?_) (fun hc => ?_) | refine blK ?_ | refine exW ?_ | refine skW ?_ | refine rtW ?_)
       all_goals first | (exfalso; omega) | skip
       · refine ⟨.inr rfl, ?_⟩
         rw [zAz] at hc
         rw [add_long hb hf (by omega)]
         exact Ent.tup2 Ent.nil (Ent.rfl' _)
       · refine ⟨.inr rfl, Ent.of ?_⟩
         rw [zAz] at hc ⊢
         rw [add_good hb hf (by omega)]
         rfl
set_option maxHeartbeats 1600000 in
theorem known22_spec (l : List Ev) (id : Int) (ht : Txt l) (hl : l.length ≤ 1000000000) : PCall Tryz.prog 48 [.sl 14 (l.map encE) .no, .int id] (.tup [.int (knownR l id).1, .int (knownR l id).2]) := by
 have v := valid22_spec l ht hl
 cases hb : (validE l && isId id) with
 | false =>
   have e1 : knownR l id = (0, 1) := by unfold knownR; rw [hb]; rfl
   rw [e1]
   refine PCall.body Tryz.func48 rfl rfl Tryz.ntmps48 rfl rfl ?_
   repeat' (first | refine aoQ rfl rfl rfl (fun hg => by first | exact std0 | exact pcW (v) rfl rfl nd rfl nds | exact pcW (id19_spec _) rfl rfl nd rfl nds | fail) (by exact rfl) ?_ | refine sqW ?_ | refine rgK (fun K' hK => ?_) | (refine aoN (hK _ _ ?_); clear hK K') | refine cdN rfl tI (fun hc => ?_) (fun hc => ?_) | refine blK ?_ | refine skW ?_ | refine rtW ?_)
   · exact ⟨.inr rfl, Ent.of rfl⟩
   exfalso; revert hc hb; cases validE l <;> cases isId id <;> simp
 | true =>
   have e1 : knownR l id = (knownE l id, 0) := by unfold knownR; rw [hb]; rfl
   rw [e1]
   refine PCall.body Tryz.func48 rfl rfl Tryz.ntmps48 rfl rfl ?_
   repeat' (first | refine aoQ rfl rfl rfl (fun hg => by first | exact std0 | exact pcW (v) rfl rfl nd rfl nds | exact pcW (id19_spec _) rfl rfl nd rfl nds | fail) (by exact rfl) ?_ | refine sqW ?_ | refine rgK (fun K' hK => ?_) | (refine aoN (hK _ _ ?_); clear hK K') | refine cdN rfl tI (fun hc => ?_) (fun hc => ?_) | refine blK ?_ | refine skW ?_ | refine rtW ?_)
   · exfalso; revert hc hb; cases validE l <;> cases isId id <;> simp
   refine lpW (ι := Nat) (fun k => [(0, .sl 14 (l.map encE) .no), (1, .int id), (7, .int (knownE (l.take k) id)), (8, .int k)]) (fun _ => []) (fun k => k ≤ l.length) (fun k => l.length - k) 0 (nZl _) ⟨rfl, rfl, rfl, rfl, tI⟩ rfl ?_
   rintro k hk
   by_cases hlt : k < l.length
   · have hs := known_step hlt id
     repeat' (first | refine aoQ rfl rfl rfl (fun hg => by first | exact std0 | exact std1) (by exact rfl) ?_ | refine sqW ?_ | refine rgK (fun K' hK => ?_) | (refine aoN (hK _ _ ?_); clear hK K') | refine cdN rfl tI (fun hc => ?_) (fun hc => ?_) | refine blK ?_ | refine exW ?_ | refine skW ?_ | refine rtW ?_)
     all_goals first | (exfalso; omega) | skip
     · refine ⟨k + 1, by omega, by omega, ⟨rfl, rfl, ?_, rfl, tI⟩, rfl⟩
       rw [hs, if_pos (by simpa using hc)]; rfl
     · refine ⟨k + 1, by omega, by omega, ⟨rfl, rfl, ?_, rfl, tI⟩, rfl⟩
       rw [hs, if_neg (by simpa using hc)]; rfl
   · obtain rfl : k = l.length := by omega
     repeat' (first | refine aoQ rfl rfl rfl (fun hg => by first | exact std0 | exact std1) (by exact rfl) ?_ | refine sqW ?_ | refine rgK (fun K' hK => ?_) | (refine aoN (hK _ _ ?_); clear hK K') | refine cdN rfl tI (fun hc => ?_) (fun hc => ?_) | refine blK ?_ | refine exW ?_ | refine skW ?_ | refine rtW ?_)
     all_goals first | (exfalso; omega) | skip
     refine ⟨.inr rfl, Ent.of ?_⟩
     rw [zAz]; rfl
theorem in32_spec (a b c : Int) : PCall Tryz.prog 70 [.int a, .int b, .int c] (.b (inR a b c)) := by
 refine PCall.body Tryz.func70 rfl rfl Tryz.ntmps70 rfl rfl ?_
 repeat' (first | refine aoQ rfl rfl rfl (fun hg => by exact std0) (by exact rfl) ?_ | refine sqW ?_ | refine rgK (fun K' hK => ?_) | (refine aoN (hK _ _ ?_); clear hK K') | refine rtW ?_)
 exact ⟨.inr rfl, Ent.b rfl⟩
theorem svalid32_spec (s : Std) (ht : Txt s.evs) (hl : s.evs.length ≤ 1000000000) : PCall Tryz.prog 47 [.agg (encStd s)] (.b (validS s)) := by
 have v := known22_spec s.evs s.id ht hl
 have w := rdr19_spec s.who
 rw [validS_eq]
 have hid : isId s.id = false → (knownR s.evs s.id).2 = 1 := fun h => by unfold knownR; rw [h, Bool.and_false]; rfl
 generalize knownR s.evs s.id = K at *
 refine PCall.body Tryz.func47 rfl rfl Tryz.ntmps47 rfl rfl ?_
 repeat' (first | refine aoQ rfl rfl rfl (fun hg => by first | exact std0 | exact pcW (v) rfl rfl nd rfl nds | exact pcW (w) rfl rfl nd rfl nds | exact pcW (in32_spec _ _ _) rfl rfl nd rfl nds | fail) (by exact rfl) ?_ | refine sqW ?_ | refine rgK (fun K' hK => ?_) | (refine aoN (hK _ _ ?_); clear hK K') | refine aoE (bxW rfl rfl rfl rfl rfl tI rfl rfl ?_) | refine cdN rfl tI (fun hc => ?_) (fun hc => ?_) | refine skW ?_ | refine rtW ?_)
 · refine ⟨.inr rfl, Ent.b ?_⟩
   revert hc
   show (((!inR s.id 1 1000000 || !inR s.ed 1 1000000) || !isRdr s.who) || !inR s.known 0 1000) = true → _
   unfold isId at *
   cases h1 : inR s.id 1 1000000
   · rw [hid h1]; simp
   · cases inR s.ed 1 1000000 <;> cases isRdr s.who <;> cases inR s.known 0 1000 <;> simp
 · refine ⟨.inr rfl, Ent.b ?_⟩
   revert hc
   show (((!inR s.id 1 1000000 || !inR s.ed 1 1000000) || !isRdr s.who) || !inR s.known 0 1000) = false → _
   unfold isId
   cases inR s.id 1 1000000 <;> cases inR s.ed 1 1000000 <;> cases isRdr s.who <;> cases inR s.known 0 1000 <;> simp
   show (K.2 == 0 && decide (s.known ≥ K.1)) = _
   by_cases h0 : K.2 = 0 <;> simp [h0]
set_option maxHeartbeats 1600000 in
theorem says_spec (b : Bs) (hb : b.length ≤ 1000000000) : PCall Tryz.prog 46 [.sl 1 (b.map by8) .no] (.tup [.sl 14 ((saidE b).1.map encE) .no, .int (saidE b).2.1, .b (saidE b).2.2]) := by
 have v := load23_spec b (by omega)
 obtain ⟨h1, h2, h3⟩ := loadE b
 by_cases hb2 : b.length ≤ 200000
 · have w := (add22_spec [] (Jo.load b).1 (fun e he => by cases he) (Txt.of h1) (nZl _) (by omega))
   have w := PCall.nilAt [] [_] w
   rw [loadR_in (by omega)] at v
   have e : saidE b = ((addE [] (Jo.load b).1).1, (Jo.load b).2, decide ((addE [] (Jo.load b).1).2 = 0)) := if_pos hb2
   rw [e]
   generalize addE [] (Jo.load b).1 = R at *
   generalize Jo.load b = L at *
   refine PCall.body Tryz.func46 rfl rfl Tryz.ntmps46 rfl rfl ?_
   repeat' (first | refine aoQ rfl rfl rfl (fun hg => by first | exact std0 | exact pcW (v) rfl rfl nd rfl nds | exact pcW (w) rfl rfl nd rfl nds | fail) (by exact rfl) ?_ | refine sqW ?_ | refine rgK (fun K' hK => ?_) | (refine aoN (hK _ _ ?_); clear hK K') | refine cdN rfl tI (fun hc => ?_) (fun hc => ?_) | refine skW ?_ | refine rtW ?_)
   all_goals (first | exact dd | skip)
   refine ⟨.inr rfl, Ent.of ?_⟩
   show AV.tup [.sl 14 (R.1.map encE) .no, .int L.2, .b (R.2 == 0)] = _
   rw [show (R.2 == 0) = decide (R.2 = 0) by by_cases h : R.2 = 0 <;> simp [h]]
 · rw [show loadR b = ([], 0, 2) from if_pos (by omega)] at v
   have e : saidE b = ([], 0, false) := if_neg hb2
   rw [e]
   refine PCall.body Tryz.func46 rfl rfl Tryz.ntmps46 rfl rfl ?_
   repeat' (first | refine aoQ rfl rfl rfl (fun hg => by first | exact std0 | exact pcW (v) rfl rfl nd rfl nds | fail) (by exact rfl) ?_ | refine sqW ?_ | refine rgK (fun K' hK => ?_) | (refine aoN (hK _ _ ?_); clear hK K') | refine cdN rfl tI (fun hc => ?_) (fun hc => ?_) | refine skW ?_ | refine rtW ?_)
   all_goals (first | exact dd | skip)
   exact ⟨.inr rfl, Ent.tup3 Ent.nil (Ent.rfl' _) (Ent.rfl' _)⟩
set_option maxHeartbeats 1600000 in
theorem valid42_spec (t : Sy.Tab) (h : TabIn t) : PCall Tryz.prog 22 [.agg (encTab t)] (.b (validT t)) := by
 have v := says_spec t.b h.b
 obtain ⟨k1, k2, k3⟩ := said_len t.b h.b
 have w := svalid32_spec t.s h.txt h.evs
 have x := same22_spec (saidE t.b).1 t.s.evs (by omega) h.evs
 have y := known22_spec (saidE t.b).1 t.s.id k1 (by omega)
 unfold validT
 generalize saidE t.b = D at *
 refine PCall.body Tryz.func22 rfl rfl Tryz.ntmps22 rfl rfl ?_
 repeat' (first | refine aoQ rfl rfl rfl (fun hg => by first | exact std0 | exact pcW (v) rfl rfl nd rfl nds | exact pcW (w) rfl rfl nd rfl nds | exact pcW (x) rfl rfl nd rfl nds | exact pcW (y) rfl rfl nd rfl nds | exact std1) (by exact rfl) ?_ | refine sqW ?_ | refine rgK (fun K' hK => ?_) | (refine aoN (hK _ _ ?_); clear hK K') | refine aoE (bxW rfl rfl rfl rfl rfl tI rfl rfl ?_) | refine cdN rfl tI (fun hc => ?_) (fun hc => ?_) | refine skW ?_ | refine rtW ?_)
 · refine ⟨.inr rfl, Ent.b ?_⟩
   rw [boolA, hc]; rfl
 · rename_i hc0
   refine ⟨.inr rfl, Ent.b ?_⟩
   have hu : t.up = false := by simpa using hc
   rw [boolA, hc0, hu]
   show (((t.s.evs.length : Nat) : Int) == 0 && t.s.known == 0) = (decide (t.s.evs = []) && decide (t.s.known = 0))
   by_cases h1 : t.s.evs = [] <;> by_cases h2 : t.s.known = 0 <;> simp [h1, h2]
 · rename_i hc0
   refine ⟨.inr rfl, Ent.b ?_⟩
   have hu : t.up = true := by simpa using hc
   have hv : validS t.s = true := by
    revert hc0
    cases validS t.s <;> simp
   rw [boolA, hc0, hu]
   show (((D.2.1 : Nat) : Int) == ((t.b.length : Nat) : Int) && (D.1 == t.s.evs) && ((knownR D.1 t.s.id).1 == t.s.known)) = (decide (D.2.1 = t.b.length) && decide (D.1 = t.s.evs) && decide (t.s.known = knownE D.1 t.s.id))
   have e1 : (((D.2.1 : Nat) : Int) == ((t.b.length : Nat) : Int)) = decide (D.2.1 = t.b.length) := by rw [zBf, beq_iff_eq, decide_eq_true_iff]; omega
   have e2 : (D.1 == t.s.evs) = decide (D.1 = t.s.evs) := by rw [zBf, beq_iff_eq, decide_eq_true_iff]
   rw [e1, e2]
   by_cases h1 : D.1 = t.s.evs
   · have hk : knownR D.1 t.s.id = (knownE D.1 t.s.id, 0) := by
      unfold validS at hv
      simp only [zA0] at hv
      rw [h1]
      exact knownR_of hv.1.2.1 hv.1.2.2
     rw [hk]
     have e3 : ((knownE D.1 t.s.id, (0 : Int)).1 == t.s.known) = decide (t.s.known = knownE D.1 t.s.id) := by rw [zBf, beq_iff_eq, decide_eq_true_iff]; exact eq_comm
     rw [e3]
   · rw [decide_eq_false h1, Bool.and_false, Bool.false_and, Bool.false_and]
theorem same32_spec (a b : Std) (ha : a.evs.length ≤ 1000000000) (hb : b.evs.length ≤ 1000000000) : PCall Tryz.prog 27 [.agg (encStd a), .agg (encStd b)] (.b (decide (a = b))) := by
 have v := same22_spec a.evs b.evs ha hb
 refine PCall.body Tryz.func27 rfl rfl Tryz.ntmps27 rfl rfl ?_
 repeat' (first | refine aoQ rfl rfl rfl (fun hg => by first | exact std0 | exact pcW (v) rfl rfl nd rfl nds | exact PRun.eqN flR rfl rfl nd rfl nd rfl) (by exact rfl) ?_ | refine sqW ?_ | refine rgK (fun K' hK => ?_) | (refine aoN (hK _ _ ?_); clear hK K') | refine aoE (bxW rfl rfl rfl rfl rfl tI rfl rfl ?_) | refine rtW ?_)
 refine ⟨.inr rfl, Ent.b ?_⟩
 show ((((a.id == b.id && (a.who.part == b.who.part && (a.who.desk == b.who.desk && (a.who.seat == b.who.seat && true)))) && a.ed == b.ed) && a.known == b.known) && (a.evs == b.evs)) = _
 rw [zBf, decide_eq_true_iff]
 obtain ⟨i, ⟨p, d, s⟩, e, k, l⟩ := a
 obtain ⟨i', ⟨p', d', s'⟩, e', k', l'⟩ := b
 simp
 constructor
 · rintro ⟨⟨⟨⟨h1, h2, h3, h4⟩, h5⟩, h6⟩, h7⟩; exact ⟨h1, ⟨h2, h3, h4⟩, h5, h6, h7⟩
 · rintro ⟨h1, ⟨h2, h3, h4⟩, h5, h6, h7⟩; exact ⟨⟨⟨⟨h1, h2, h3, h4⟩, h5⟩, h6⟩, h7⟩
set_option maxHeartbeats 1600000 in
theorem same42_spec (a b : Sy.Tab) (ha : a.s.evs.length ≤ 1000000000) (hb : b.s.evs.length ≤ 1000000000) (hla : a.b.length ≤ 1000000000) (hlb : b.b.length ≤ 1000000000) : PCall Tryz.prog 10 [.agg (encTab a), .agg (encTab b)] (.b (decide (a = b))) := by
 have v := same32_spec a.s b.s ha hb
 refine PCall.body Tryz.func10 rfl rfl Tryz.ntmps10 rfl rfl ?_
 repeat' (first | refine aoQ rfl rfl rfl (fun hg => by first | exact std0 | exact pcW (v) rfl rfl nd rfl nds | exact std1) (by exact rfl) ?_ | refine sqW ?_ | refine rgK (fun K' hK => ?_) | (refine aoN (hK _ _ ?_); clear hK K') | refine aoE (bxW rfl rfl rfl rfl rfl tI rfl rfl ?_) | refine cdN rfl tI (fun hc => ?_) (fun hc => ?_) | refine blK ?_ | refine skW ?_ | refine rtW ?_)
 · refine ⟨.inr rfl, Ent.b (decide_eq_false fun h => ?_).symm⟩
   subst h
   simp at hc
 have hq : (((a.b.length : Int) != (b.b.length : Int) || a.sure != b.sure) || (a.up != b.up) || !decide (a.s = b.s)) = false := hc
 simp only [zAf, bne_eq_false_iff_eq, zAk, dEt] at hq
 obtain ⟨⟨⟨q1, q2⟩, q3⟩, q4⟩ := hq
 have q1 : a.b.length = b.b.length := by omega
 refine lpW (ι := Nat) (fun k => [(2, .ptr 0 0), (3, .ptr 1 0), (5, .int k)]) (fun _ => [.var (encTab a), .var (encTab b)]) (fun k => k ≤ a.b.length ∧ ∀ j, j < k → a.b.getD j default = b.b.getD j default) (fun k => a.b.length - k) 0 ⟨nZl _, fun j h => absurd h (by omega)⟩ ⟨rfl, rfl, rfl, tI⟩ rfl ?_
 rintro k ⟨hk, hall⟩
 by_cases hlt : k < a.b.length
 · repeat' (first | refine aoQ rfl rfl rfl (fun hg => by first | exact std0 | exact std1) (by exact rfl) ?_ | refine sqW ?_ | refine rgK (fun K' hK => ?_) | (refine aoN (hK _ _ ?_); clear hK K') | refine cdN rfl tI (fun hc => ?_) (fun hc => ?_) | refine blK ?_ | refine exW ?_ | refine skW ?_ | refine rtW ?_ | refine dK2 (by decide +kernel) (by kernel_rfl) (by decide +kernel) rfl (fun K' hK => ?_) | (refine aqN (hK _ ?_); clear hK K') | refine aqQ rfl rfl (fun hg => by first | exact std0 | exact std1) (by exact rfl) ?_)
   · refine ⟨.inr rfl, Ent.b (decide_eq_false fun h => ?_).symm⟩
     subst h
     simp at hc
   · refine ⟨k + 1, ⟨by omega, fun j hj => lt_succ_cases hall ?_ hj⟩, by omega, ⟨rfl, rfl, rfl, tI⟩, rfl⟩
     rw [bne_eq_false_iff_eq, zAc] at hc
     exact UInt8.toNat_inj.1 (Int.ofNat_inj.1 hc)
   · exfalso; omega
 · repeat' (first | refine aoQ rfl rfl rfl (fun hg => by first | exact std0 | exact std1) (by exact rfl) ?_ | refine sqW ?_ | refine rgK (fun K' hK => ?_) | (refine aoN (hK _ _ ?_); clear hK K') | refine cdN rfl tI (fun hc => ?_) (fun hc => ?_) | refine blK ?_ | refine exW ?_ | refine skW ?_ | refine rtW ?_ | refine dK2 (by decide +kernel) (by kernel_rfl) (by decide +kernel) rfl (fun K' hK => ?_) | (refine aqN (hK _ ?_); clear hK K') | refine aqQ rfl rfl (fun hg => by first | exact std0 | exact std1) (by exact rfl) ?_)
   all_goals first | (exfalso; omega) | skip
   refine ⟨.inr rfl, Ent.b (decide_eq_true ?_).symm⟩
   have q5 : a.b = b.b := List.ext_getElem q1 fun i h1 h2 => by
    have := hall i (by omega)
    rwa [getD_lt' h1, getD_lt' h2] at this
   obtain ⟨s, l, n, u⟩ := a
   obtain ⟨s', l', n', u'⟩ := b
   dsimp only at q2 q3 q4 q5
   rw [q2, q3, q4, q5]
theorem few42_spec (t : Sy.Tab) : PCall Tryz.prog 21 [.agg (encTab t)] (.b (decide (t.b.length ≤ 5000) && decide (t.s.evs.length ≤ 30))) := by
 refine PCall.body Tryz.func21 rfl rfl Tryz.ntmps21 rfl rfl ?_
 repeat' (first | refine aoQ rfl rfl rfl (fun hg => by first | exact std0 | exact std1) (by exact rfl) ?_ | refine sqW ?_ | refine rgK (fun K' hK => ?_) | (refine aoN (hK _ _ ?_); clear hK K') | refine aoE (bxW rfl rfl rfl rfl rfl tI rfl rfl ?_) | refine rtW ?_)
 refine ⟨.inr rfl, Ent.b ?_⟩
 show (decide ((t.b.length : Int) ≤ 5000) && decide ((t.s.evs.length : Int) ≤ 30)) = _
 rw [zBf]; simp; omega
def usableT (t : Sy.Tab) : Bool := (decide (t.b.length ≤ 5000) && decide (t.s.evs.length ≤ 30)) && validT t
theorem usable_spec (t : Sy.Tab) (ht : Txt t.s.evs) : PCall Tryz.prog 8 [.agg (encTab t)] (.b (usableT t)) := by
 have v := few42_spec t
 cases hf : (decide (t.b.length ≤ 5000) && decide (t.s.evs.length ≤ 30)) with
 | false =>
   have e : usableT t = false := by unfold usableT; rw [hf]; rfl
   rw [hf] at v
   rw [e]
   refine PCall.body Tryz.func8 rfl rfl Tryz.ntmps8 rfl rfl ?_
   repeat' (first | refine aoQ rfl rfl rfl (fun hg => by first | exact std0 | exact pcW (v) rfl rfl nd rfl nds | exact (Bool.noConfusion (show false = true from hg) : PRun _ _ _ _ (.b false)) | fail) (by exact rfl) ?_ | refine sqW ?_ | refine rgK (fun K' hK => ?_) | (refine aoN (hK _ _ ?_); clear hK K') | refine aoE (bxW rfl rfl rfl rfl rfl tI rfl rfl ?_) | refine rtW ?_)
   exact ⟨.inr rfl, Ent.b rfl⟩
 | true =>
   have hf2 := hf
   rw [zA0, dEt, dEt] at hf2
   have w := valid42_spec t ⟨ht, by omega, by omega⟩
   have e : usableT t = (true && validT t) := by unfold usableT; rw [hf]
   rw [hf] at v
   rw [e]
   refine PCall.body Tryz.func8 rfl rfl Tryz.ntmps8 rfl rfl ?_
   repeat' (first | refine aoQ rfl rfl rfl (fun hg => by first | exact std0 | exact pcW (v) rfl rfl nd rfl nds | exact pcW (w) rfl rfl nd rfl nds | fail) (by exact rfl) ?_ | refine sqW ?_ | refine rgK (fun K' hK => ?_) | (refine aoN (hK _ _ ?_); clear hK K') | refine aoE (bxW rfl rfl rfl rfl rfl tI rfl rfl ?_) | refine rtW ?_)
   exact ⟨.inr rfl, Ent.b rfl⟩
theorem clock_snoc (l : List Ev) (e : Ev) : clockE (l ++ [e]) = max (clockE l) e.clock := by unfold clockE; rw [zCh]; rfl
theorem clock42_spec (l : List Ev) (hl : l.length ≤ 1000000000) : PCall Tryz.prog 44 [.sl 14 (l.map encE) .no] (.int (clockE l)) := by
 refine PCall.body Tryz.func44 rfl rfl Tryz.ntmps44 rfl rfl ?_
 repeat' (first | refine aoQ rfl rfl rfl (fun hg => by exact std0) (by exact rfl) ?_ | refine sqW ?_ | refine rgK (fun K' hK => ?_) | (refine aoN (hK _ _ ?_); clear hK K') | refine blK ?_)
 refine lpW (ι := Nat) (fun k => [(0, .sl 14 (l.map encE) .no), (3, .int (clockE (l.take k))), (4, .int k)]) (fun _ => []) (fun k => k ≤ l.length) (fun k => l.length - k) 0 (nZl _) ⟨rfl, rfl, rfl, tI⟩ rfl ?_
 rintro k hk
 by_cases hlt : k < l.length
 · have hs : clockE (l.take (k + 1)) = max (clockE (l.take k)) (l.getD k default).clock := by rw [getD_lt' hlt, zAu hlt, clock_snoc]
   repeat' (first | refine aoQ rfl rfl rfl (fun hg => by first | exact std0 | exact std1) (by exact rfl) ?_ | refine sqW ?_ | refine rgK (fun K' hK => ?_) | (refine aoN (hK _ _ ?_); clear hK K') | refine cdN rfl tI (fun hc => ?_) (fun hc => ?_) | refine blK ?_ | refine exW ?_ | refine skW ?_ | refine rtW ?_)
   all_goals first | (exfalso; omega) | skip
   exact ⟨k + 1, by omega, by omega, ⟨rfl, by rw [hs]; rfl, rfl, tI⟩, rfl⟩
 · obtain rfl : k = l.length := by omega
   repeat' (first | refine aoQ rfl rfl rfl (fun hg => by first | exact std0 | exact std1) (by exact rfl) ?_ | refine sqW ?_ | refine rgK (fun K' hK => ?_) | (refine aoN (hK _ _ ?_); clear hK K') | refine cdN rfl tI (fun hc => ?_) (fun hc => ?_) | refine blK ?_ | refine exW ?_ | refine skW ?_ | refine rtW ?_)
   all_goals first | (exfalso; omega) | skip
   refine ⟨.inr rfl, Ent.of ?_⟩
   rw [zAz]; rfl
theorem know_spec (c s n : Int) : PCall Tryz.prog 20 [.int c, .int s, .int n] (.agg (encE (knowE c s n))) := by
 refine PCall.bodyS tabOk Tryz.func20 rfl rfl Tryz.ntmps20 rfl ?_
 repeat' (first | refine aoQ rfl rfl rfl (fun hg => by first | exact std0 | exact pbD tabOk rfl rfl nds) (by exact rfl) ?_ | refine sqW ?_ | refine rgK (fun K' hK => ?_) | (refine aoN (hK _ _ ?_); clear hK K') | refine aoE (stW tabOk rfl rfl rfl tI rfl rfl tI rfl rfl rfl rfl rfl rfl rfl ?_) | refine aoE (alW tabOk rfl rfl rfl rfl rfl rfl ?_) | refine rtW ?_)
 exact ⟨.inr rfl, _, rfl, Ent.of rfl⟩
theorem begin_spec (id : Int) (h : isId id = true) : PCall Tryz.prog 17 [.int id] (.tup [.agg (encTab (begin_ id)), .b true]) := by
 have v := new_spec ⟨id, ⟨1, 1, 1⟩, 1, 0, []⟩ (fun e he => absurd he zCc) (nZl _)
 rw [new_begin h] at v
 have hE : Ent (.agg [.int id, .int 1, .int 1, .int 1, .int 1, .int 0, .nils]) (.agg (encStd ⟨id, ⟨1, 1, 1⟩, 1, 0, []⟩)) := Ent.aggL ⟨Ent.rfl' _, Ent.rfl' _, Ent.rfl' _, Ent.rfl' _, Ent.rfl' _, Ent.rfl' _, Ent.nil, tI⟩
 have w := PCall.entAt [] [] hE v
 refine PCall.bodyS tabOk Tryz.func17 rfl rfl Tryz.ntmps17 rfl ?_
 repeat' (first | refine aoQ rfl rfl rfl (fun hg => by first | exact std0 | exact pbD tabOk rfl rfl nds | exact pcW (w) rfl rfl nd rfl nds | fail) (by exact rfl) ?_ | refine sqW ?_ | refine rgK (fun K' hK => ?_) | (refine aoN (hK _ _ ?_); clear hK K') | refine aoE (stW tabOk rfl rfl rfl tI rfl rfl tI rfl rfl rfl rfl rfl rfl rfl ?_) | refine aoE (alW tabOk rfl rfl rfl rfl rfl rfl ?_) | refine rtW ?_)
 exact ⟨.inr rfl, _, rfl, Ent.of rfl⟩
end Go.Proofs.YtbneeinknlddaaaGreat
