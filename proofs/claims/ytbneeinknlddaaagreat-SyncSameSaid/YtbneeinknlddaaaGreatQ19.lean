/- Contracts by content: events.Add, Known; what looks for an event.  Contracts by content: an event as integers: the program. No statement is proved here. -/
import Derived.Test.YtbneeinknlddaaaGreatQ11
import Derived.Test.YtbneeinknlddaaaGreatQ13
import Derived.Test.YtbneeinknlddaaaGreatQ18
set_option linter.unusedVariables false
set_option linter.unusedSimpArgs false
namespace Go.Ab
theorem PCall.nilAt {P : Program} {f : FuncId} {sz : Nat} (pre post : List AV) {r : AV} (h : PCall P f (pre ++ .sl sz [] .no :: post) r) : PCall P f (pre ++ .nils :: post) r := by
 refine ⟨h.1, fun M W vs hm ha => h.2 M W vs hm ⟨by rw [ha.1]; simp, fun i c hi => ?_⟩⟩
 rcases Nat.lt_trichotomy i pre.length with g | g | g
 · rw [zA5 g] at hi
   exact ha.2 i c (by rw [zA5 g]; exact hi)
 · subst g
   rw [zA7 (nLr _), Nat.sub_self] at hi
   simp at hi
   subst hi
   have := ha.2 pre.length .nils (by simp)
   generalize vs.getD pre.length undef = y at this ⊢
   cases this; exact .slz sz .no trivial
 · rw [zA7 (by omega)] at hi
   obtain ⟨k, hk⟩ : ∃ k, i - pre.length = k + 1 := ⟨i - pre.length - 1, by omega⟩
   rw [hk] at hi
   exact ha.2 i c (by rw [zA7 (by omega), hk]; exact hi)
end Go.Ab
namespace Go.Proofs.YtbneeinknlddaaaGreat
open Go.Ab Go.Jo Go.Sy
attribute [local irreducible] AWP AOps EStep AQ PStep PRun PCall TCall VCall DStep TDies AWD DCall
set_option maxHeartbeats 1600000 in
theorem evalidL_spec (l : List Ev) (ht : Txt l) (hl : l.length ≤ 1000000000) : PCall Tryz.prog 23 [.sl 14 (l.map encE) .no] (.b (validE l)) := by
 refine PCall.body Tryz.func23 rfl rfl Tryz.ntmps23 rfl rfl ?_
 repeat' (first | refine aoQ rfl rfl rfl (fun hg => by first | exact std0 | exact std1) (by exact rfl) ?_ | refine sqW ?_ | refine rgK (fun K' hK => ?_) | (refine aoN (hK _ _ ?_); clear hK K') | refine blK ?_)
 refine lpD (ι := Nat) (fun k => [(0, .sl 14 (l.map encE) .no), (5, .sl 14 (l.map encE) .no), (6, .int l.length), (7, .int k)]) (fun _ => []) (fun k => k ≤ l.length ∧ (∀ j, j < k → evOk (l.getD j default) = true) ∧ Srt (l.take k)) (fun k => l.length - k) 0 (fun _ => rfl) 0 ⟨nZl _, fun j h => absurd h (by omega), by rw [List.take_zero]; exact List.Pairwise.nil⟩ ⟨rfl, rfl, rfl, rfl, tI⟩ rfl (fun _ _ => rfl) (fun _ _ => rfl) ?_
 rintro k ⟨hk, hall, hs⟩
 by_cases hlt : k < l.length
 · have v := formed_spec (l.getD k default) (ht.at hlt)
   cases hev : evOk (l.getD k default) with
   | false =>
     have hn := validE_no hlt hev
     rw [hev] at v
     repeat' (first | refine aoQ rfl rfl rfl (fun hg => by first | exact piW tabOk rfl rfl nd rfl nd rfl rfl ⟨zB4 _, zAf.2 hlt⟩ | exact std0 | exact std1) (by exact rfl) ?_ | refine sqW ?_ | refine rgK (fun K' hK => ?_) | (refine aoN (hK _ _ ?_); clear hK K') | refine aoE (stW tabOk rfl rfl rfl tI rfl rfl tI rfl rfl rfl rfl rfl rfl rfl ?_) | refine aoE (alW tabOk rfl rfl rfl rfl rfl rfl ?_) | refine cdN rfl tI (fun hc => ?_) (fun hc => ?_) | refine blK ?_ | refine exW ?_ | refine skW ?_ | refine rtW ?_ | refine dK2 (by decide +kernel) (by kernel_rfl) (by decide +kernel) rfl (fun K' hK => ?_) | (refine aqN (hK _ ?_); clear hK K') | refine aqQ rfl rfl (fun hg => by first | exact std0 | exact pcW (v) rfl rfl nd rfl nds | exact (Bool.noConfusion (show false = true from hg) : PRun _ _ _ _ (.b false)) | fail) (by exact rfl) ?_)
     all_goals first | (exfalso; omega) | skip
     · exact ⟨.inr rfl, Ent.b hn.symm⟩
     · exfalso; simp at hc
   | true =>
     rw [hev] at v
     have hall' : ∀ j, j < k + 1 → evOk (l.getD j default) = true := fun j hj => lt_succ_cases hall hev hj
     have hst := srt_step hlt
     by_cases h0 : k = 0
     · subst h0
       have hs1 : Srt (l.take (0 + 1)) := hst.2 ⟨hs, fun h => absurd h (by omega)⟩
       repeat' (first | refine aoQ rfl rfl rfl (fun hg => by first | exact piW tabOk rfl rfl nd rfl nd rfl rfl ⟨zB4 _, zAf.2 hlt⟩ | exact std0 | exact std1) (by exact rfl) ?_ | refine sqW ?_ | refine rgK (fun K' hK => ?_) | (refine aoN (hK _ _ ?_); clear hK K') | refine aoE (stW tabOk rfl rfl rfl tI rfl rfl tI rfl rfl rfl rfl rfl rfl rfl ?_) | refine aoE (alW tabOk rfl rfl rfl rfl rfl rfl ?_) | refine cdN rfl tI (fun hc => ?_) (fun hc => ?_) | refine blK ?_ | refine exW ?_ | refine skW ?_ | refine rtW ?_ | refine dK2 (by decide +kernel) (by kernel_rfl) (by decide +kernel) rfl (fun K' hK => ?_) | (refine aqN (hK _ ?_); clear hK K') | refine aqQ rfl rfl (fun hg => by first | exact std0 | exact pcW (v) rfl rfl nd rfl nds | exact (Bool.noConfusion (show false = true from hg) : PRun _ _ _ _ (.b false)) | fail) (by exact rfl) ?_)
       all_goals first | (exfalso; omega) | skip
       · exfalso; simp at hc
       · exact ⟨0 + 1, ⟨by omega, hall', hs1⟩, by omega, ⟨rfl, rfl, rfl, rfl, tI⟩, rfl⟩
     · have e1 : ((k : Int) - 1).toNat = k - 1 := by omega
       have w := order_spec (l.getD (k - 1) default) (l.getD k default)
       rw [← e1] at w
       have hg0 : decide (((k : Nat) : Int) > 0) = true := by simp; omega
       repeat' (first | refine aoQ rfl rfl rfl (fun hg => by first | exact piW tabOk rfl rfl nd rfl nd rfl rfl ⟨(by omega), (by omega)⟩ | exact std0 | exact std1) (by exact rfl) ?_ | refine sqW ?_ | refine rgK (fun K' hK => ?_) | (refine aoN (hK _ _ ?_); clear hK K') | refine aoE (stW tabOk rfl rfl rfl tI rfl rfl tI rfl rfl rfl rfl rfl rfl rfl ?_) | refine aoE (alW tabOk rfl rfl rfl rfl rfl rfl ?_) | refine cdN rfl tI (fun hc => ?_) (fun hc => ?_) | refine blK ?_ | refine exW ?_ | refine skW ?_ | refine rtW ?_ | refine dK2 (by decide +kernel) (by kernel_rfl) (by decide +kernel) rfl (fun K' hK => ?_) | (refine aqN (hK _ ?_); clear hK K') | refine aqQ rfl rfl (fun hg => by first | exact piW tabOk rfl rfl nd rfl nd rfl rfl ⟨(by omega), (by omega)⟩ | exact std0 | exact pcW (v) rfl rfl nd rfl nds | exact pcW (w) rfl rfl nd rfl nds) (by exact rfl) ?_)
       all_goals first | (exfalso; omega) | skip
       · refine ⟨.inr rfl, Ent.b ?_⟩
         rw [validE_srt hlt]
         intro hS
         have h9 := (hst.1 hS).2 (by omega)
         rw [← ord_neg, ← e1] at h9
         generalize ordE (l.getD ((k : Int) - 1).toNat default) (l.getD k default) = q at hc h9
         simp at hc; omega
       · refine ⟨k + 1, ⟨by omega, hall', hst.2 ⟨hs, fun _ => ord_neg.1 ?_⟩⟩, by omega, ⟨rfl, rfl, rfl, rfl, tI⟩, rfl⟩
         rw [← e1]
         generalize ordE (l.getD ((k : Int) - 1).toNat default) (l.getD k default) = q at hc ⊢
         simp at hc; omega
 · obtain rfl : k = l.length := by omega
   repeat' (first | refine aoQ rfl rfl rfl (fun hg => by first | exact std0 | exact std1) (by exact rfl) ?_ | refine sqW ?_ | refine rgK (fun K' hK => ?_) | (refine aoN (hK _ _ ?_); clear hK K') | refine aoE (stW tabOk rfl rfl rfl tI rfl rfl tI rfl rfl rfl rfl rfl rfl rfl ?_) | refine aoE (alW tabOk rfl rfl rfl rfl rfl rfl ?_) | refine cdN rfl tI (fun hc => ?_) (fun hc => ?_) | refine blK ?_ | refine exW ?_ | refine skW ?_ | refine rtW ?_ | refine dK2 (by decide +kernel) (by kernel_rfl) (by decide +kernel) rfl (fun K' hK => ?_) | refine aqQ rfl rfl (fun hg => by exact std0) (by exact rfl) ?_)
   all_goals first | (exfalso; omega) | skip
   exact ⟨.inr rfl, Ent.b (validE_all hall hs).symm⟩
def fndE (p : Ev → Bool) (l : List Ev) : Int := if l.any p = true then (l.findIdx p : Int) else -1
theorem fndE_at {p : Ev → Bool} {l : List Ev} {k : Nat} (hk : k < l.length) (h : p (l.getD k default) = true) (hall : ∀ j, j < k → p (l.getD j default) = false) : fndE p l = k := by
 have h1 : l.any p = true := zCx.2 ⟨_, by rw [getD_lt' hk] at h; exact lGm hk, by rw [getD_lt' hk] at h; exact h⟩
 unfold fndE
 rw [if_pos h1, (List.findIdx_eq hk).2 ⟨by rw [← getD_lt' hk]; exact h, fun j hj => by rw [← getD_lt' (show j < l.length by omega)]; exact hall j hj⟩]
theorem fndE_no {p : Ev → Bool} {l : List Ev} (hall : ∀ j, j < l.length → p (l.getD j default) = false) : fndE p l = -1 := by
 unfold fndE
 rw [if_neg fun h => ?_]
 obtain ⟨x, hx, hp⟩ := zCx.1 h
 obtain ⟨j, hj, rfl⟩ := zBq.1 hx
 have := hall j hj
 rw [getD_lt' hj, hp] at this; cases this
theorem fndE_ge (p : Ev → Bool) (l : List Ev) : decide (fndE p l ≥ 0) = l.any p := by
 unfold fndE
 cases h : l.any p with
 | true => rw [if_pos rfl]; exact decide_eq_true (zB4 _)
 | false => rw [if_neg (by decide)]; rfl
theorem idxEv_spec (l : List Ev) (fv : AV) (p : Ev → Bool) (hp : ∀ x ∈ l, FnCall Tryz.prog fv [.agg (encE x)] (.b (p x))) (hl : l.length ≤ 1000000000) :
 PCall Tryz.prog 76 [.sl 14 (l.map encE) .no, fv] (.int (fndE p l)) := by
 refine PCall.bodyX [1] Tryz.func76 rfl rfl Tryz.ntmps76 rfl rfl ?_
 repeat' (first | refine aoQ rfl rfl rfl (fun hg => by first | exact std0 | exact std1) (by exact rfl) ?_ | refine sqW ?_ | refine rgK (fun K' hK => ?_) | (refine aoN (hK _ _ ?_); clear hK K') | refine blK ?_)
 refine lpW (ι := Nat) (fun k => [(0, .sl 14 (l.map encE) .no), (1, .ext fv), (7, .int l.length), (8, .int k)]) (fun _ => []) (fun k => k ≤ l.length ∧ ∀ j, j < k → p (l.getD j default) = false) (fun k => l.length - k) 0 ⟨nZl _, fun j h => absurd h (by omega)⟩ ⟨rfl, rfl, rfl, rfl, tI⟩ rfl ?_
 rintro k ⟨hk, hall⟩
 by_cases hlt : k < l.length
 · repeat' (first | refine aoQ rfl rfl rfl (fun hg => by first | exact std0 | exact PRun.callV (hp _ (getD_mem hlt)) rfl rfl nd rfl nds | exact std1) (by exact rfl) ?_ | refine sqW ?_ | refine rgK (fun K' hK => ?_) | (refine aoN (hK _ _ ?_); clear hK K') | refine cdN rfl tI (fun hc => ?_) (fun hc => ?_) | refine blK ?_ | refine exW ?_ | refine skW ?_ | refine rtW ?_)
   · refine ⟨.inr rfl, ?_⟩
     rw [show fndE p l = k from fndE_at hlt hc hall]
     exact fun _ _ h => h
   · exact ⟨k + 1, ⟨by omega, fun j hj => lt_succ_cases hall hc hj⟩, by omega, ⟨rfl, rfl, rfl, rfl, tI⟩, rfl⟩
   · exfalso; omega
 · repeat' (first | refine aoQ rfl rfl rfl (fun hg => by first | exact std0 | exact std1) (by exact rfl) ?_ | refine sqW ?_ | refine rgK (fun K' hK => ?_) | (refine aoN (hK _ _ ?_); clear hK K') | refine cdN rfl tI (fun hc => ?_) (fun hc => ?_) | refine blK ?_ | refine exW ?_ | refine skW ?_ | refine rtW ?_)
   · exfalso; omega
   · refine ⟨.inr rfl, ?_⟩
     rw [show fndE p l = -1 from fndE_no fun j hj => hall j (by omega)]
     exact fun _ _ h => h
theorem contEv_spec (l : List Ev) (fv : AV) (p : Ev → Bool) (hp : ∀ x ∈ l, FnCall Tryz.prog fv [.agg (encE x)] (.b (p x))) (hl : l.length ≤ 1000000000) :
 PCall Tryz.prog 51 [.sl 14 (l.map encE) .no, fv] (.b (l.any p)) := by
 rw [← fndE_ge]
 refine PCall.bodyX [1] Tryz.func51 rfl rfl Tryz.ntmps51 rfl rfl ?_
 repeat' (first | refine aoQ rfl rfl rfl (fun hg => by first | exact std0 | exact pcW (idxEv_spec l fv p hp hl) rfl rfl nd rfl nds) (by exact rfl) ?_ | refine sqW ?_ | refine rgK (fun K' hK => ?_) | (refine aoN (hK _ _ ?_); clear hK K') | refine rtW ?_)
 exact ⟨.inr rfl, fun _ _ h => h⟩
theorem index_spec' (l : List Ev) (e : Ev) (hl : l.length ≤ 1000000000) : PCall Tryz.prog 84 [.sl 14 (l.map encE) .no, .agg (encE e)] (.int (fndE (fun x => eqE e x) l)) := by
 refine PCall.body Tryz.func84 rfl rfl Tryz.ntmps84 rfl rfl ?_
 repeat' (first | refine aoQ rfl rfl rfl (fun hg => by first | exact std0 | exact std1) (by exact rfl) ?_ | refine sqW ?_ | refine rgK (fun K' hK => ?_) | (refine aoN (hK _ _ ?_); clear hK K') | refine aoE (bxW rfl rfl rfl rfl rfl tI rfl rfl ?_) | refine blK ?_)
 refine lpW (ι := Nat) (fun k => [(0, .sl 14 (l.map encE) .no), (3, .ptr 0 0), (6, .sl 14 (l.map encE) .no), (7, .int l.length), (8, .int k)]) (fun _ => [.var (encE e)]) (fun k => k ≤ l.length ∧ ∀ j, j < k → eqE e (l.getD j default) = false) (fun k => l.length - k) 0 ⟨nZl _, fun j h => absurd h (by omega)⟩ ⟨rfl, rfl, rfl, rfl, rfl, tI⟩ rfl ?_
 rintro k ⟨hk, hall⟩
 by_cases hlt : k < l.length
 · repeat' (first | refine aoQ rfl rfl rfl (fun hg => by exact std0) (by exact rfl) ?_ | refine sqW ?_ | refine rgK (fun K' hK => ?_) | (refine aoN (hK _ _ ?_); clear hK K') | refine cdN rfl tI (fun hc => ?_) (fun hc => ?_) | refine blK ?_ | refine exW ?_ | refine skW ?_ | refine rtW ?_ | refine dK2 (by decide +kernel) (by kernel_rfl) (by decide +kernel) rfl (fun K' hK => ?_) | (refine aqN (hK _ ?_); clear hK K') | refine aqQ rfl rfl (fun hg => by first | exact std0 | exact PRun.eqN flE rfl rfl nd rfl nd rfl | exact std1) (by exact rfl) ?_)
   · refine ⟨.inr rfl, ?_⟩
     rw [show fndE (fun x => eqE e x) l = k from fndE_at hlt hc hall]
     exact fun _ _ h => h
   · exact ⟨k + 1, ⟨by omega, fun j hj => lt_succ_cases hall hc hj⟩, by omega, ⟨rfl, rfl, rfl, rfl, rfl, tI⟩, rfl⟩
   · exfalso; omega
 · repeat' (first | refine aoQ rfl rfl rfl (fun hg => by exact std0) (by exact rfl) ?_ | refine sqW ?_ | refine rgK (fun K' hK => ?_) | (refine aoN (hK _ _ ?_); clear hK K') | refine cdN rfl tI (fun hc => ?_) (fun hc => ?_) | refine blK ?_ | refine exW ?_ | refine skW ?_ | refine rtW ?_ | refine dK2 (by decide +kernel) (by kernel_rfl) (by decide +kernel) rfl (fun K' hK => ?_) | refine aqQ rfl rfl (fun hg => by first | exact std0 | exact std1) (by exact rfl) ?_)
   · exfalso; omega
   · refine ⟨.inr rfl, ?_⟩
     rw [show fndE (fun x => eqE e x) l = -1 from fndE_no fun j hj => hall j (by omega)]
     exact fun _ _ h => h
theorem has_spec (l : List Ev) (e : Ev) (hl : l.length ≤ 1000000000) : PCall Tryz.prog 65 [.sl 14 (l.map encE) .no, .agg (encE e)] (.b (decide (e ∈ l))) := by
 have h1 : l.any (fun x => eqE e x) = decide (e ∈ l) := by
  rw [zBm, zCx, decide_eq_true_iff]
  constructor
  · rintro ⟨x, hx, h⟩
    rw [eqE_eq, beq_iff_eq] at h
    exact h ▸ hx
  · intro h; exact ⟨e, h, by rw [eqE_eq]; simp⟩
 rw [← h1, ← fndE_ge]
 refine PCall.body Tryz.func65 rfl rfl Tryz.ntmps65 rfl rfl ?_
 repeat' (first | refine aoQ rfl rfl rfl (fun hg => by first | exact std0 | exact pcW (index_spec' l e hl) rfl rfl nd rfl nds) (by exact rfl) ?_ | refine sqW ?_ | refine rgK (fun K' hK => ?_) | (refine aoN (hK _ _ ?_); clear hK K') | refine aoE (bxW rfl rfl rfl rfl rfl tI rfl rfl ?_) | refine rtW ?_)
 exact ⟨.inr rfl, fun _ _ h => h⟩
theorem equalEv_spec (a b : List Ev) (ha : a.length ≤ 1000000000) (hb : b.length ≤ 1000000000) : PCall Tryz.prog 30 [.sl 14 (a.map encE) .no, .sl 14 (b.map encE) .no] (.b (a == b)) := by
 refine PCall.body Tryz.func30 rfl rfl Tryz.ntmps30 rfl rfl ?_
 repeat' (first | refine aoQ rfl rfl rfl (fun hg => by first | exact std0 | exact std1) (by exact rfl) ?_ | refine sqW ?_ | refine rgK (fun K' hK => ?_) | (refine aoN (hK _ _ ?_); clear hK K') | refine cdN rfl tI (fun hc => ?_) (fun hc => ?_) | refine blK ?_ | refine skW ?_ | refine rtW ?_)
 · refine ⟨.inr rfl, Ent.b (list_ne_len ?_).symm⟩
   simp only [zAh, zAx, zA2, zAo, zAs, dEt, dEf, zAz, zAv, beq_iff_eq, beq_eq_false_iff_ne, bne_iff_ne, bne_eq_false_iff_eq, gt_iff_lt, ge_iff_le, ne_eq] at hc; omega
 have hlen : a.length = b.length := by simp only [zAh, zAx, zA2, zAo, zAs, dEt, dEf, zAz, zAv, beq_iff_eq, beq_eq_false_iff_ne, bne_iff_ne, bne_eq_false_iff_eq, gt_iff_lt, ge_iff_le, ne_eq] at hc; omega
 refine lpW (ι := Nat) (fun k => [(0, .sl 14 (a.map encE) .no), (1, .sl 14 (b.map encE) .no), (12, .int a.length), (13, .int k)]) (fun _ => []) (fun k => k ≤ a.length ∧ ∀ j, j < k → a.getD j default = b.getD j default) (fun k => a.length - k) 0 ⟨nZl _, fun j h => absurd h (by omega)⟩ ⟨rfl, rfl, rfl, rfl, tI⟩ rfl ?_
 rintro k ⟨hk, hall⟩
 by_cases hlt : k < a.length
 · repeat' (first | refine aoQ rfl rfl rfl (fun hg => by exact std0) (by exact rfl) ?_ | refine sqW ?_ | refine rgK (fun K' hK => ?_) | (refine aoN (hK _ _ ?_); clear hK K') | refine cdN rfl tI (fun hc => ?_) (fun hc => ?_) | refine blK ?_ | refine exW ?_ | refine skW ?_ | refine rtW ?_ | refine dK2 (by decide +kernel) (by kernel_rfl) (by decide +kernel) rfl (fun K' hK => ?_) | (refine aqN (hK _ ?_); clear hK K') | refine aqQ rfl rfl (fun hg => by first | exact std0 | exact PRun.neN flE rfl rfl nd rfl nd rfl | exact std1) (by exact rfl) ?_)
   · refine ⟨.inr rfl, Ent.b (list_ne_at (k := k) ?_).symm⟩
     have h1 : (!(eqE (a.getD k default) (b.getD k default))) = true := hc
     rw [eqE_eq] at h1
     simpa using h1
   · refine ⟨k + 1, ⟨by omega, fun j hj => lt_succ_cases hall ?_ hj⟩, by omega, ⟨rfl, rfl, rfl, rfl, tI⟩, rfl⟩
     have h1 : (!(eqE (a.getD k default) (b.getD k default))) = false := hc
     rw [eqE_eq] at h1
     simpa using h1
   · exfalso; omega
 · repeat' (first | refine aoQ rfl rfl rfl (fun hg => by exact std0) (by exact rfl) ?_ | refine sqW ?_ | refine rgK (fun K' hK => ?_) | (refine aoN (hK _ _ ?_); clear hK K') | refine cdN rfl tI (fun hc => ?_) (fun hc => ?_) | refine blK ?_ | refine exW ?_ | refine skW ?_ | refine rtW ?_ | refine dK2 (by decide +kernel) (by kernel_rfl) (by decide +kernel) rfl (fun K' hK => ?_) | refine aqQ rfl rfl (fun hg => by first | exact std0 | exact std1) (by exact rfl) ?_)
   all_goals (first | (exfalso; omega) | skip)
   exact ⟨.inr rfl, Ent.b (list_eq_all hlen fun j hj => hall j (by omega)).symm⟩
theorem same22_spec (a b : List Ev) (ha : a.length ≤ 1000000000) (hb : b.length ≤ 1000000000) : PCall Tryz.prog 14 [.sl 14 (a.map encE) .no, .sl 14 (b.map encE) .no] (.b (a == b)) := by
 refine PCall.body Tryz.func14 rfl rfl Tryz.ntmps14 rfl rfl ?_
 repeat' (first | refine aoQ rfl rfl rfl (fun hg => by first | exact std0 | exact std1) (by exact rfl) ?_ | refine sqW ?_ | refine rgK (fun K' hK => ?_) | (refine aoN (hK _ _ ?_); clear hK K') | refine cdN rfl tI (fun hc => ?_) (fun hc => ?_) | refine blK ?_ | refine skW ?_ | refine rtW ?_)
 · refine ⟨.inr rfl, Ent.b (list_ne_len ?_).symm⟩
   simp only [zAh, zAx, zA2, zAo, zAs, dEt, dEf, zAz, zAv, beq_iff_eq, beq_eq_false_iff_ne, bne_iff_ne, bne_eq_false_iff_eq, gt_iff_lt, ge_iff_le, ne_eq] at hc; omega
 have hlen : a.length = b.length := by simp only [zAh, zAx, zA2, zAo, zAs, dEt, dEf, zAz, zAv, beq_iff_eq, beq_eq_false_iff_ne, bne_iff_ne, bne_eq_false_iff_eq, gt_iff_lt, ge_iff_le, ne_eq] at hc; omega
 refine lpW (ι := Nat) (fun k => [(0, .sl 14 (a.map encE) .no), (1, .sl 14 (b.map encE) .no), (5, .int k)]) (fun _ => []) (fun k => k ≤ a.length ∧ ∀ j, j < k → a.getD j default = b.getD j default) (fun k => a.length - k) 0 ⟨nZl _, fun j h => absurd h (by omega)⟩ ⟨rfl, rfl, rfl, tI⟩ rfl ?_
 rintro k ⟨hk, hall⟩
 by_cases hlt : k < a.length
 · repeat' (first | refine aoQ rfl rfl rfl (fun hg => by first | exact std0 | exact std1) (by exact rfl) ?_ | refine sqW ?_ | refine rgK (fun K' hK => ?_) | (refine aoN (hK _ _ ?_); clear hK K') | refine cdN rfl tI (fun hc => ?_) (fun hc => ?_) | refine blK ?_ | refine exW ?_ | refine skW ?_ | refine rtW ?_ | refine dK2 (by decide +kernel) (by kernel_rfl) (by decide +kernel) rfl (fun K' hK => ?_) | (refine aqN (hK _ ?_); clear hK K') | refine aqQ rfl rfl (fun hg => by first | exact std0 | exact PRun.neN flE rfl rfl nd rfl nd rfl | exact std1) (by exact rfl) ?_)
   · refine ⟨.inr rfl, Ent.b (list_ne_at (k := k) ?_).symm⟩
     have h1 : (!(eqE (a.getD k default) (b.getD k default))) = true := hc
     rw [eqE_eq] at h1
     simpa using h1
   · refine ⟨k + 1, ⟨by omega, fun j hj => lt_succ_cases hall ?_ hj⟩, by omega, ⟨rfl, rfl, rfl, tI⟩, rfl⟩
     have h1 : (!(eqE (a.getD k default) (b.getD k default))) = false := hc
     rw [eqE_eq] at h1
     simpa using h1
   · exfalso; omega
 · repeat' (first | refine aoQ rfl rfl rfl (fun hg => by first | exact std0 | exact std1) (by exact rfl) ?_ | refine sqW ?_ | refine rgK (fun K' hK => ?_) | (refine aoN (hK _ _ ?_); clear hK K') | refine cdN rfl tI (fun hc => ?_) (fun hc => ?_) | refine blK ?_ | refine exW ?_ | refine skW ?_ | refine rtW ?_ | refine dK2 (by decide +kernel) (by kernel_rfl) (by decide +kernel) rfl (fun K' hK => ?_) | refine aqQ rfl rfl (fun hg => by first | exact std0 | exact std1) (by exact rfl) ?_)
   all_goals (first | (exfalso; omega) | skip)
   exact ⟨.inr rfl, Ent.b (list_eq_all hlen fun j hj => hall j (by omega)).symm⟩
theorem add1_spec (e : Ev) (ht : e.mark.text.length ≤ 9223372036854775807) : PCall Tryz.prog 59 [.agg (encE e)] (.b (!evOk e)) := by
 have v := formed_spec e ht
 refine PCall.body Tryz.func59 rfl rfl Tryz.ntmps59 rfl rfl ?_
 repeat' (first | refine aoQ rfl rfl rfl (fun hg => by first | exact std0 | exact pcW (v) rfl rfl nd rfl nds) (by exact rfl) ?_ | refine sqW ?_ | refine rgK (fun K' hK => ?_) | (refine aoN (hK _ _ ?_); clear hK K') | refine aoE (bxW rfl rfl rfl rfl rfl tI rfl rfl ?_) | refine rtW ?_)
 exact ⟨.inr rfl, Ent.b rfl⟩
abbrev tupEs (p : List Ev × Int) : AV := .tup [.sl 14 (p.1.map encE) .no, .int p.2]
theorem all_any (l : List Ev) : l.any (fun e => !evOk e) = !(l.all evOk) := by
 induction l with
 | nil => rfl
 | cons x l ih => rw [List.any_cons, zCa, ih, Bool.not_and]
theorem add_bad {l more : List Ev} (h : (validE l && more.all evOk) = false) : addE l more = ([], 1) := by unfold addE; rw [h]; rfl
theorem add_fork {l more : List Ev} (h : (validE l && more.all evOk) = true) (hf : ¬ NoFork (l ++ more)) : addE l more = ([], 61) := by unfold addE; rw [h, if_pos rfl, if_neg hf]
theorem add_long {l more : List Ev} (h : (validE l && more.all evOk) = true) (hf : NoFork (l ++ more)) (h2 : 20000 < (unE l more).length) : addE l more = ([], 2) := by unfold addE; rw [h, if_pos rfl, if_pos hf, if_neg (by omega)]
theorem add_good {l more : List Ev} (h : (validE l && more.all evOk) = true) (hf : NoFork (l ++ more)) (h2 : (unE l more).length ≤ 20000) : addE l more = (unE l more, 0) := by unfold addE; rw [h, if_pos rfl, if_pos hf, if_pos h2]
set_option maxHeartbeats 1600000 in
set_option maxRecDepth 20000 in
theorem eadd_spec (l more : List Ev) (h1 : Txt l) (h2 : Txt more) (hl : l.length ≤ 1000000000) (hm : more.length ≤ 1000000000) : PCall Tryz.prog 33 [.sl 14 (l.map encE) .no, .sl 14 (more.map encE) .no] (tupEs (addE l more)) := by
 have v := evalidL_spec l h1 hl
 have w := contEv_spec more (.fn (.func 59) [] []) (fun e => !evOk e) (fun x hx => ⟨_, [], [], rfl, add1_spec x (h2 x hx)⟩) hm
 rw [all_any] at w
 have hcl := TCall.val (first := []) (caps := []) (avs := [.sl 14 (more.map encE) .no]) (cloneEv_T more hm)
 have hs := TCall.val (first := []) (caps := []) (avs := [.sla 0 14 0 more.length 0, .fn (.func 62) [] []]) (sortET more hm)
 have hslen := sortE_len more
 have hmg := merged_spec l (sortE more) hl (by omega)
 have h0 := sort0_spec (.fn (.func 62) [] [])
 cases hb : (validE l && more.all evOk) with
 | false =>
   rw [add_bad hb]
   refine PCall.body Tryz.func33 rfl rfl Tryz.ntmps33 rfl rfl ?_
   repeat' (first | refine aoQ rfl rfl rfl (fun hg => by first | exact std0 | exact pcW (v) rfl rfl nd rfl nds | exact pcW (w) rfl rfl nd rfl nds) (by exact rfl) ?_ | refine sqW ?_ | refine rgK (fun K' hK => ?_) | (refine aoN (hK _ _ ?_); clear hK K') | refine cdN rfl tI (fun hc => ?_) (fun hc => ?_) | refine skW ?_ | refine rtW ?_)
   · exact ⟨.inr rfl, Ent.tup2 Ent.nil (Ent.rfl' _)⟩
   all_goals (exfalso; revert hc hb; cases validE l <;> cases more.all evOk <;> simp)
 | true =>
   have hb' := hb
   rw [zA2] at hb'
   obtain ⟨k1, k2⟩ := hb'
   rw [k1] at v
   rw [k2] at w
   have hu := merged_un (validE_iff.1 k1).2.1 (sortE_wk more) (sortE_perm more)
   rw [hu] at hmg
   refine PCall.body Tryz.func33 rfl rfl Tryz.ntmps33 rfl rfl ?_
   repeat' (first | refine aoQ rfl rfl rfl (fun hg => by first | exact std0 | exact pcW (v) rfl rfl nd rfl nds | exact pcW (w) rfl rfl nd rfl nds) (by exact rfl) ?_ | refine sqW ?_ | refine rgK (fun K' hK => ?_) | (refine aoN (hK _ _ ?_); clear hK K') | refine aoE (scT (hcl) rfl rfl rfl rfl rfl nd rfl rfl nds ?_) | refine cdN rfl tI (fun hc => ?_) (fun hc => ?_) | refine skW ?_ | refine rtW ?_)
   · exfalso; simp at hc
   rintro rv st (⟨g1, rfl, rfl⟩ | ⟨rfl, rfl⟩)
   · subst g1
     have hs0 : sortE [] = [] := zAr hslen
     rw [hs0] at hmg
     have hmg := PCall.nilAt [_] [_] hmg
     by_cases hf : NoFork (l ++ [])
     · rw [if_pos hf] at hmg
       dsimp only [mrgR] at hmg
       by_cases h2k : (unE l []).length ≤ 20000
       · have hR := add_good hb hf h2k
         repeat' (first | refine aoQ rfl rfl rfl (fun hg => by first | exact std0 | exact pcW (h0) rfl rfl nd rfl nds | exact pcW (hmg) rfl rfl nd rfl nds | exact std1) (by exact rfl) ?_ | refine sqW ?_ | refine rgK (fun K' hK => ?_) | (refine aoN (hK _ _ ?_); clear hK K') | refine cdN rfl tI (fun hc => ?_) (fun hc => ?_) | refine blK ?_ | refine skW ?_ | refine rtW ?_)
         all_goals first | (exfalso; simp at hc; done) | (exfalso; omega) | (refine ⟨.inr rfl, ?_⟩; rw [hR]; exact Ent.of rfl)
       · have hR := add_long hb hf (show 20000 < _ by omega)
         repeat' (first | refine aoQ rfl rfl rfl (fun hg => by first | exact std0 | exact pcW (h0) rfl rfl nd rfl nds | exact pcW (hmg) rfl rfl nd rfl nds | exact std1) (by exact rfl) ?_ | refine sqW ?_ | refine rgK (fun K' hK => ?_) | (refine aoN (hK _ _ ?_); clear hK K') | refine cdN rfl tI (fun hc => ?_) (fun hc => ?_) | refine blK ?_ | refine skW ?_ | refine rtW ?_)
         all_goals first | (exfalso; simp at hc; done) | (exfalso; omega) | (refine ⟨.inr rfl, ?_⟩; rw [hR]; exact Ent.tup2 Ent.nil (Ent.rfl' _))
     · rw [if_neg hf] at hmg
       dsimp only [mrgR] at hmg
       have hR := add_fork hb hf
       repeat' (first | refine aoQ rfl rfl rfl (fun hg => by first | exact std0 | exact pcW (h0) rfl rfl nd rfl nds | exact pcW (hmg) rfl rfl nd rfl nds | exact std1) (by exact rfl) ?_ | refine sqW ?_ | refine rgK (fun K' hK => ?_) | (refine aoN (hK _ _ ?_); clear hK K') | refine cdN rfl tI (fun hc => ?_) (fun hc => ?_) | refine blK ?_ | refine skW ?_ | refine rtW ?_)
       all_goals (first | exact dd | skip)
       all_goals first | (exfalso; simp at hc; done) | (exfalso; omega) | (refine ⟨.inr rfl, ?_⟩; rw [hR]; exact Ent.tup2 Ent.nil (Ent.rfl' _))
   · repeat' (first | refine aoQ rfl rfl rfl (fun hg => by exact std0) (by exact rfl) ?_ | refine sqW ?_ | refine rgK (fun K' hK => ?_) | (refine aoN (hK _ _ ?_); clear hK K') | refine aoE (scT (hs) rfl rfl rfl rfl rfl nd rfl rfl nds ?_))
     rintro rv st ⟨rfl, rfl⟩
     refine aoN (hK _ _ ?_)
     clear hK K'
     refine AWP.freezeA (d := 7) (l := 0) (sz := 14) (ver := 0) (es := (sortE more).map encE) (by show AV.sla 0 14 0 more.length 0 = _; rw [lLm, hslen]) rfl (pureE _) ?_
     by_cases hf : NoFork (l ++ more)
     · rw [if_pos hf] at hmg
       dsimp only [mrgR] at hmg
       by_cases h2k : (unE l more).length ≤ 20000
       · have hR := add_good hb hf h2k
         repeat' (first | refine aoQ rfl rfl rfl (fun hg => by first | exact std0 | exact pcW (hmg) rfl rfl nd rfl nds | exact std1) (by exact rfl) ?_ | refine sqW ?_ | refine rgK (fun K' hK => ?_) | (refine aoN (hK _ _ ?_); clear hK K') | refine cdN rfl tI (fun hc => ?_) (fun hc => ?_) | refine blK ?_ | refine skW ?_ | refine rtW ?_)
         all_goals first | (exfalso; simp at hc; done) | (exfalso; omega) | (refine ⟨.inr rfl, ?_⟩; rw [hR]; exact Ent.of rfl)
       · have hR := add_long hb hf (show 20000 < _ by omega)
         repeat' (first | refine aoQ rfl rfl rfl (fun hg => by first | exact std0 | exact pcW (hmg) rfl rfl nd rfl nds | exact std1) (by exact rfl) ?_ | refine sqW ?_ | refine rgK (fun K' hK => ?_) | (refine aoN (hK _ _ ?_); clear hK K') | refine cdN rfl tI (fun hc => ?_) (fun hc => ?_) | refine blK ?_ | refine skW ?_ | refine rtW ?_)
         all_goals first | (exfalso; simp at hc; done) | (exfalso; omega) | (refine ⟨.inr rfl, ?_⟩; rw [hR]; exact Ent.tup2 Ent.nil (Ent.rfl' _))
     · rw [if_neg hf] at hmg
       dsimp only [mrgR] at hmg
       have hR := add_fork hb hf
       repeat' (first | refine aoQ rfl rfl rfl (fun hg => by first | exact std0 | exact pcW (hmg) rfl rfl nd rfl nds | exact std1) (by exact rfl) ?_ | refine sqW ?_ | refine rgK (fun K' hK => ?_) | (refine aoN (hK _ _ ?_); clear hK K') | refine cdN rfl tI (fun hc => ?_) (fun hc => ?_) | refine blK ?_ | refine skW ?_ | refine rtW ?_)
       all_goals (first | exact dd | skip)
       all_goals first | (exfalso; simp at hc; done) | (exfalso; omega) | (refine ⟨.inr rfl, ?_⟩; rw [hR]; exact Ent.tup2 Ent.nil (Ent.rfl' _))
end Go.Proofs.YtbneeinknlddaaaGreat
namespace Go.Proofs.YtbneeinknlddaaaGreat
open Go.Ab Go.Jo
attribute [local irreducible] AWP AOps EStep AQ PStep PRun PCall TCall VCall DStep TDies AWD DCall
theorem list_T (σ : Store) (l : Nat) (es : List (List AV)) (hok : σ.all (okObj σ.length) = true) (hr : okRef σ.length 4 (.sl 1 es (.own l)) = true) : TCall Tryz.prog 95 [.sl 1 es (.own l)] σ (fun r s => r = .sl 1 es (.own l) ∧ s = σ) := by
 refine TCall.body Tryz.func95 rfl rfl Tryz.ntmps95 rfl rfl ?_
 repeat' (first | refine aoQ rfl rfl rfl (fun hg => by first | exact std0 | exact std1) (by exact rfl) ?_ | refine sqW ?_ | refine rgK (fun K' hK => ?_) | (refine aoN (hK _ _ ?_); clear hK K') | refine aoE (bxW rfl rfl rfl rfl rfl tI rfl rfl ?_) | refine aoE (stW tabOk rfl rfl rfl tI rfl rfl tI rfl rfl rfl rfl rfl rfl rfl ?_) | refine aoE (alW tabOk rfl rfl rfl rfl rfl rfl ?_) | refine cdN rfl tI (fun hc => ?_) (fun hc => ?_) | refine blK ?_ | refine exW ?_ | refine skW ?_ | refine rtW ?_ | refine dK2 (by decide +kernel) (by kernel_rfl) (by decide +kernel) rfl (fun K' hK => ?_) | refine dL2 (by kernel_rfl) (by decide +kernel) rfl (fun K' hK => ?_) | (refine aqN (hK _ ?_); clear hK K') | refine aqN ?_ | refine aqQ rfl rfl (fun hg => by first | exact std0 | exact std1) (by exact rfl) ?_)
 exact ⟨.inr rfl, _, _, ⟨rfl, rfl⟩, zB1, nLr _, hok, hr, rfl⟩
set_option maxHeartbeats 800000 in
set_option maxRecDepth 20000 in
theorem pints_spec (e : Ev) (ht : e.mark.text.length ≤ 300) : PCall Tryz.prog 77 [.agg (encE e)] (tupLI (intsR e).1 (intsR e).2) := by
 have v := right_spec e (by omega)
 have hsz : (⟨e.mark.text.toArray⟩ : ByteArray).size = e.mark.text.length := by simp [ByteArray.size]
 have t1 := TCall.val (first := []) (caps := []) (avs := [.sl 1 [[.int e.clock], [.int e.stand], [.int e.kind]] (.own 1)]) (list_T [.var (encE e), .own 1 3] 1 [[.int e.clock], [.int e.stand], [.int e.kind]] rfl rfl)
 have t2 := TCall.val (first := []) (caps := []) (avs := [.sl 1 (row9 e) (.own 3)]) (list_T [.var (encE e), .own 1 3, .var (Go.Proofs.YtbneeinknlddaaaGreat.encM e.mark), .own 1 9] 3 (row9 e) rfl rfl)
 cases h : evOk e with
 | false =>
   rw [h] at v
   rw [show intsR e = ([], 1) by unfold intsR; rw [h]; rfl]
   refine PCall.body Tryz.func77 rfl rfl Tryz.ntmps77 rfl rfl ?_
   repeat' (first | refine aoQ rfl rfl rfl (fun hg => by first | exact std0 | exact pcW (v) rfl rfl nd rfl nds | exact std1) (by exact rfl) ?_ | refine sqW ?_ | refine rgK (fun K' hK => ?_) | (refine aoN (hK _ _ ?_); clear hK K') | refine aoE (bxW rfl rfl rfl rfl rfl tI rfl rfl ?_) | refine aoE (stW tabOk rfl rfl rfl tI rfl rfl tI rfl rfl rfl rfl rfl rfl rfl ?_) | refine aoE (alW tabOk rfl rfl rfl rfl rfl rfl ?_) | refine cdN rfl tI (fun hc => ?_) (fun hc => ?_) | refine blK ?_ | refine exW ?_ | refine skW ?_ | refine rtW ?_ | refine dK2 (by decide +kernel) (by kernel_rfl) (by decide +kernel) rfl (fun K' hK => ?_) | refine dL2 (by kernel_rfl) (by decide +kernel) rfl (fun K' hK => ?_) | (refine aqN (hK _ ?_); clear hK K') | refine aqN ?_ | refine aqQ rfl rfl (fun hg => by first | exact std0 | exact pcW (v) rfl rfl nd rfl nds | exact std1) (by exact rfl) ?_)
   · exact ⟨.inr rfl, Ent.tup2 Ent.nil (Ent.rfl' _)⟩
   all_goals (exfalso; simp at hc; done)
 | true =>
   rw [h] at v
   rw [show intsR e = (ints e, 0) by unfold intsR; rw [h]; rfl]
   refine PCall.body Tryz.func77 rfl rfl Tryz.ntmps77 rfl rfl ?_
   repeat' (first | refine aoQ rfl rfl rfl (fun hg => by first | exact std0 | exact pcW (v) rfl rfl nd rfl nds | exact std1) (by exact rfl) ?_ | refine sqW ?_ | refine rgK (fun K' hK => ?_) | (refine aoN (hK _ _ ?_); clear hK K') | refine aoE (bxW rfl rfl rfl rfl rfl tI rfl rfl ?_) | refine aoE (stW tabOk rfl rfl rfl tI rfl rfl tI rfl rfl rfl rfl rfl rfl rfl ?_) | refine aoE (alW tabOk rfl rfl rfl rfl rfl rfl ?_) | refine aoE (scT (t1) rfl rfl rfl rfl rfl nd rfl rfl nds ?_) | refine aoE (EStep.buildOwn (m := 3) tabOk rfl rfl rfl rfl rfl ⟨tI, tI, tI, tI⟩ (pureAll rfl) ?_) | refine cdN rfl tI (fun hc => ?_) (fun hc => ?_) | refine blK ?_ | refine exW ?_ | refine skW ?_ | refine rtW ?_ | refine dK2 (by decide +kernel) (by kernel_rfl) (by decide +kernel) rfl (fun K' hK => ?_) | refine dL2 (by kernel_rfl) (by decide +kernel) rfl (fun K' hK => ?_) | (refine aqN (hK _ ?_); clear hK K') | refine aqN ?_ | refine aqQ rfl rfl (fun hg => by first | exact std0 | exact pcW (v) rfl rfl nd rfl nds | exact std1) (by exact rfl) ?_)
   · exfalso; simp at hc
   rintro _ _ ⟨rfl, rfl⟩
   clear hc
   repeat' (first | refine aoQ rfl rfl rfl (fun hg => by first | exact std0 | exact std1) (by exact rfl) ?_ | refine sqW ?_ | refine rgK (fun K' hK => ?_) | (refine aoN (hK _ _ ?_); clear hK K') | refine aoE (bxW rfl rfl rfl rfl rfl tI rfl rfl ?_) | refine aoE (stW tabOk rfl rfl rfl tI rfl rfl tI rfl rfl rfl rfl rfl rfl rfl ?_) | refine aoE (alW tabOk rfl rfl rfl rfl rfl rfl ?_) | refine aoE (scT (t2) rfl rfl rfl rfl rfl nd rfl rfl nds ?_) | refine aoE (apO tabOk rfl rfl rfl (by decide) (Rd.w rfl tI) rfl (Rd.w rfl tI) (.sl rfl (by first | (intro x hx; rcases zAa.1 hx with rfl; rfl) | exact one_by8 _ | exact one_ints _)) (LOk.of (tabOk.get rfl)) (LOk.of (tabOk.get rfl)) rfl rfl (by simp only [lLm, lLa, zA1, zA9]; omega) (by simp only [lLm, lLa, zA1, zA9]; omega) ?_) | refine aoE (EStep.buildOwn (m := 9) (sz := 1) (es := row9 e) tabOk rfl rfl rfl rfl (by kernel_rfl) T10 (pureAll rfl) ?_) | refine aoE (EStep.buildOwn (m := 1) tabOk rfl rfl rfl rfl rfl ⟨tI, tI⟩ (pureAll rfl) ?_) | refine cdN rfl tI (fun hc => ?_) (fun hc => ?_) | refine blK ?_ | refine exW ?_ | refine skW ?_ | refine rtW ?_ | refine dK2 (by decide +kernel) (by kernel_rfl) (by decide +kernel) rfl (fun K' hK => ?_) | refine dL2 (by kernel_rfl) (by decide +kernel) rfl (fun K' hK => ?_) | (refine aqN (hK _ ?_); clear hK K') | refine aqN ?_ | refine aqQ rfl rfl (fun hg => by first | exact std0 | exact std1) (by exact rfl) ?_)
   · refine ⟨.inr rfl, Ent.of ?_⟩
     rw [ints_other (by simpa using hc)]; rfl
   rintro _ _ ⟨rfl, rfl⟩
   have h1 : e.kind = 1 := by simpa using hc
   clear hc
   repeat' (first | refine aoQ rfl rfl rfl (fun hg => by first | exact std0 | exact PRun.strBytes tabOk rfl rfl nd rfl rfl rfl | exact std1) (by exact rfl) ?_ | refine sqW ?_ | refine rgK (fun K' hK => ?_) | (refine aoN (hK _ _ ?_); clear hK K') | refine aoE (bxW rfl rfl rfl rfl rfl tI rfl rfl ?_) | refine aoE (stW tabOk rfl rfl rfl tI rfl rfl tI rfl rfl rfl rfl rfl rfl rfl ?_) | refine aoE (alW tabOk rfl rfl rfl rfl rfl rfl ?_) | refine aoE (apO tabOk rfl rfl rfl (by decide) (Rd.w rfl tI) rfl (Rd.w rfl tI) (.sl rfl (Go.Ab.one_cell rfl)) (LOk.of (tabOk.get rfl)) (LOk.of (tabOk.get rfl)) rfl rfl (by simp only [lLm, lLa, zA1, zA9]; omega) (by simp only [lLm, lLa, zA1, zA9]; omega) ?_) | refine cdN rfl tI (fun hc => ?_) (fun hc => ?_) | refine blK ?_ | refine exW ?_ | refine skW ?_ | refine rtW ?_ | refine dK2 (by decide +kernel) (by kernel_rfl) (by decide +kernel) rfl (fun K' hK => ?_) | refine dL2 (by kernel_rfl) (by decide +kernel) rfl (fun K' hK => ?_) | (refine aqN (hK _ ?_); clear hK K') | refine aqN ?_ | refine aqQ rfl rfl (fun hg => by first | exact std0 | exact PRun.strBytes tabOk rfl rfl nd rfl rfl rfl | exact std1) (by exact rfl) ?_)
   refine lpW (ι := Nat) (fun k => [(4, .sl 1 ((ints12 e ++ (txt e.mark.text).take k).map encN) (.own 1)), (56, .sl 1 (e.mark.text.map by8) .no), (57, .int e.mark.text.length), (58, .int k)]) (fun k => [.var (encE e), .own 1 ((ints12 e ++ (txt e.mark.text).take k).map encN).length, .var (Go.Proofs.YtbneeinknlddaaaGreat.encM e.mark), .own 1 9]) (fun k => k ≤ e.mark.text.length) (fun k => e.mark.text.length - k) 0 (nZl _) ⟨rfl, rfl, by simp only [zBo]; rfl, rfl, tI⟩ rfl ?_
   intro k hk
   have hl : ((ints12 e ++ (txt e.mark.text).take k).map encN).length ≤ 400 := by
    simp [ints12, txt]; omega
   by_cases hlt : k < e.mark.text.length
   · have ht' := txt_take hlt
     have e1 : ints12 e ++ (txt e.mark.text).take (k + 1) = (ints12 e ++ (txt e.mark.text).take k) ++ [((e.mark.text.getD k 0).toNat : Int)] := by rw [ht', zBf]
     have e2 : (ints12 e ++ (txt e.mark.text).take (k + 1)).map encN = (ints12 e ++ (txt e.mark.text).take k).map encN ++ [encN ((e.mark.text.getD k 0).toNat : Int)] := by rw [e1, zB3]; rfl
     repeat' (first | refine aoQ rfl rfl rfl (fun hg => by first | exact PRun.convV tabOk (cv8 _) rfl rfl nd rfl rfl | exact std0 | exact pbS tabOk rfl rfl nds | exact std1) (by exact rfl) ?_ | refine sqW ?_ | refine rgK (fun K' hK => ?_) | (refine aoN (hK _ _ ?_); clear hK K') | refine aoE (bxW rfl rfl rfl rfl rfl tI rfl rfl ?_) | refine aoE (stW tabOk rfl rfl rfl tI rfl rfl tI rfl rfl rfl rfl rfl rfl rfl ?_) | refine aoE (alW tabOk rfl rfl rfl rfl rfl rfl ?_) | refine aoE (apO tabOk rfl rfl rfl (by decide) (Rd.w rfl tI) rfl (Rd.w rfl tI) (.sl rfl (by intro x hx; rcases zAa.1 hx with rfl; rfl)) (LOk.of (tabOk.get rfl)) (LOk.of (tabOk.get rfl)) rfl rfl (by simp only [zA1, zA9]; omega) (by simp only [zA1, zA9]; omega) ?_) | refine cdN rfl tI (fun hc => ?_) (fun hc => ?_) | refine blK ?_ | refine exW ?_ | refine skW ?_ | refine rtW ?_ | refine dK2 (by decide +kernel) (by kernel_rfl) (by decide +kernel) rfl (fun K' hK => ?_) | refine dL2 (by kernel_rfl) (by decide +kernel) rfl (fun K' hK => ?_) | (refine aqN (hK _ ?_); clear hK K') | refine aqN ?_ | refine aqQ rfl rfl (fun hg => by first | exact PRun.convV tabOk (cv8 _) rfl rfl nd rfl rfl | exact std0 | exact pbS tabOk rfl rfl nds | exact std1) (by exact rfl) ?_)
     · refine ⟨k + 1, by omega, by omega, ⟨?_, rfl, rfl, rfl, tI⟩, ?_⟩
       · rw [e2]; rfl
       · rw [e2]; rfl
     · exfalso; omega
   · repeat' (first | refine aoQ rfl rfl rfl (fun hg => by first | exact std0 | exact std1) (by exact rfl) ?_ | refine sqW ?_ | refine rgK (fun K' hK => ?_) | (refine aoN (hK _ _ ?_); clear hK K') | refine aoE (bxW rfl rfl rfl rfl rfl tI rfl rfl ?_) | refine aoE (stW tabOk rfl rfl rfl tI rfl rfl tI rfl rfl rfl rfl rfl rfl rfl ?_) | refine aoE (alW tabOk rfl rfl rfl rfl rfl rfl ?_) | refine cdN rfl tI (fun hc => ?_) (fun hc => ?_) | refine blK ?_ | refine exW ?_ | refine skW ?_ | refine rtW ?_ | refine dK2 (by decide +kernel) (by kernel_rfl) (by decide +kernel) rfl (fun K' hK => ?_) | refine dL2 (by kernel_rfl) (by decide +kernel) rfl (fun K' hK => ?_) | (refine aqN (hK _ ?_); clear hK K') | refine aqN ?_ | refine aqQ rfl rfl (fun hg => by first | exact std0 | exact std1) (by exact rfl) ?_)
     · exfalso; omega
     · have hkl : k = e.mark.text.length := by omega
       subst hkl
       refine ⟨.inr rfl, Ent.of ?_⟩
       have e3 : ints12 e ++ txt e.mark.text = ints12 e ++ (txt e.mark.text).take e.mark.text.length := by rw [txt_all]
       rw [ints_mark h1, e3]; rfl
end Go.Proofs.YtbneeinknlddaaaGreat
