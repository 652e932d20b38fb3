/- SyncCrashes by content: for every tablet, event and byte the function returns true. The row is joined in another text. No statement is proved here. -/
import Derived.Test.YtbneeinknlddaaaGreatP17
import Derived.Test.YtbneeinknlddaaaGreatP29
set_option linter.unusedVariables false
set_option linter.unusedSimpArgs false
namespace Go.Ab
theorem PRun.remV {P : Program} {o : Oper} {env : Env} {σ : Store} {t t' : TypeId} {x y : Operand} {k : IntKind} {a b r : Int} (h : a.tmod b = r) (hb : b ≠ 0) (ho : o.op = .binOp .rem t x y t') (hx : rdv env x = some (.prim (.int k a))) (nx : rdn env x) (hy : rdv env y = some (.prim (.int k b))) (ny : rdn env y) :
 PRun P o env σ (.prim (.int k r)) := h ▸ PRun.rem ho (Rd.w hx nx) (Rd.w hy ny) hb
end Go.Ab
namespace Go.Proofs.YtbneeinknlddaaaGreat
open Go.Ab Go.Jo Go.Sy
attribute [local irreducible] AWP AOps EStep AQ PStep PRun PCall TCall VCall DStep TDies AWD DCall
theorem rem_in {a b : Int} (ha : 0 ≤ a) (hb : 0 < b) : 0 ≤ a.tmod b ∧ a.tmod b < b := ⟨Int.tmod_nonneg _ ha, Int.tmod_lt_of_pos _ hb⟩
theorem sameNo_spec : PCall Tryz.prog 10 [.agg (encTab noTab), .agg zeroTab] (.b true) := by
 have h := same42_spec noTab noTab (nZl _) (nZl _) (nZl _) (nZl _)
 rw [decide_eq_true rfl] at h
 exact PCall.entAt [_] [] ent_no h
theorem usableT_in {t : Sy.Tab} (h : usableT t = true) : validT t = true := by
 unfold usableT at h
 rw [zA0] at h
 exact h.2
set_option maxHeartbeats 6400000 in
set_option maxRecDepth 20000 in
theorem crashes_law (t : Sy.Tab) (ht : Txt t.s.evs) (x : Ev) (hx : x.mark.text.length ≤ 9223372036854775807) (cut : Int) (hcut : 0 ≤ cut ∧ cut ≤ 65535) : PCall Tryz.prog 3 [.agg (encTab t), .agg (encE x), .prim (.int .u16 cut)] (.b true) := by
 have hh := head_spec
 have hu := usable_spec t ht
 cases hA : (usableT t && t.up) with
 | false =>
   refine PCall.body Tryz.func3 rfl rfl Tryz.ntmps3 rfl rfl ?_
   repeat' (first | refine aoQ rfl rfl rfl (fun hg => by first | exact std0 | exact pcW (hh) rfl rfl nd rfl nds | exact pcW (hu) rfl rfl nd rfl nds | fail) (by exact rfl) ?_ | refine sqW ?_ | refine rgK (fun K' hK => ?_) | (refine aoN (hK _ _ ?_); clear hK K') | refine aoE (bxW rfl rfl rfl rfl rfl tI rfl rfl ?_) | refine cdN rfl tI (fun hc => ?_) (fun hc => ?_) | refine skW ?_ | refine rtW ?_)
   · exact ⟨.inr rfl, Ent.b rfl⟩
   all_goals
    exfalso
    have hc2 : (!usableT t || !t.up) = false := by first | assumption | (rename_i g; exact g)
    revert hA hc2
    cases usableT t <;> cases t.up <;> simp
 | true =>
   have hd : (!usableT t || !t.up) = false := by revert hA; cases usableT t <;> cases t.up <;> simp
   have hv := usableT_in (t := t) (by revert hA; cases usableT t <;> simp)
   have w := write_spec t (tabIn_of hv) x hx
   by_cases h0 : (writeT t x).2 = 0
   · obtain ⟨W, hW⟩ : ∃ W, writeT t x = (W, 0) := ⟨_, pair_eta h0⟩
     rw [hW] at w
     change PCall _ _ _ (.tup [.agg (encTab W), .int 0]) at w
     obtain ⟨l1, l2, l3, l4⟩ := crash_law hW
     have hWb := (tabIn_of l1).b
     have htb := (tabIn_of hv).b
     have hr := rem_in hcut.1 (show 0 < (W.b.length : Int) - W.sure + 1 by omega)
     obtain ⟨c, v, k1, k2, k3, k4, k5, k6, k7, k8⟩ := l4 (W.sure + cut.tmod ((W.b.length : Int) - W.sure + 1)) (by omega) (by omega)
     have hconv : IntKind.i64.wrap cut = cut := by rw [IntKind.wrap_i64]; omega
     obtain ⟨r, hrem⟩ : ∃ r, cut.tmod ((W.b.length : Int) - W.sure + 1) = r := ⟨_, rfl⟩
     rw [hrem] at k1 k7 k8 hr
     have y1 := tvalid_spec W (tabIn_of l1)
     have y2 := crash_spec W (tabIn_of l1) (W.sure + r)
     have y3 := wake_spec c (tabIn_of k5)
     have y4 := tvalid_spec c (tabIn_of k5)
     have y5 := tvalid_spec v (tabIn_of k6)
     rw [l1] at y1
     rw [k1] at y2
     rw [k2] at y3
     change PCall _ _ _ (.tup [.agg (encTab c), .int 0]) at y2
     change PCall _ _ _ (.tup [.agg (encTab v), .int 0]) at y3
     rw [k5] at y4
     rw [k6] at y5
     have hne : (W.sure != ((t.b.length : Nat) : Int)) = false := by rw [bne_eq_false_iff_eq]; exact l2
     by_cases hn : W.sure + r = (W.b.length : Int)
     · have y6 := same42_spec { v with sure := W.sure } W (tabIn_of k6).evs (tabIn_of l1).evs (tabIn_of k6).b (tabIn_of l1).b
       rw [decide_eq_true (k7 hn)] at y6
       refine PCall.body Tryz.func3 rfl rfl Tryz.ntmps3 rfl rfl ?_
       repeat' (first | refine aoQ rfl rfl rfl (fun hg => by first | exact std0 | exact pcW (hh) rfl rfl nd rfl nds | exact pcW (hu) rfl rfl nd rfl nds | exact pcW (w) rfl rfl nd rfl nds | exact pcW (y1) rfl rfl nd rfl nds | exact pcW (y2) rfl rfl nd rfl nds | exact pcW (y3) rfl rfl nd rfl nds | exact pcW (y4) rfl rfl nd rfl nds | exact pcW (y5) rfl rfl nd rfl nds | exact pcW (y6) rfl rfl nd rfl nds | exact std1) (by exact rfl) ?_ | refine sqW ?_ | refine rgK (fun K' hK => ?_) | (refine aoN (hK _ _ ?_); clear hK K') | refine aoE (bxW rfl rfl rfl rfl rfl tI rfl rfl ?_) | refine aoE (stW tabOk rfl rfl rfl tI rfl rfl tI rfl rfl rfl rfl rfl rfl rfl ?_) | refine aoE (alW tabOk rfl rfl rfl rfl rfl rfl ?_) | refine cdN rfl tI (fun hc => ?_) (fun hc => ?_) | refine skW ?_ | refine rtW ?_ | refine dK2 (by decide +kernel) (by kernel_rfl) (by decide +kernel) rfl (fun K' hK => ?_) | (refine aqN (hK _ ?_); clear hK K') | refine aqQ rfl rfl (fun hg => by first | exact PRun.remV hrem (by omega) rfl rfl nd rfl nd | exact PRun.convV tabOk hconv rfl rfl nd rfl rfl | exact std0 | exact std1) (by exact rfl) ?_)
       all_goals first | (exfalso; rw [hd] at hc; cases hc) | (exfalso; simp at hc; done) | (exfalso; rw [hne] at hc; simp at hc; omega) | (exfalso; simp [k3, k4] at hc; done) | (exfalso; simp at hc; omega) | skip
       exact ⟨.inr rfl, Ent.b rfl⟩
     · obtain ⟨q1, q2, q3⟩ := k8 hn
       have y6 := same22_spec v.s.evs t.s.evs (tabIn_of k6).evs (tabIn_of hv).evs
       rw [show (v.s.evs == t.s.evs) = true by rw [q1]; exact beq_self_eq_true _] at y6
       refine PCall.body Tryz.func3 rfl rfl Tryz.ntmps3 rfl rfl ?_
       repeat' (first | refine aoQ rfl rfl rfl (fun hg => by first | exact std0 | exact pcW (hh) rfl rfl nd rfl nds | exact pcW (hu) rfl rfl nd rfl nds | exact pcW (w) rfl rfl nd rfl nds | exact pcW (y1) rfl rfl nd rfl nds | exact pcW (y2) rfl rfl nd rfl nds | exact pcW (y3) rfl rfl nd rfl nds | exact pcW (y4) rfl rfl nd rfl nds | exact pcW (y5) rfl rfl nd rfl nds | exact pcW (y6) rfl rfl nd rfl nds | exact std1) (by exact rfl) ?_ | refine sqW ?_ | refine rgK (fun K' hK => ?_) | (refine aoN (hK _ _ ?_); clear hK K') | refine aoE (bxW rfl rfl rfl rfl rfl tI rfl rfl ?_) | refine aoE (stW tabOk rfl rfl rfl tI rfl rfl tI rfl rfl rfl rfl rfl rfl rfl ?_) | refine aoE (alW tabOk rfl rfl rfl rfl rfl rfl ?_) | refine cdN rfl tI (fun hc => ?_) (fun hc => ?_) | refine skW ?_ | refine rtW ?_ | refine dK2 (by decide +kernel) (by kernel_rfl) (by decide +kernel) rfl (fun K' hK => ?_) | (refine aqN (hK _ ?_); clear hK K') | refine aqQ rfl rfl (fun hg => by first | exact PRun.remV hrem (by omega) rfl rfl nd rfl nd | exact PRun.convV tabOk hconv rfl rfl nd rfl rfl | exact std0 | exact std1) (by exact rfl) ?_)
       all_goals first | (exfalso; rw [hd] at hc; cases hc) | (exfalso; simp at hc; done) | (exfalso; rw [hne] at hc; simp at hc; omega) | (exfalso; simp [k3, k4] at hc; done) | (exfalso; simp at hc; omega) | skip
       refine ⟨.inr rfl, Ent.b ?_⟩
       show (((true && true) && (v.s.known == t.s.known)) && (v.sure == ((v.b.length : Nat) : Int))) = true
       rw [q2, q3]; simp
   · have hno := write_wrong h0
     generalize writeT t x = W at *
     obtain ⟨W1, W2⟩ := W
     dsimp only at h0 hno w
     subst hno
     have y6 := sameNo_spec
     refine PCall.body Tryz.func3 rfl rfl Tryz.ntmps3 rfl rfl ?_
     repeat' (first | refine aoQ rfl rfl rfl (fun hg => by first | exact std0 | exact pcW (hh) rfl rfl nd rfl nds | exact pcW (hu) rfl rfl nd rfl nds | fail) (by exact rfl) ?_ | refine sqW ?_ | refine rgK (fun K' hK => ?_) | (refine aoN (hK _ _ ?_); clear hK K') | refine aoE (bxW rfl rfl rfl rfl rfl tI rfl rfl ?_))
     refine cdW rfl tI (fun hc => ?_) (fun hc => ?_)
     · exfalso; rw [hd] at hc; cases hc
     repeat' (first | refine aoQ rfl rfl rfl (fun hg => by first | exact std0 | exact pcW (w) rfl rfl nd rfl nds | fail) (by exact rfl) ?_ | refine sqW ?_ | refine rgK (fun K' hK => ?_) | (refine aoN (hK _ _ ?_); clear hK K') | refine aoE (stW tabOk rfl rfl rfl tI rfl rfl tI rfl rfl rfl rfl rfl rfl rfl ?_) | refine aoE (alW tabOk rfl rfl rfl rfl rfl rfl ?_) | refine skW ?_)
     refine cdW rfl tI (fun hc => ?_) (fun hc => ?_)
     · repeat' (first | refine aoQ rfl rfl rfl (fun hg => by first | exact std0 | exact pcW (y6) rfl rfl nd rfl nds | exact pbD tabOk rfl rfl nds) (by exact rfl) ?_ | refine sqW ?_ | refine rgK (fun K' hK => ?_) | (refine aoN (hK _ _ ?_); clear hK K') | refine rtW ?_)
       exact ⟨.inr rfl, Ent.b rfl⟩
     · exfalso; exact h0 (by simpa using hc)
end Go.Proofs.YtbneeinknlddaaaGreat
