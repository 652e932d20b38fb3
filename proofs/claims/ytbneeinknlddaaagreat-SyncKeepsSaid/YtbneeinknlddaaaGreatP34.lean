/- SyncKeeps by content: for every two tablets, event and byte the function returns true. The row is joined in another text. No statement is proved here. -/
import Derived.Test.YtbneeinknlddaaaGreatP30
import Derived.Test.YtbneeinknlddaaaGreatP33
set_option linter.unusedVariables false
set_option linter.unusedSimpArgs false
namespace Go.Proofs.YtbneeinknlddaaaGreat
open Go.Ab Go.Jo Go.Sy
attribute [local irreducible] AWP AOps EStep AQ PStep PRun PCall TCall VCall DStep TDies AWD DCall
theorem mem_take_step {l : List Ev} {k : Nat} (h : k < l.length) (y : Ev) : decide (y ∈ l.take (k + 1)) = (decide (y ∈ l.take k) || eqE y (l.getD k default)) := by
 rw [eqE_eq, getD_lt' h, zBf, decide_eq_true_iff, zAm, decide_eq_true_iff, beq_iff_eq, zAu h, zAh, zA9]
set_option maxHeartbeats 6400000 in
set_option maxRecDepth 20000 in
theorem keeps_law (t u : Sy.Tab) (ht : Txt t.s.evs) (hu : Txt u.s.evs) (x : Ev) (hx : x.mark.text.length ≤ 9223372036854775807) (cut : Int) (hcut : 0 ≤ cut ∧ cut ≤ 65535) : PCall Tryz.prog 5 [.agg (encTab t), .agg (encTab u), .agg (encE x), .prim (.int .u16 cut)] (.b true) := by
 have hh := head_spec
 have h1 := usable_spec t ht
 have h2 := usable_spec u hu
 cases hA : (usableT t && usableT u) with
 | false =>
   refine PCall.body Tryz.func5 rfl rfl Tryz.ntmps5 rfl rfl ?_
   repeat' (first | refine aoQ rfl rfl rfl (fun hg => by first | exact std0 | exact pcW (hh) rfl rfl nd rfl nds | exact pcW (h1) rfl rfl nd rfl nds | exact pcW (h2) rfl rfl nd rfl nds | fail) (by exact rfl) ?_ | refine sqW ?_ | refine rgK (fun K' hK => ?_) | (refine aoN (hK _ _ ?_); clear hK K') | refine aoE (bxW rfl rfl rfl rfl rfl tI rfl rfl ?_))
   refine cdW rfl tI (fun hc => ?_) (fun hc => ?_)
   · repeat' (first | refine aoQ rfl rfl rfl (fun hg => by exact std0) (by exact rfl) ?_ | refine sqW ?_ | refine rgK (fun K' hK => ?_) | (refine aoN (hK _ _ ?_); clear hK K') | refine rtW ?_)
     exact ⟨.inr rfl, Ent.b rfl⟩
   · exfalso
     have hc2 : (!usableT t || !usableT u) = false := hc
     revert hA hc2
     cases usableT t <;> cases usableT u <;> simp
 | true =>
   have hd : (!usableT t || !usableT u) = false := by revert hA; cases usableT t <;> cases usableT u <;> simp
   have hv := usableT_in (t := t) (by revert hA; cases usableT t <;> simp)
   have hw := usableT_in (t := u) (by revert hA; cases usableT t <;> cases usableT u <;> simp)
   have x1 := exch_spec t u (tabIn_of hv) (tabIn_of hw)
   by_cases h0 : (exchT t u).2.2 = 0
   · obtain ⟨l1, l2, l3, l4, l5, l6⟩ := exch_law h0
     obtain ⟨A, hAe⟩ : ∃ A, A = (exchT t u).1 := ⟨_, rfl⟩
     obtain ⟨W, hW⟩ : ∃ W, W = if (writeT A x).2 = 0 then (writeT A x).1 else A := ⟨_, rfl⟩
     obtain ⟨n1, n2, n3⟩ := keeps h0 x hAe hW
     rw [← hAe] at l5
     have hvW : validT W = true := by
      rw [hW]
      split
      · rename_i g
        exact (crash_law (pair_eta g)).1
      · exact l5
     have hwr := write_spec A (tabIn_of l5) x hx
     generalize writeT A x = R at *
     obtain ⟨B, hBe⟩ : ∃ B, B = (exchT t u).2.1 := ⟨_, rfl⟩
     rw [trip_eta h0, ← hAe, ← hBe] at x1
     change PCall _ _ _ (.tup [.agg (encTab A), .agg (encTab B), .int 0]) at x1
     have hr := rem_in hcut.1 (show 0 < (W.b.length : Int) - W.sure + 1 by omega)
     obtain ⟨r, hrem⟩ : ∃ r, cut.tmod ((W.b.length : Int) - W.sure + 1) = r := ⟨_, rfl⟩
     rw [hrem] at hr
     obtain ⟨c, v, k1, k2, k3⟩ := n3 (W.sure + r) (by omega) (by omega)
     have hvc : validT c = true := by
      cases g : validT c with
      | true => rfl
      | false => unfold wakeT at k2; rw [g, if_neg (by decide)] at k2; cases k2
     have hWb := (tabIn_of hvW).b
     have hAv := (tabIn_of l5).evs
     have hconv : IntKind.i64.wrap cut = cut := by rw [IntKind.wrap_i64]; omega
     have y2 := crash_spec W (tabIn_of hvW) (W.sure + r)
     have y3 := wake_spec c (tabIn_of hvc)
     rw [k1] at y2
     rw [k2] at y3
     change PCall _ _ _ (.tup [.agg (encTab c), .int 0]) at y2
     change PCall _ _ _ (.tup [.agg (encTab v), .int 0]) at y3
     have hvl : v.s.evs.length ≤ 1000000000 := by
      have h := (said_len c.b (tabIn_of hvc).b).2.1
      unfold wakeT at k2
      rw [hvc, if_pos rfl] at k2
      split at k2
      · cases k2
      · have : v.s.evs = (saidE c.b).1 := by rw [← (Prod.mk.inj k2).1]
        rw [this]; omega
     clear n3 l1 l2 l3 l4 l6 hAe hBe k1 k2
     refine PCall.body Tryz.func5 rfl rfl Tryz.ntmps5 rfl rfl ?_
     repeat' (first | refine aoQ rfl rfl rfl (fun hg => by first | exact std0 | exact pcW (hh) rfl rfl nd rfl nds | exact pcW (h1) rfl rfl nd rfl nds | exact pcW (h2) rfl rfl nd rfl nds | fail) (by exact rfl) ?_ | refine sqW ?_ | refine rgK (fun K' hK => ?_) | (refine aoN (hK _ _ ?_); clear hK K') | refine aoE (bxW rfl rfl rfl rfl rfl tI rfl rfl ?_))
     refine cdW rfl tI (fun hc => ?_) (fun hc => ?_)
     · exfalso; rw [hd] at hc; cases hc
     repeat' (first | refine aoQ rfl rfl rfl (fun hg => by first | exact std0 | exact pcW (x1) rfl rfl nd rfl nds | fail) (by exact rfl) ?_ | refine sqW ?_ | refine rgK (fun K' hK => ?_) | (refine aoN (hK _ _ ?_); clear hK K') | refine aoE (stW tabOk rfl rfl rfl tI rfl rfl tI rfl rfl rfl rfl rfl rfl rfl ?_) | refine aoE (alW tabOk rfl rfl rfl rfl rfl rfl ?_) | refine skW ?_)
     refine cdW rfl tI (fun hc => ?_) (fun hc => ?_)
     · exfalso; simp at hc
     repeat' (first | refine aoQ rfl rfl rfl (fun hg => by first | exact std0 | exact pcW (hwr) rfl rfl nd rfl nds | fail) (by exact rfl) ?_ | refine sqW ?_ | refine rgK (fun K' hK => ?_) | (refine aoN (hK _ _ ?_); clear hK K') | refine aoE (stW tabOk rfl rfl rfl tI rfl rfl tI rfl rfl rfl rfl rfl rfl rfl ?_) | refine aoE (alW tabOk rfl rfl rfl rfl rfl rfl ?_) | refine skW ?_)
     refine cdW rfl tI (fun hc => ?_) (fun hc => ?_)
     · have hWA : A = W := by rw [hW, if_neg (by simpa using hc)]
       subst hWA
       repeat' (first | refine aoQ rfl rfl rfl (fun hg => by exact std0) (by exact rfl) ?_ | refine sqW ?_ | refine rgK (fun K' hK => ?_) | (refine aoN (hK _ _ ?_); clear hK K') | refine aoE (stW tabOk rfl rfl rfl tI rfl rfl tI rfl rfl rfl rfl rfl rfl rfl ?_))
       refine AWP.drawY (fun j => match j with | 0 => [.var (encTab t), .var (encTab u), .var (encE x), .var (encTab A), .var (encTab B), .var (encTab A)] | 1 => [.var (encTab t), .var (encTab u), .var (encE x), .var (encTab A), .var (encTab B), .var (encTab A), .var zeroTab] | _ => [.var (encTab t), .var (encTab u), .var (encE x), .var (encTab A), .var (encTab B), .var (encTab A), .var (encTab c)]) rfl (by kernel_rfl) (by decide +kernel) rfl (by decide +kernel) (fun K' hK => ?_)
       repeat' (first
        | refine yqQ (a := 0) (b := 0) rfl (by decide +kernel) (by decide +kernel) rfl rfl rfl (fun k h1 h2 hg => by (have hk : k = 0 := (by omega)); (rcases hk with rfl) <;> (first | exact PRun.remV hrem (by omega) rfl rfl nd rfl nd | exact PRun.convV tabOk hconv rfl rfl nd rfl rfl | exact std0 | exact pcW (y2) rfl rfl nd rfl nds | exact std1)) (by exact rfl) ?_
        | refine yqQ (a := 0) (b := 1) rfl (by decide +kernel) (by decide +kernel) rfl rfl rfl (fun k h1 h2 hg => by (have hk : k = 0 ∨ k = 1 := (by omega)); (rcases hk with rfl | rfl) <;> (first | exact PRun.remV hrem (by omega) rfl rfl nd rfl nd | exact PRun.convV tabOk hconv rfl rfl nd rfl rfl | exact std0 | exact pcW (y2) rfl rfl nd rfl nds | exact std1)) (by exact rfl) ?_
        | refine yqQ (a := 1) (b := 1) rfl (by decide +kernel) (by decide +kernel) rfl rfl rfl (fun k h1 h2 hg => by (have hk : k = 1 := (by omega)); (rcases hk with rfl) <;> (first | exact PRun.remV hrem (by omega) rfl rfl nd rfl nd | exact PRun.convV tabOk hconv rfl rfl nd rfl rfl | exact std0 | exact pcW (y2) rfl rfl nd rfl nds | exact std1)) (by exact rfl) ?_
        | refine yqQ (a := 0) (b := 2) rfl (by decide +kernel) (by decide +kernel) rfl rfl rfl (fun k h1 h2 hg => by (have hk : k = 0 ∨ k = 1 ∨ k = 2 := (by omega)); (rcases hk with rfl | rfl | rfl) <;> (first | exact PRun.remV hrem (by omega) rfl rfl nd rfl nd | exact PRun.convV tabOk hconv rfl rfl nd rfl rfl | exact std0 | exact pcW (y2) rfl rfl nd rfl nds | exact std1)) (by exact rfl) ?_
        | refine yqQ (a := 1) (b := 2) rfl (by decide +kernel) (by decide +kernel) rfl rfl rfl (fun k h1 h2 hg => by (have hk : k = 1 ∨ k = 2 := (by omega)); (rcases hk with rfl | rfl) <;> (first | exact PRun.remV hrem (by omega) rfl rfl nd rfl nd | exact PRun.convV tabOk hconv rfl rfl nd rfl rfl | exact std0 | exact pcW (y2) rfl rfl nd rfl nds | exact std1)) (by exact rfl) ?_
        | refine yqQ (a := 2) (b := 2) rfl (by decide +kernel) (by decide +kernel) rfl rfl rfl (fun k h1 h2 hg => by (have hk : k = 2 := (by omega)); (rcases hk with rfl) <;> (first | exact PRun.remV hrem (by omega) rfl rfl nd rfl nd | exact PRun.convV tabOk hconv rfl rfl nd rfl rfl | exact std0 | exact pcW (y2) rfl rfl nd rfl nds | exact std1)) (by exact rfl) ?_)
       refine YQ.e (v := .ptr 6 0) (d := some 15) rfl rfl rfl ?_ ?_
       · intro env' he
         exact alW tabOk rfl rfl rfl rfl rfl rfl ⟨rfl, rfl⟩
       repeat' (first
        | refine yqQ (a := 0) (b := 0) rfl (by decide +kernel) (by decide +kernel) rfl rfl rfl (fun k h1 h2 hg => by (have hk : k = 0 := (by omega)); (rcases hk with rfl) <;> (first | exact PRun.remV hrem (by omega) rfl rfl nd rfl nd | exact PRun.convV tabOk hconv rfl rfl nd rfl rfl | exact std0 | exact pcW (y2) rfl rfl nd rfl nds | exact std1)) (by exact rfl) ?_
        | refine yqQ (a := 0) (b := 1) rfl (by decide +kernel) (by decide +kernel) rfl rfl rfl (fun k h1 h2 hg => by (have hk : k = 0 ∨ k = 1 := (by omega)); (rcases hk with rfl | rfl) <;> (first | exact PRun.remV hrem (by omega) rfl rfl nd rfl nd | exact PRun.convV tabOk hconv rfl rfl nd rfl rfl | exact std0 | exact pcW (y2) rfl rfl nd rfl nds | exact std1)) (by exact rfl) ?_
        | refine yqQ (a := 1) (b := 1) rfl (by decide +kernel) (by decide +kernel) rfl rfl rfl (fun k h1 h2 hg => by (have hk : k = 1 := (by omega)); (rcases hk with rfl) <;> (first | exact PRun.remV hrem (by omega) rfl rfl nd rfl nd | exact PRun.convV tabOk hconv rfl rfl nd rfl rfl | exact std0 | exact pcW (y2) rfl rfl nd rfl nds | exact std1)) (by exact rfl) ?_
        | refine yqQ (a := 0) (b := 2) rfl (by decide +kernel) (by decide +kernel) rfl rfl rfl (fun k h1 h2 hg => by (have hk : k = 0 ∨ k = 1 ∨ k = 2 := (by omega)); (rcases hk with rfl | rfl | rfl) <;> (first | exact PRun.remV hrem (by omega) rfl rfl nd rfl nd | exact PRun.convV tabOk hconv rfl rfl nd rfl rfl | exact std0 | exact pcW (y2) rfl rfl nd rfl nds | exact std1)) (by exact rfl) ?_
        | refine yqQ (a := 1) (b := 2) rfl (by decide +kernel) (by decide +kernel) rfl rfl rfl (fun k h1 h2 hg => by (have hk : k = 1 ∨ k = 2 := (by omega)); (rcases hk with rfl | rfl) <;> (first | exact PRun.remV hrem (by omega) rfl rfl nd rfl nd | exact PRun.convV tabOk hconv rfl rfl nd rfl rfl | exact std0 | exact pcW (y2) rfl rfl nd rfl nds | exact std1)) (by exact rfl) ?_
        | refine yqQ (a := 2) (b := 2) rfl (by decide +kernel) (by decide +kernel) rfl rfl rfl (fun k h1 h2 hg => by (have hk : k = 2 := (by omega)); (rcases hk with rfl) <;> (first | exact PRun.remV hrem (by omega) rfl rfl nd rfl nd | exact PRun.convV tabOk hconv rfl rfl nd rfl rfl | exact std0 | exact pcW (y2) rfl rfl nd rfl nds | exact std1)) (by exact rfl) ?_)
       refine YQ.e (v := .any) (d := none) rfl rfl rfl ?_ ?_
       · intro env' he
         exact stW tabOk rfl rfl ((rdv_congr (he 15 (by decide +kernel))).trans rfl) (by rw [rdn_congr (he 15 (by decide +kernel))]; first | exact tI | exact rfl) rfl ((rdv_congr (he 69 (by decide +kernel))).trans rfl) (by rw [rdn_congr (he 69 (by decide +kernel))]; first | exact tI | exact rfl) rfl rfl rfl rfl rfl rfl rfl ⟨rfl, rfl⟩
       repeat' (first
        | refine yqQ (a := 0) (b := 0) rfl (by decide +kernel) (by decide +kernel) rfl rfl rfl (fun k h1 h2 hg => by (have hk : k = 0 := (by omega)); (rcases hk with rfl) <;> (first | exact PRun.remV hrem (by omega) rfl rfl nd rfl nd | exact PRun.convV tabOk hconv rfl rfl nd rfl rfl | exact std0 | exact pcW (y2) rfl rfl nd rfl nds | exact std1)) (by exact rfl) ?_
        | refine yqQ (a := 0) (b := 1) rfl (by decide +kernel) (by decide +kernel) rfl rfl rfl (fun k h1 h2 hg => by (have hk : k = 0 ∨ k = 1 := (by omega)); (rcases hk with rfl | rfl) <;> (first | exact PRun.remV hrem (by omega) rfl rfl nd rfl nd | exact PRun.convV tabOk hconv rfl rfl nd rfl rfl | exact std0 | exact pcW (y2) rfl rfl nd rfl nds | exact std1)) (by exact rfl) ?_
        | refine yqQ (a := 1) (b := 1) rfl (by decide +kernel) (by decide +kernel) rfl rfl rfl (fun k h1 h2 hg => by (have hk : k = 1 := (by omega)); (rcases hk with rfl) <;> (first | exact PRun.remV hrem (by omega) rfl rfl nd rfl nd | exact PRun.convV tabOk hconv rfl rfl nd rfl rfl | exact std0 | exact pcW (y2) rfl rfl nd rfl nds | exact std1)) (by exact rfl) ?_
        | refine yqQ (a := 0) (b := 2) rfl (by decide +kernel) (by decide +kernel) rfl rfl rfl (fun k h1 h2 hg => by (have hk : k = 0 ∨ k = 1 ∨ k = 2 := (by omega)); (rcases hk with rfl | rfl | rfl) <;> (first | exact PRun.remV hrem (by omega) rfl rfl nd rfl nd | exact PRun.convV tabOk hconv rfl rfl nd rfl rfl | exact std0 | exact pcW (y2) rfl rfl nd rfl nds | exact std1)) (by exact rfl) ?_
        | refine yqQ (a := 1) (b := 2) rfl (by decide +kernel) (by decide +kernel) rfl rfl rfl (fun k h1 h2 hg => by (have hk : k = 1 ∨ k = 2 := (by omega)); (rcases hk with rfl | rfl) <;> (first | exact PRun.remV hrem (by omega) rfl rfl nd rfl nd | exact PRun.convV tabOk hconv rfl rfl nd rfl rfl | exact std0 | exact pcW (y2) rfl rfl nd rfl nds | exact std1)) (by exact rfl) ?_
        | refine yqQ (a := 2) (b := 2) rfl (by decide +kernel) (by decide +kernel) rfl rfl rfl (fun k h1 h2 hg => by (have hk : k = 2 := (by omega)); (rcases hk with rfl) <;> (first | exact PRun.remV hrem (by omega) rfl rfl nd rfl nd | exact PRun.convV tabOk hconv rfl rfl nd rfl rfl | exact std0 | exact pcW (y2) rfl rfl nd rfl nds | exact std1)) (by exact rfl) ?_)
       refine YQ.nil (hK _ _ ?_)
       clear hK K'
       repeat' (first | refine aoQ rfl rfl rfl (fun hg => by first | exact std0 | exact pcW (y3) rfl rfl nd rfl nds | fail) (by exact rfl) ?_ | refine sqW ?_ | refine rgK (fun K' hK => ?_) | (refine aoN (hK _ _ ?_); clear hK K') | refine aoE (stW tabOk rfl rfl rfl tI rfl rfl tI rfl rfl rfl rfl rfl rfl rfl ?_) | refine aoE (alW tabOk rfl rfl rfl rfl rfl rfl ?_))
       refine cdW rfl tI (fun hc => ?_) (fun hc => ?_)
       · exfalso; simp at hc
       repeat' (first | refine aoQ rfl rfl rfl (fun hg => by first | exact std0 | exact std1) (by exact rfl) ?_ | refine sqW ?_ | refine rgK (fun K' hK => ?_) | (refine aoN (hK _ _ ?_); clear hK K') | refine blK ?_ | refine skW ?_)
       refine lpD (ι := Nat) (fun k => [(9, .b true), (17, .ptr 7 0), (84, .sl 14 (A.s.evs.map encE) .no), (85, .int A.s.evs.length), (86, .int k)]) (fun _ => [.var (encTab t), .var (encTab u), .var (encE x), .var (encTab A), .var (encTab B), .var (encTab A), .var (encTab c), .var (encTab v)]) (fun k => k ≤ A.s.evs.length) (fun k => A.s.evs.length - k) 8 (fun _ => rfl) 0 (nZl _) ⟨rfl, rfl, rfl, rfl, rfl, tI⟩ rfl (fun _ _ => rfl) (fun _ _ => rfl) ?_
       intro k hk
       by_cases hlt : k < A.s.evs.length
       · obtain ⟨y, hy⟩ : ∃ y, A.s.evs.getD k default = y := ⟨_, rfl⟩
         have hym : y ∈ A.s.evs := by rw [← hy]; exact getD_mem hlt
         repeat' (first | refine aoQ rfl rfl rfl (fun hg => by first | exact iX encE A.s.evs ((k : Nat) : Int) hy (hb := by omega) | exact std0 | exact std1) (by exact rfl) ?_ | refine sqW ?_ | refine rgK (fun K' hK => ?_) | (refine aoN (hK _ _ ?_); clear hK K') | refine aoE (stW tabOk rfl rfl rfl tI rfl rfl tI rfl rfl rfl rfl rfl rfl rfl ?_) | refine aoE (alW tabOk rfl rfl rfl rfl rfl rfl ?_) | refine cdN rfl tI (fun hc => ?_) (fun hc => ?_) | refine blK ?_ | refine exW ?_ | refine skW ?_ | refine rtW ?_)
         all_goals first | (exfalso; omega) | skip
         refine lpD (ι := Nat) (fun m => [(9, .b true), (17, .ptr 7 0), (20, .ptr 8 0), (21, .b (decide (y ∈ v.s.evs.take m))), (84, .sl 14 (A.s.evs.map encE) .no), (85, .int A.s.evs.length), (86, .int k), (92, .sl 14 (v.s.evs.map encE) .no), (93, .int v.s.evs.length), (94, .int m)]) (fun _ => [.var (encTab t), .var (encTab u), .var (encE x), .var (encTab A), .var (encTab B), .var (encTab A), .var (encTab c), .var (encTab v), .var (encE y)]) (fun m => m ≤ v.s.evs.length) (fun m => v.s.evs.length - m) 9 (fun _ => rfl) 0 (nZl _) ⟨rfl, rfl, rfl, (by show AV.b false = AV.b _; congr 1), rfl, rfl, rfl, rfl, rfl, rfl, tI⟩ rfl (fun _ _ => rfl) (fun _ _ => rfl) ?_
         intro m hm
         by_cases hlm : m < v.s.evs.length
         · obtain ⟨z, hz⟩ : ∃ z, v.s.evs.getD m default = z := ⟨_, rfl⟩
           have hs := mem_take_step hlm y
           repeat' (first | refine aoQ rfl rfl rfl (fun hg => by first | exact iX encE v.s.evs ((m : Nat) : Int) hz (hb := by omega) | exact std0 | exact PRun.eqN flE rfl rfl nd rfl nd rfl) (by exact rfl) ?_ | refine sqW ?_ | refine rgK (fun K' hK => ?_) | (refine aoN (hK _ _ ?_); clear hK K') | refine aoE (stW tabOk rfl rfl rfl tI rfl rfl tI rfl rfl rfl rfl rfl rfl rfl ?_) | refine aoE (alW tabOk rfl rfl rfl rfl rfl rfl ?_) | refine cdN rfl tI (fun hc => ?_) (fun hc => ?_) | refine blK ?_ | refine exW ?_ | refine skW ?_)
           all_goals first | (exfalso; omega) | skip
           exact ⟨m + 1, by omega, by omega, ⟨rfl, rfl, rfl, by rw [hs, hz]; rfl, rfl, rfl, rfl, rfl, rfl, rfl, tI⟩, rfl⟩
         · obtain rfl : m = v.s.evs.length := by omega
           repeat' (first | refine aoQ rfl rfl rfl (fun hg => by first | exact std0 | exact std1) (by exact rfl) ?_ | refine sqW ?_ | refine rgK (fun K' hK => ?_) | (refine aoN (hK _ _ ?_); clear hK K') | refine aoE (stW tabOk rfl rfl rfl tI rfl rfl tI rfl rfl rfl rfl rfl rfl rfl ?_) | refine aoE (alW tabOk rfl rfl rfl rfl rfl rfl ?_) | refine cdN rfl tI (fun hc => ?_) (fun hc => ?_) | refine blK ?_ | refine exW ?_ | refine skW ?_)
           all_goals first | (exfalso; omega) | skip
           refine ⟨k + 1, by omega, by omega, ⟨?_, rfl, rfl, rfl, rfl, tI⟩, rfl⟩
           show AV.b (true && decide (y ∈ v.s.evs.take v.s.evs.length)) = AV.b true
           rw [zAz, decide_eq_true (k3 y hym)]; rfl
       · repeat' (first | refine aoQ rfl rfl rfl (fun hg => by first | exact std0 | exact std1) (by exact rfl) ?_ | refine sqW ?_ | refine rgK (fun K' hK => ?_) | (refine aoN (hK _ _ ?_); clear hK K') | refine aoE (stW tabOk rfl rfl rfl tI rfl rfl tI rfl rfl rfl rfl rfl rfl rfl ?_) | refine aoE (alW tabOk rfl rfl rfl rfl rfl rfl ?_) | refine cdN rfl tI (fun hc => ?_) (fun hc => ?_) | refine blK ?_ | refine exW ?_ | refine skW ?_ | refine rtW ?_)
         all_goals first | (exfalso; omega) | skip
         exact ⟨.inr rfl, Ent.b rfl⟩
     · obtain ⟨R1, R2⟩ := R
       have hWR : W = R1 := by rw [hW, if_pos (by simpa using hc)]
       subst hWR
       repeat' (first | refine sqW ?_ | refine skW ?_)
       refine AWP.drawY (fun j => match j with | 0 => [.var (encTab t), .var (encTab u), .var (encE x), .var (encTab A), .var (encTab B), .var (encTab W)] | 1 => [.var (encTab t), .var (encTab u), .var (encE x), .var (encTab A), .var (encTab B), .var (encTab W), .var zeroTab] | _ => [.var (encTab t), .var (encTab u), .var (encE x), .var (encTab A), .var (encTab B), .var (encTab W), .var (encTab c)]) rfl (by kernel_rfl) (by decide +kernel) rfl (by decide +kernel) (fun K' hK => ?_)
       repeat' (first
        | refine yqQ (a := 0) (b := 0) rfl (by decide +kernel) (by decide +kernel) rfl rfl rfl (fun k h1 h2 hg => by (have hk : k = 0 := (by omega)); (rcases hk with rfl) <;> (first | exact PRun.remV hrem (by omega) rfl rfl nd rfl nd | exact PRun.convV tabOk hconv rfl rfl nd rfl rfl | exact std0 | exact pcW (y2) rfl rfl nd rfl nds | exact std1)) (by exact rfl) ?_
        | refine yqQ (a := 0) (b := 1) rfl (by decide +kernel) (by decide +kernel) rfl rfl rfl (fun k h1 h2 hg => by (have hk : k = 0 ∨ k = 1 := (by omega)); (rcases hk with rfl | rfl) <;> (first | exact PRun.remV hrem (by omega) rfl rfl nd rfl nd | exact PRun.convV tabOk hconv rfl rfl nd rfl rfl | exact std0 | exact pcW (y2) rfl rfl nd rfl nds | exact std1)) (by exact rfl) ?_
        | refine yqQ (a := 1) (b := 1) rfl (by decide +kernel) (by decide +kernel) rfl rfl rfl (fun k h1 h2 hg => by (have hk : k = 1 := (by omega)); (rcases hk with rfl) <;> (first | exact PRun.remV hrem (by omega) rfl rfl nd rfl nd | exact PRun.convV tabOk hconv rfl rfl nd rfl rfl | exact std0 | exact pcW (y2) rfl rfl nd rfl nds | exact std1)) (by exact rfl) ?_
        | refine yqQ (a := 0) (b := 2) rfl (by decide +kernel) (by decide +kernel) rfl rfl rfl (fun k h1 h2 hg => by (have hk : k = 0 ∨ k = 1 ∨ k = 2 := (by omega)); (rcases hk with rfl | rfl | rfl) <;> (first | exact PRun.remV hrem (by omega) rfl rfl nd rfl nd | exact PRun.convV tabOk hconv rfl rfl nd rfl rfl | exact std0 | exact pcW (y2) rfl rfl nd rfl nds | exact std1)) (by exact rfl) ?_
        | refine yqQ (a := 1) (b := 2) rfl (by decide +kernel) (by decide +kernel) rfl rfl rfl (fun k h1 h2 hg => by (have hk : k = 1 ∨ k = 2 := (by omega)); (rcases hk with rfl | rfl) <;> (first | exact PRun.remV hrem (by omega) rfl rfl nd rfl nd | exact PRun.convV tabOk hconv rfl rfl nd rfl rfl | exact std0 | exact pcW (y2) rfl rfl nd rfl nds | exact std1)) (by exact rfl) ?_
        | refine yqQ (a := 2) (b := 2) rfl (by decide +kernel) (by decide +kernel) rfl rfl rfl (fun k h1 h2 hg => by (have hk : k = 2 := (by omega)); (rcases hk with rfl) <;> (first | exact PRun.remV hrem (by omega) rfl rfl nd rfl nd | exact PRun.convV tabOk hconv rfl rfl nd rfl rfl | exact std0 | exact pcW (y2) rfl rfl nd rfl nds | exact std1)) (by exact rfl) ?_)
       refine YQ.e (v := .ptr 6 0) (d := some 15) rfl rfl rfl ?_ ?_
       · intro env' he
         exact alW tabOk rfl rfl rfl rfl rfl rfl ⟨rfl, rfl⟩
       repeat' (first
        | refine yqQ (a := 0) (b := 0) rfl (by decide +kernel) (by decide +kernel) rfl rfl rfl (fun k h1 h2 hg => by (have hk : k = 0 := (by omega)); (rcases hk with rfl) <;> (first | exact PRun.remV hrem (by omega) rfl rfl nd rfl nd | exact PRun.convV tabOk hconv rfl rfl nd rfl rfl | exact std0 | exact pcW (y2) rfl rfl nd rfl nds | exact std1)) (by exact rfl) ?_
        | refine yqQ (a := 0) (b := 1) rfl (by decide +kernel) (by decide +kernel) rfl rfl rfl (fun k h1 h2 hg => by (have hk : k = 0 ∨ k = 1 := (by omega)); (rcases hk with rfl | rfl) <;> (first | exact PRun.remV hrem (by omega) rfl rfl nd rfl nd | exact PRun.convV tabOk hconv rfl rfl nd rfl rfl | exact std0 | exact pcW (y2) rfl rfl nd rfl nds | exact std1)) (by exact rfl) ?_
        | refine yqQ (a := 1) (b := 1) rfl (by decide +kernel) (by decide +kernel) rfl rfl rfl (fun k h1 h2 hg => by (have hk : k = 1 := (by omega)); (rcases hk with rfl) <;> (first | exact PRun.remV hrem (by omega) rfl rfl nd rfl nd | exact PRun.convV tabOk hconv rfl rfl nd rfl rfl | exact std0 | exact pcW (y2) rfl rfl nd rfl nds | exact std1)) (by exact rfl) ?_
        | refine yqQ (a := 0) (b := 2) rfl (by decide +kernel) (by decide +kernel) rfl rfl rfl (fun k h1 h2 hg => by (have hk : k = 0 ∨ k = 1 ∨ k = 2 := (by omega)); (rcases hk with rfl | rfl | rfl) <;> (first | exact PRun.remV hrem (by omega) rfl rfl nd rfl nd | exact PRun.convV tabOk hconv rfl rfl nd rfl rfl | exact std0 | exact pcW (y2) rfl rfl nd rfl nds | exact std1)) (by exact rfl) ?_
        | refine yqQ (a := 1) (b := 2) rfl (by decide +kernel) (by decide +kernel) rfl rfl rfl (fun k h1 h2 hg => by (have hk : k = 1 ∨ k = 2 := (by omega)); (rcases hk with rfl | rfl) <;> (first | exact PRun.remV hrem (by omega) rfl rfl nd rfl nd | exact PRun.convV tabOk hconv rfl rfl nd rfl rfl | exact std0 | exact pcW (y2) rfl rfl nd rfl nds | exact std1)) (by exact rfl) ?_
        | refine yqQ (a := 2) (b := 2) rfl (by decide +kernel) (by decide +kernel) rfl rfl rfl (fun k h1 h2 hg => by (have hk : k = 2 := (by omega)); (rcases hk with rfl) <;> (first | exact PRun.remV hrem (by omega) rfl rfl nd rfl nd | exact PRun.convV tabOk hconv rfl rfl nd rfl rfl | exact std0 | exact pcW (y2) rfl rfl nd rfl nds | exact std1)) (by exact rfl) ?_)
       refine YQ.e (v := .any) (d := none) rfl rfl rfl ?_ ?_
       · intro env' he
         exact stW tabOk rfl rfl ((rdv_congr (he 15 (by decide +kernel))).trans rfl) (by rw [rdn_congr (he 15 (by decide +kernel))]; first | exact tI | exact rfl) rfl ((rdv_congr (he 69 (by decide +kernel))).trans rfl) (by rw [rdn_congr (he 69 (by decide +kernel))]; first | exact tI | exact rfl) rfl rfl rfl rfl rfl rfl rfl ⟨rfl, rfl⟩
       repeat' (first
        | refine yqQ (a := 0) (b := 0) rfl (by decide +kernel) (by decide +kernel) rfl rfl rfl (fun k h1 h2 hg => by (have hk : k = 0 := (by omega)); (rcases hk with rfl) <;> (first | exact PRun.remV hrem (by omega) rfl rfl nd rfl nd | exact PRun.convV tabOk hconv rfl rfl nd rfl rfl | exact std0 | exact pcW (y2) rfl rfl nd rfl nds | exact std1)) (by exact rfl) ?_
        | refine yqQ (a := 0) (b := 1) rfl (by decide +kernel) (by decide +kernel) rfl rfl rfl (fun k h1 h2 hg => by (have hk : k = 0 ∨ k = 1 := (by omega)); (rcases hk with rfl | rfl) <;> (first | exact PRun.remV hrem (by omega) rfl rfl nd rfl nd | exact PRun.convV tabOk hconv rfl rfl nd rfl rfl | exact std0 | exact pcW (y2) rfl rfl nd rfl nds | exact std1)) (by exact rfl) ?_
        | refine yqQ (a := 1) (b := 1) rfl (by decide +kernel) (by decide +kernel) rfl rfl rfl (fun k h1 h2 hg => by (have hk : k = 1 := (by omega)); (rcases hk with rfl) <;> (first | exact PRun.remV hrem (by omega) rfl rfl nd rfl nd | exact PRun.convV tabOk hconv rfl rfl nd rfl rfl | exact std0 | exact pcW (y2) rfl rfl nd rfl nds | exact std1)) (by exact rfl) ?_
        | refine yqQ (a := 0) (b := 2) rfl (by decide +kernel) (by decide +kernel) rfl rfl rfl (fun k h1 h2 hg => by (have hk : k = 0 ∨ k = 1 ∨ k = 2 := (by omega)); (rcases hk with rfl | rfl | rfl) <;> (first | exact PRun.remV hrem (by omega) rfl rfl nd rfl nd | exact PRun.convV tabOk hconv rfl rfl nd rfl rfl | exact std0 | exact pcW (y2) rfl rfl nd rfl nds | exact std1)) (by exact rfl) ?_
        | refine yqQ (a := 1) (b := 2) rfl (by decide +kernel) (by decide +kernel) rfl rfl rfl (fun k h1 h2 hg => by (have hk : k = 1 ∨ k = 2 := (by omega)); (rcases hk with rfl | rfl) <;> (first | exact PRun.remV hrem (by omega) rfl rfl nd rfl nd | exact PRun.convV tabOk hconv rfl rfl nd rfl rfl | exact std0 | exact pcW (y2) rfl rfl nd rfl nds | exact std1)) (by exact rfl) ?_
        | refine yqQ (a := 2) (b := 2) rfl (by decide +kernel) (by decide +kernel) rfl rfl rfl (fun k h1 h2 hg => by (have hk : k = 2 := (by omega)); (rcases hk with rfl) <;> (first | exact PRun.remV hrem (by omega) rfl rfl nd rfl nd | exact PRun.convV tabOk hconv rfl rfl nd rfl rfl | exact std0 | exact pcW (y2) rfl rfl nd rfl nds | exact std1)) (by exact rfl) ?_)
       refine YQ.nil (hK _ _ ?_)
       clear hK K'
       repeat' (first | refine aoQ rfl rfl rfl (fun hg => by first | exact std0 | exact pcW (y3) rfl rfl nd rfl nds | fail) (by exact rfl) ?_ | refine sqW ?_ | refine rgK (fun K' hK => ?_) | (refine aoN (hK _ _ ?_); clear hK K') | refine aoE (stW tabOk rfl rfl rfl tI rfl rfl tI rfl rfl rfl rfl rfl rfl rfl ?_) | refine aoE (alW tabOk rfl rfl rfl rfl rfl rfl ?_))
       refine cdW rfl tI (fun hc => ?_) (fun hc => ?_)
       · exfalso; simp at hc
       repeat' (first | refine aoQ rfl rfl rfl (fun hg => by first | exact std0 | exact std1) (by exact rfl) ?_ | refine sqW ?_ | refine rgK (fun K' hK => ?_) | (refine aoN (hK _ _ ?_); clear hK K') | refine blK ?_ | refine skW ?_)
       refine lpD (ι := Nat) (fun k => [(9, .b true), (17, .ptr 7 0), (84, .sl 14 (A.s.evs.map encE) .no), (85, .int A.s.evs.length), (86, .int k)]) (fun _ => [.var (encTab t), .var (encTab u), .var (encE x), .var (encTab A), .var (encTab B), .var (encTab W), .var (encTab c), .var (encTab v)]) (fun k => k ≤ A.s.evs.length) (fun k => A.s.evs.length - k) 8 (fun _ => rfl) 0 (nZl _) ⟨rfl, rfl, rfl, rfl, rfl, tI⟩ rfl (fun _ _ => rfl) (fun _ _ => rfl) ?_
       intro k hk
       by_cases hlt : k < A.s.evs.length
       · obtain ⟨y, hy⟩ : ∃ y, A.s.evs.getD k default = y := ⟨_, rfl⟩
         have hym : y ∈ A.s.evs := by rw [← hy]; exact getD_mem hlt
         repeat' (first | refine aoQ rfl rfl rfl (fun hg => by first | exact iX encE A.s.evs ((k : Nat) : Int) hy (hb := by omega) | exact std0 | exact std1) (by exact rfl) ?_ | refine sqW ?_ | refine rgK (fun K' hK => ?_) | (refine aoN (hK _ _ ?_); clear hK K') | refine aoE (stW tabOk rfl rfl rfl tI rfl rfl tI rfl rfl rfl rfl rfl rfl rfl ?_) | refine aoE (alW tabOk rfl rfl rfl rfl rfl rfl ?_) | refine cdN rfl tI (fun hc => ?_) (fun hc => ?_) | refine blK ?_ | refine exW ?_ | refine skW ?_ | refine rtW ?_)
         all_goals first | (exfalso; omega) | skip
         refine lpD (ι := Nat) (fun m => [(9, .b true), (17, .ptr 7 0), (20, .ptr 8 0), (21, .b (decide (y ∈ v.s.evs.take m))), (84, .sl 14 (A.s.evs.map encE) .no), (85, .int A.s.evs.length), (86, .int k), (92, .sl 14 (v.s.evs.map encE) .no), (93, .int v.s.evs.length), (94, .int m)]) (fun _ => [.var (encTab t), .var (encTab u), .var (encE x), .var (encTab A), .var (encTab B), .var (encTab W), .var (encTab c), .var (encTab v), .var (encE y)]) (fun m => m ≤ v.s.evs.length) (fun m => v.s.evs.length - m) 9 (fun _ => rfl) 0 (nZl _) ⟨rfl, rfl, rfl, (by show AV.b false = AV.b _; congr 1), rfl, rfl, rfl, rfl, rfl, rfl, tI⟩ rfl (fun _ _ => rfl) (fun _ _ => rfl) ?_
         intro m hm
         by_cases hlm : m < v.s.evs.length
         · obtain ⟨z, hz⟩ : ∃ z, v.s.evs.getD m default = z := ⟨_, rfl⟩
           have hs := mem_take_step hlm y
           repeat' (first | refine aoQ rfl rfl rfl (fun hg => by first | exact iX encE v.s.evs ((m : Nat) : Int) hz (hb := by omega) | exact std0 | exact PRun.eqN flE rfl rfl nd rfl nd rfl) (by exact rfl) ?_ | refine sqW ?_ | refine rgK (fun K' hK => ?_) | (refine aoN (hK _ _ ?_); clear hK K') | refine aoE (stW tabOk rfl rfl rfl tI rfl rfl tI rfl rfl rfl rfl rfl rfl rfl ?_) | refine aoE (alW tabOk rfl rfl rfl rfl rfl rfl ?_) | refine cdN rfl tI (fun hc => ?_) (fun hc => ?_) | refine blK ?_ | refine exW ?_ | refine skW ?_)
           all_goals first | (exfalso; omega) | skip
           exact ⟨m + 1, by omega, by omega, ⟨rfl, rfl, rfl, by rw [hs, hz]; rfl, rfl, rfl, rfl, rfl, rfl, rfl, tI⟩, rfl⟩
         · obtain rfl : m = v.s.evs.length := by omega
           repeat' (first | refine aoQ rfl rfl rfl (fun hg => by first | exact std0 | exact std1) (by exact rfl) ?_ | refine sqW ?_ | refine rgK (fun K' hK => ?_) | (refine aoN (hK _ _ ?_); clear hK K') | refine aoE (stW tabOk rfl rfl rfl tI rfl rfl tI rfl rfl rfl rfl rfl rfl rfl ?_) | refine aoE (alW tabOk rfl rfl rfl rfl rfl rfl ?_) | refine cdN rfl tI (fun hc => ?_) (fun hc => ?_) | refine blK ?_ | refine exW ?_ | refine skW ?_)
           all_goals first | (exfalso; omega) | skip
           refine ⟨k + 1, by omega, by omega, ⟨?_, rfl, rfl, rfl, rfl, tI⟩, rfl⟩
           show AV.b (true && decide (y ∈ v.s.evs.take v.s.evs.length)) = AV.b true
           rw [zAz, decide_eq_true (k3 y hym)]; rfl
       · repeat' (first | refine aoQ rfl rfl rfl (fun hg => by first | exact std0 | exact std1) (by exact rfl) ?_ | refine sqW ?_ | refine rgK (fun K' hK => ?_) | (refine aoN (hK _ _ ?_); clear hK K') | refine aoE (stW tabOk rfl rfl rfl tI rfl rfl tI rfl rfl rfl rfl rfl rfl rfl ?_) | refine aoE (alW tabOk rfl rfl rfl rfl rfl rfl ?_) | refine cdN rfl tI (fun hc => ?_) (fun hc => ?_) | refine blK ?_ | refine exW ?_ | refine skW ?_ | refine rtW ?_)
         all_goals first | (exfalso; omega) | skip
         exact ⟨.inr rfl, Ent.b rfl⟩
   · refine PCall.body Tryz.func5 rfl rfl Tryz.ntmps5 rfl rfl ?_
     repeat' (first | refine aoQ rfl rfl rfl (fun hg => by first | exact std0 | exact pcW (hh) rfl rfl nd rfl nds | exact pcW (h1) rfl rfl nd rfl nds | exact pcW (h2) rfl rfl nd rfl nds | fail) (by exact rfl) ?_ | refine sqW ?_ | refine rgK (fun K' hK => ?_) | (refine aoN (hK _ _ ?_); clear hK K') | refine aoE (bxW rfl rfl rfl rfl rfl tI rfl rfl ?_))
     refine cdW rfl tI (fun hc => ?_) (fun hc => ?_)
     · exfalso; rw [hd] at hc; cases hc
     repeat' (first | refine aoQ rfl rfl rfl (fun hg => by first | exact std0 | exact pcW (x1) rfl rfl nd rfl nds | fail) (by exact rfl) ?_ | refine sqW ?_ | refine rgK (fun K' hK => ?_) | (refine aoN (hK _ _ ?_); clear hK K') | refine aoE (stW tabOk rfl rfl rfl tI rfl rfl tI rfl rfl rfl rfl rfl rfl rfl ?_) | refine aoE (alW tabOk rfl rfl rfl rfl rfl rfl ?_) | refine skW ?_)
     refine cdW rfl tI (fun hc => ?_) (fun hc => ?_)
     · repeat' (first | refine aoQ rfl rfl rfl (fun hg => by exact std0) (by exact rfl) ?_ | refine sqW ?_ | refine rgK (fun K' hK => ?_) | (refine aoN (hK _ _ ?_); clear hK K') | refine rtW ?_)
       exact ⟨.inr rfl, Ent.b rfl⟩
     · exfalso; exact h0 (by simpa using hc)
end Go.Proofs.YtbneeinknlddaaaGreat
