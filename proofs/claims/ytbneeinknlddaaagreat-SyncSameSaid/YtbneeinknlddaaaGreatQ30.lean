/- SyncSame by content: for every number and deeds the function returns true. The row is joined in another text. No statement is proved here. -/
import Derived.Test.YtbneeinknlddaaaGreatQ27
import Derived.Test.YtbneeinknlddaaaGreatQ28
import Derived.Test.YtbneeinknlddaaaGreatQ29
set_option linter.unusedVariables false
set_option linter.unusedSimpArgs false
namespace Go.Proofs.YtbneeinknlddaaaGreat
open Go.Ab Go.Jo Go.Sy
attribute [local irreducible] AWP AOps EStep AQ PStep PRun PCall TCall VCall DStep TDies AWD DCall
def slotK : Nat → AV
 | 0 => .sl 10 [] (.own 0)
 | k + 1 => .sla 0 10 0 (k + 1) (k + 1)
theorem slotK_pos {n : Nat} (h : 0 < n) : slotK n = .sla 0 10 0 n n := by
 cases n with
 | zero => omega
 | succ n => rfl
set_option maxHeartbeats 6400000 in
set_option maxRecDepth 20000 in
theorem same_law' (many : Nat) (hmany : many ≤ 255) (ds : List Sy.Deed) (hds : ∀ d ∈ ds, DeedIn d) : PCall Tryz.prog 6 [.prim (.int .u8 (many : Int)), .sl 14 (ds.map encDeed) .no] (.b true) := by
 have hh := head_spec
 by_cases h40 : 40 < ds.length
 · refine PCall.body Tryz.func6 rfl rfl Tryz.ntmps6 rfl rfl ?_
   repeat' (first | refine aoQ rfl rfl rfl (fun hg => by first | exact std0 | exact pcW (hh) rfl rfl nd rfl nds | exact std1) (by exact rfl) ?_ | refine sqW ?_ | refine rgK (fun K' hK => ?_) | (refine aoN (hK _ _ ?_); clear hK K'))
   refine cdW rfl tI (fun hc => ?_) (fun hc => ?_)
   · repeat' (first | refine aoQ rfl rfl rfl (fun hg => by exact std0) (by exact rfl) ?_ | refine sqW ?_ | refine rgK (fun K' hK => ?_) | (refine aoN (hK _ _ ?_); clear hK K') | refine rtW ?_)
     exact ⟨.inr rfl, Ent.b rfl⟩
   · exfalso
     have hc2 : decide (((ds.length : Nat) : Int) > 40) = false := hc
     simp at hc2; omega
 obtain ⟨n, hn⟩ : ∃ n, n = 2 + many % 3 := ⟨_, rfl⟩
 have hn2 : 2 ≤ n ∧ n ≤ 4 := by omega
 have c1 := conv8 hmany
 have r1 : (many : Int).tmod 3 = ((many % 3 : Nat) : Int) := tmodN many 3
 refine PCall.body Tryz.func6 rfl rfl Tryz.ntmps6 rfl rfl ?_
 repeat' (first | refine aoQ rfl rfl rfl (fun hg => by first | exact std0 | exact pcW (hh) rfl rfl nd rfl nds | exact std1) (by exact rfl) ?_ | refine sqW ?_ | refine rgK (fun K' hK => ?_) | (refine aoN (hK _ _ ?_); clear hK K'))
 refine cdW rfl tI (fun hc => ?_) (fun hc => ?_)
 · exfalso
   have hc2 : decide (((ds.length : Nat) : Int) > 40) = true := hc
   simp at hc2; omega
 repeat' (first | refine aoQ rfl rfl rfl (fun hg => by exact std0) (by exact rfl) ?_ | refine sqW ?_ | refine rgK (fun K' hK => ?_) | (refine aoN (hK _ _ ?_); clear hK K') | refine blK ?_ | refine skW ?_)
 refine AWP.arrNil (d := 6) 10 rfl ?_
 refine lpD (ι := Nat) (fun k => [(0, .prim (.int .u8 (many : Int))), (1, .sl 14 (ds.map encDeed) .no), (5, .b true), (6, slotK k), (7, .int ((k : Int) + 1))]) (fun k => tabS k k Go.Sy.b0) (fun k => k ≤ n) (fun k => n - k) 1 (fun _ => rfl) 0 (nZl _) ⟨rfl, rfl, rfl, rfl, rfl, tI⟩ rfl (fun k _ => by
  cases k with
  | zero => rfl
  | succ k => rfl) (fun k _ => okTabs _ _) ?_
 intro k hk
 by_cases hlt : k < n
 · have bg := begin_spec ((k : Int) + 1) (inR_iff.2 (by omega))
   have hl := tabs_len k Go.Sy.b0
   repeat' (first | refine aoQ rfl rfl rfl (fun hg => by first | exact PRun.remV r1 (by omega) rfl rfl nd rfl nd | exact PRun.convV tabOk c1 rfl rfl nd rfl rfl | exact std0) (by exact rfl) ?_ | refine sqW ?_ | refine rgK (fun K' hK => ?_) | (refine aoN (hK _ _ ?_); clear hK K'))
   refine cdW rfl tI (fun hc => ?_) (fun hc => ?_)
   · repeat' (first | refine aoQ rfl rfl rfl (fun hg => by first | exact std0 | exact pcW (bg) rfl rfl nd rfl nds) (by exact rfl) ?_ | refine sqW ?_ | refine rgK (fun K' hK => ?_) | (refine aoN (hK _ _ ?_); clear hK K') | refine aoE (stW tabOk rfl rfl rfl tI rfl rfl tI rfl rfl rfl rfl rfl rfl rfl ?_) | refine aoE (alW tabOk rfl rfl rfl rfl rfl rfl ?_) | refine blK ?_ | refine skW ?_)
     refine cdW rfl tI (fun hc => absurd hc (by decide)) (fun hc => ?_)
     rcases k with _ | k
     · repeat' (first | refine aoQ rfl rfl rfl (fun hg => by first | exact std0 | exact pbS tabOk rfl rfl nds) (by exact rfl) ?_ | refine rgK (fun K' hK => ?_) | (refine aoN (hK _ _ ?_); clear hK K') | refine aoE (EStep.appendArr (l := 0) (ver := 0) (es := []) (es2 := [encTab (begin_ ((0 : Nat) + 1 : Int))]) tabOk rfl rfl rfl (by decide) (Rd.w rfl tI) (.inr ⟨rfl, rfl, rfl⟩) rfl (Rd.w rfl tI) (.sl rfl (by intro x hx; rcases zAa.1 hx with rfl; rfl)) (zA0 _) (LOk.of (tabOk.get rfl)) (LOk.of (tabOk.get rfl)) rfl rfl (by simp only [zA1, zA9]; omega) (by simp only [zA1, zA9]; omega) ?_) | refine skW ?_)
       exact ⟨1, by omega, by omega, ⟨rfl, rfl, rfl, rfl, rfl, tI⟩, rfl⟩
     · repeat' (first | refine aoQ rfl rfl rfl (fun hg => by first | exact std0 | exact pbS tabOk rfl rfl nds) (by exact rfl) ?_ | refine rgK (fun K' hK => ?_) | (refine aoN (hK _ _ ?_); clear hK K') | refine aoE (EStep.appendArr (l := 0) (ver := k + 1) (es := (tabsL (k + 1) Go.Sy.b0).map encTab) (es2 := [encTab (begin_ (((k + 1 : Nat) : Int) + 1))]) tabOk rfl rfl rfl (by decide) (Rd.w rfl tI) (.inl ⟨by rw [lLm, hl], by intro g; rw [← zCh, lLm, hl] at g; cases g⟩) rfl (Rd.w rfl tI) (.sl rfl (by intro x hx; rcases zAa.1 hx with rfl; rfl)) (zA0 _) (LOk.of (tabOk.get rfl)) (LOk.of (tabOk.get rfl)) rfl rfl (by rw [lLm, hl]; simp only [zA1, zA9]; omega) (by rw [lLm, hl]; simp only [zA1, zA9]; omega) ?_) | refine skW ?_)
       refine ⟨k + 2, by omega, by omega, ⟨rfl, rfl, rfl, ?_, ?_, tI⟩, ?_⟩
       · show AV.sla 0 10 0 (_ + 1) _ = AV.sla 0 10 0 (k + 1 + 1) (k + 1 + 1)
         rw [lLm, hl]
       · show AV.int _ = AV.int _
         congr 1
       · show [AObj.arr 10 (k + 2) (_ ++ _)] = [AObj.arr 10 (k + 2) ((tabsL (k + 1 + 1) Go.Sy.b0).map encTab)]
         rw [tabs_snoc (k + 1), zB3]; rfl
   · exfalso
     have hc2 : decide (((k : Nat) : Int) + 1 ≤ 2 + ((many % 3 : Nat) : Int)) = false := hc
     simp at hc2; omega
 · obtain rfl : n = k := by omega
   repeat' (first | refine aoQ rfl rfl rfl (fun hg => by first | exact PRun.remV r1 (by omega) rfl rfl nd rfl nd | exact PRun.convV tabOk c1 rfl rfl nd rfl rfl | exact std0) (by exact rfl) ?_ | refine sqW ?_ | refine rgK (fun K' hK => ?_) | (refine aoN (hK _ _ ?_); clear hK K'))
   refine cdW rfl tI (fun hc => ?_) (fun hc => ?_)
   · exfalso
     have hc2 : decide (((n : Nat) : Int) + 1 ≤ 2 + ((many % 3 : Nat) : Int)) = true := hc
     simp at hc2; omega
   repeat' (first | refine aoQ rfl rfl rfl (fun hg => by first | exact std0 | exact std1) (by exact rfl) ?_ | refine sqW ?_ | refine rgK (fun K' hK => ?_) | (refine aoN (hK _ _ ?_); clear hK K') | refine blK ?_ | refine exW ?_)
   refine AWP.keep [(5, .b true), (6, .sla 0 10 0 n n), (46, .sl 14 (ds.map encDeed) .no), (47, .int ds.length), (48, .int 0)] ⟨rfl, slotK_pos (by omega), rfl, rfl, rfl, tI⟩ ?_
   refine lpD (ι := Nat) (fun j => [(5, .b true), (6, .sla 0 10 0 n n), (46, .sl 14 (ds.map encDeed) .no), (47, .int ds.length), (48, .int j)]) (fun j => tabS n n (seqD n ds j)) (fun j => j ≤ ds.length) (fun j => ds.length - j) 1 (fun _ => rfl) 0 (nZl _) ⟨rfl, rfl, rfl, rfl, rfl, tI⟩ rfl (fun _ _ => rfl) (fun _ _ => okTabs _ _) ?_
   intro j hj
   by_cases hlt : j < ds.length
   · obtain ⟨d, hdd⟩ : ∃ d, ds.getD j default = d := ⟨_, rfl⟩
     have hdi : DeedIn d := hds d (by rw [← hdd, getD_lt' hlt]; exact lGm hlt)
     have hin := seq_in (n := n) (by omega) (by omega) ds j (by omega)
     have vm := valid19_spec d.mark hdi.t
     have hsz : (⟨d.mark.text.toArray⟩ : ByteArray).size = d.mark.text.length := by simp [ByteArray.size]
     have htx := hdi.t
     repeat' (first | refine aoQ rfl rfl rfl (fun hg => by exact std0) (by exact rfl) ?_ | refine sqW ?_ | refine rgK (fun K' hK => ?_) | (refine aoN (hK _ _ ?_); clear hK K'))
     refine cdW rfl tI (fun hc => ?_) (fun hc => ?_)
     · repeat' (first | refine aoQ rfl rfl rfl (fun hg => by first | exact iX encDeed ds ((j : Nat) : Int) hdd (hb := by omega) | exact std0 | exact pcW (vm) rfl rfl nd rfl nds) (by exact rfl) ?_ | refine sqW ?_ | refine rgK (fun K' hK => ?_) | (refine aoN (hK _ _ ?_); clear hK K') | refine aoE (stW tabOk rfl rfl rfl tI rfl rfl tI rfl rfl rfl rfl rfl rfl rfl ?_) | refine aoE (alW tabOk rfl rfl rfl rfl rfl rfl ?_) | refine blK ?_ | refine skW ?_)
       refine cdW rfl tI (fun hc => ?_) (fun hc => ?_)
       · have hbad : (decide (200 < d.mark.text.length) || !markOk d.mark) = true := by
          have h9 : (decide ((((⟨d.mark.text.toArray⟩ : ByteArray).size : Nat) : Int) > 200) || !markOk d.mark) = true := hc
          rw [hsz] at h9
          rw [← h9]
          congr 1
          by_cases g : 200 < d.mark.text.length
          · rw [decide_eq_true g, decide_eq_true (by omega)]
          · rw [decide_eq_false g, decide_eq_false (by omega)]
         have hfix : fixD d = { d with what := 0 } := if_pos hbad
         have hE2 : seqD n ds (j + 1) = (doT n (seqD n ds j) ({ d with what := 0 })).2 := by show (doT _ _ (fixD (ds.getD j default))).2 = _; rw [hdd, hfix]
         have hT := TCall.val (first := []) (caps := []) (avs := [.sla 0 10 0 n n, .agg (encDeed ({ d with what := 0 }))]) (TCall.frame (do_T (n := n) (m := j) (by omega) (by omega) (by omega) hin ({ d with what := 0 }) ⟨nZl _, hdi.a, hdi.o, hdi.c, hdi.t⟩ n) [.var (encDeed ({ d with what := 0 }))] (okTabs _ _) rfl (fun rv st h => by obtain ⟨_, h⟩ := h; rw [h]; rfl))
         repeat' (first | refine aoQ rfl rfl rfl (fun hg => by exact std0) (by exact rfl) ?_ | refine sqW ?_ | refine rgK (fun K' hK => ?_) | (refine aoN (hK _ _ ?_); clear hK K') | refine aoE (stW tabOk rfl rfl rfl tI rfl rfl tI rfl rfl rfl rfl rfl rfl rfl ?_) | refine aoE (scT (hT) rfl rfl rfl rfl rfl nd rfl rfl nds ?_))
         rintro _ _ ⟨σ', rfl, rfl, rfl⟩
         repeat' (first | refine aoQ rfl rfl rfl (fun hg => by exact std0) (by exact rfl) ?_ | (refine aoN (hK _ _ ?_); clear hK K'))
         refine cdW rfl tI (fun hc => absurd hc (by decide)) (fun hc => ?_)
         repeat' (first | refine aoQ rfl rfl rfl (fun hg => by exact std0) (by exact rfl) ?_ | refine rgK (fun K' hK => ?_) | (refine aoN (hK _ _ ?_); clear hK K') | refine skW ?_)
         refine ⟨j + 1, by omega, by omega, ⟨rfl, rfl, rfl, rfl, rfl, tI⟩, ?_⟩
         show tabS n n _ = tabS n n _
         rw [hE2]
       · have hgood : (decide (200 < d.mark.text.length) || !markOk d.mark) = false := by
          have h9 : (decide ((((⟨d.mark.text.toArray⟩ : ByteArray).size : Nat) : Int) > 200) || !markOk d.mark) = false := hc
          rw [hsz] at h9
          rw [← h9]
          congr 1
          by_cases g : 200 < d.mark.text.length
          · rw [decide_eq_true g, decide_eq_true (by omega)]
          · rw [decide_eq_false g, decide_eq_false (by omega)]
         have hfix : fixD d = d := if_neg (by rw [hgood]; decide)
         have hE2 : seqD n ds (j + 1) = (doT n (seqD n ds j) (d)).2 := by show (doT _ _ (fixD (ds.getD j default))).2 = _; rw [hdd, hfix]
         have hT := TCall.val (first := []) (caps := []) (avs := [.sla 0 10 0 n n, .agg (encDeed (d))]) (TCall.frame (do_T (n := n) (m := j) (by omega) (by omega) (by omega) hin (d) hdi n) [.var (encDeed (d))] (okTabs _ _) rfl (fun rv st h => by obtain ⟨_, h⟩ := h; rw [h]; rfl))
         repeat' (first | refine aoQ rfl rfl rfl (fun hg => by exact std0) (by exact rfl) ?_ | refine sqW ?_ | refine rgK (fun K' hK => ?_) | refine aoE (scT (hT) rfl rfl rfl rfl rfl nd rfl rfl nds ?_) | refine skW ?_)
         rintro _ _ ⟨σ', rfl, rfl, rfl⟩
         repeat' (first | refine aoQ rfl rfl rfl (fun hg => by exact std0) (by exact rfl) ?_ | (refine aoN (hK _ _ ?_); clear hK K'))
         refine cdW rfl tI (fun hc => absurd hc (by decide)) (fun hc => ?_)
         repeat' (first | refine aoQ rfl rfl rfl (fun hg => by exact std0) (by exact rfl) ?_ | refine rgK (fun K' hK => ?_) | (refine aoN (hK _ _ ?_); clear hK K') | refine skW ?_)
         refine ⟨j + 1, by omega, by omega, ⟨rfl, rfl, rfl, rfl, rfl, tI⟩, ?_⟩
         show tabS n n _ = tabS n n _
         rw [hE2]
     · exfalso
       have hc2 : decide (((j : Nat) : Int) < ((ds.length : Nat) : Int)) = false := hc
       simp at hc2; omega
   · obtain rfl : ds.length = j := by omega
     repeat' (first | refine aoQ rfl rfl rfl (fun hg => by exact std0) (by exact rfl) ?_ | refine sqW ?_ | refine rgK (fun K' hK => ?_) | (refine aoN (hK _ _ ?_); clear hK K'))
     refine cdW rfl tI (fun hc => ?_) (fun hc => ?_)
     · exfalso
       have hc2 : decide (((ds.length : Nat) : Int) < ((ds.length : Nat) : Int)) = true := hc
       simp at hc2
     have hin := seq_in (n := n) (by omega) (by omega) ds ds.length (by omega)
     generalize seqD n ds ds.length = t2 at *
     repeat' (first | refine aoQ rfl rfl rfl (fun hg => by first | exact std0 | exact PRun.lenA tabOk rfl rfl nd rfl) (by exact rfl) ?_ | refine sqW ?_ | refine rgK (fun K' hK => ?_) | (refine aoN (hK _ _ ?_); clear hK K') | refine blK ?_ | refine exW ?_)
     refine lpD (ι := Nat) (fun q => [(5, .b true), (6, .sla 0 10 0 n n), (70, .int n), (71, .int q)]) (fun q => tabS n n (wakeAll t2 q)) (fun q => q ≤ n) (fun q => n - q) 1 (fun _ => rfl) 0 (nZl _) ⟨rfl, rfl, rfl, rfl, tI⟩ rfl (fun _ _ => rfl) (fun _ _ => okTabs _ _) ?_
     intro q hq
     by_cases hlt : q < n
     · have hwi := (wake_in hin q (by omega)).1
       have hwv := in_valid hwi hlt
       have eW := tabs_at (t := wakeAll t2 q) hlt
       have hlw := tabs_len n (wakeAll t2 q)
       have hix : ((q : Nat) : Int).toNat < ((tabsL n (wakeAll t2 q)).map encTab).length := by rw [lLm, hlw]; exact hlt
       cases hup : (wakeAll t2 q q).up with
       | true =>
         repeat' (first | refine aoQ rfl rfl rfl (fun hg => by exact std0) (by exact rfl) ?_ | refine sqW ?_ | refine rgK (fun K' hK => ?_) | (refine aoN (hK _ _ ?_); clear hK K'))
         refine cdW rfl tI (fun hc => ?_) (fun hc => ?_)
         · repeat' (first | refine aoQ rfl rfl rfl (fun hg => by first | exact PRun.eq (v := .b ((tabsL n (wakeAll t2 q)).getD ((q : Nat) : Int).toNat default).up) (PRun.loadEM (f := encTab) (xs := tabsL n (wakeAll t2 q)) tabOk rfl rfl nd rfl (by omega) rfl rfl) (congrArg (fun x => AV.b x.up) eW) | exact std0 | exact PRun.indexA0 tabOk rfl rfl nd rfl nd rfl (zA0 _) rfl ⟨by omega, by omega⟩ | exact PRun.fieldE tabOk rfl rfl nd rfl rfl) (by exact rfl) ?_ | refine sqW ?_ | refine rgK (fun K' hK => ?_) | (refine aoN (hK _ _ ?_); clear hK K') | refine blK ?_ | refine skW ?_)
           refine cdW rfl tI (fun hc => ?_) (fun hc => ?_)
           · repeat' (first | refine aoQ rfl rfl rfl (fun hg => by exact std0) (by exact rfl) ?_ | refine rgK (fun K' hK => ?_) | (refine aoN (hK _ _ ?_); clear hK K') | refine exW ?_)
             refine ⟨q + 1, by omega, by omega, ⟨rfl, rfl, rfl, rfl, tI⟩, ?_⟩
             rw [wake_skip hup]; rfl
           · exfalso; rw [hup] at hc; cases hc
         · exfalso
           have hc2 : decide (((q : Nat) : Int) < ((n : Nat) : Int)) = false := hc
           simp at hc2; omega
       | false =>
         have w := wake_spec (wakeAll t2 q q) (tabIn_of hwv)
         obtain ⟨g1, g2⟩ := wake_step hin hlt hup
         generalize wakeT (wakeAll t2 q q) = V at *
         obtain ⟨V1, V2⟩ := V
         dsimp only at g1 g2
         subst g1
         change PCall _ _ _ (.tup [.agg (encTab V1), .int 0]) at w
         repeat' (first | refine aoQ rfl rfl rfl (fun hg => by exact std0) (by exact rfl) ?_ | refine sqW ?_ | refine rgK (fun K' hK => ?_) | (refine aoN (hK _ _ ?_); clear hK K'))
         refine cdW rfl tI (fun hc => ?_) (fun hc => ?_)
         · repeat' (first | refine aoQ rfl rfl rfl (fun hg => by first | exact PRun.eq (v := .b ((tabsL n (wakeAll t2 q)).getD ((q : Nat) : Int).toNat default).up) (PRun.loadEM (f := encTab) (xs := tabsL n (wakeAll t2 q)) tabOk rfl rfl nd rfl (by omega) rfl rfl) (congrArg (fun x => AV.b x.up) eW) | exact std0 | exact PRun.indexA0 tabOk rfl rfl nd rfl nd rfl (zA0 _) rfl ⟨by omega, by omega⟩ | exact PRun.fieldE tabOk rfl rfl nd rfl rfl) (by exact rfl) ?_ | refine sqW ?_ | refine rgK (fun K' hK => ?_) | (refine aoN (hK _ _ ?_); clear hK K') | refine blK ?_ | refine skW ?_)
           refine cdW rfl tI (fun hc => ?_) (fun hc => ?_)
           · exfalso; rw [hup] at hc; cases hc
           repeat' (first | refine aoQ rfl rfl rfl (fun hg => by first | exact PRun.eq (v := .agg (encTab ((tabsL n (wakeAll t2 q)).getD ((q : Nat) : Int).toNat default))) (PRun.loadEM (f := encTab) (xs := tabsL n (wakeAll t2 q)) tabOk rfl rfl nd rfl (by omega) rfl rfl) (congrArg (fun x => AV.agg (encTab x)) eW) | exact std0 | exact pcW (w) rfl rfl nd rfl nds | exact PRun.indexA0 tabOk rfl rfl nd rfl nd rfl (zA0 _) rfl ⟨by omega, by omega⟩) (by exact rfl) ?_ | refine sqW ?_ | refine rgK (fun K' hK => ?_) | (refine aoN (hK _ _ ?_); clear hK K') | refine aoE (stW tabOk rfl rfl rfl tI rfl rfl tI rfl rfl rfl rfl rfl rfl rfl ?_) | refine aoE (alW tabOk rfl rfl rfl rfl rfl rfl ?_) | refine skW ?_)
           refine cdW rfl tI (fun hc => absurd hc (by decide)) (fun hc => ?_)
           repeat' (first | refine aoQ rfl rfl rfl (fun hg => by first | exact std0 | exact PRun.indexA0 tabOk rfl rfl nd rfl nd rfl (zA0 _) rfl ⟨by omega, by omega⟩) (by exact rfl) ?_ | refine rgK (fun K' hK => ?_) | (refine aoN (hK _ _ ?_); clear hK K') | refine aoE (EStep.storeE (l := 0) tabOk rfl rfl rfl tI rfl hix rfl tI rfl rfl rfl rfl rfl rfl ?_) | refine skW ?_)
           refine ⟨q + 1, by omega, by omega, ⟨rfl, rfl, rfl, rfl, tI⟩, ?_⟩
           show [AObj.arr 10 n (((tabsL n (wakeAll t2 q)).map encTab).set q (encTab V1))] = [AObj.arr 10 n ((tabsL n (wakeAll t2 (q + 1))).map encTab)]
           rw [g2, ← tabs_set hlt, zCg]
         · exfalso
           have hc2 : decide (((q : Nat) : Int) < ((n : Nat) : Int)) = false := hc
           simp at hc2; omega
     · obtain rfl : n = q := by omega
       have hUp := wake_up hin (by omega)
       generalize wakeAll t2 n = t3 at *
       repeat' (first | refine aoQ rfl rfl rfl (fun hg => by exact std0) (by exact rfl) ?_ | refine sqW ?_ | refine rgK (fun K' hK => ?_) | (refine aoN (hK _ _ ?_); clear hK K'))
       refine cdW rfl tI (fun hc => ?_) (fun hc => ?_)
       · exfalso
         have hc2 : decide (((n : Nat) : Int) < ((n : Nat) : Int)) = true := hc
         simp at hc2
       repeat' (first | refine aoQ rfl rfl rfl (fun hg => by exact std0) (by exact rfl) ?_ | refine sqW ?_ | refine rgK (fun K' hK => ?_) | (refine aoN (hK _ _ ?_); clear hK K') | refine blK ?_ | refine exW ?_)
       refine lpD (ι := Nat) (fun r => [(5, .b true), (6, .sla 0 10 0 n n), (15, .int r)]) (fun r => tabS n n (rnd n t3 r)) (fun r => r ≤ 2) (fun r => 2 - r) 1 (fun _ => rfl) 0 (nZl _) ⟨rfl, rfl, rfl, tI⟩ rfl (fun _ _ => rfl) (fun _ _ => okTabs _ _) ?_
       intro r hr
       by_cases hlr : r < 2
       · repeat' (first | refine aoQ rfl rfl rfl (fun hg => by exact std0) (by exact rfl) ?_ | refine sqW ?_ | refine rgK (fun K' hK => ?_) | (refine aoN (hK _ _ ?_); clear hK K'))
         refine cdW rfl tI (fun hc => ?_) (fun hc => ?_)
         · repeat' (first | refine aoQ rfl rfl rfl (fun hg => by exact std0) (by exact rfl) ?_ | refine sqW ?_ | refine rgK (fun K' hK => ?_) | (refine aoN (hK _ _ ?_); clear hK K') | refine blK ?_ | refine skW ?_)
           refine lpD (ι := Nat) (fun i => [(5, .b true), (6, .sla 0 10 0 n n), (15, .int r), (16, .int i)]) (fun i => tabS n n (roundT (rnd n t3 r) i)) (fun i => 1 ≤ i ∧ i ≤ n) (fun i => n - i) 1 (fun _ => rfl) 1 ⟨nLr _, by omega⟩ ⟨rfl, rfl, rfl, rfl, tI⟩ rfl (fun _ _ => rfl) (fun _ _ => okTabs _ _) ?_
           rintro i ⟨hi1, hi⟩
           by_cases hli : i < n
           · skip
             obtain ⟨T, hTe⟩ : ∃ T, roundT (rnd n t3 r) i = T := ⟨_, rfl⟩
             obtain ⟨g1, g2⟩ := round_step (rnd_up hUp r (by omega)) hli hi1
             have hUT := round_up (rnd_up hUp r (by omega)) i (by omega)
             rw [hTe] at g1 g2 hUT
             rw [hTe]
             have v0 := up_valid hUT (show 0 < n by omega)
             have vi := up_valid hUT hli
             have x := exch_spec (T 0) (T i) (tabIn_of v0) (tabIn_of vi)
             generalize exchT (T 0) (T i) = X at *
             obtain ⟨A, B, E⟩ := X
             dsimp only at g1 g2
             subst g1
             change PCall _ _ _ (.tup [.agg (encTab A), .agg (encTab B), .int 0]) at x
             have e0 := tabs_at (t := T) (show 0 < n by omega)
             have ei := tabs_at (t := T) hli
             have hlw := tabs_len n T
             have h0x : ((0 : Nat) : Int).toNat < ((tabsL n T).map encTab).length := by rw [lLm, hlw]; show 0 < n; omega
             have hix : ((i : Nat) : Int).toNat < (((tabsL n T).map encTab).set 0 (encTab A)).length := by rw [List.length_set, lLm, hlw]; exact hli
             repeat' (first | refine aoQ rfl rfl rfl (fun hg => by first | exact std0 | exact PRun.lenA tabOk rfl rfl nd rfl) (by exact rfl) ?_ | refine sqW ?_ | refine rgK (fun K' hK => ?_) | (refine aoN (hK _ _ ?_); clear hK K'))
             refine cdW rfl tI (fun hc => ?_) (fun hc => ?_)
             · repeat' (first | refine sqW ?_ | refine blK ?_ | refine skW ?_)
               refine AWP.newArr 10 (AWP.newArr 10 ?_)
               refine AWP.drawV 2 (clsT [17, 18]) (fun J => cells2 [.arr 10 n ((tabsL n T).map encTab)] A B (J 1) (J 2)) rfl (by kernel_rfl) (by decide +kernel) rfl (by decide +kernel) (fun K' hK => ?_)
               repeat' (first
                | refine VQ.q rfl (by decide +kernel) rfl rfl (fun J' hg => by first | exact PRun.eq (v := .agg (encTab ((tabsL n (T)).getD ((i : Nat) : Int).toNat default))) (PRun.loadEM (f := encTab) (xs := tabsL n (T)) tabOk rfl rfl nd rfl (by omega) rfl rfl) (congrArg (fun x => AV.agg (encTab x)) ei) | exact PRun.eq (v := .agg (encTab ((tabsL n (T)).getD ((0 : Nat) : Int).toNat default))) (PRun.loadEM (f := encTab) (xs := tabsL n (T)) tabOk rfl rfl nd rfl (by omega) rfl rfl) (congrArg (fun x => AV.agg (encTab x)) e0) | exact std0 | exact PRun.indexA0 tabOk rfl rfl nd rfl nd rfl (zA0 _) rfl ⟨by omega, by omega⟩ | exact pcW (x) rfl rfl nd rfl nds | exact std1) (by exact rfl) ?_)
               refine VQ.e 1 0 (v := .eptr 1 10 0 0 1) (d := some 17) rfl (by decide +kernel) rfl ?_ ?_
               · intro env' he J' hJ
                 show EStep _ _ _ _ (fun e s => _ ∧ s = cells2 _ _ _ (J' 1 + 1) (J' 2)) env' (cells2 _ _ _ (J' 1) (J' 2))
                 rw [hJ]
                 exact EStep.allocArr (l := 1) (sz := 10) tabOk rfl rfl rfl rfl rfl rfl rfl rfl ⟨rfl, rfl⟩
               refine VQ.e 2 0 (v := .eptr 2 10 0 0 1) (d := some 18) rfl (by decide +kernel) rfl ?_ ?_
               · intro env' he J' hJ
                 show EStep _ _ _ _ (fun e s => _ ∧ s = cells2 _ _ _ (J' 1) (J' 2 + 1)) env' (cells2 _ _ _ (J' 1) (J' 2))
                 rw [hJ]
                 exact EStep.allocArr (l := 2) (sz := 10) tabOk rfl rfl rfl rfl rfl rfl rfl rfl ⟨rfl, rfl⟩
               refine VQ.e 1 1 (v := .any) (d := none) rfl (by decide +kernel) rfl ?_ ?_
               · intro env' he J' hJ
                 show EStep _ _ _ _ (fun e s => _ ∧ s = cells2 _ _ _ (J' 1 + 1) (J' 2)) env' (cells2 _ _ _ (J' 1) (J' 2))
                 rw [hJ]
                 exact EStep.storeE (l := 1) tabOk rfl rfl ((rdv_congr (he 17 (by decide +kernel))).trans rfl) (by rw [rdn_congr (he 17 (by decide +kernel))]; first | exact tI | exact rfl) rfl (zA0 _) ((rdv_congr (he 113 (by decide +kernel))).trans rfl) (by rw [rdn_congr (he 113 (by decide +kernel))]; first | exact tI | exact rfl) rfl rfl rfl rfl rfl rfl ⟨rfl, rfl⟩
               refine VQ.e 2 1 (v := .any) (d := none) rfl (by decide +kernel) rfl ?_ ?_
               · intro env' he J' hJ
                 show EStep _ _ _ _ (fun e s => _ ∧ s = cells2 _ _ _ (J' 1) (J' 2 + 1)) env' (cells2 _ _ _ (J' 1) (J' 2))
                 rw [hJ]
                 exact EStep.storeE (l := 2) tabOk rfl rfl ((rdv_congr (he 18 (by decide +kernel))).trans rfl) (by rw [rdn_congr (he 18 (by decide +kernel))]; first | exact tI | exact rfl) rfl (zA0 _) ((rdv_congr (he 114 (by decide +kernel))).trans rfl) (by rw [rdn_congr (he 114 (by decide +kernel))]; first | exact tI | exact rfl) rfl rfl rfl rfl rfl rfl ⟨rfl, rfl⟩
               repeat' (first
                | refine VQ.q rfl (by decide +kernel) rfl rfl (fun J' hg => by first | exact std0 | exact std1) (by exact rfl) ?_)
               refine VQ.nil (hK _ _ ?_)
               clear hK K'
               show AWP _ _ _ _ _ (cells2 [.arr 10 n ((tabsL n T).map encTab)] A B 2 2)
               repeat' (first | refine aoQ rfl rfl rfl (fun hg => by exact std0) (by exact rfl) ?_ | refine sqW ?_ | refine rgK (fun K' hK => ?_) | (refine aoN (hK _ _ ?_); clear hK K'))
               refine cdW rfl tI (fun hc => absurd hc (by decide)) (fun hc => ?_)
               repeat' (first | refine skW ?_)
               refine AWP.drawY (fun j => match j with | 0 => [.arr 10 n ((tabsL n T).map encTab), .arr 10 1 [encTab A], .arr 10 1 [encTab B]] | 1 => [.arr 10 n (((tabsL n T).map encTab).set 0 (encTab A)), .arr 10 1 [encTab A], .arr 10 1 [encTab B]] | _ => [.arr 10 n ((((tabsL n T).map encTab).set 0 (encTab A)).set i (encTab B)), .arr 10 1 [encTab A], .arr 10 1 [encTab B]]) rfl (by kernel_rfl) (by decide +kernel) rfl (by decide +kernel) (fun K' hK => ?_)
               repeat' (first
                | refine yqQ (a := 0) (b := 0) rfl (by decide +kernel) (by decide +kernel) rfl rfl rfl (fun k h1 h2 hg => by (have hk : k = 0 := (by omega)); (rcases hk with rfl) <;> (first | exact std0 | exact PRun.indexA0 tabOk rfl rfl nd rfl nd rfl (zA0 _) rfl ⟨by omega, by omega⟩ | exact PRun.loadE tabOk rfl rfl nd rfl (zA0 _) rfl rfl rfl | exact std1)) (by exact rfl) ?_
                | refine yqQ (a := 0) (b := 1) rfl (by decide +kernel) (by decide +kernel) rfl rfl rfl (fun k h1 h2 hg => by (have hk : k = 0 ∨ k = 1 := (by omega)); (rcases hk with rfl | rfl) <;> (first | exact std0 | exact PRun.indexA0 tabOk rfl rfl nd rfl nd rfl (zA0 _) rfl ⟨by omega, by omega⟩ | exact PRun.loadE tabOk rfl rfl nd rfl (zA0 _) rfl rfl rfl | exact std1)) (by exact rfl) ?_
                | refine yqQ (a := 1) (b := 1) rfl (by decide +kernel) (by decide +kernel) rfl rfl rfl (fun k h1 h2 hg => by (have hk : k = 1 := (by omega)); (rcases hk with rfl) <;> (first | exact std0 | exact PRun.indexA0 tabOk rfl rfl nd rfl nd rfl (zA0 _) rfl ⟨by omega, by omega⟩ | exact PRun.loadE tabOk rfl rfl nd rfl (zA0 _) rfl rfl rfl | exact std1)) (by exact rfl) ?_
                | refine yqQ (a := 0) (b := 2) rfl (by decide +kernel) (by decide +kernel) rfl rfl rfl (fun k h1 h2 hg => by (have hk : k = 0 ∨ k = 1 ∨ k = 2 := (by omega)); (rcases hk with rfl | rfl | rfl) <;> (first | exact std0 | exact PRun.indexA0 tabOk rfl rfl nd rfl nd rfl (zA0 _) rfl ⟨by omega, by omega⟩ | exact PRun.loadE tabOk rfl rfl nd rfl (zA0 _) rfl rfl rfl | exact std1)) (by exact rfl) ?_
                | refine yqQ (a := 1) (b := 2) rfl (by decide +kernel) (by decide +kernel) rfl rfl rfl (fun k h1 h2 hg => by (have hk : k = 1 ∨ k = 2 := (by omega)); (rcases hk with rfl | rfl) <;> (first | exact std0 | exact PRun.indexA0 tabOk rfl rfl nd rfl nd rfl (zA0 _) rfl ⟨by omega, by omega⟩ | exact PRun.loadE tabOk rfl rfl nd rfl (zA0 _) rfl rfl rfl | exact std1)) (by exact rfl) ?_
                | refine yqQ (a := 2) (b := 2) rfl (by decide +kernel) (by decide +kernel) rfl rfl rfl (fun k h1 h2 hg => by (have hk : k = 2 := (by omega)); (rcases hk with rfl) <;> (first | exact std0 | exact PRun.indexA0 tabOk rfl rfl nd rfl nd rfl (zA0 _) rfl ⟨by omega, by omega⟩ | exact PRun.loadE tabOk rfl rfl nd rfl (zA0 _) rfl rfl rfl | exact std1)) (by exact rfl) ?_)
               refine YQ.e (v := .any) (d := none) rfl rfl rfl ?_ ?_
               · intro env' he
                 exact EStep.storeE (l := 0) tabOk rfl rfl ((rdv_congr (he 123 (by decide +kernel))).trans rfl) (by rw [rdn_congr (he 123 (by decide +kernel))]; first | exact tI | exact rfl) rfl h0x ((rdv_congr (he 121 (by decide +kernel))).trans rfl) (by rw [rdn_congr (he 121 (by decide +kernel))]; first | exact tI | exact rfl) rfl rfl rfl rfl rfl rfl ⟨rfl, rfl⟩
               repeat' (first
                | refine yqQ (a := 0) (b := 0) rfl (by decide +kernel) (by decide +kernel) rfl rfl rfl (fun k h1 h2 hg => by (have hk : k = 0 := (by omega)); (rcases hk with rfl) <;> (first | exact std0 | exact PRun.indexA0 tabOk rfl rfl nd rfl nd rfl (zA0 _) rfl ⟨by omega, by omega⟩ | exact PRun.loadE tabOk rfl rfl nd rfl (zA0 _) rfl rfl rfl | exact std1)) (by exact rfl) ?_
                | refine yqQ (a := 0) (b := 1) rfl (by decide +kernel) (by decide +kernel) rfl rfl rfl (fun k h1 h2 hg => by (have hk : k = 0 ∨ k = 1 := (by omega)); (rcases hk with rfl | rfl) <;> (first | exact std0 | exact PRun.indexA0 tabOk rfl rfl nd rfl nd rfl (zA0 _) rfl ⟨by omega, by omega⟩ | exact PRun.loadE tabOk rfl rfl nd rfl (zA0 _) rfl rfl rfl | exact std1)) (by exact rfl) ?_
                | refine yqQ (a := 1) (b := 1) rfl (by decide +kernel) (by decide +kernel) rfl rfl rfl (fun k h1 h2 hg => by (have hk : k = 1 := (by omega)); (rcases hk with rfl) <;> (first | exact std0 | exact PRun.indexA0 tabOk rfl rfl nd rfl nd rfl (zA0 _) rfl ⟨by omega, by omega⟩ | exact PRun.loadE tabOk rfl rfl nd rfl (zA0 _) rfl rfl rfl | exact std1)) (by exact rfl) ?_
                | refine yqQ (a := 0) (b := 2) rfl (by decide +kernel) (by decide +kernel) rfl rfl rfl (fun k h1 h2 hg => by (have hk : k = 0 ∨ k = 1 ∨ k = 2 := (by omega)); (rcases hk with rfl | rfl | rfl) <;> (first | exact std0 | exact PRun.indexA0 tabOk rfl rfl nd rfl nd rfl (zA0 _) rfl ⟨by omega, by omega⟩ | exact PRun.loadE tabOk rfl rfl nd rfl (zA0 _) rfl rfl rfl | exact std1)) (by exact rfl) ?_
                | refine yqQ (a := 1) (b := 2) rfl (by decide +kernel) (by decide +kernel) rfl rfl rfl (fun k h1 h2 hg => by (have hk : k = 1 ∨ k = 2 := (by omega)); (rcases hk with rfl | rfl) <;> (first | exact std0 | exact PRun.indexA0 tabOk rfl rfl nd rfl nd rfl (zA0 _) rfl ⟨by omega, by omega⟩ | exact PRun.loadE tabOk rfl rfl nd rfl (zA0 _) rfl rfl rfl | exact std1)) (by exact rfl) ?_
                | refine yqQ (a := 2) (b := 2) rfl (by decide +kernel) (by decide +kernel) rfl rfl rfl (fun k h1 h2 hg => by (have hk : k = 2 := (by omega)); (rcases hk with rfl) <;> (first | exact std0 | exact PRun.indexA0 tabOk rfl rfl nd rfl nd rfl (zA0 _) rfl ⟨by omega, by omega⟩ | exact PRun.loadE tabOk rfl rfl nd rfl (zA0 _) rfl rfl rfl | exact std1)) (by exact rfl) ?_)
               refine YQ.e (v := .any) (d := none) rfl rfl rfl ?_ ?_
               · intro env' he
                 exact EStep.storeE (l := 0) tabOk rfl rfl ((rdv_congr (he 124 (by decide +kernel))).trans rfl) (by rw [rdn_congr (he 124 (by decide +kernel))]; first | exact tI | exact rfl) rfl hix ((rdv_congr (he 122 (by decide +kernel))).trans rfl) (by rw [rdn_congr (he 122 (by decide +kernel))]; first | exact tI | exact rfl) rfl rfl rfl rfl rfl rfl ⟨rfl, rfl⟩
               repeat' (first
                | refine yqQ (a := 0) (b := 0) rfl (by decide +kernel) (by decide +kernel) rfl rfl rfl (fun k h1 h2 hg => by (have hk : k = 0 := (by omega)); (rcases hk with rfl) <;> (first | exact std0 | exact PRun.indexA0 tabOk rfl rfl nd rfl nd rfl (zA0 _) rfl ⟨by omega, by omega⟩ | exact PRun.loadE tabOk rfl rfl nd rfl (zA0 _) rfl rfl rfl | exact std1)) (by exact rfl) ?_
                | refine yqQ (a := 0) (b := 1) rfl (by decide +kernel) (by decide +kernel) rfl rfl rfl (fun k h1 h2 hg => by (have hk : k = 0 ∨ k = 1 := (by omega)); (rcases hk with rfl | rfl) <;> (first | exact std0 | exact PRun.indexA0 tabOk rfl rfl nd rfl nd rfl (zA0 _) rfl ⟨by omega, by omega⟩ | exact PRun.loadE tabOk rfl rfl nd rfl (zA0 _) rfl rfl rfl | exact std1)) (by exact rfl) ?_
                | refine yqQ (a := 1) (b := 1) rfl (by decide +kernel) (by decide +kernel) rfl rfl rfl (fun k h1 h2 hg => by (have hk : k = 1 := (by omega)); (rcases hk with rfl) <;> (first | exact std0 | exact PRun.indexA0 tabOk rfl rfl nd rfl nd rfl (zA0 _) rfl ⟨by omega, by omega⟩ | exact PRun.loadE tabOk rfl rfl nd rfl (zA0 _) rfl rfl rfl | exact std1)) (by exact rfl) ?_
                | refine yqQ (a := 0) (b := 2) rfl (by decide +kernel) (by decide +kernel) rfl rfl rfl (fun k h1 h2 hg => by (have hk : k = 0 ∨ k = 1 ∨ k = 2 := (by omega)); (rcases hk with rfl | rfl | rfl) <;> (first | exact std0 | exact PRun.indexA0 tabOk rfl rfl nd rfl nd rfl (zA0 _) rfl ⟨by omega, by omega⟩ | exact PRun.loadE tabOk rfl rfl nd rfl (zA0 _) rfl rfl rfl | exact std1)) (by exact rfl) ?_
                | refine yqQ (a := 1) (b := 2) rfl (by decide +kernel) (by decide +kernel) rfl rfl rfl (fun k h1 h2 hg => by (have hk : k = 1 ∨ k = 2 := (by omega)); (rcases hk with rfl | rfl) <;> (first | exact std0 | exact PRun.indexA0 tabOk rfl rfl nd rfl nd rfl (zA0 _) rfl ⟨by omega, by omega⟩ | exact PRun.loadE tabOk rfl rfl nd rfl (zA0 _) rfl rfl rfl | exact std1)) (by exact rfl) ?_
                | refine yqQ (a := 2) (b := 2) rfl (by decide +kernel) (by decide +kernel) rfl rfl rfl (fun k h1 h2 hg => by (have hk : k = 2 := (by omega)); (rcases hk with rfl) <;> (first | exact std0 | exact PRun.indexA0 tabOk rfl rfl nd rfl nd rfl (zA0 _) rfl ⟨by omega, by omega⟩ | exact PRun.loadE tabOk rfl rfl nd rfl (zA0 _) rfl rfl rfl | exact std1)) (by exact rfl) ?_)
               refine YQ.nil (hK _ _ ?_)
               clear hK K'
               repeat' (first | refine aoQ rfl rfl rfl (fun hg => by exact std0) (by exact rfl) ?_ | refine rgK (fun K' hK => ?_) | (refine aoN (hK _ _ ?_); clear hK K'))
               refine ⟨i + 1, ⟨by omega, by omega⟩, by omega, ⟨rfl, rfl, rfl, rfl, tI⟩, ?_⟩
               show [AObj.arr 10 n ((((tabsL n T).map encTab).set 0 (encTab A)).set i (encTab B))] = [AObj.arr 10 n ((tabsL n (roundT (rnd n t3 r) (i + 1))).map encTab)]
               rw [g2, ← tabs_set hli, ← tabs_set (show 0 < n by omega), zCg, zCg]
             · exfalso
               have hc2 : decide (((i : Nat) : Int) < ((n : Nat) : Int)) = false := hc
               simp at hc2; omega
           · obtain rfl : n = i := by omega
             repeat' (first | refine aoQ rfl rfl rfl (fun hg => by first | exact std0 | exact PRun.lenA tabOk rfl rfl nd rfl) (by exact rfl) ?_ | refine sqW ?_ | refine rgK (fun K' hK => ?_) | (refine aoN (hK _ _ ?_); clear hK K'))
             refine cdW rfl tI (fun hc => ?_) (fun hc => ?_)
             · exfalso
               have hc2 : decide (((n : Nat) : Int) < ((n : Nat) : Int)) = true := hc
               simp at hc2
             repeat' (first | refine aoQ rfl rfl rfl (fun hg => by exact std0) (by exact rfl) ?_ | refine rgK (fun K' hK => ?_) | (refine aoN (hK _ _ ?_); clear hK K') | refine exW ?_)
             exact ⟨r + 1, by omega, by omega, ⟨rfl, rfl, rfl, tI⟩, rfl⟩
         · exfalso
           have hc2 : decide (((r : Nat) : Int) < 2) = false := hc
           simp at hc2; omega
       · obtain rfl : r = 2 := by omega
         repeat' (first | refine aoQ rfl rfl rfl (fun hg => by exact std0) (by exact rfl) ?_ | refine sqW ?_ | refine rgK (fun K' hK => ?_) | (refine aoN (hK _ _ ?_); clear hK K'))
         refine cdW rfl tI (fun hc => absurd hc (by decide)) (fun hc => ?_)
         have hsm := fun j hj => rnd_same (j := j) hUp hj
         have hU2 := rnd_up hUp 2 (nLr _)
         generalize rnd n t3 2 = T at *
         repeat' (first | refine aoQ rfl rfl rfl (fun hg => by first | exact std0 | exact PRun.lenA tabOk rfl rfl nd rfl) (by exact rfl) ?_ | refine sqW ?_ | refine rgK (fun K' hK => ?_) | (refine aoN (hK _ _ ?_); clear hK K') | refine blK ?_ | refine exW ?_)
         refine lpD (ι := Nat) (fun k => [(5, .b true), (6, .sla 0 10 0 n n), (125, .sla 0 10 0 n n), (126, .int n), (127, .int k)]) (fun _ => tabS n n T) (fun k => k ≤ n) (fun k => n - k) 1 (fun _ => rfl) 0 (nZl _) ⟨rfl, rfl, rfl, rfl, rfl, tI⟩ rfl (fun _ _ => rfl) (fun _ _ => okTabs _ _) ?_
         intro k hk
         by_cases hlk : k < n
         · have e0 := tabs_at (t := T) (show 0 < n by omega)
           have ek := tabs_at (t := T) hlk
           have hlw := tabs_len n T
           have sm := same22_spec (T k).s.evs (T 0).s.evs (tabIn_of (up_valid hU2 hlk)).evs (tabIn_of (up_valid hU2 (show 0 < n by omega))).evs
           rw [show ((T k).s.evs == (T 0).s.evs) = true by rw [hsm k hlk]; exact beq_self_eq_true _] at sm
           repeat' (first | refine aoQ rfl rfl rfl (fun hg => by first | exact PRun.eq (v := .agg (encTab ((tabsL n (T)).getD ((k : Nat) : Int).toNat default))) (PRun.loadEM (f := encTab) (xs := tabsL n (T)) tabOk rfl rfl nd rfl (by omega) rfl rfl) (congrArg (fun x => AV.agg (encTab x)) ek) | exact std0 | exact PRun.indexA0 tabOk rfl rfl nd rfl nd rfl (zA0 _) rfl ⟨by omega, by omega⟩) (by exact rfl) ?_ | refine sqW ?_ | refine rgK (fun K' hK => ?_) | (refine aoN (hK _ _ ?_); clear hK K') | refine aoE (stW tabOk rfl rfl rfl tI rfl rfl tI rfl rfl rfl rfl rfl rfl rfl ?_) | refine aoE (alW tabOk rfl rfl rfl rfl rfl rfl ?_) | refine cdN rfl tI (fun hc => ?_) (fun hc => ?_) | refine blK ?_ | refine exW ?_ | refine skW ?_ | refine rtW ?_ | refine dK2 (by decide +kernel) (by kernel_rfl) (by decide +kernel) rfl (fun K' hK => ?_) | (refine aqN (hK _ ?_); clear hK K') | refine aqQ rfl rfl (fun hg => by first | exact PRun.eq (v := .sl 14 (((tabsL n (T)).getD ((0 : Nat) : Int).toNat default).s.evs.map encE) .no) (PRun.loadEM (f := encTab) (xs := tabsL n (T)) tabOk rfl rfl nd rfl (by omega) rfl rfl) (congrArg (fun x => AV.sl 14 (x.s.evs.map encE) .no) e0) | exact std0 | exact PRun.indexA0 tabOk rfl rfl nd rfl nd rfl (zA0 _) rfl ⟨by omega, by omega⟩ | exact PRun.fieldE tabOk rfl rfl nd rfl rfl | exact pcW (sm) rfl rfl nd rfl nds) (by exact rfl) ?_)
           all_goals first | (exfalso; omega) | skip
           exact ⟨k + 1, by omega, by omega, ⟨rfl, rfl, rfl, rfl, rfl, tI⟩, rfl⟩
         · repeat' (first | refine aoQ rfl rfl rfl (fun hg => by exact std0) (by exact rfl) ?_ | refine sqW ?_ | refine rgK (fun K' hK => ?_) | (refine aoN (hK _ _ ?_); clear hK K') | refine cdN rfl tI (fun hc => ?_) (fun hc => ?_) | refine blK ?_ | refine exW ?_ | refine skW ?_ | refine rtW ?_)
           all_goals first | (exfalso; omega) | skip
           exact ⟨.inr rfl, Ent.b rfl⟩
end Go.Proofs.YtbneeinknlddaaaGreat
