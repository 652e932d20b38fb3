/- Contracts by content: events out of integers: the reference.  Contracts by content: the journal of the reference: one event more, all events.  Text as runes.  Contracts by content: the marks of the program. No statement is proved here. -/
import Derived.Laws.IdiomStrings
import Derived.Test.YtbneeinknlddaaaGreatP17
set_option linter.unusedVariables false
set_option linter.unusedSimpArgs false
namespace Go.Proofs.YtbneeinknlddaaaGreat
open Go.Ab Go.Jo
attribute [local irreducible] AWP AOps EStep AQ PStep PRun PCall TCall VCall DStep TDies AWD DCall
def eventR (l : List Int) : Ev × Int := match event l with
 | some e => (e, 0)
 | none => (noEv, 7)
theorem eventR_form {l : List Int} (h : formOk l = false) : eventR l = (noEv, 7) := by
 unfold eventR event; rw [h]; rfl
theorem eventR_ok {l : List Int} (h : formOk l = true) : eventR l = if evOk (rawEv l) then (rawEv l, 0) else (noEv, 7) := by
 unfold eventR event; rw [h]; cases evOk (rawEv l) <;> rfl
set_option maxHeartbeats 1600000 in
set_option maxRecDepth 20000 in
theorem event23_spec (l : List Int) (hl : l.length ≤ 1000000) : PCall Tryz.prog 86 [.sl 1 (l.map encN) .no] (.tup [.agg (encE (eventR l).1), .int (eventR l).2]) := by
 by_cases hr : 4 ≤ l.length ∧ l.length ≤ 212
 · obtain ⟨h4, h212⟩ := hr
   refine PCall.bodyS tabOk Tryz.func86 rfl rfl Tryz.ntmps86 rfl ?_
   repeat' (first | refine aoQ rfl rfl rfl (fun hg => by first | exact std0 | exact pbD tabOk rfl rfl nds | exact std1) (by exact rfl) ?_ | refine sqW ?_ | refine rgK (fun K' hK => ?_) | (refine aoN (hK _ _ ?_); clear hK K') | refine aoE (bxW rfl rfl rfl rfl rfl tI rfl rfl ?_) | refine aoE (stW tabOk rfl rfl rfl tI rfl rfl tI rfl rfl rfl rfl rfl rfl rfl ?_) | refine aoE (alW tabOk rfl rfl rfl rfl rfl rfl ?_) | refine cdN rfl tI (fun hc => ?_) (fun hc => ?_) | refine blK ?_ | refine exW ?_ | refine skW ?_ | refine rtW ?_ | (refine aqN (hK _ ?_); clear hK K') | refine aqN ?_ | refine aqQ rfl rfl (fun hg => by first | exact std0 | exact pbD tabOk rfl rfl nds | exact std1) (by exact rfl) ?_)
   · (exfalso; first | omega | (simp at hc; done) | (simp only [zAc, zAm, zA0, zAf, zAd, dEt, dEf, zAl, zAk, beq_iff_eq, beq_eq_false_iff_ne, bne_iff_ne, bne_eq_false_iff_eq, gt_iff_lt, ge_iff_le, ne_eq] at hc; omega))
   clear hc
   refine AWP.drawY (fun k => match k with | 0 => [.var (encE noEv)] | 1 => [.var (encE noEv), .var (encE noEv)] | _ => [.var (encE noEv), .var (encE ⟨l.getD 0 0, l.getD 1 0, l.getD 2 0, 0, noMark⟩)]) rfl (by kernel_rfl) (by decide +kernel) rfl (by decide +kernel) (fun K' hK => ?_)
   repeat' (first
    | refine yqQ (a := 0) (b := 0) rfl (by decide +kernel) (by decide +kernel) rfl rfl rfl (fun k h1 h2 hg => by (have hk : k = 0 := (by omega)); (rcases hk with rfl) <;> (first | exact std0 | exact pbD tabOk rfl rfl nds | exact std1)) (by exact rfl) ?_
    | refine yqQ (a := 0) (b := 1) rfl (by decide +kernel) (by decide +kernel) rfl rfl rfl (fun k h1 h2 hg => by (have hk : k = 0 ∨ k = 1 := (by omega)); (rcases hk with rfl | rfl) <;> (first | exact std0 | exact pbD tabOk rfl rfl nds | exact std1)) (by exact rfl) ?_
    | refine yqQ (a := 1) (b := 1) rfl (by decide +kernel) (by decide +kernel) rfl rfl rfl (fun k h1 h2 hg => by (have hk : k = 1 := (by omega)); (rcases hk with rfl) <;> (first | exact std0 | exact pbD tabOk rfl rfl nds | exact std1)) (by exact rfl) ?_
    | refine yqQ (a := 0) (b := 2) rfl (by decide +kernel) (by decide +kernel) rfl rfl rfl (fun k h1 h2 hg => by (have hk : k = 0 ∨ k = 1 ∨ k = 2 := (by omega)); (rcases hk with rfl | rfl | rfl) <;> (first | exact std0 | exact pbD tabOk rfl rfl nds | exact std1)) (by exact rfl) ?_
    | refine yqQ (a := 1) (b := 2) rfl (by decide +kernel) (by decide +kernel) rfl rfl rfl (fun k h1 h2 hg => by (have hk : k = 1 ∨ k = 2 := (by omega)); (rcases hk with rfl | rfl) <;> (first | exact std0 | exact pbD tabOk rfl rfl nds | exact std1)) (by exact rfl) ?_
    | refine yqQ (a := 2) (b := 2) rfl (by decide +kernel) (by decide +kernel) rfl rfl rfl (fun k h1 h2 hg => by (have hk : k = 2 := (by omega)); (rcases hk with rfl) <;> (first | exact std0 | exact pbD tabOk rfl rfl nds | exact std1)) (by exact rfl) ?_)
   refine YQ.e (v := .ptr 1 0) (d := some 4) rfl rfl rfl ?_ ?_
   · intro env' he
     exact alW tabOk rfl rfl rfl rfl rfl rfl ⟨rfl, rfl⟩
   refine YQ.e (v := .any) (d := none) rfl rfl rfl ?_ ?_
   · intro env' he
     exact stW tabOk rfl rfl ((rdv_congr (he 4 (by decide +kernel))).trans rfl) (by rw [rdn_congr (he 4 (by decide +kernel))]; exact tI) rfl ((rdv_congr (he 26 (by decide +kernel))).trans rfl) (by rw [rdn_congr (he 26 (by decide +kernel))]; exact tI) rfl rfl rfl rfl rfl rfl rfl ⟨rfl, rfl⟩
   refine YQ.nil (hK _ _ ?_)
   clear hK K'
   refine AWP.keep [(0, .sl 1 (l.map encN) .no), (2, .ptr 0 0), (4, .ptr 1 0)] ⟨rfl, rfl, rfl, tI⟩ ?_
   show AWP _ _ _ _ _ [.var (encE noEv), .var (encE ⟨l.getD 0 0, l.getD 1 0, l.getD 2 0, 0, noMark⟩)]
   have hdef : ∀ i, l.getD i default = l.getD i 0 := fun _ => rfl
   by_cases hk : l.getD 2 0 = 1
   · by_cases h12 : 12 ≤ l.length
     · have ht := text23_spec (l.drop 12) (by rw [zAe]; omega)
       cases hT : (l.drop 12).all (fun n => inR n 32 126) with
       | false =>
         rw [show textR (l.drop 12) = ([], false) by unfold textR; rw [hT]; rfl] at ht
         dsimp only at ht
         have hf : formOk l = false := by unfold formOk; rw [if_pos hk, hT]; simp
         rw [eventR_form hf]
         repeat' (first | refine aoQ rfl rfl rfl (fun hg => by first | exact std0 | exact pbD tabOk rfl rfl nds | exact PRun.sliceLoM tabOk rfl rfl nd rfl nd rfl (by omega) | exact PRun.sliceHiM tabOk rfl rfl nd rfl nd rfl (by omega) | exact PRun.sliceM tabOk rfl rfl nd rfl nd rfl nd rfl (by omega) | exact pcW (ht) rfl rfl nd rfl nds | exact std1) (by exact rfl) ?_ | refine sqW ?_ | refine rgK (fun K' hK => ?_) | (refine aoN (hK _ _ ?_); clear hK K') | refine aoE (bxW rfl rfl rfl rfl rfl tI rfl rfl ?_) | refine aoE (stW tabOk rfl rfl rfl tI rfl rfl tI rfl rfl rfl rfl rfl rfl rfl ?_) | refine aoE (alW tabOk rfl rfl rfl rfl rfl rfl ?_) | refine cdN rfl tI (fun hc => ?_) (fun hc => ?_) | refine blK ?_ | refine exW ?_ | refine skW ?_ | refine rtW ?_ | refine dK2 (by decide +kernel) (by kernel_rfl) (by decide +kernel) rfl (fun K' hK => ?_) | refine dL2 (by kernel_rfl) (by decide +kernel) rfl (fun K' hK => ?_) | (refine aqN (hK _ ?_); clear hK K') | refine aqN ?_ | refine aqQ rfl rfl (fun hg => by first | exact std0 | exact pbD tabOk rfl rfl nds | exact PRun.sliceLoM tabOk rfl rfl nd rfl nd rfl (by omega) | exact PRun.sliceHiM tabOk rfl rfl nd rfl nd rfl (by omega) | exact PRun.sliceM tabOk rfl rfl nd rfl nd rfl nd rfl (by omega) | exact pcW (ht) rfl rfl nd rfl nds | exact std1) (by exact rfl) ?_)
         all_goals first
          | (exfalso; omega)
          | (exfalso; simp at hc; done)
          | (exfalso; rename_i h; rw [hk] at h; cases h; done)
          | (exfalso; rename_i h _; rw [hk] at h; cases h; done)
          | (exfalso; rename_i h _ _; rw [hk] at h; cases h; done)
          | exact ⟨.inr rfl, _, rfl, Ent.of rfl⟩
          | (rw [if_neg (by simpa using hc)]; exact ⟨.inr rfl, _, rfl, Ent.of rfl⟩)
          | (rw [if_pos (by simpa using hc)]; exact ⟨.inr rfl, _, rfl, Ent.of rfl⟩)
       | true =>
         rw [show textR (l.drop 12) = (untxt (l.drop 12), true) by unfold textR; rw [hT]; rfl] at ht
         dsimp only at ht
         have hf : formOk l = true := by unfold formOk; rw [if_pos hk, hT]; simp; omega
         have hv := event22_spec ⟨l.getD 0 0, l.getD 1 0, l.getD 2 0, 0, ⟨l.getD 3 0, l.getD 4 0, l.getD 5 0, ⟨l.getD 6 0, l.getD 7 0, l.getD 8 0⟩, l.getD 9 0, l.getD 10 0, l.getD 11 0, untxt (l.drop 12)⟩⟩ (by simp [untxt]; omega)
         have hr1 : rawEv l = ⟨l.getD 0 0, l.getD 1 0, l.getD 2 0, 0, ⟨l.getD 3 0, l.getD 4 0, l.getD 5 0, ⟨l.getD 6 0, l.getD 7 0, l.getD 8 0⟩, l.getD 9 0, l.getD 10 0, l.getD 11 0, untxt (l.drop 12)⟩⟩ := by unfold rawEv; rw [if_pos hk, hk]
         rw [eventR_ok hf, hr1]
         repeat' (first | refine aoQ rfl rfl rfl (fun hg => by first | exact std0 | exact pbD tabOk rfl rfl nds | exact PRun.sliceLoM tabOk rfl rfl nd rfl nd rfl (by omega) | exact PRun.sliceHiM tabOk rfl rfl nd rfl nd rfl (by omega) | exact PRun.sliceM tabOk rfl rfl nd rfl nd rfl nd rfl (by omega) | exact pcW (ht) rfl rfl nd rfl nds | exact pcW (hv) rfl rfl nd rfl nds | exact std1) (by exact rfl) ?_ | refine sqW ?_ | refine rgK (fun K' hK => ?_) | (refine aoN (hK _ _ ?_); clear hK K') | refine aoE (bxW rfl rfl rfl rfl rfl tI rfl rfl ?_) | refine aoE (stW tabOk rfl rfl rfl tI rfl rfl tI rfl rfl rfl rfl rfl rfl rfl ?_) | refine aoE (alW tabOk rfl rfl rfl rfl rfl rfl ?_) | refine cdN rfl tI (fun hc => ?_) (fun hc => ?_) | refine blK ?_ | refine exW ?_ | refine skW ?_ | refine rtW ?_ | refine dK2 (by decide +kernel) (by kernel_rfl) (by decide +kernel) rfl (fun K' hK => ?_) | refine dL2 (by kernel_rfl) (by decide +kernel) rfl (fun K' hK => ?_) | (refine aqN (hK _ ?_); clear hK K') | refine aqN ?_ | refine aqQ rfl rfl (fun hg => by first | exact std0 | exact pbD tabOk rfl rfl nds | exact PRun.sliceLoM tabOk rfl rfl nd rfl nd rfl (by omega) | exact PRun.sliceHiM tabOk rfl rfl nd rfl nd rfl (by omega) | exact PRun.sliceM tabOk rfl rfl nd rfl nd rfl nd rfl (by omega) | exact pcW (ht) rfl rfl nd rfl nds | exact pcW (hv) rfl rfl nd rfl nds | exact std1) (by exact rfl) ?_)
         all_goals first
          | (exfalso; omega)
          | (exfalso; simp at hc; done)
          | (exfalso; rename_i h; rw [hk] at h; cases h; done)
          | (exfalso; rename_i h _; rw [hk] at h; cases h; done)
          | (exfalso; rename_i h _ _; rw [hk] at h; cases h; done)
          | exact ⟨.inr rfl, _, rfl, Ent.of rfl⟩
          | (rw [if_neg (by simpa using hc)]; exact ⟨.inr rfl, _, rfl, Ent.of rfl⟩)
          | (rw [if_pos (by simpa using hc)]; exact ⟨.inr rfl, _, rfl, Ent.of rfl⟩)
     · have hf : formOk l = false := by unfold formOk; rw [if_pos hk]; simp; omega
       rw [eventR_form hf]
       repeat' (first | refine aoQ rfl rfl rfl (fun hg => by first | exact std0 | exact pbD tabOk rfl rfl nds | exact std1) (by exact rfl) ?_ | refine sqW ?_ | refine rgK (fun K' hK => ?_) | (refine aoN (hK _ _ ?_); clear hK K') | refine aoE (bxW rfl rfl rfl rfl rfl tI rfl rfl ?_) | refine aoE (stW tabOk rfl rfl rfl tI rfl rfl tI rfl rfl rfl rfl rfl rfl rfl ?_) | refine aoE (alW tabOk rfl rfl rfl rfl rfl rfl ?_) | refine cdN rfl tI (fun hc => ?_) (fun hc => ?_) | refine blK ?_ | refine exW ?_ | refine skW ?_ | refine rtW ?_ | refine dK2 (by decide +kernel) (by kernel_rfl) (by decide +kernel) rfl (fun K' hK => ?_) | refine dL2 (by kernel_rfl) (by decide +kernel) rfl (fun K' hK => ?_) | (refine aqN (hK _ ?_); clear hK K') | refine aqN ?_ | refine aqQ rfl rfl (fun hg => by first | exact std0 | exact pbD tabOk rfl rfl nds | exact std1) (by exact rfl) ?_)
       all_goals first
        | (exfalso; omega)
        | (exfalso; simp at hc; done)
        | (exfalso; rename_i h; rw [hk] at h; cases h; done)
        | (exfalso; rename_i h _; rw [hk] at h; cases h; done)
        | (exfalso; rename_i h _ _; rw [hk] at h; cases h; done)
        | exact ⟨.inr rfl, _, rfl, Ent.of rfl⟩
        | (rw [if_neg (by simpa using hc)]; exact ⟨.inr rfl, _, rfl, Ent.of rfl⟩)
        | (rw [if_pos (by simpa using hc)]; exact ⟨.inr rfl, _, rfl, Ent.of rfl⟩)
   · by_cases h44 : l.length = 4
     · have hf : formOk l = true := by unfold formOk; rw [if_neg hk]; simp; omega
       have hv := event22_spec ⟨l.getD 0 0, l.getD 1 0, l.getD 2 0, l.getD 3 0, noMark⟩ (by simp [noMark])
       have hr1 : rawEv l = ⟨l.getD 0 0, l.getD 1 0, l.getD 2 0, l.getD 3 0, noMark⟩ := if_neg hk
       rw [eventR_ok hf, hr1]
       repeat' (first | refine aoQ rfl rfl rfl (fun hg => by first | exact std0 | exact pbD tabOk rfl rfl nds | exact pcW (hv) rfl rfl nd rfl nds | exact std1) (by exact rfl) ?_ | refine sqW ?_ | refine rgK (fun K' hK => ?_) | (refine aoN (hK _ _ ?_); clear hK K') | refine aoE (bxW rfl rfl rfl rfl rfl tI rfl rfl ?_) | refine aoE (stW tabOk rfl rfl rfl tI rfl rfl tI rfl rfl rfl rfl rfl rfl rfl ?_) | refine aoE (alW tabOk rfl rfl rfl rfl rfl rfl ?_) | refine cdN rfl tI (fun hc => ?_) (fun hc => ?_) | refine blK ?_ | refine exW ?_ | refine skW ?_ | refine rtW ?_ | refine dK2 (by decide +kernel) (by kernel_rfl) (by decide +kernel) rfl (fun K' hK => ?_) | refine dL2 (by kernel_rfl) (by decide +kernel) rfl (fun K' hK => ?_) | (refine aqN (hK _ ?_); clear hK K') | refine aqN ?_ | refine aqQ rfl rfl (fun hg => by first | exact std0 | exact pbD tabOk rfl rfl nds | exact pcW (hv) rfl rfl nd rfl nds | exact std1) (by exact rfl) ?_)
       all_goals first
        | (exfalso; omega)
        | (exfalso; simp at hc; omega)
        | (exfalso; simp at hc; done)
        | (exfalso; exact hk (eq_of_beq hc))
        | (exfalso; rename_i h; exact hk (eq_of_beq h))
        | (exfalso; rename_i h _; exact hk (eq_of_beq h))
        | (exfalso; rename_i h _ _; exact hk (eq_of_beq h))
        | (exfalso; rename_i h _ _ _; exact hk (eq_of_beq h))
        | exact ⟨.inr rfl, _, rfl, Ent.of rfl⟩
        | (rw [if_neg (by simpa using hc)]; exact ⟨.inr rfl, _, rfl, Ent.of rfl⟩)
        | (rw [if_pos (by simpa using hc)]; exact ⟨.inr rfl, _, rfl, Ent.of rfl⟩)
     · have hf : formOk l = false := by unfold formOk; rw [if_neg hk]; simp; omega
       rw [eventR_form hf]
       repeat' (first | refine aoQ rfl rfl rfl (fun hg => by first | exact std0 | exact pbD tabOk rfl rfl nds | exact std1) (by exact rfl) ?_ | refine sqW ?_ | refine rgK (fun K' hK => ?_) | (refine aoN (hK _ _ ?_); clear hK K') | refine aoE (bxW rfl rfl rfl rfl rfl tI rfl rfl ?_) | refine aoE (stW tabOk rfl rfl rfl tI rfl rfl tI rfl rfl rfl rfl rfl rfl rfl ?_) | refine aoE (alW tabOk rfl rfl rfl rfl rfl rfl ?_) | refine cdN rfl tI (fun hc => ?_) (fun hc => ?_) | refine blK ?_ | refine exW ?_ | refine skW ?_ | refine rtW ?_ | refine dK2 (by decide +kernel) (by kernel_rfl) (by decide +kernel) rfl (fun K' hK => ?_) | refine dL2 (by kernel_rfl) (by decide +kernel) rfl (fun K' hK => ?_) | (refine aqN (hK _ ?_); clear hK K') | refine aqN ?_ | refine aqQ rfl rfl (fun hg => by first | exact std0 | exact pbD tabOk rfl rfl nds | exact std1) (by exact rfl) ?_)
       all_goals first
        | (exfalso; omega)
        | (exfalso; simp at hc; omega)
        | (exfalso; simp at hc; done)
        | (exfalso; exact hk (eq_of_beq hc))
        | (exfalso; rename_i h; exact hk (eq_of_beq h))
        | (exfalso; rename_i h _; exact hk (eq_of_beq h))
        | (exfalso; rename_i h _ _; exact hk (eq_of_beq h))
        | (exfalso; rename_i h _ _ _; exact hk (eq_of_beq h))
        | exact ⟨.inr rfl, _, rfl, Ent.of rfl⟩
        | (rw [if_neg (by simpa using hc)]; exact ⟨.inr rfl, _, rfl, Ent.of rfl⟩)
        | (rw [if_pos (by simpa using hc)]; exact ⟨.inr rfl, _, rfl, Ent.of rfl⟩)
 · have hf : formOk l = false := by
    unfold formOk
    cases h : decide (4 ≤ l.length) <;> cases h' : decide (l.length ≤ 212) <;> simp at h h' ⊢
    omega
   rw [eventR_form hf]
   refine PCall.bodyS tabOk Tryz.func86 rfl rfl Tryz.ntmps86 rfl ?_
   repeat' (first | refine aoQ rfl rfl rfl (fun hg => by first | exact std0 | exact pbD tabOk rfl rfl nds | exact std1) (by exact rfl) ?_ | refine sqW ?_ | refine rgK (fun K' hK => ?_) | (refine aoN (hK _ _ ?_); clear hK K') | refine aoE (bxW rfl rfl rfl rfl rfl tI rfl rfl ?_) | refine aoE (stW tabOk rfl rfl rfl tI rfl rfl tI rfl rfl rfl rfl rfl rfl rfl ?_) | refine aoE (alW tabOk rfl rfl rfl rfl rfl rfl ?_) | refine cdN rfl tI (fun hc => ?_) (fun hc => ?_) | refine blK ?_ | refine exW ?_ | refine skW ?_ | refine rtW ?_ | (refine aqN (hK _ ?_); clear hK K') | refine aqN ?_ | refine aqQ rfl rfl (fun hg => by first | exact std0 | exact pbD tabOk rfl rfl nds | exact std1) (by exact rfl) ?_)
   all_goals first
    | (exfalso; omega)
    | (exfalso; simp at hc; omega)
    | (exfalso; simp at hc; done)
    | (exfalso; exact hk (eq_of_beq hc))
    | (exfalso; rename_i h; exact hk (eq_of_beq h))
    | (exfalso; rename_i h _; exact hk (eq_of_beq h))
    | (exfalso; rename_i h _ _; exact hk (eq_of_beq h))
    | (exfalso; rename_i h _ _ _; exact hk (eq_of_beq h))
    | exact ⟨.inr rfl, _, rfl, Ent.of rfl⟩
    | (rw [if_neg (by simpa using hc)]; exact ⟨.inr rfl, _, rfl, Ent.of rfl⟩)
    | (rw [if_pos (by simpa using hc)]; exact ⟨.inr rfl, _, rfl, Ent.of rfl⟩)
theorem frameR_ev {e : Ev} (h : evOk e = true) : frameR (ints e) = (fr e, 0) := if_pos (by have := (fr_ok h).1; exact this)
def appendR (f : Bs) (e : Ev) : Bs × Int := if evOk e then (if 200000 < f.length + (fr e).length then ([], 2) else (f ++ fr e, 0)) else ([], 1)
abbrev tupBI (b : Bs) (n : Int) : AV := .tup [.sl 1 (b.map by8) .no, .int n]
theorem frames_all : ∀ (m : Nat) (b : Bs), b.length < m → (frames b).1.length ≤ b.length ∧ ∀ l ∈ (frames b).1, l.length ≤ 4000 ∧ ∀ n ∈ l, InI n
 | 0, b, h => by omega
 | m + 1, b, h => by
   cases hw : whole b with
   | none => rw [frames_none hw]; simp
   | some p =>
     obtain ⟨l, n⟩ := p
     obtain ⟨h1, h2⟩ := whole_len hw
     obtain ⟨k1, k2, _⟩ := whole_inv hw
     have ih := frames_all m (b.drop n) (by rw [zAe]; omega)
     rw [zAe] at ih
     rw [frames_some hw]
     refine ⟨by simp only [zA2]; omega, fun x hx => ?_⟩
     rcases zB3.1 hx with rfl | hx
     · exact ⟨k1, k2⟩
     · exact ih.2 x hx
def loadR (b : Bs) : List Ev × Int × Int := if 200000 < b.length then ([], 0, 2) else ((Jo.load b).1, (((Jo.load b).2 : Nat) : Int), 0)
abbrev tupEv (r : List Ev × Int × Int) : AV := .tup [.sl 14 (r.1.map encE) .no, .int r.2.1, .int r.2.2]
theorem loadR_in {b : Bs} (h : ¬ 200000 < b.length) : loadR b = ((Jo.load b).1, (((Jo.load b).2 : Nat) : Int), 0) := if_neg h
theorem eventR_some {l : List Int} {e : Ev} (h : event l = some e) : eventR l = (e, 0) := by unfold eventR; rw [h]
theorem eventR_none {l : List Int} (h : event l = none) : eventR l = (noEv, 7) := by unfold eventR; rw [h]
theorem loadL_step {ls : List (List Int)} {k : Nat} (h : k < ls.length) : loadL (ls.drop k) = match event (ls.getD k default) with
 | some e => (e :: (loadL (ls.drop (k + 1))).1, (frame (ls.getD k default)).length + (loadL (ls.drop (k + 1))).2)
 | none => ([], 0) := by
 rw [zBn h, getD_lt h]
 simp only [loadL]
 cases event ls[k] <;> rfl
set_option maxHeartbeats 3200000 in
set_option maxRecDepth 20000 in
theorem load23_spec (b : Bs) (hb : b.length ≤ 4611686018427387904) : PCall Tryz.prog 69 [.sl 1 (b.map by8) .no] (tupEv (loadR b)) := by
 have hv := frames05_spec b hb
 refine PCall.body Tryz.func69 rfl rfl Tryz.ntmps69 rfl rfl ?_
 by_cases h2 : 200000 < b.length
 · rw [show framesR b = ([], 0, 2) from if_pos h2] at hv
   rw [show loadR b = ([], 0, 2) from if_pos h2]
   simp only [tupFR] at hv
   repeat' (first | refine aoQ rfl rfl rfl (fun hg => by first | exact std0 | exact pcW (hv) rfl rfl nd rfl nds | exact std1) (by exact rfl) ?_ | refine sqW ?_ | refine rgK (fun K' hK => ?_) | (refine aoN (hK _ _ ?_); clear hK K') | refine aoE (bxW rfl rfl rfl rfl rfl tI rfl rfl ?_) | refine aoE (stW tabOk rfl rfl rfl tI rfl rfl tI rfl rfl rfl rfl rfl rfl rfl ?_) | refine aoE (alW tabOk rfl rfl rfl rfl rfl rfl ?_) | refine cdN rfl tI (fun hc => ?_) (fun hc => ?_) | refine blK ?_ | refine exW ?_ | refine skW ?_ | refine rtW ?_ | refine dK2 (by decide +kernel) (by kernel_rfl) (by decide +kernel) rfl (fun K' hK => ?_) | refine dL2 (by kernel_rfl) (by decide +kernel) rfl (fun K' hK => ?_) | (refine aqN (hK _ ?_); clear hK K') | refine aqN ?_ | refine aqQ rfl rfl (fun hg => by first | exact std0 | exact pcW (hv) rfl rfl nd rfl nds | exact std1) (by exact rfl) ?_)
   · exact ⟨.inr rfl, Ent.tup3 Ent.nil (Ent.rfl' _) (Ent.rfl' _)⟩
   all_goals (exfalso; simp at hc; done)
 rw [framesR_in h2] at hv
 rw [loadR_in h2]
 obtain ⟨f1, f2⟩ := frames_all _ b (Nat.lt_succ_self _)
 unfold Jo.load
 generalize (frames b).1 = ls at hv f1 f2
 simp only [tupFR] at hv
 repeat' (first | refine aoQ rfl rfl rfl (fun hg => by first | exact std0 | exact pcW (hv) rfl rfl nd rfl nds | exact std1) (by exact rfl) ?_ | refine sqW ?_ | refine rgK (fun K' hK => ?_) | (refine aoN (hK _ _ ?_); clear hK K') | refine aoE (bxW rfl rfl rfl rfl rfl tI rfl rfl ?_) | refine aoE (stW tabOk rfl rfl rfl tI rfl rfl tI rfl rfl rfl rfl rfl rfl rfl ?_) | refine aoE (alW tabOk rfl rfl rfl rfl rfl rfl ?_) | refine cdN rfl tI (fun hc => ?_) (fun hc => ?_) | refine blK ?_ | refine exW ?_ | refine skW ?_ | refine rtW ?_ | refine dK2 (by decide +kernel) (by kernel_rfl) (by decide +kernel) rfl (fun K' hK => ?_) | refine dL2 (by kernel_rfl) (by decide +kernel) rfl (fun K' hK => ?_) | (refine aqN (hK _ ?_); clear hK K') | refine aqN ?_ | refine aqQ rfl rfl (fun hg => by first | exact std0 | exact pcW (hv) rfl rfl nd rfl nds | exact std1) (by exact rfl) ?_)
 · exfalso; simp at hc
 refine AWP.ownNil (d := 8) (sz := 14) rfl ?_
 repeat' (first | refine aoQ rfl rfl rfl (fun hg => by first | exact std0 | exact std1) (by exact rfl) ?_ | refine sqW ?_ | refine rgK (fun K' hK => ?_) | (refine aoN (hK _ _ ?_); clear hK K') | refine aoE (bxW rfl rfl rfl rfl rfl tI rfl rfl ?_) | refine aoE (stW tabOk rfl rfl rfl tI rfl rfl tI rfl rfl rfl rfl rfl rfl rfl ?_) | refine aoE (alW tabOk rfl rfl rfl rfl rfl rfl ?_) | refine cdN rfl tI (fun hc => ?_) (fun hc => ?_) | refine blK ?_ | refine exW ?_ | refine skW ?_ | refine rtW ?_ | refine dK2 (by decide +kernel) (by kernel_rfl) (by decide +kernel) rfl (fun K' hK => ?_) | refine dL2 (by kernel_rfl) (by decide +kernel) rfl (fun K' hK => ?_) | (refine aqN (hK _ ?_); clear hK K') | refine aqN ?_ | refine aqQ rfl rfl (fun hg => by first | exact std0 | exact std1) (by exact rfl) ?_)
 have hfr : ∀ k, k < ls.length → PCall Tryz.prog 87 [.sl 1 ((ls.getD k default).map encN) .no] (.tup [.sl 1 ((frame (ls.getD k default)).map by8) .no, .int 0]) := fun k hk => by
  have hm : ls.getD k default ∈ ls := by rw [getD_lt hk]; exact lGm hk
  have := frame05_spec (ls.getD k default) (f2 _ hm).2 (by have := (f2 _ hm).1; omega)
  rwa [show frameR (ls.getD k default) = (frame (ls.getD k default), 0) from if_pos (f2 _ hm).1] at this
 have hfl : ∀ k, k < ls.length → (frame (ls.getD k default)).length ≤ 40021 := fun k hk => by
  have hm : ls.getD k default ∈ ls := by rw [getD_lt hk]; exact lGm hk
  rw [frame_len]; have := putL_len (l := ls.getD k default) (f2 _ hm).1; omega
 have hel : ∀ k, k < ls.length → (ls.getD k default).length ≤ 1000000 := fun k hk => by
  have hm : ls.getD k default ∈ ls := by rw [getD_lt hk]; exact lGm hk
  have := (f2 _ hm).1; omega
 refine lpD (ι := Nat × List Ev × Nat) (fun i => [(5, .sl 1 (ls.map encL) .no), (8, .sl 14 (i.2.1.map encE) (.own 0)), (9, .int i.2.2), (10, .int i.1)]) (fun i => [.own 14 (i.2.1.map encE).length]) (fun i => i.1 ≤ ls.length ∧ i.2.1.length ≤ i.1 ∧ i.2.2 ≤ i.1 * 40021 ∧ loadL ls = (i.2.1 ++ (loadL (ls.drop i.1)).1, i.2.2 + (loadL (ls.drop i.1)).2)) (fun i => ls.length - i.1) 1 (fun _ => rfl) (0, [], 0) ⟨nZl _, nLr _, nZl _, by simp⟩ ⟨rfl, rfl, rfl, rfl, tI⟩ rfl (fun _ _ => rfl) (fun _ _ => rfl) ?_
 rintro ⟨k, out, n⟩ ⟨g1, g2, g3, g4⟩
 dsimp only at g1 g2 g3 g4 ⊢
 by_cases hlt : k < ls.length
 · rw [loadL_step hlt] at g4
   have hw := event23_spec _ (hel k hlt)
   have hf := hfr k hlt
   have hff := hfl k hlt
   clear hfr hfl hel f2
   cases hev : event (ls.getD k default) with
   | none =>
     rw [eventR_none hev] at hw
     rw [hev] at g4
     dsimp only at hw g4
     repeat' (first | refine aoQ rfl rfl rfl (fun hg => by first | exact std0 | exact pcW (hw) rfl rfl nd rfl nds | exact std1) (by exact rfl) ?_ | refine sqW ?_ | refine rgK (fun K' hK => ?_) | (refine aoN (hK _ _ ?_); clear hK K') | refine aoE (bxW rfl rfl rfl rfl rfl tI rfl rfl ?_) | refine aoE (stW tabOk rfl rfl rfl tI rfl rfl tI rfl rfl rfl rfl rfl rfl rfl ?_) | refine aoE (alW tabOk rfl rfl rfl rfl rfl rfl ?_) | refine cdN rfl tI (fun hc => ?_) (fun hc => ?_) | refine blK ?_ | refine exW ?_ | refine skW ?_ | refine rtW ?_ | refine dK2 (by decide +kernel) (by kernel_rfl) (by decide +kernel) rfl (fun K' hK => ?_) | refine dL2 (by kernel_rfl) (by decide +kernel) rfl (fun K' hK => ?_) | (refine aqN (hK _ ?_); clear hK K') | refine aqN ?_ | refine aqQ rfl rfl (fun hg => by first | exact std0 | exact pcW (hw) rfl rfl nd rfl nds | exact std1) (by exact rfl) ?_)
     · refine ⟨.inr rfl, Ent.of ?_⟩
       rw [g4, zBd, zBm]; rfl
     · exfalso; simp at hc
     · exfalso; omega
   | some ev =>
     rw [eventR_some hev] at hw
     rw [hev] at g4
     dsimp only at hw g4
     repeat' (first | refine aoQ rfl rfl rfl (fun hg => by first | exact std0 | exact pcW (hw) rfl rfl nd rfl nds | exact pcW (hf) rfl rfl nd rfl nds | exact pbS tabOk rfl rfl nds | exact std1) (by exact rfl) ?_ | refine sqW ?_ | refine rgK (fun K' hK => ?_) | (refine aoN (hK _ _ ?_); clear hK K') | refine aoE (bxW rfl rfl rfl rfl rfl tI rfl rfl ?_) | refine aoE (stW tabOk rfl rfl rfl tI rfl rfl tI rfl rfl rfl rfl rfl rfl rfl ?_) | refine aoE (alW tabOk rfl rfl rfl rfl rfl rfl ?_) | refine aoE (apO tabOk rfl rfl rfl (by decide) (Rd.w rfl tI) rfl (Rd.w rfl tI) (.sl rfl (by first | (intro x hx; rcases zA9.1 hx with rfl; rfl) | exact one_by8 _ | exact one_ints _)) (LOk.of (tabOk.get rfl)) (LOk.of (tabOk.get rfl)) rfl rfl (by simp only [lLm, lLa, zA2, zA5]; omega) (by simp only [lLm, lLa, zA2, zA5]; omega) ?_) | refine cdN rfl tI (fun hc => ?_) (fun hc => ?_) | refine blK ?_ | refine exW ?_ | refine skW ?_ | refine rtW ?_ | refine dK2 (by decide +kernel) (by kernel_rfl) (by decide +kernel) rfl (fun K' hK => ?_) | refine dL2 (by kernel_rfl) (by decide +kernel) rfl (fun K' hK => ?_) | (refine aqN (hK _ ?_); clear hK K') | refine aqN ?_ | refine aqQ rfl rfl (fun hg => by first | exact std0 | exact pcW (hw) rfl rfl nd rfl nds | exact pcW (hf) rfl rfl nd rfl nds | exact pbS tabOk rfl rfl nds | exact std1) (by exact rfl) ?_)
     · exfalso; simp at hc
     · refine ⟨(k + 1, out ++ [ev], n + (frame (ls.getD k default)).length), ⟨by dsimp only; omega, by simp; omega, by dsimp only; omega, ?_⟩, by dsimp only; omega, ⟨rfl, ?_, rfl, rfl, tI⟩, ?_⟩
       · rw [g4]; simp [zBs]
       · rw [zAr]; rfl
       · rw [zAr]; rfl
     · exfalso; omega
 · repeat' (first | refine aoQ rfl rfl rfl (fun hg => by first | exact std0 | exact std1) (by exact rfl) ?_ | refine sqW ?_ | refine rgK (fun K' hK => ?_) | (refine aoN (hK _ _ ?_); clear hK K') | refine aoE (bxW rfl rfl rfl rfl rfl tI rfl rfl ?_) | refine aoE (stW tabOk rfl rfl rfl tI rfl rfl tI rfl rfl rfl rfl rfl rfl rfl ?_) | refine aoE (alW tabOk rfl rfl rfl rfl rfl rfl ?_) | refine cdN rfl tI (fun hc => ?_) (fun hc => ?_) | refine blK ?_ | refine exW ?_ | refine skW ?_ | refine rtW ?_ | refine dK2 (by decide +kernel) (by kernel_rfl) (by decide +kernel) rfl (fun K' hK => ?_) | refine dL2 (by kernel_rfl) (by decide +kernel) rfl (fun K' hK => ?_) | (refine aqN (hK _ ?_); clear hK K') | refine aqN ?_ | refine aqQ rfl rfl (fun hg => by first | exact std0 | exact std1) (by exact rfl) ?_)
   · exfalso; omega
   · rw [zCa (by omega)] at g4
     refine ⟨.inr rfl, Ent.of ?_⟩
     rw [g4]; simp only [loadL, zBd, zBm]; rfl
end Go.Proofs.YtbneeinknlddaaaGreat
namespace Go.Ab
def runesN (s : ByteArray) : Nat → Nat → List Nat
 | 0, _ => []
 | f + 1, i => if i < s.size then (Utf8.decode s i).1 :: runesN s f (i + (Utf8.decode s i).2) else []
theorem runesFrom_eq (s : ByteArray) : ∀ (f i : Nat) (acc : Array Value), Conv.runesFrom s f i acc = acc ++ ((runesN s f i).map fun (r : Nat) => Value.int .i32 (r : Int)).toArray
 | 0, i, acc => by simp [Conv.runesFrom, runesN]
 | f + 1, i, acc => by
   unfold Conv.runesFrom runesN
   split
   · show Conv.runesFrom s f (i + (Utf8.decode s i).2) (acc.push (.int .i32 (Int.ofNat (Utf8.decode s i).1))) = _
     rw [runesFrom_eq s f]; simp
   · simp
abbrev runesS (s : ByteArray) : List Nat := runesN s s.size 0
theorem runesN_len (s : ByteArray) : ∀ (f i : Nat), (runesN s f i).length ≤ f
 | 0, i => by simp [runesN]
 | f + 1, i => by
   unfold runesN
   split
   · have := runesN_len s f (i + (Utf8.decode s i).2); simp; omega
   · simp
abbrev r4 (r : Nat) : List AV := [.prim (.int .i32 (r : Int))]
theorem PRun.strRunes {P : Program} {T : Tab} {o : Oper} {env : Env} {σ : Store} (hT : T.Ok P) {s d e : TypeId} {x : Operand} {t : ByteArray} {s1 b1 s2 b2 s3 b3 : Nat} {z z2 z3 : List Z} (ho : o.op = .convert s d x) (hx : rdv env x = some (.str t)) (nx : rdn env x)
 (hs' : T.get s = some ⟨.str, s1, b1, z⟩) (hd : T.get d = some ⟨.slice e, s3, b3, z3⟩) (he : T.get e = some ⟨.int .i32, s2, b2, z2⟩) (hsz : t.size ≤ 70368744177664) : PRun P o env σ (.sl 1 ((runesS t).map r4) .no) := by
 intro G A w hs hv
 have h1 := VRel.prim_eq (rd (Rd.w hx nx) (by simp [ho, Op.operands]) hv)
 have us : P.underlying s = some .string := LOk.undStr (LOk.of (hT.get hs'))
 have ud : P.underlying d = some (.slice e) := LOk.undSlice (LOk.of (hT.get hd))
 have ue : P.underlying e = some (.int .i32) := by
  obtain ⟨dd, k1, k2⟩ := (LOk.of (hT.get he)).und
  cases dd <;> simp [ltOf] at k2
  subst k2; exact k1
 have hrf := runesFrom_eq t t.size 0 #[]
 have hrl := runesN_len t t.size 0
 have hrn : (Conv.runesFrom t t.size 0 #[]).size = (runesS t).length := by rw [hrf]; simp
 obtain ⟨C, hC⟩ : ∃ C, C = (Conv.runesFrom t t.size 0 #[] ++ Array.replicate (grownCap w (Conv.runesFrom t t.size 0 #[]).size 0 e - (Conv.runesFrom t t.size 0 #[]).size) (Value.int .i32 0)) := ⟨_, rfl⟩
 have hrun : (execOp A.eval o).run P w = .ok (.value (.slice (some ⟨w.heap.size, 0, none⟩) (runesS t).length (grownCap w (runesS t).length 0 e))) (w.drew.alloc (.cells C e)) := by
  simp only [execOp, ho, h1]
  rw [Sem.run_bind, run_runes_of_string w s d e t us ud ue (by rw [hrn]; exact Nat.le_trans hrl hsz), hrn, hC, hrn]; rfl
 unfold OWP
 rw [hrun]
 have hsz1 : (w.drew.alloc (.cells C e)).heap.size = w.heap.size + 1 := by
  show (w.heap.push _).size = _
  simp
 have hold : ∀ b, b < w.heap.size → (w.drew.alloc (.cells C e)).heap[b]? = w.heap[b]? := fun b hb => by
  show (w.heap.push _)[b]? = _
  rw [zD0, if_neg (by omega)]
 have hnew : (w.drew.alloc (.cells C e)).heap[w.heap.size]? = some (.cells C e) := by
  show (w.heap.push _)[w.heap.size]? = _
  simp
 obtain ⟨hs2, hle⟩ := hs.newStay C hsz1 hold (fun o v hv => by
  simp only [World.cell?, hnew]; exact hv) OutR.r
 refine ⟨_, _, rfl, ?_, .upM hle, hs2⟩
 have hlen : (runesS t).length = ((runesS t).map r4).length := by rw [lLm]
 rw [hlen]
 have hcap : ((runesS t).map r4).length ≤ grownCap w ((runesS t).map r4).length 0 e := grownCap_ge w _ 0 e
 refine .sl 1 _ .no w.heap.size 0 _ (fun i j => .int .i32 ((runesS t).getD i 0 : Nat)) (fun e he => by simp at he; obtain ⟨_, _, rfl⟩ := he; rfl) (fun i j hi hj => ?_) (fun i j e c hi hj => ?_) hcap trivial
 · have hi' : i < (runesS t).length := by simpa using hi
   have hj0 : j = 0 := by omega
   subst hj0
   simp only [Mem.addBlk, if_pos rfl, zBu, Nat.mul_one, zBm, hC]
   rw [zAq (by rw [hrn]; exact hi'), hrf]
   simp [List.getD, hi']
 · simp only [zAj, zA7] at hi
   obtain ⟨c', hc', rfl⟩ := hi
   match j, hj with
   | 0, hj =>
     simp at hj; subst hj
     have : (runesS t).getD i 0 = c' := by simp only [List.getD, hc', zCn]
     rw [this]; exact .prim _
   | j + 1, hj => simp at hj
end Go.Ab
namespace Go.Proofs.YtbneeinknlddaaaGreat
open Go.Ab Go.Jo
attribute [local irreducible] AWP AOps EStep AQ PStep PRun PCall TCall VCall DStep TDies AWD DCall
theorem dec_low {s : ByteArray} {i : Nat} (h : (s.get! i).toNat < 128) : Utf8.decode s i = ((s.get! i).toNat, 1) := by
 unfold Utf8.decode
 simp only [zBm]
 rw [if_pos h]
theorem dec_high {s : ByteArray} {i : Nat} (h : ¬ (s.get! i).toNat < 128) : 126 < (Utf8.decode s i).1 := by
 unfold Utf8.decode
 simp only [zBm]
 rw [if_neg h]
 simp only [Utf8.runeError]
 split
 · split
   · simp only []; omega
   · decide
 · split
   · split
     · rename_i h1; simp only [zA0, dEt] at h1; simp only []; omega
     · decide
   · split
     · split
       · rename_i h1; simp only [zA0, dEt] at h1; simp only []; omega
       · decide
     · decide
def badR (r : Nat) : Bool := decide (r < 32) || decide (126 < r)
def badB (c : UInt8) : Bool := badR c.toNat
theorem get_at {t : Bs} {i : Nat} (h : i < t.length) : (⟨t.toArray⟩ : ByteArray).get! i = t[i] := by
 show t.toArray[i]! = _
 simp [h]
theorem runes_any (t : Bs) : ∀ (f i : Nat), i + f = t.length → (runesN ⟨t.toArray⟩ f i).any badR = (t.drop i).any badB
 | 0, i, h => by rw [zCa (by omega)]; simp [runesN]
 | f + 1, i, h => by
   have hi : i < t.length := by omega
   have hsz : (⟨t.toArray⟩ : ByteArray).size = t.length := by simp [ByteArray.size]
   unfold runesN
   rw [if_pos (by rw [hsz]; exact hi), zBn hi, List.any_cons, List.any_cons]
   by_cases hl : (t[i]).toNat < 128
   · rw [dec_low (by rw [get_at hi]; exact hl), get_at hi]
     simp only []
     rw [runes_any t f (i + 1) (by omega)]; rfl
   · have h1 := dec_high (s := ⟨t.toArray⟩) (i := i) (by rw [get_at hi]; exact hl)
     have e1 : badR (Utf8.decode ⟨t.toArray⟩ i).1 = true := by unfold badR; simp; omega
     have e2 : badB t[i] = true := by unfold badB badR; simp; omega
     rw [e1, e2]; rfl
theorem textOk_runes (t : Bs) : textOk t = (decide (t.length ≤ 200) && !(runesS ⟨t.toArray⟩).any badR) := by
 have hsz : (⟨t.toArray⟩ : ByteArray).size = t.length := by simp [ByteArray.size]
 rw [runesS, hsz, runes_any t t.length 0 (by omega), zCy, zBf, textOk_iff]
 simp only [zA0, dEt, zAl, List.any_eq_false]
 refine and_congr_right fun _ => ⟨fun h c hc => ?_, fun h c hc => ?_⟩
 · have := h c hc
   unfold badB badR; simp; omega
 · have := h c hc
   unfold badB badR at this; simp at this; omega
theorem badF (r : Nat) : PCall Tryz.prog 89 [.prim (.int .i32 (r : Int))] (.b (badR r)) := by
 refine PCall.body Tryz.func89 rfl rfl Tryz.ntmps89 rfl rfl ?_
 repeat' (first | refine aoQ rfl rfl rfl (fun hg => by first | exact std0 | exact std1) (by exact rfl) ?_ | refine sqW ?_ | refine rgK (fun K' hK => ?_) | (refine aoN (hK _ _ ?_); clear hK K') | refine aoE (bxW rfl rfl rfl rfl rfl tI rfl rfl ?_) | refine aoE (stW tabOk rfl rfl rfl tI rfl rfl tI rfl rfl rfl rfl rfl rfl rfl ?_) | refine aoE (alW tabOk rfl rfl rfl rfl rfl rfl ?_) | refine cdN rfl tI (fun hc => ?_) (fun hc => ?_) | refine blK ?_ | refine exW ?_ | refine skW ?_ | refine rtW ?_ | refine dK2 (by decide +kernel) (by kernel_rfl) (by decide +kernel) rfl (fun K' hK => ?_) | refine dL2 (by kernel_rfl) (by decide +kernel) rfl (fun K' hK => ?_) | (refine aqN (hK _ ?_); clear hK K') | refine aqN ?_ | refine aqQ rfl rfl (fun hg => by first | exact std0 | exact std1) (by exact rfl) ?_)
 refine ⟨.inr rfl, Ent.b ?_⟩
 unfold badR
 show (decide ((r : Int) < 32) || decide ((r : Int) > 126)) = _
 rw [zBf]; simp; omega
def idxR (rs : List Nat) : Int := if rs.any badR then ((rs.findIdx badR : Nat) : Int) else -1
theorem index_spec (rs : List Nat) (hl : rs.length ≤ 9223372036854775807) : PCall Tryz.prog 126 [.sl 1 (rs.map r4) .no, .fn (.func 89) [] []] (.int (idxR rs)) := by
 refine PCall.body Tryz.func126 rfl rfl Tryz.ntmps126 rfl rfl ?_
 repeat' (first | refine aoQ rfl rfl rfl (fun hg => by first | exact std0 | exact std1) (by exact rfl) ?_ | refine sqW ?_ | refine rgK (fun K' hK => ?_) | (refine aoN (hK _ _ ?_); clear hK K') | refine aoE (bxW rfl rfl rfl rfl rfl tI rfl rfl ?_) | refine aoE (stW tabOk rfl rfl rfl tI rfl rfl tI rfl rfl rfl rfl rfl rfl rfl ?_) | refine aoE (alW tabOk rfl rfl rfl rfl rfl rfl ?_) | refine cdN rfl tI (fun hc => ?_) (fun hc => ?_) | refine blK ?_ | refine exW ?_ | refine skW ?_ | refine rtW ?_ | refine dK2 (by decide +kernel) (by kernel_rfl) (by decide +kernel) rfl (fun K' hK => ?_) | refine dL2 (by kernel_rfl) (by decide +kernel) rfl (fun K' hK => ?_) | (refine aqN (hK _ ?_); clear hK K') | refine aqN ?_ | refine aqQ rfl rfl (fun hg => by first | exact std0 | exact std1) (by exact rfl) ?_)
 refine lpW (ι := Nat) (fun k => [(0, .sl 1 (rs.map r4) .no), (1, .fn (.func 89) [] []), (7, .int rs.length), (8, .int k)]) (fun _ => []) (fun k => k ≤ rs.length ∧ ∀ (j : Nat) (h : j < rs.length), j < k → badR rs[j] = false) (fun k => rs.length - k) 0 ⟨nZl _, fun j _ h => absurd h (by omega)⟩ ⟨rfl, rfl, rfl, rfl, tI⟩ rfl ?_
 rintro k ⟨hk, hall⟩
 have hv := badF (rs.getD k default)
 by_cases hlt : k < rs.length
 · repeat' (first | refine aoQ rfl rfl rfl (fun hg => by first | exact std0 | exact pcW (hv) rfl rfl nd rfl nds | exact std1) (by exact rfl) ?_ | refine sqW ?_ | refine rgK (fun K' hK => ?_) | (refine aoN (hK _ _ ?_); clear hK K') | refine aoE (bxW rfl rfl rfl rfl rfl tI rfl rfl ?_) | refine aoE (stW tabOk rfl rfl rfl tI rfl rfl tI rfl rfl rfl rfl rfl rfl rfl ?_) | refine aoE (alW tabOk rfl rfl rfl rfl rfl rfl ?_) | refine cdN rfl tI (fun hc => ?_) (fun hc => ?_) | refine blK ?_ | refine exW ?_ | refine skW ?_ | refine rtW ?_ | refine dK2 (by decide +kernel) (by kernel_rfl) (by decide +kernel) rfl (fun K' hK => ?_) | refine dL2 (by kernel_rfl) (by decide +kernel) rfl (fun K' hK => ?_) | (refine aqN (hK _ ?_); clear hK K') | refine aqN ?_ | refine aqQ rfl rfl (fun hg => by first | exact std0 | exact pcW (hv) rfl rfl nd rfl nds | exact std1) (by exact rfl) ?_)
   · refine ⟨.inr rfl, Ent.int ?_⟩
     have hc' : badR rs[k] = true := by rw [← getD_lt hlt]; exact hc
     have h1 : rs.findIdx badR = k := (List.findIdx_eq hlt).2 ⟨hc', fun j hj => hall j (by omega) hj⟩
     unfold idxR
     rw [if_pos (zCz.2 ⟨rs[k], lGm hlt, hc'⟩), h1]
   · have hc' : badR rs[k] = false := by rw [← getD_lt hlt]; exact hc
     refine ⟨k + 1, ⟨by omega, fun j h hj => ?_⟩, by omega, ⟨rfl, rfl, rfl, rfl, tI⟩, rfl⟩
     rcases Nat.lt_succ_iff_lt_or_eq.1 hj with h1 | h1
     · exact hall j h h1
     · subst h1; exact hc'
   · exfalso; omega
 · repeat' (first | refine aoQ rfl rfl rfl (fun hg => by first | exact std0 | exact std1) (by exact rfl) ?_ | refine sqW ?_ | refine rgK (fun K' hK => ?_) | (refine aoN (hK _ _ ?_); clear hK K') | refine aoE (bxW rfl rfl rfl rfl rfl tI rfl rfl ?_) | refine aoE (stW tabOk rfl rfl rfl tI rfl rfl tI rfl rfl rfl rfl rfl rfl rfl ?_) | refine aoE (alW tabOk rfl rfl rfl rfl rfl rfl ?_) | refine cdN rfl tI (fun hc => ?_) (fun hc => ?_) | refine blK ?_ | refine exW ?_ | refine skW ?_ | refine rtW ?_ | refine dK2 (by decide +kernel) (by kernel_rfl) (by decide +kernel) rfl (fun K' hK => ?_) | refine dL2 (by kernel_rfl) (by decide +kernel) rfl (fun K' hK => ?_) | (refine aqN (hK _ ?_); clear hK K') | refine aqN ?_ | refine aqQ rfl rfl (fun hg => by first | exact std0 | exact std1) (by exact rfl) ?_)
   all_goals (first | (exfalso; omega) | skip)
   refine ⟨.inr rfl, Ent.int ?_⟩
   unfold idxR
   rw [if_neg]
   intro h
   obtain ⟨x, hx, hb⟩ := zCz.1 h
   obtain ⟨j, hj, rfl⟩ := zBj.1 hx
   rw [hall j hj (by omega)] at hb; cases hb
theorem contains_spec (rs : List Nat) (hl : rs.length ≤ 9223372036854775807) : PCall Tryz.prog 92 [.sl 1 (rs.map r4) .no, .fn (.func 89) [] []] (.b (rs.any badR)) := by
 have hv := index_spec rs hl
 refine PCall.body Tryz.func92 rfl rfl Tryz.ntmps92 rfl rfl ?_
 repeat' (first | refine aoQ rfl rfl rfl (fun hg => by first | exact std0 | exact pcW (hv) rfl rfl nd rfl nds | exact std1) (by exact rfl) ?_ | refine sqW ?_ | refine rgK (fun K' hK => ?_) | (refine aoN (hK _ _ ?_); clear hK K') | refine aoE (bxW rfl rfl rfl rfl rfl tI rfl rfl ?_) | refine aoE (stW tabOk rfl rfl rfl tI rfl rfl tI rfl rfl rfl rfl rfl rfl rfl ?_) | refine aoE (alW tabOk rfl rfl rfl rfl rfl rfl ?_) | refine cdN rfl tI (fun hc => ?_) (fun hc => ?_) | refine blK ?_ | refine exW ?_ | refine skW ?_ | refine rtW ?_ | refine dK2 (by decide +kernel) (by kernel_rfl) (by decide +kernel) rfl (fun K' hK => ?_) | refine dL2 (by kernel_rfl) (by decide +kernel) rfl (fun K' hK => ?_) | (refine aqN (hK _ ?_); clear hK K') | refine aqN ?_ | refine aqQ rfl rfl (fun hg => by first | exact std0 | exact pcW (hv) rfl rfl nd rfl nds | exact std1) (by exact rfl) ?_)
 refine ⟨.inr rfl, Ent.b ?_⟩
 unfold idxR
 cases rs.any badR with
 | true => rw [if_pos rfl]; simp
 | false => rfl
end Go.Proofs.YtbneeinknlddaaaGreat
