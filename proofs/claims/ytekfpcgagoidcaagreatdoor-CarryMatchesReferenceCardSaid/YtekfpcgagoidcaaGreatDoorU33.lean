/- Contracts by content: the reference of carry: carried, Carry, All. No statement is proved here. -/
import Derived.Test.YtekfpcgagoidcaaGreatDoorU30
import Derived.Test.YtekfpcgagoidcaaGreatDoorU31
import Derived.Test.YtekfpcgagoidcaaGreatDoorU32
set_option linter.unusedVariables false
set_option linter.unusedSimpArgs false
namespace Go.Proofs.YtekfpcgagoidcaaGreatDoor.Cy
open Go.Ab Go.Sort Al Mk
attribute [local irreducible] AWP AOps EStep AQ PStep PRun PCall TCall VCall
def carN (l : List Score) (v : Int) (to : Score) (m : Jo.Mark) : Int := (toN l v to m.version m.note).getD 0
theorem pairsN_len (a b : Score) : (pairsN a b).length ≤ a.notes.length := outL_len _ _
set_option maxHeartbeats 16000000 in
set_option maxRecDepth 20000 in
theorem carried21_spec (l : List Score) (hl : l.length ≤ 1000000) (hvo : versOk l = true) (hf : ∀ s ∈ l, few12 s = true) (m : Jo.Mark) (v : Int) (k : Nat) (hk : findV l v = k) :
 PCall Tryz.prog 74 [.sl 4 (l.map encS) .no, .agg (encMk m), .int v] (.tup [.int (carN l v (atS l k) m), .int 0]) := by
 have f1 := find21_spec l (by omega) m.version
 have f2 := find21_spec l (by omega) v
 rw [hk] at f2
 obtain ⟨k0, hk0, hkl, hkv⟩ := findV_lt (l := l) (v := v) (by omega)
 obtain rfl : k0 = k := by omega
 have hgd := vers_all hvo
 have hto := hgd _ (getD_mem hkl)
 have hfk := hf _ (getD_mem hkl)
 obtain ⟨to, ht⟩ : ∃ s, l.getD k0 default = s := ⟨_, rfl⟩
 have ht' : atS l k0 = to := ht
 rw [ht] at hto hfk
 rw [ht'] at hkv ⊢
 have hnt := (few12_notes hfk).2
 by_cases hneg : findV l m.version < 0
 · have e : carN l v to m = 0 := by
    unfold carN
    rw [toN_no _ hneg]
    · rfl
    · rintro h; rw [h] at hneg; omega
   rw [e]
   generalize findV l m.version = i at *
   refine PCall.bodyS tabOk Tryz.func74 rfl rfl Tryz.ntmps74 rfl ?_
   repeat' (first | refine aoQ rfl rfl rfl (fun hg => by first | exact std0 | exact pcW (f1) rfl rfl nd rfl nds | exact pcW (f2) rfl rfl nd rfl nds) (by exact rfl) ?_ | refine sqW ?_ | refine rgK (fun K' hK => ?_) | (refine aoN (hK _ _ ?_); clear hK K') | refine aoE (bxW rfl rfl rfl rfl rfl tI rfl rfl ?_) | refine cdN rfl tI (fun hc => ?_) (fun hc => ?_) | refine skW ?_ | refine rtW ?_)
   all_goals (first | (exfalso; omega) | skip)
   exact ⟨.inr rfl, _, rfl, Ent.of rfl⟩
 · obtain ⟨i, hi, hil, hiv⟩ := findV_lt hneg
   rw [hi] at f1
   by_cases hik : i = k0
   · subst hik
     have hv : m.version = v := by rw [← hiv, ht', hkv]
     have n1 := noteAt_spec to.notes m.note (by omega)
     have e : carN l v to m = if noteAt to.notes m.note < 0 then 0 else m.note := by
      unfold carN
      rw [hv, toN_own hto]; split <;> rfl
     rw [e]
     generalize noteAt to.notes m.note = x at *
     refine PCall.bodyS tabOk Tryz.func74 rfl rfl Tryz.ntmps74 rfl ?_
     repeat' (first | refine aoQ rfl rfl rfl (fun hg => by first | exact std0 | exact pcW (f1) rfl rfl nd rfl nds | exact pcW (f2) rfl rfl nd rfl nds) (by exact rfl) ?_ | refine sqW ?_ | refine rgK (fun K' hK => ?_) | (refine aoN (hK _ _ ?_); clear hK K') | refine aoE (bxW rfl rfl rfl rfl rfl tI rfl rfl ?_) | refine cdN rfl tI (fun hc => ?_) (fun hc => ?_) | refine skW ?_ | refine rtW ?_)
     all_goals (first | (exfalso; omega) | (exfalso; simp at hc; done) | skip)
     refine dK2 (by decide +kernel) (by kernel_rfl) (by decide +kernel) rfl (fun K' hK => ?_)
     repeat' (first | refine aoQ rfl rfl rfl (fun hg => by exact std0) (by exact rfl) ?_ | refine sqW ?_ | refine rgK (fun K' hK => ?_) | (refine aoN (hK _ _ ?_); clear hK K') | refine cdN rfl tI (fun hc => ?_) (fun hc => ?_) | refine skW ?_ | refine rtW ?_ | (refine aqN (hK _ ?_); clear hK K') | refine aqQ rfl rfl (fun hg => by first | exact iX encS l ((i : Nat) : Int) ht (hb := by omega) | exact std0 | exact pcW (n1) rfl rfl nd rfl nds) (by exact rfl) ?_)
     · rw [if_pos hc]; exact ⟨.inr rfl, _, rfl, Ent.of rfl⟩
     · rw [if_neg (by omega)]; exact ⟨.inr rfl, _, rfl, Ent.of rfl⟩
   · have hso := hgd _ (getD_mem hil)
     have hfi := hf _ (getD_mem hil)
     obtain ⟨s, hs⟩ : ∃ s, l.getD i default = s := ⟨_, rfl⟩
     have hs' : atS l i = s := hs
     rw [hs] at hso hfi
     rw [hs'] at hiv
     have hns := (few12_notes hfi).2
     have hwv : m.version ≠ v := by
      intro h; rw [h] at hi; omega
     have sm1 := few12_small hfi
     have sm2 := few12_small hfk
     have b1 := rBars_spec s to sm1 sm2
     rw [good_bars ⟨hso, hfi⟩ ⟨hto, hfk⟩] at b1
     have n1 := rNotes_spec s to sm1 sm2 (by omega) (by omega) (bestA s to) (by
      have h1 := alignR_len (costR s to) s.bars.length to.bars.length
      have h2 := (few12_notes hfi).1
      show (alignR _ _ _).length ≤ _; omega)
     rw [notesR_best (x := bestA s to) hso hto rfl] at n1
     have hpl := pairsN_len s to
     have e : carN l v to m = fstB (pairsN s to) m.note := by
      unfold carN
      rw [toN_at hwv hi, hs', fstB_lk (pairsN_facts hso hto).fst]
     rw [e]
     rw [show notesM s to (np (alignR (costR s to) s.bars.length to.bars.length)) = pairsN s to from rfl] at n1
     generalize pairsN s to = Q at *
     generalize bestA s to = B at *
     clear hneg e hiv hkv
     have hne : ¬ ((i : Int) = (k0 : Int)) := by omega
     refine PCall.bodyS tabOk Tryz.func74 rfl rfl Tryz.ntmps74 rfl ?_
     repeat' (first | refine aoQ rfl rfl rfl (fun hg => by first | exact std0 | exact pcW (f1) rfl rfl nd rfl nds | exact pcW (f2) rfl rfl nd rfl nds) (by exact rfl) ?_ | refine sqW ?_ | refine rgK (fun K' hK => ?_) | (refine aoN (hK _ _ ?_); clear hK K') | refine aoE (bxW rfl rfl rfl rfl rfl tI rfl rfl ?_) | refine cdN rfl tI (fun hc => ?_) (fun hc => ?_) | refine skW ?_ | refine rtW ?_)
     all_goals (first | (exfalso; omega) | (exfalso; simp at hc; done) | (exfalso; simp at hc; omega) | skip)
     refine AWP.drawYM effOp (fun j => match j with | 0 => [.var (encMk m)] | 1 => [.var (encMk m), .var [.nils, .int 0, .nils]] | _ => [.var (encMk m), .var (encA B)]) rfl (by kernel_rfl) (by decide +kernel) rfl (by decide +kernel) (fun K' hK => ?_)
     repeat' (first
      | refine yqQ (a := 0) (b := 0) rfl (by decide +kernel) (by decide +kernel) rfl rfl rfl (fun k h1 h2 hg => by (have hk : k = 0 := (by omega)); (rcases hk with rfl) <;> (first | exact iX encS l ((k0 : Nat) : Int) ht (hb := by omega) | exact iX encS l ((i : Nat) : Int) hs (hb := by omega) | exact std0 | exact pcW (b1) rfl rfl nd rfl nds | exact std1)) (by exact rfl) ?_
      | refine yqQ (a := 0) (b := 1) rfl (by decide +kernel) (by decide +kernel) rfl rfl rfl (fun k h1 h2 hg => by (have hk : k = 0 ∨ k = 1 := (by omega)); (rcases hk with rfl | rfl) <;> (first | exact iX encS l ((k0 : Nat) : Int) ht (hb := by omega) | exact iX encS l ((i : Nat) : Int) hs (hb := by omega) | exact std0 | exact pcW (b1) rfl rfl nd rfl nds | exact std1)) (by exact rfl) ?_
      | refine yqQ (a := 1) (b := 1) rfl (by decide +kernel) (by decide +kernel) rfl rfl rfl (fun k h1 h2 hg => by (have hk : k = 1 := (by omega)); (rcases hk with rfl) <;> (first | exact iX encS l ((k0 : Nat) : Int) ht (hb := by omega) | exact iX encS l ((i : Nat) : Int) hs (hb := by omega) | exact std0 | exact pcW (b1) rfl rfl nd rfl nds | exact std1)) (by exact rfl) ?_
      | refine yqQ (a := 0) (b := 2) rfl (by decide +kernel) (by decide +kernel) rfl rfl rfl (fun k h1 h2 hg => by (have hk : k = 0 ∨ k = 1 ∨ k = 2 := (by omega)); (rcases hk with rfl | rfl | rfl) <;> (first | exact iX encS l ((k0 : Nat) : Int) ht (hb := by omega) | exact iX encS l ((i : Nat) : Int) hs (hb := by omega) | exact std0 | exact pcW (b1) rfl rfl nd rfl nds | exact std1)) (by exact rfl) ?_
      | refine yqQ (a := 1) (b := 2) rfl (by decide +kernel) (by decide +kernel) rfl rfl rfl (fun k h1 h2 hg => by (have hk : k = 1 ∨ k = 2 := (by omega)); (rcases hk with rfl | rfl) <;> (first | exact iX encS l ((k0 : Nat) : Int) ht (hb := by omega) | exact iX encS l ((i : Nat) : Int) hs (hb := by omega) | exact std0 | exact pcW (b1) rfl rfl nd rfl nds | exact std1)) (by exact rfl) ?_
      | refine yqQ (a := 2) (b := 2) rfl (by decide +kernel) (by decide +kernel) rfl rfl rfl (fun k h1 h2 hg => by (have hk : k = 2 := (by omega)); (rcases hk with rfl) <;> (first | exact iX encS l ((k0 : Nat) : Int) ht (hb := by omega) | exact iX encS l ((i : Nat) : Int) hs (hb := by omega) | exact std0 | exact pcW (b1) rfl rfl nd rfl nds | exact std1)) (by exact rfl) ?_)
     refine YQ.e (v := .ptr 1 0) (d := some 10) rfl rfl rfl ?_ ?_
     · intro env' he
       exact alW tabOk rfl rfl rfl rfl rfl rfl ⟨rfl, rfl⟩
     repeat' (first
      | refine yqQ (a := 0) (b := 0) rfl (by decide +kernel) (by decide +kernel) rfl rfl rfl (fun k h1 h2 hg => by (have hk : k = 0 := (by omega)); (rcases hk with rfl) <;> (first | exact iX encS l ((k0 : Nat) : Int) ht (hb := by omega) | exact iX encS l ((i : Nat) : Int) hs (hb := by omega) | exact std0 | exact pcW (b1) rfl rfl nd rfl nds | exact std1)) (by exact rfl) ?_
      | refine yqQ (a := 0) (b := 1) rfl (by decide +kernel) (by decide +kernel) rfl rfl rfl (fun k h1 h2 hg => by (have hk : k = 0 ∨ k = 1 := (by omega)); (rcases hk with rfl | rfl) <;> (first | exact iX encS l ((k0 : Nat) : Int) ht (hb := by omega) | exact iX encS l ((i : Nat) : Int) hs (hb := by omega) | exact std0 | exact pcW (b1) rfl rfl nd rfl nds | exact std1)) (by exact rfl) ?_
      | refine yqQ (a := 1) (b := 1) rfl (by decide +kernel) (by decide +kernel) rfl rfl rfl (fun k h1 h2 hg => by (have hk : k = 1 := (by omega)); (rcases hk with rfl) <;> (first | exact iX encS l ((k0 : Nat) : Int) ht (hb := by omega) | exact iX encS l ((i : Nat) : Int) hs (hb := by omega) | exact std0 | exact pcW (b1) rfl rfl nd rfl nds | exact std1)) (by exact rfl) ?_
      | refine yqQ (a := 0) (b := 2) rfl (by decide +kernel) (by decide +kernel) rfl rfl rfl (fun k h1 h2 hg => by (have hk : k = 0 ∨ k = 1 ∨ k = 2 := (by omega)); (rcases hk with rfl | rfl | rfl) <;> (first | exact iX encS l ((k0 : Nat) : Int) ht (hb := by omega) | exact iX encS l ((i : Nat) : Int) hs (hb := by omega) | exact std0 | exact pcW (b1) rfl rfl nd rfl nds | exact std1)) (by exact rfl) ?_
      | refine yqQ (a := 1) (b := 2) rfl (by decide +kernel) (by decide +kernel) rfl rfl rfl (fun k h1 h2 hg => by (have hk : k = 1 ∨ k = 2 := (by omega)); (rcases hk with rfl | rfl) <;> (first | exact iX encS l ((k0 : Nat) : Int) ht (hb := by omega) | exact iX encS l ((i : Nat) : Int) hs (hb := by omega) | exact std0 | exact pcW (b1) rfl rfl nd rfl nds | exact std1)) (by exact rfl) ?_
      | refine yqQ (a := 2) (b := 2) rfl (by decide +kernel) (by decide +kernel) rfl rfl rfl (fun k h1 h2 hg => by (have hk : k = 2 := (by omega)); (rcases hk with rfl) <;> (first | exact iX encS l ((k0 : Nat) : Int) ht (hb := by omega) | exact iX encS l ((i : Nat) : Int) hs (hb := by omega) | exact std0 | exact pcW (b1) rfl rfl nd rfl nds | exact std1)) (by exact rfl) ?_)
     refine YQ.e (v := .any) (d := none) rfl rfl rfl ?_ ?_
     · intro env' he
       exact stW tabOk rfl rfl ((rdv_congr (he 10 (by decide +kernel))).trans rfl) (by rw [rdn_congr (he 10 (by decide +kernel))]; first | exact tI | exact rfl) rfl ((rdv_congr (he 48 (by decide +kernel))).trans rfl) (by rw [rdn_congr (he 48 (by decide +kernel))]; first | exact tI | exact rfl) rfl rfl rfl rfl rfl rfl rfl ⟨rfl, rfl⟩
     repeat' (first
      | refine yqQ (a := 0) (b := 0) rfl (by decide +kernel) (by decide +kernel) rfl rfl rfl (fun k h1 h2 hg => by (have hk : k = 0 := (by omega)); (rcases hk with rfl) <;> (first | exact std0 | exact std1)) (by exact rfl) ?_
      | refine yqQ (a := 0) (b := 1) rfl (by decide +kernel) (by decide +kernel) rfl rfl rfl (fun k h1 h2 hg => by (have hk : k = 0 ∨ k = 1 := (by omega)); (rcases hk with rfl | rfl) <;> (first | exact std0 | exact std1)) (by exact rfl) ?_
      | refine yqQ (a := 1) (b := 1) rfl (by decide +kernel) (by decide +kernel) rfl rfl rfl (fun k h1 h2 hg => by (have hk : k = 1 := (by omega)); (rcases hk with rfl) <;> (first | exact std0 | exact std1)) (by exact rfl) ?_
      | refine yqQ (a := 0) (b := 2) rfl (by decide +kernel) (by decide +kernel) rfl rfl rfl (fun k h1 h2 hg => by (have hk : k = 0 ∨ k = 1 ∨ k = 2 := (by omega)); (rcases hk with rfl | rfl | rfl) <;> (first | exact std0 | exact std1)) (by exact rfl) ?_
      | refine yqQ (a := 1) (b := 2) rfl (by decide +kernel) (by decide +kernel) rfl rfl rfl (fun k h1 h2 hg => by (have hk : k = 1 ∨ k = 2 := (by omega)); (rcases hk with rfl | rfl) <;> (first | exact std0 | exact std1)) (by exact rfl) ?_
      | refine yqQ (a := 2) (b := 2) rfl (by decide +kernel) (by decide +kernel) rfl rfl rfl (fun k h1 h2 hg => by (have hk : k = 2 := (by omega)); (rcases hk with rfl) <;> (first | exact std0 | exact std1)) (by exact rfl) ?_)
     refine YQ.nil (hK _ _ ?_)
     clear hK K'
     show AWP _ _ _ _ _ [.var (encMk m), .var (encA B)]
     repeat' (first | refine aoQ rfl rfl rfl (fun hg => by exact std0) (by exact rfl) ?_ | refine sqW ?_ | refine rgK (fun K' hK => ?_) | (refine aoN (hK _ _ ?_); clear hK K') | refine cdN rfl tI (fun hc => ?_) (fun hc => ?_) | refine skW ?_ | refine rtW ?_)
     all_goals (first | (exfalso; simp at hc; done) | skip)
     refine dK2 (by decide +kernel) (by kernel_rfl) (by decide +kernel) rfl (fun K' hK => ?_)
     repeat' (first | refine aoQ rfl rfl rfl (fun hg => by exact std0) (by exact rfl) ?_ | refine sqW ?_ | refine rgK (fun K' hK => ?_) | (refine aoN (hK _ _ ?_); clear hK K') | refine blK ?_ | (refine aqN (hK _ ?_); clear hK K') | refine aqQ rfl rfl (fun hg => by first | exact iX encS l ((k0 : Nat) : Int) ht (hb := by omega) | exact iX encS l ((i : Nat) : Int) hs (hb := by omega) | exact std0 | exact pcW (n1) rfl rfl nd rfl nds) (by exact rfl) ?_)
     refine lpD (ι := Nat) (fun j => [(4, .ptr 0 0), (12, .sl 2 (Q.map encPr) .no), (14, .int j)]) (fun _ => [.var (encMk m), .var (encA B)])
      (fun j => j ≤ Q.length ∧ ∀ x, x < j → ((Q.getD x default).1 == m.note) = false) (fun j => Q.length - j) 2 (fun _ => rfl) 0 ⟨nZl _, fun x h => absurd h (by omega)⟩ ⟨rfl, rfl, rfl, tI⟩ rfl (fun _ _ => rfl) (fun _ _ => rfl) ?_
     rintro j ⟨hjl, hall⟩
     by_cases hlt : j < Q.length
     · obtain ⟨p, hp⟩ : ∃ p, Q.getD j default = p := ⟨_, rfl⟩
       repeat' (first | refine aoQ rfl rfl rfl (fun hg => by first | exact iX encPr Q ((j : Nat) : Int) hp (hb := by omega) | exact std0 | exact std1) (by exact rfl) ?_ | refine sqW ?_ | refine rgK (fun K' hK => ?_) | (refine aoN (hK _ _ ?_); clear hK K') | refine cdN rfl tI (fun hc => ?_) (fun hc => ?_) | refine blK ?_ | refine exW ?_ | refine skW ?_ | refine rtW ?_ | refine dK2 (by decide +kernel) (by kernel_rfl) (by decide +kernel) rfl (fun K' hK => ?_) | (refine aqN (hK _ ?_); clear hK K') | refine aqQ rfl rfl (fun hg => by first | exact iX encPr Q ((j : Nat) : Int) hp (hb := by omega) | exact std0) (by exact rfl) ?_)
       all_goals (first | exact dd | skip)
       · have e2 : findI (fun p : Int × Int => p.1 == m.note) Q = j := findI_at hlt (by rw [hp]; exact hc) hall
         have e3 : fstB Q m.note = p.2 := by unfold fstB; rw [e2, if_neg (by omega), zA2, hp]
         rw [e3]; exact ⟨.inr rfl, _, rfl, Ent.of rfl⟩
       · exact ⟨j + 1, ⟨hlt, fun x hx => lt_succ_cases hall (by rw [hp]; exact hc) hx⟩, by show Q.length - (j + 1) < Q.length - j; omega, ⟨rfl, rfl, rfl, tI⟩, rfl⟩
     · have e2 : findI (fun p : Int × Int => p.1 == m.note) Q = -1 := findI_no fun x hx => hall x (by omega)
       have e3 : fstB Q m.note = 0 := by unfold fstB; rw [e2]; rfl
       rw [e3]
       repeat' (first | refine aoQ rfl rfl rfl (fun hg => by first | exact std0 | exact std1) (by exact rfl) ?_ | refine sqW ?_ | refine rgK (fun K' hK => ?_) | (refine aoN (hK _ _ ?_); clear hK K') | refine cdN rfl tI (fun hc => ?_) (fun hc => ?_) | refine blK ?_ | refine exW ?_ | refine skW ?_ | refine rtW ?_ | refine dK2 (by decide +kernel) (by kernel_rfl) (by decide +kernel) rfl (fun K' hK => ?_) | (refine aqN (hK _ ?_); clear hK K') | refine aqQ rfl rfl (fun hg => by first | exact std0 | exact std1) (by exact rfl) ?_)
       all_goals (first | exact dd | skip)
       exact ⟨.inr rfl, _, rfl, Ent.of rfl⟩
set_option maxHeartbeats 16000000 in
set_option maxRecDepth 20000 in
theorem rCarry_spec (l : List Score) (hl : l.length ≤ 1000000) (hf : ∀ s ∈ l, few12 s = true) (m : Jo.Mark) (ht : m.text.length ≤ 9223372036854775807) (v : Int) :
 PCall Tryz.prog 33 [.sl 4 (l.map encS) .no, .agg (encMk m), .int v] (tupC (carryR l m v).1 (carryR l m v).2) := by
 have hsm : ∀ s ∈ l, s.Small := fun s hs => few12_small (hf s hs)
 have v1 := versions21_spec l (by omega) hsm
 have v2 := valid19_spec m ht
 have v3 := find21_spec l (by omega) v
 by_cases hok : argOk l m v = true
 · have hR : carryR l m v = if findV l v < 0 then (none, 32) else (carryM l v (atS l (findV l v).toNat) m, 0) := if_pos hok
   have hok2 := hok
   unfold argOk numOk at hok2
   simp only [zA0, dEt] at hok2
   obtain ⟨⟨o1, o1'⟩, o2, o3⟩ := hok2
   rw [o3] at v1
   rw [o2] at v2
   by_cases hneg : findV l v < 0
   · rw [hR, if_pos hneg]
     generalize findV l v = i at *
     refine PCall.bodyS tabOk Tryz.func33 rfl rfl Tryz.ntmps33 rfl ?_
     repeat' (first | refine aoQ rfl rfl rfl (fun hg => by first | exact std0 | exact pcW (v1) rfl rfl nd rfl nds | exact pcW (v2) rfl rfl nd rfl nds | exact pcW (v3) rfl rfl nd rfl nds | exact pbD tabOk rfl rfl nds) (by exact rfl) ?_ | refine sqW ?_ | refine rgK (fun K' hK => ?_) | (refine aoN (hK _ _ ?_); clear hK K') | refine aoE (bxW rfl rfl rfl rfl rfl tI rfl rfl ?_) | refine aoE (stW tabOk rfl rfl rfl tI rfl rfl tI rfl rfl rfl rfl rfl rfl rfl ?_) | refine aoE (alW tabOk rfl rfl rfl rfl rfl rfl ?_) | refine cdN rfl tI (fun hc => ?_) (fun hc => ?_) | refine skW ?_ | refine rtW ?_)
     all_goals (first | (exact ⟨.inr rfl, _, rfl, Ent.of rfl⟩) | (exfalso; simp at hc; omega) | (exfalso; omega) | skip)
   · obtain ⟨k, hk, hkl, hkv⟩ := findV_lt hneg
     rw [if_neg hneg, hk, zA2] at hR
     rw [hR]
     rw [hk] at v3
     have c1 := carried21_spec l hl o3 hf m v k hk
     have hto := vers_all o3 _ (getD_mem hkl)
     cases hx : toN l v (atS l k) m.version m.note with
     | none =>
       have e1 : carN l v (atS l k) m = 0 := by unfold carN; rw [hx]; rfl
       have e2 : carryM l v (atS l k) m = none := by rw [carryM_eq, hx]; rfl
       rw [e1] at c1
       rw [e2]
       refine PCall.bodyS tabOk Tryz.func33 rfl rfl Tryz.ntmps33 rfl ?_
       repeat' (first | refine aoQ rfl rfl rfl (fun hg => by first | exact std0 | exact pcW (v1) rfl rfl nd rfl nds | exact pcW (v2) rfl rfl nd rfl nds | exact pcW (v3) rfl rfl nd rfl nds | exact pcW (c1) rfl rfl nd rfl nds | exact pbD tabOk rfl rfl nds) (by exact rfl) ?_ | refine sqW ?_ | refine rgK (fun K' hK => ?_) | (refine aoN (hK _ _ ?_); clear hK K') | refine aoE (bxW rfl rfl rfl rfl rfl tI rfl rfl ?_) | refine aoE (stW tabOk rfl rfl rfl tI rfl rfl tI rfl rfl rfl rfl rfl rfl rfl ?_) | refine aoE (alW tabOk rfl rfl rfl rfl rfl rfl ?_) | refine cdN rfl tI (fun hc => ?_) (fun hc => ?_) | refine skW ?_ | refine rtW ?_)
       all_goals (first | (exact ⟨.inr rfl, _, rfl, Ent.of rfl⟩) | (exfalso; simp at hc; omega) | (exfalso; simp at hc; done) | (exfalso; omega) | skip)
     | some n =>
       have e1 : carN l v (atS l k) m = n := by unfold carN; rw [hx]; rfl
       have e2 : carryM l v (atS l k) m = some { m with version := v, note := n } := by rw [carryM_eq, hx, ← hkv]; rfl
       obtain ⟨_, _, _, _, _, _, _, _, _, _, hn1⟩ := toN_some (vers_all o3) hto hk rfl hx
       rw [e1] at c1
       rw [e2]
       refine PCall.bodyS tabOk Tryz.func33 rfl rfl Tryz.ntmps33 rfl ?_
       repeat' (first | refine aoQ rfl rfl rfl (fun hg => by first | exact std0 | exact pcW (v1) rfl rfl nd rfl nds | exact pcW (v2) rfl rfl nd rfl nds | exact pcW (v3) rfl rfl nd rfl nds | exact pcW (c1) rfl rfl nd rfl nds) (by exact rfl) ?_ | refine sqW ?_ | refine rgK (fun K' hK => ?_) | (refine aoN (hK _ _ ?_); clear hK K') | refine aoE (bxW rfl rfl rfl rfl rfl tI rfl rfl ?_) | refine aoE (stW tabOk rfl rfl rfl tI rfl rfl tI rfl rfl rfl rfl rfl rfl rfl ?_) | refine aoE (alW tabOk rfl rfl rfl rfl rfl rfl ?_) | refine cdN rfl tI (fun hc => ?_) (fun hc => ?_) | refine skW ?_ | refine rtW ?_)
       all_goals (first | (exact ⟨.inr rfl, _, rfl, Ent.of rfl⟩) | (exfalso; simp at hc; omega) | (exfalso; simp at hc; done) | (exfalso; omega) | skip)
 · have hR : carryR l m v = (none, 1) := if_neg hok
   rw [hR]
   have hbad : ((((!versOk l) || !Jo.markOk m) || decide (v < 1)) || decide (v > 1000000)) = true := by
    apply Decidable.byContradiction
    intro h
    apply hok
    unfold argOk numOk
    simp only [Bool.not_eq_true, zA5, zAe, dEf] at h
    simp [h.1.1.1, h.1.1.2]; omega
   refine PCall.bodyS tabOk Tryz.func33 rfl rfl Tryz.ntmps33 rfl ?_
   repeat' (first | refine aoQ rfl rfl rfl (fun hg => by first | exact std0 | exact pcW (v1) rfl rfl nd rfl nds | exact pcW (v2) rfl rfl nd rfl nds | exact pbD tabOk rfl rfl nds) (by exact rfl) ?_ | refine sqW ?_ | refine rgK (fun K' hK => ?_) | (refine aoN (hK _ _ ?_); clear hK K') | refine aoE (bxW rfl rfl rfl rfl rfl tI rfl rfl ?_) | refine aoE (stW tabOk rfl rfl rfl tI rfl rfl tI rfl rfl rfl rfl rfl rfl rfl ?_) | refine aoE (alW tabOk rfl rfl rfl rfl rfl rfl ?_) | refine cdN rfl tI (fun hc => ?_) (fun hc => ?_) | refine skW ?_ | refine rtW ?_)
   all_goals (first | (exact ⟨.inr rfl, _, rfl, Ent.of rfl⟩) | (exfalso; rw [hbad] at hc; cases hc) | (rename_i h9; exfalso; rw [hbad] at h9; cases h9) | skip)
set_option maxHeartbeats 16000000 in
set_option maxRecDepth 20000 in
theorem rAll_spec (l : List Score) (hl : l.length ≤ 1000000) (hf : ∀ s ∈ l, few12 s = true) (ms : List Jo.Mark) (hms : ms.length ≤ 1000000) (ht : TextsIn ms) (v : Int) :
 PCall Tryz.prog 35 [.sl 4 (l.map encS) .no, .sl 10 (ms.map encMk) .no, .int v] (tupA (allR l ms v)) := by
 have hsm : ∀ s ∈ l, s.Small := fun s hs => few12_small (hf s hs)
 have v1 := versions21_spec l (by omega) hsm
 have v2 := marks19_spec ms (by omega) ht
 have v3 := find21_spec l (by omega) v
 by_cases hok : argsOk l ms v = true
 · have hR : allR l ms v = if findV l v < 0 then (([], []), 32) else ((placedL (carryM l v (atS l (findV l v).toNat)) ms, heldL (carryM l v (atS l (findV l v).toNat)) ms), 0) := if_pos hok
   have hok2 := hok
   unfold argsOk numOk at hok2
   simp only [zA0, dEt] at hok2
   obtain ⟨⟨o1, o1'⟩, o2, o3⟩ := hok2
   rw [o3] at v1
   rw [o2] at v2
   by_cases hneg : findV l v < 0
   · rw [hR, if_pos hneg]
     generalize findV l v = i at *
     refine PCall.bodyS tabOk Tryz.func35 rfl rfl Tryz.ntmps35 rfl ?_
     repeat' (first | refine aoQ rfl rfl rfl (fun hg => by first | exact std0 | exact pcW (v1) rfl rfl nd rfl nds | exact pcW (v2) rfl rfl nd rfl nds | exact pcW (v3) rfl rfl nd rfl nds) (by exact rfl) ?_ | refine sqW ?_ | refine rgK (fun K' hK => ?_) | (refine aoN (hK _ _ ?_); clear hK K') | refine cdN rfl tI (fun hc => ?_) (fun hc => ?_) | refine blK ?_ | refine skW ?_ | refine rtW ?_)
     all_goals (first | (exact ⟨.inr rfl, _, rfl, entA0 32⟩) | (exfalso; simp at hc; omega) | (exfalso; omega) | skip)
   · obtain ⟨k, hk, hkl, hkv⟩ := findV_lt hneg
     rw [if_neg hneg, hk, zA2] at hR
     rw [hR]
     rw [hk] at v3
     have hcs := fun j (hj : j < ms.length) => rCarry_spec l hl hf (ms.getD j default) (ht.at hj) v
     have hcr : ∀ j, j < ms.length → carryR l (ms.getD j default) v = (carryM l v (atS l k) (ms.getD j default), 0) := fun j hj => carryR_ok o3 (marksOk_at o2 (getD_mem hj)) (by unfold numOk; simp; omega) hk
     generalize carryM l v (atS l k) = f at *
     clear hR hok hneg hkv
     refine PCall.bodyS tabOk Tryz.func35 rfl rfl Tryz.ntmps35 rfl ?_
     repeat' (first | refine aoQ rfl rfl rfl (fun hg => by first | exact std0 | exact pcW (v1) rfl rfl nd rfl nds | exact pcW (v2) rfl rfl nd rfl nds | exact pcW (v3) rfl rfl nd rfl nds) (by exact rfl) ?_ | refine sqW ?_ | refine rgK (fun K' hK => ?_) | (refine aoN (hK _ _ ?_); clear hK K') | refine cdN rfl tI (fun hc => ?_) (fun hc => ?_) | refine blK ?_ | refine skW ?_ | refine rtW ?_)
     all_goals (first | (exfalso; simp at hc; omega) | (exfalso; omega) | skip)
     refine AWP.ownNil (d := 9) (sz := 10) rfl ?_
     refine AWP.ownNil (d := 10) (sz := 10) rfl ?_
     refine lpD (ι := Nat) (fun j => [(0, .sl 4 (l.map encS) .no), (1, .sl 10 (ms.map encMk) .no), (2, .int v), (9, .sl 10 ((placedL f (ms.take j)).map encMk) (.own 0)), (10, .sl 10 ((heldL f (ms.take j)).map encMk) (.own 1)), (11, .int j)]) (fun j => [.own 10 ((placedL f (ms.take j)).map encMk).length, .own 10 ((heldL f (ms.take j)).map encMk).length])
      (fun j => j ≤ ms.length) (fun j => ms.length - j) 2 (fun _ => rfl) 0 (nZl _) ⟨rfl, rfl, rfl, rfl, rfl, rfl, tI⟩ rfl (fun _ _ => rfl) (fun _ _ => rfl) ?_
     intro j hjl
     have lp := placedL_len f (ms.take j)
     have lh := heldL_len f (ms.take j)
     rw [zAl] at lp lh
     by_cases hlt : j < ms.length
     · have c1 := hcs j hlt
       rw [hcr j hlt] at c1
       obtain ⟨m, hm⟩ : ∃ m, ms.getD j default = m := ⟨_, rfl⟩
       have hy := fun x => placedL_yes (f := f) (x := x) hlt hm
       have hn := placedL_no (f := f) hlt hm
       rw [hm] at c1
       unfold tupC at c1
       clear hcs hcr
       generalize placedL f (ms.take j) = P at *
       generalize heldL f (ms.take j) = H at *
       cases hcm : f m with
       | none =>
         obtain ⟨h1, h2⟩ := hn hcm
         rw [hcm] at c1
         dsimp only [Option.getD_none, Option.isSome_none] at c1
         repeat' (first | refine aoQ rfl rfl rfl (fun hg => by first | exact iX encMk ms ((j : Nat) : Int) hm (hb := by omega) | exact std0 | exact pcW (c1) rfl rfl nd rfl nds | exact pbS tabOk rfl rfl nds | exact std1) (by exact rfl) ?_ | refine sqW ?_ | refine rgK (fun K' hK => ?_) | (refine aoN (hK _ _ ?_); clear hK K') | refine aoE (stW tabOk rfl rfl rfl tI rfl rfl tI rfl rfl rfl rfl rfl rfl rfl ?_) | refine aoE (alW tabOk rfl rfl rfl rfl rfl rfl ?_) | refine aoE (apO tabOk rfl rfl rfl (by decide) (Rd.w rfl tI) rfl (Rd.w rfl tI) (.sl rfl (by first | (intro x hx; rcases zAn.1 hx with rfl; rfl) | exact one_encMk' [m])) (LOk.of (tabOk.get rfl)) (LOk.of (tabOk.get rfl)) rfl rfl (by simp only [lLm, lLa, zA8, zAg, zAl, zAx]; omega) (by simp only [lLm, lLa, zA8, zAg, zAl, zAx]; omega) ?_) | refine cdN rfl tI (fun hc => ?_) (fun hc => ?_) | refine blK ?_ | refine exW ?_ | refine skW ?_ | refine rtW ?_)
         all_goals (first | (exfalso; simp at hc; done) | (exfalso; omega) | skip)
         exact ⟨j + 1, hlt, by show ms.length - (j + 1) < ms.length - j; omega, ⟨rfl, rfl, rfl, by rw [h1]; rfl, by rw [h2, zAs]; rfl, rfl, tI⟩, by rw [h1, h2, zAs]; rfl⟩
       | some x =>
         obtain ⟨h1, h2⟩ := hy x hcm
         rw [hcm] at c1
         dsimp only [zBq, Option.isSome_some] at c1
         repeat' (first | refine aoQ rfl rfl rfl (fun hg => by first | exact iX encMk ms ((j : Nat) : Int) hm (hb := by omega) | exact std0 | exact pcW (c1) rfl rfl nd rfl nds | exact pbS tabOk rfl rfl nds | exact std1) (by exact rfl) ?_ | refine sqW ?_ | refine rgK (fun K' hK => ?_) | (refine aoN (hK _ _ ?_); clear hK K') | refine aoE (stW tabOk rfl rfl rfl tI rfl rfl tI rfl rfl rfl rfl rfl rfl rfl ?_) | refine aoE (alW tabOk rfl rfl rfl rfl rfl rfl ?_) | refine aoE (apO tabOk rfl rfl rfl (by decide) (Rd.w rfl tI) rfl (Rd.w rfl tI) (.sl rfl (by first | (intro x hx; rcases zAn.1 hx with rfl; rfl) | exact one_encMk' [x])) (LOk.of (tabOk.get rfl)) (LOk.of (tabOk.get rfl)) rfl rfl (by simp only [lLm, lLa, zA8, zAg, zAl, zAx]; omega) (by simp only [lLm, lLa, zA8, zAg, zAl, zAx]; omega) ?_) | refine cdN rfl tI (fun hc => ?_) (fun hc => ?_) | refine blK ?_ | refine exW ?_ | refine skW ?_ | refine rtW ?_)
         all_goals (first | (exfalso; simp at hc; done) | (exfalso; omega) | skip)
         exact ⟨j + 1, hlt, by show ms.length - (j + 1) < ms.length - j; omega, ⟨rfl, rfl, rfl, by rw [h1, zAs]; rfl, by rw [h2]; rfl, rfl, tI⟩, by rw [h1, h2, zAs]; rfl⟩
     · obtain rfl : j = ms.length := by omega
       rw [zB9]
       repeat' (first | refine aoQ rfl rfl rfl (fun hg => by first | exact std0 | exact std1) (by exact rfl) ?_ | refine sqW ?_ | refine rgK (fun K' hK => ?_) | (refine aoN (hK _ _ ?_); clear hK K') | refine cdN rfl tI (fun hc => ?_) (fun hc => ?_) | refine blK ?_ | refine exW ?_ | refine skW ?_ | refine rtW ?_)
       all_goals (first | exact dd | skip)
       exact ⟨.inr rfl, _, rfl, Ent.of rfl⟩
 · have hR : allR l ms v = (([], []), 1) := if_neg hok
   rw [hR]
   have hbad : ((((!versOk l) || !marksOk ms) || decide (v < 1)) || decide (v > 1000000)) = true := by
    apply Decidable.byContradiction
    intro h
    apply hok
    unfold argsOk numOk
    simp only [Bool.not_eq_true, zA5, zAe, dEf] at h
    simp [h.1.1.1, h.1.1.2]; omega
   refine PCall.bodyS tabOk Tryz.func35 rfl rfl Tryz.ntmps35 rfl ?_
   repeat' (first | refine aoQ rfl rfl rfl (fun hg => by first | exact std0 | exact pcW (v1) rfl rfl nd rfl nds | exact pcW (v2) rfl rfl nd rfl nds) (by exact rfl) ?_ | refine sqW ?_ | refine rgK (fun K' hK => ?_) | (refine aoN (hK _ _ ?_); clear hK K') | refine cdN rfl tI (fun hc => ?_) (fun hc => ?_) | refine skW ?_ | refine rtW ?_)
   all_goals (first | (exact ⟨.inr rfl, _, rfl, entA0 1⟩) | (exfalso; rw [hbad] at hc; cases hc) | (rename_i h9; exfalso; rw [hbad] at h9; cases h9) | skip)
end Go.Proofs.YtekfpcgagoidcaaGreatDoor.Cy
