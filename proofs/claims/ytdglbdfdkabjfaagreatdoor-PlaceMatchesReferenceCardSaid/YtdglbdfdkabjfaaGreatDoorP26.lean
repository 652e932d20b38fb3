/- Contracts by content: a slice of an own array that is lent; the example of the laws. No statement is proved here. -/
import Derived.Test.YtdglbdfdkabjfaaGreatDoorP15
import Derived.Test.YtdglbdfdkabjfaaGreatDoorP22
import Derived.Test.YtdglbdfdkabjfaaGreatDoorP25
set_option linter.unusedVariables false
set_option linter.unusedSimpArgs false
namespace Go.Ab
variable {σ : Store}
theorem Lend.sla {l sz len ver : Nat} {es : List (List AV)} (hσ : σ[l]? = some (.arr sz ver es)) (hlen : len = es.length) (hpos : 0 < len) : Lend σ (.sla l sz 0 len ver) (.sl sz (es.map fun e => e.map (Go.Ab.bor 3 σ)) .no) := fun G w hs x h => by
 subst hlen
 cases h with
 | sla _ _ _ _ _ a c hrr =>
   obtain ⟨ob, cap, n, hB, hle, heq⟩ := hrr
   have ho := hs.objs l _ _ hB hσ
   cases ho with
   | arrz => simp at hpos
   | arr b cap sz ver es c2 T fr hb hf hl hn hz hr hm =>
     obtain ⟨g1, g2⟩ := heq rfl
     rcases g2 with g2 | ⟨g3, g4⟩
     · omega
     · subst g4
       have e0 : (es.map fun e => e.map (Go.Ab.bor 3 σ)).length = es.length := lLm ..
       have k := VRel.sl (M := memOf w) (B := []) sz (es.map fun e => e.map (Go.Ab.bor 3 σ)) .no b 0 c (fun i j => c2.getD (i * sz + j) undef) (fun e he => by
        obtain ⟨e1, h1, rfl⟩ := zB4.1 he
        rw [lLm]; exact hz e1 h1) (fun i j hi hj => by
        rw [e0] at hi
        have hlt : i * sz + j < c2.size := by
         rw [hl]
         have : (i + 1) * sz ≤ cap * sz := zAp _ (by omega)
         rw [zAx] at this; omega
        simp [memOf, World.cell?, hb, hlt]) (fun i j e cc h1 h2 => by
        rw [zA9, zA3] at h1
        obtain ⟨e1, h1, rfl⟩ := h1
        rw [zA9, zA3] at h2
        obtain ⟨a1, h2, rfl⟩ := h2
        exact bor_rel hs 3 _ _ (hr i j e1 a1 h1 h2)) (by rw [e0, g3]; omega) trivial
       rw [e0] at k
       have e2 : (⟨b, 0 * sz, none⟩ : Addr) = ⟨b, 0, none⟩ := by rw [zDe]
       show VRel _ _ _ (.slice (some ⟨b, 0 * sz, none⟩) es.length c)
       rw [e2]; exact k
theorem Lend.agg {us vs : List AV} (h : LendL σ us vs) : Lend σ (.agg us) (.agg vs) := fun G w hs x hx => by
 obtain ⟨h1, h2⟩ := h.get
 cases hx with
 | agg _ ws hl hr =>
   refine .agg _ ws (hl.trans h1.symm) fun i c hi => ?_
   obtain ⟨u, hu, hle⟩ := h2 i c hi
   exact hle G w hs _ (hr i u hu)
theorem Lend.sl (sz : Nat) (es : List (List AV)) (t : Tok) : Lend σ (.sl sz es t) (.sl sz es .no) := Lend.of 1 rfl
theorem Lend.pr (v : Value) : Lend σ (.prim v) (.prim v) := Lend.of 1 rfl
end Go.Ab
namespace Go.Proofs.YtdglbdfdkabjfaaGreatDoor.Pl
open Go.Ab Go.Pl
attribute [local irreducible] AWP AOps EStep AQ PStep PRun PCall TCall VCall
theorem rat31_spec (n d : Int) : PCall Tryz.prog 21 [.int n, .int d] (.agg [.int n, .int d]) := by
 refine PCall.bodyS tabOk Tryz.func21 rfl rfl Tryz.ntmps21 rfl ?_
 repeat' (first | refine aoQ rfl rfl rfl (fun hg => by first | exact std0 | exact pbD tabOk rfl rfl nds) (by exact rfl) ?_ | refine sqW ?_ | refine rgK (fun K' hK => ?_) | (refine aoN (hK _ _ ?_); clear hK K') | refine aoE (stW tabOk rfl rfl rfl tI rfl rfl tI rfl rfl rfl rfl rfl rfl rfl ?_) | refine aoE (alW tabOk rfl rfl rfl rfl rfl rfl ?_) | refine rtW ?_)
 exact ⟨.inr rfl, _, rfl, Ent.of rfl⟩
def exBar (i : Nat) : Bar := ⟨11 + (i : Int), ⟨4, 1⟩, 0⟩
def exBars : List Bar := [exBar 0, exBar 1, exBar 2]
def exPr (i : Nat) : Ed.Printed := ⟨1 + (i : Int), 11 + (i : Int), 0⟩
def exPrs : List Ed.Printed := [exPr 0, exPr 1, exPr 2]
def exPart : Part := ⟨3, 0, 0, 0, 1, ⟨0, 0⟩, ⟨0, 0, 0⟩, ⟨0, 0, 0⟩⟩
def exS : Score := ⟨1, exBars, [exPart], []⟩
def exE : Ed.Edition := ⟨1, 1, exPrs, [⟨⟨#[66]⟩, 1⟩]⟩
def exF : PForm := ⟨3, [⟨0, 3, 2⟩], [], ⟨0, 0, 0⟩, []⟩
def exR : Room := ⟨1, exF, []⟩
abbrev z26 : List AV := [.int 0, .nils, .nils, .nils]
abbrev z30 : List AV := [.int 0, .int 0, .nils, .nils]
abbrev z40 : List AV := [.int 0, .int 0, .nils, .nils, .int 0, .int 0, .int 0, .nils, .nils]
abbrev cellS (k : Nat) : List AV := [.int 1, .sl 4 ((exBars.take k).map encB) (.own 5), .sl 13 ([exPart].map encP) .fresh, .nils]
def cellP : Nat → AV
 | 0 => .sl 3 [] (.own 6)
 | k + 1 => .sla 6 3 0 (k + 1) (k + 1)
abbrev cellE (k : Nat) : List AV := [.int 1, .int 1, cellP k, .sl 2 [[.str ⟨#[66]⟩, .int 1]] .fresh]
abbrev cellR : List AV := [.int 1, .int 3, .sl 3 [[.int 0, .int 3, .int 2]] .fresh, .nils, .int 0, .int 0, .int 0, .nils, .nils]
abbrev exSt (k : Nat) : Store := [.var z26, .var z30, .var z40, .var (cellS k), .var (cellE k), .own 4 k, .arr 3 k ((exPrs.take k).map Ed.encP)]
abbrev exEnd : Store := [.var (cellS 3), .var (cellE 3), .var cellR, .var (cellS 3), .var (cellE 3), .own 4 3, .arr 3 3 (exPrs.map Ed.encP)]
set_option maxHeartbeats 4000000 in
set_option maxRecDepth 20000 in
theorem example_T : TCall Tryz.prog 28 [] [] (fun r s => r = .tup [.agg (cellS 3), .agg (cellE 3), .agg cellR] ∧ s = exEnd) := by
 have hr := rat31_spec 4 1
 refine TCall.bodySB tabOk Tryz.func28 rfl rfl Tryz.ntmps28 rfl ?_
 repeat' (first | refine aoQ rfl rfl rfl (fun hg => by first | exact std0 | exact pbD tabOk rfl rfl nds | exact pbS tabOk rfl rfl nds) (by exact rfl) ?_ | refine sqW ?_ | refine rgK (fun K' hK => ?_) | (refine aoN (hK _ _ ?_); clear hK K') | refine aoE (stW tabOk rfl rfl rfl tI rfl rfl tI rfl rfl rfl rfl rfl rfl rfl ?_) | refine aoE (alW tabOk rfl rfl rfl rfl rfl rfl ?_) | refine blK ?_)
 refine AWP.ownNilV (v := 3) (i := 1) (sz := 4) rfl rfl ?_
 refine AWP.arrNilV (v := 4) (i := 2) (sz := 3) rfl rfl ?_
 refine lpD (ι := Nat) (fun k => [(0, .ptr 0 0), (1, .ptr 1 0), (2, .ptr 2 0), (3, .ptr 3 0), (4, .ptr 4 0), (13, .int k)]) exSt (fun k => k ≤ 3) (fun k => 3 - k) 7 (fun _ => rfl) 0 (nZl _) ⟨rfl, rfl, rfl, rfl, rfl, rfl, tI⟩ rfl (fun _ _ => rfl) (fun k hk => by
  have h4 : k = 0 ∨ k = 1 ∨ k = 2 ∨ k = 3 := by omega
  rcases h4 with rfl | rfl | rfl | rfl <;> rfl) ?_
 intro k hk
 have h4 : k = 0 ∨ k = 1 ∨ k = 2 ∨ k = 3 := by omega
 rcases h4 with rfl | rfl | rfl | rfl
 · repeat' (first | refine aoQ rfl rfl rfl (fun hg => by exact std0) (by exact rfl) ?_ | refine sqW ?_ | refine rgK (fun K' hK => ?_) | (refine aoN (hK _ _ ?_); clear hK K') | (refine cdW rfl tI (fun hc => ?_) (fun hc => ?_) <;> (first | (simp only [dEt] at hc) | (simp only [dEf, iNl, iNe] at hc) | skip)) | refine blK ?_ | refine exW ?_ | refine skW ?_)
   all_goals first | (exfalso; omega) | skip
   refine AWP.drawY (fun j => match j with | 0 => exSt 0 ++ [] | 1 => [.var z26, .var z30, .var z40, .var (cellS 0), .var (cellE 0), .own 4 1, .arr 3 0 ((exPrs.take 0).map Ed.encP)] | _ => [.var z26, .var z30, .var z40, .var (cellS 1), .var (cellE 0), .own 4 1, .arr 3 0 ((exPrs.take 0).map Ed.encP)]) rfl (by kernel_rfl) (by decide +kernel) rfl (by decide +kernel) (fun K' hK => ?_)
   repeat' (first
    | refine yqQ (a := 0) (b := 0) rfl (by decide +kernel) (by decide +kernel) rfl rfl rfl (fun k h1 h2 hg => by (have hk : k = 0 := (by omega)); (rcases hk with rfl) <;> (first | exact std0 | exact pcW (hr) rfl rfl nd rfl nds | exact pbD tabOk rfl rfl nds | exact pbS tabOk rfl rfl nds | exact std1)) (by exact rfl) ?_
    | refine yqQ (a := 0) (b := 1) rfl (by decide +kernel) (by decide +kernel) rfl rfl rfl (fun k h1 h2 hg => by (have hk : k = 0 ∨ k = 1 := (by omega)); (rcases hk with rfl | rfl) <;> (first | exact std0 | exact pcW (hr) rfl rfl nd rfl nds | exact pbD tabOk rfl rfl nds | exact pbS tabOk rfl rfl nds | exact std1)) (by exact rfl) ?_
    | refine yqQ (a := 1) (b := 1) rfl (by decide +kernel) (by decide +kernel) rfl rfl rfl (fun k h1 h2 hg => by (have hk : k = 1 := (by omega)); (rcases hk with rfl) <;> (first | exact std0 | exact pcW (hr) rfl rfl nd rfl nds | exact pbD tabOk rfl rfl nds | exact pbS tabOk rfl rfl nds | exact std1)) (by exact rfl) ?_
    | refine yqQ (a := 0) (b := 2) rfl (by decide +kernel) (by decide +kernel) rfl rfl rfl (fun k h1 h2 hg => by (have hk : k = 0 ∨ k = 1 ∨ k = 2 := (by omega)); (rcases hk with rfl | rfl | rfl) <;> (first | exact std0 | exact pcW (hr) rfl rfl nd rfl nds | exact pbD tabOk rfl rfl nds | exact pbS tabOk rfl rfl nds | exact std1)) (by exact rfl) ?_
    | refine yqQ (a := 1) (b := 2) rfl (by decide +kernel) (by decide +kernel) rfl rfl rfl (fun k h1 h2 hg => by (have hk : k = 1 ∨ k = 2 := (by omega)); (rcases hk with rfl | rfl) <;> (first | exact std0 | exact pcW (hr) rfl rfl nd rfl nds | exact pbD tabOk rfl rfl nds | exact pbS tabOk rfl rfl nds | exact std1)) (by exact rfl) ?_
    | refine yqQ (a := 2) (b := 2) rfl (by decide +kernel) (by decide +kernel) rfl rfl rfl (fun k h1 h2 hg => by (have hk : k = 2 := (by omega)); (rcases hk with rfl) <;> (first | exact std0 | exact pcW (hr) rfl rfl nd rfl nds | exact pbD tabOk rfl rfl nds | exact pbS tabOk rfl rfl nds | exact std1)) (by exact rfl) ?_)
   refine YQ.e (v := .sl 4 ((exBars.take 1).map encB) (.own 5)) (d := some 23) rfl rfl rfl ?_ ?_
   · intro env' he
     exact apO (l := 5) tabOk rfl rfl rfl (by decide) (Rd.w ((rdv_congr (he 17 (by decide +kernel))).trans rfl) (by rw [rdn_congr (he 17 (by decide +kernel))]; first | exact tI | exact rfl)) rfl (Rd.w ((rdv_congr (he 22 (by decide +kernel))).trans rfl) (by rw [rdn_congr (he 22 (by decide +kernel))]; first | exact tI | exact rfl)) (.sl rfl (by intro x hx; rcases zAf.1 hx with rfl; rfl)) (LOk.of (tabOk.get rfl)) (LOk.of (tabOk.get rfl)) rfl rfl (by decide) (by decide) ⟨rfl, rfl⟩
   repeat' (first
    | refine yqQ (a := 0) (b := 0) rfl (by decide +kernel) (by decide +kernel) rfl rfl rfl (fun k h1 h2 hg => by (have hk : k = 0 := (by omega)); (rcases hk with rfl) <;> (first | exact std0 | exact std1)) (by exact rfl) ?_
    | refine yqQ (a := 0) (b := 1) rfl (by decide +kernel) (by decide +kernel) rfl rfl rfl (fun k h1 h2 hg => by (have hk : k = 0 ∨ k = 1 := (by omega)); (rcases hk with rfl | rfl) <;> (first | exact std0 | exact std1)) (by exact rfl) ?_
    | refine yqQ (a := 1) (b := 1) rfl (by decide +kernel) (by decide +kernel) rfl rfl rfl (fun k h1 h2 hg => by (have hk : k = 1 := (by omega)); (rcases hk with rfl) <;> (first | exact std0 | exact std1)) (by exact rfl) ?_
    | refine yqQ (a := 0) (b := 2) rfl (by decide +kernel) (by decide +kernel) rfl rfl rfl (fun k h1 h2 hg => by (have hk : k = 0 ∨ k = 1 ∨ k = 2 := (by omega)); (rcases hk with rfl | rfl | rfl) <;> (first | exact std0 | exact std1)) (by exact rfl) ?_
    | refine yqQ (a := 1) (b := 2) rfl (by decide +kernel) (by decide +kernel) rfl rfl rfl (fun k h1 h2 hg => by (have hk : k = 1 ∨ k = 2 := (by omega)); (rcases hk with rfl | rfl) <;> (first | exact std0 | exact std1)) (by exact rfl) ?_
    | refine yqQ (a := 2) (b := 2) rfl (by decide +kernel) (by decide +kernel) rfl rfl rfl (fun k h1 h2 hg => by (have hk : k = 2 := (by omega)); (rcases hk with rfl) <;> (first | exact std0 | exact std1)) (by exact rfl) ?_)
   refine YQ.e (v := .any) (d := none) rfl rfl rfl ?_ ?_
   · intro env' he
     exact stW tabOk rfl rfl ((rdv_congr (he 24 (by decide +kernel))).trans rfl) (by rw [rdn_congr (he 24 (by decide +kernel))]; first | exact tI | exact rfl) rfl ((rdv_congr (he 23 (by decide +kernel))).trans rfl) (by rw [rdn_congr (he 23 (by decide +kernel))]; first | exact tI | exact rfl) rfl rfl rfl rfl rfl rfl rfl ⟨rfl, rfl⟩
   repeat' (first
    | refine yqQ (a := 0) (b := 0) rfl (by decide +kernel) (by decide +kernel) rfl rfl rfl (fun k h1 h2 hg => by (have hk : k = 0 := (by omega)); (rcases hk with rfl) <;> (first | exact std0 | exact std1)) (by exact rfl) ?_
    | refine yqQ (a := 0) (b := 1) rfl (by decide +kernel) (by decide +kernel) rfl rfl rfl (fun k h1 h2 hg => by (have hk : k = 0 ∨ k = 1 := (by omega)); (rcases hk with rfl | rfl) <;> (first | exact std0 | exact std1)) (by exact rfl) ?_
    | refine yqQ (a := 1) (b := 1) rfl (by decide +kernel) (by decide +kernel) rfl rfl rfl (fun k h1 h2 hg => by (have hk : k = 1 := (by omega)); (rcases hk with rfl) <;> (first | exact std0 | exact std1)) (by exact rfl) ?_
    | refine yqQ (a := 0) (b := 2) rfl (by decide +kernel) (by decide +kernel) rfl rfl rfl (fun k h1 h2 hg => by (have hk : k = 0 ∨ k = 1 ∨ k = 2 := (by omega)); (rcases hk with rfl | rfl | rfl) <;> (first | exact std0 | exact std1)) (by exact rfl) ?_
    | refine yqQ (a := 1) (b := 2) rfl (by decide +kernel) (by decide +kernel) rfl rfl rfl (fun k h1 h2 hg => by (have hk : k = 1 ∨ k = 2 := (by omega)); (rcases hk with rfl | rfl) <;> (first | exact std0 | exact std1)) (by exact rfl) ?_
    | refine yqQ (a := 2) (b := 2) rfl (by decide +kernel) (by decide +kernel) rfl rfl rfl (fun k h1 h2 hg => by (have hk : k = 2 := (by omega)); (rcases hk with rfl) <;> (first | exact std0 | exact std1)) (by exact rfl) ?_)
   refine YQ.nil (hK _ _ ?_)
   clear hK K'
   repeat' (first | refine aoQ rfl rfl rfl (fun hg => by first | exact std0 | exact pbD tabOk rfl rfl nds | exact pbS tabOk rfl rfl nds) (by exact rfl) ?_ | refine rgK (fun K' hK => ?_) | (refine aoN (hK _ _ ?_); clear hK K') | refine aoE (stW tabOk rfl rfl rfl tI rfl rfl tI rfl rfl rfl rfl rfl rfl rfl ?_) | refine aoE (EStep.appendArr' (l := 6) (sz := 3) (m := 1) (es3 := (exPrs.take 1).map Ed.encP) tabOk rfl rfl rfl (by decide) (Rd.w rfl tI) (.inr ⟨rfl, rfl, rfl⟩) rfl (Rd.w rfl tI) (.sl rfl (by intro x hx; rcases zAf.1 hx with rfl; rfl)) (zBp _) (LOk.of (tabOk.get rfl)) (LOk.of (tabOk.get rfl)) rfl rfl (by decide) (by decide) rfl rfl ?_))
   all_goals first | (exfalso; omega) | skip
   exact ⟨1, by decide, by decide, ⟨rfl, rfl, rfl, rfl, rfl, rfl, tI⟩, rfl⟩
 · repeat' (first | refine aoQ rfl rfl rfl (fun hg => by exact std0) (by exact rfl) ?_ | refine sqW ?_ | refine rgK (fun K' hK => ?_) | (refine aoN (hK _ _ ?_); clear hK K') | (refine cdW rfl tI (fun hc => ?_) (fun hc => ?_) <;> (first | (simp only [dEt] at hc) | (simp only [dEf, iNl, iNe] at hc) | skip)) | refine blK ?_ | refine exW ?_ | refine skW ?_)
   all_goals first | (exfalso; omega) | skip
   refine AWP.drawY (fun j => match j with | 0 => exSt 1 ++ [] | 1 => [.var z26, .var z30, .var z40, .var (cellS 1), .var (cellE 1), .own 4 2, .arr 3 1 ((exPrs.take 1).map Ed.encP)] | _ => [.var z26, .var z30, .var z40, .var (cellS 2), .var (cellE 1), .own 4 2, .arr 3 1 ((exPrs.take 1).map Ed.encP)]) rfl (by kernel_rfl) (by decide +kernel) rfl (by decide +kernel) (fun K' hK => ?_)
   repeat' (first
    | refine yqQ (a := 0) (b := 0) rfl (by decide +kernel) (by decide +kernel) rfl rfl rfl (fun k h1 h2 hg => by (have hk : k = 0 := (by omega)); (rcases hk with rfl) <;> (first | exact std0 | exact pcW (hr) rfl rfl nd rfl nds | exact pbD tabOk rfl rfl nds | exact pbS tabOk rfl rfl nds | exact std1)) (by exact rfl) ?_
    | refine yqQ (a := 0) (b := 1) rfl (by decide +kernel) (by decide +kernel) rfl rfl rfl (fun k h1 h2 hg => by (have hk : k = 0 ∨ k = 1 := (by omega)); (rcases hk with rfl | rfl) <;> (first | exact std0 | exact pcW (hr) rfl rfl nd rfl nds | exact pbD tabOk rfl rfl nds | exact pbS tabOk rfl rfl nds | exact std1)) (by exact rfl) ?_
    | refine yqQ (a := 1) (b := 1) rfl (by decide +kernel) (by decide +kernel) rfl rfl rfl (fun k h1 h2 hg => by (have hk : k = 1 := (by omega)); (rcases hk with rfl) <;> (first | exact std0 | exact pcW (hr) rfl rfl nd rfl nds | exact pbD tabOk rfl rfl nds | exact pbS tabOk rfl rfl nds | exact std1)) (by exact rfl) ?_
    | refine yqQ (a := 0) (b := 2) rfl (by decide +kernel) (by decide +kernel) rfl rfl rfl (fun k h1 h2 hg => by (have hk : k = 0 ∨ k = 1 ∨ k = 2 := (by omega)); (rcases hk with rfl | rfl | rfl) <;> (first | exact std0 | exact pcW (hr) rfl rfl nd rfl nds | exact pbD tabOk rfl rfl nds | exact pbS tabOk rfl rfl nds | exact std1)) (by exact rfl) ?_
    | refine yqQ (a := 1) (b := 2) rfl (by decide +kernel) (by decide +kernel) rfl rfl rfl (fun k h1 h2 hg => by (have hk : k = 1 ∨ k = 2 := (by omega)); (rcases hk with rfl | rfl) <;> (first | exact std0 | exact pcW (hr) rfl rfl nd rfl nds | exact pbD tabOk rfl rfl nds | exact pbS tabOk rfl rfl nds | exact std1)) (by exact rfl) ?_
    | refine yqQ (a := 2) (b := 2) rfl (by decide +kernel) (by decide +kernel) rfl rfl rfl (fun k h1 h2 hg => by (have hk : k = 2 := (by omega)); (rcases hk with rfl) <;> (first | exact std0 | exact pcW (hr) rfl rfl nd rfl nds | exact pbD tabOk rfl rfl nds | exact pbS tabOk rfl rfl nds | exact std1)) (by exact rfl) ?_)
   refine YQ.e (v := .sl 4 ((exBars.take 2).map encB) (.own 5)) (d := some 23) rfl rfl rfl ?_ ?_
   · intro env' he
     exact apO (l := 5) tabOk rfl rfl rfl (by decide) (Rd.w ((rdv_congr (he 17 (by decide +kernel))).trans rfl) (by rw [rdn_congr (he 17 (by decide +kernel))]; first | exact tI | exact rfl)) rfl (Rd.w ((rdv_congr (he 22 (by decide +kernel))).trans rfl) (by rw [rdn_congr (he 22 (by decide +kernel))]; first | exact tI | exact rfl)) (.sl rfl (by intro x hx; rcases zAf.1 hx with rfl; rfl)) (LOk.of (tabOk.get rfl)) (LOk.of (tabOk.get rfl)) rfl rfl (by decide) (by decide) ⟨rfl, rfl⟩
   repeat' (first
    | refine yqQ (a := 0) (b := 0) rfl (by decide +kernel) (by decide +kernel) rfl rfl rfl (fun k h1 h2 hg => by (have hk : k = 0 := (by omega)); (rcases hk with rfl) <;> (first | exact std0 | exact std1)) (by exact rfl) ?_
    | refine yqQ (a := 0) (b := 1) rfl (by decide +kernel) (by decide +kernel) rfl rfl rfl (fun k h1 h2 hg => by (have hk : k = 0 ∨ k = 1 := (by omega)); (rcases hk with rfl | rfl) <;> (first | exact std0 | exact std1)) (by exact rfl) ?_
    | refine yqQ (a := 1) (b := 1) rfl (by decide +kernel) (by decide +kernel) rfl rfl rfl (fun k h1 h2 hg => by (have hk : k = 1 := (by omega)); (rcases hk with rfl) <;> (first | exact std0 | exact std1)) (by exact rfl) ?_
    | refine yqQ (a := 0) (b := 2) rfl (by decide +kernel) (by decide +kernel) rfl rfl rfl (fun k h1 h2 hg => by (have hk : k = 0 ∨ k = 1 ∨ k = 2 := (by omega)); (rcases hk with rfl | rfl | rfl) <;> (first | exact std0 | exact std1)) (by exact rfl) ?_
    | refine yqQ (a := 1) (b := 2) rfl (by decide +kernel) (by decide +kernel) rfl rfl rfl (fun k h1 h2 hg => by (have hk : k = 1 ∨ k = 2 := (by omega)); (rcases hk with rfl | rfl) <;> (first | exact std0 | exact std1)) (by exact rfl) ?_
    | refine yqQ (a := 2) (b := 2) rfl (by decide +kernel) (by decide +kernel) rfl rfl rfl (fun k h1 h2 hg => by (have hk : k = 2 := (by omega)); (rcases hk with rfl) <;> (first | exact std0 | exact std1)) (by exact rfl) ?_)
   refine YQ.e (v := .any) (d := none) rfl rfl rfl ?_ ?_
   · intro env' he
     exact stW tabOk rfl rfl ((rdv_congr (he 24 (by decide +kernel))).trans rfl) (by rw [rdn_congr (he 24 (by decide +kernel))]; first | exact tI | exact rfl) rfl ((rdv_congr (he 23 (by decide +kernel))).trans rfl) (by rw [rdn_congr (he 23 (by decide +kernel))]; first | exact tI | exact rfl) rfl rfl rfl rfl rfl rfl rfl ⟨rfl, rfl⟩
   repeat' (first
    | refine yqQ (a := 0) (b := 0) rfl (by decide +kernel) (by decide +kernel) rfl rfl rfl (fun k h1 h2 hg => by (have hk : k = 0 := (by omega)); (rcases hk with rfl) <;> (first | exact std0 | exact std1)) (by exact rfl) ?_
    | refine yqQ (a := 0) (b := 1) rfl (by decide +kernel) (by decide +kernel) rfl rfl rfl (fun k h1 h2 hg => by (have hk : k = 0 ∨ k = 1 := (by omega)); (rcases hk with rfl | rfl) <;> (first | exact std0 | exact std1)) (by exact rfl) ?_
    | refine yqQ (a := 1) (b := 1) rfl (by decide +kernel) (by decide +kernel) rfl rfl rfl (fun k h1 h2 hg => by (have hk : k = 1 := (by omega)); (rcases hk with rfl) <;> (first | exact std0 | exact std1)) (by exact rfl) ?_
    | refine yqQ (a := 0) (b := 2) rfl (by decide +kernel) (by decide +kernel) rfl rfl rfl (fun k h1 h2 hg => by (have hk : k = 0 ∨ k = 1 ∨ k = 2 := (by omega)); (rcases hk with rfl | rfl | rfl) <;> (first | exact std0 | exact std1)) (by exact rfl) ?_
    | refine yqQ (a := 1) (b := 2) rfl (by decide +kernel) (by decide +kernel) rfl rfl rfl (fun k h1 h2 hg => by (have hk : k = 1 ∨ k = 2 := (by omega)); (rcases hk with rfl | rfl) <;> (first | exact std0 | exact std1)) (by exact rfl) ?_
    | refine yqQ (a := 2) (b := 2) rfl (by decide +kernel) (by decide +kernel) rfl rfl rfl (fun k h1 h2 hg => by (have hk : k = 2 := (by omega)); (rcases hk with rfl) <;> (first | exact std0 | exact std1)) (by exact rfl) ?_)
   refine YQ.nil (hK _ _ ?_)
   clear hK K'
   repeat' (first | refine aoQ rfl rfl rfl (fun hg => by first | exact std0 | exact pbD tabOk rfl rfl nds | exact pbS tabOk rfl rfl nds) (by exact rfl) ?_ | refine rgK (fun K' hK => ?_) | (refine aoN (hK _ _ ?_); clear hK K') | refine aoE (stW tabOk rfl rfl rfl tI rfl rfl tI rfl rfl rfl rfl rfl rfl rfl ?_) | refine aoE (EStep.appendArr' (l := 6) (sz := 3) (m := 2) (es3 := (exPrs.take 2).map Ed.encP) tabOk rfl rfl rfl (by decide) (Rd.w rfl tI) (.inl ⟨rfl, by decide⟩) rfl (Rd.w rfl tI) (.sl rfl (by intro x hx; rcases zAf.1 hx with rfl; rfl)) (zBp _) (LOk.of (tabOk.get rfl)) (LOk.of (tabOk.get rfl)) rfl rfl (by decide) (by decide) rfl rfl ?_))
   all_goals first | (exfalso; omega) | skip
   exact ⟨2, by decide, by decide, ⟨rfl, rfl, rfl, rfl, rfl, rfl, tI⟩, rfl⟩
 · repeat' (first | refine aoQ rfl rfl rfl (fun hg => by exact std0) (by exact rfl) ?_ | refine sqW ?_ | refine rgK (fun K' hK => ?_) | (refine aoN (hK _ _ ?_); clear hK K') | (refine cdW rfl tI (fun hc => ?_) (fun hc => ?_) <;> (first | (simp only [dEt] at hc) | (simp only [dEf, iNl, iNe] at hc) | skip)) | refine blK ?_ | refine exW ?_ | refine skW ?_)
   all_goals first | (exfalso; omega) | skip
   refine AWP.drawY (fun j => match j with | 0 => exSt 2 ++ [] | 1 => [.var z26, .var z30, .var z40, .var (cellS 2), .var (cellE 2), .own 4 3, .arr 3 2 ((exPrs.take 2).map Ed.encP)] | _ => [.var z26, .var z30, .var z40, .var (cellS 3), .var (cellE 2), .own 4 3, .arr 3 2 ((exPrs.take 2).map Ed.encP)]) rfl (by kernel_rfl) (by decide +kernel) rfl (by decide +kernel) (fun K' hK => ?_)
   repeat' (first
    | refine yqQ (a := 0) (b := 0) rfl (by decide +kernel) (by decide +kernel) rfl rfl rfl (fun k h1 h2 hg => by (have hk : k = 0 := (by omega)); (rcases hk with rfl) <;> (first | exact std0 | exact pcW (hr) rfl rfl nd rfl nds | exact pbD tabOk rfl rfl nds | exact pbS tabOk rfl rfl nds | exact std1)) (by exact rfl) ?_
    | refine yqQ (a := 0) (b := 1) rfl (by decide +kernel) (by decide +kernel) rfl rfl rfl (fun k h1 h2 hg => by (have hk : k = 0 ∨ k = 1 := (by omega)); (rcases hk with rfl | rfl) <;> (first | exact std0 | exact pcW (hr) rfl rfl nd rfl nds | exact pbD tabOk rfl rfl nds | exact pbS tabOk rfl rfl nds | exact std1)) (by exact rfl) ?_
    | refine yqQ (a := 1) (b := 1) rfl (by decide +kernel) (by decide +kernel) rfl rfl rfl (fun k h1 h2 hg => by (have hk : k = 1 := (by omega)); (rcases hk with rfl) <;> (first | exact std0 | exact pcW (hr) rfl rfl nd rfl nds | exact pbD tabOk rfl rfl nds | exact pbS tabOk rfl rfl nds | exact std1)) (by exact rfl) ?_
    | refine yqQ (a := 0) (b := 2) rfl (by decide +kernel) (by decide +kernel) rfl rfl rfl (fun k h1 h2 hg => by (have hk : k = 0 ∨ k = 1 ∨ k = 2 := (by omega)); (rcases hk with rfl | rfl | rfl) <;> (first | exact std0 | exact pcW (hr) rfl rfl nd rfl nds | exact pbD tabOk rfl rfl nds | exact pbS tabOk rfl rfl nds | exact std1)) (by exact rfl) ?_
    | refine yqQ (a := 1) (b := 2) rfl (by decide +kernel) (by decide +kernel) rfl rfl rfl (fun k h1 h2 hg => by (have hk : k = 1 ∨ k = 2 := (by omega)); (rcases hk with rfl | rfl) <;> (first | exact std0 | exact pcW (hr) rfl rfl nd rfl nds | exact pbD tabOk rfl rfl nds | exact pbS tabOk rfl rfl nds | exact std1)) (by exact rfl) ?_
    | refine yqQ (a := 2) (b := 2) rfl (by decide +kernel) (by decide +kernel) rfl rfl rfl (fun k h1 h2 hg => by (have hk : k = 2 := (by omega)); (rcases hk with rfl) <;> (first | exact std0 | exact pcW (hr) rfl rfl nd rfl nds | exact pbD tabOk rfl rfl nds | exact pbS tabOk rfl rfl nds | exact std1)) (by exact rfl) ?_)
   refine YQ.e (v := .sl 4 ((exBars.take 3).map encB) (.own 5)) (d := some 23) rfl rfl rfl ?_ ?_
   · intro env' he
     exact apO (l := 5) tabOk rfl rfl rfl (by decide) (Rd.w ((rdv_congr (he 17 (by decide +kernel))).trans rfl) (by rw [rdn_congr (he 17 (by decide +kernel))]; first | exact tI | exact rfl)) rfl (Rd.w ((rdv_congr (he 22 (by decide +kernel))).trans rfl) (by rw [rdn_congr (he 22 (by decide +kernel))]; first | exact tI | exact rfl)) (.sl rfl (by intro x hx; rcases zAf.1 hx with rfl; rfl)) (LOk.of (tabOk.get rfl)) (LOk.of (tabOk.get rfl)) rfl rfl (by decide) (by decide) ⟨rfl, rfl⟩
   repeat' (first
    | refine yqQ (a := 0) (b := 0) rfl (by decide +kernel) (by decide +kernel) rfl rfl rfl (fun k h1 h2 hg => by (have hk : k = 0 := (by omega)); (rcases hk with rfl) <;> (first | exact std0 | exact std1)) (by exact rfl) ?_
    | refine yqQ (a := 0) (b := 1) rfl (by decide +kernel) (by decide +kernel) rfl rfl rfl (fun k h1 h2 hg => by (have hk : k = 0 ∨ k = 1 := (by omega)); (rcases hk with rfl | rfl) <;> (first | exact std0 | exact std1)) (by exact rfl) ?_
    | refine yqQ (a := 1) (b := 1) rfl (by decide +kernel) (by decide +kernel) rfl rfl rfl (fun k h1 h2 hg => by (have hk : k = 1 := (by omega)); (rcases hk with rfl) <;> (first | exact std0 | exact std1)) (by exact rfl) ?_
    | refine yqQ (a := 0) (b := 2) rfl (by decide +kernel) (by decide +kernel) rfl rfl rfl (fun k h1 h2 hg => by (have hk : k = 0 ∨ k = 1 ∨ k = 2 := (by omega)); (rcases hk with rfl | rfl | rfl) <;> (first | exact std0 | exact std1)) (by exact rfl) ?_
    | refine yqQ (a := 1) (b := 2) rfl (by decide +kernel) (by decide +kernel) rfl rfl rfl (fun k h1 h2 hg => by (have hk : k = 1 ∨ k = 2 := (by omega)); (rcases hk with rfl | rfl) <;> (first | exact std0 | exact std1)) (by exact rfl) ?_
    | refine yqQ (a := 2) (b := 2) rfl (by decide +kernel) (by decide +kernel) rfl rfl rfl (fun k h1 h2 hg => by (have hk : k = 2 := (by omega)); (rcases hk with rfl) <;> (first | exact std0 | exact std1)) (by exact rfl) ?_)
   refine YQ.e (v := .any) (d := none) rfl rfl rfl ?_ ?_
   · intro env' he
     exact stW tabOk rfl rfl ((rdv_congr (he 24 (by decide +kernel))).trans rfl) (by rw [rdn_congr (he 24 (by decide +kernel))]; first | exact tI | exact rfl) rfl ((rdv_congr (he 23 (by decide +kernel))).trans rfl) (by rw [rdn_congr (he 23 (by decide +kernel))]; first | exact tI | exact rfl) rfl rfl rfl rfl rfl rfl rfl ⟨rfl, rfl⟩
   repeat' (first
    | refine yqQ (a := 0) (b := 0) rfl (by decide +kernel) (by decide +kernel) rfl rfl rfl (fun k h1 h2 hg => by (have hk : k = 0 := (by omega)); (rcases hk with rfl) <;> (first | exact std0 | exact std1)) (by exact rfl) ?_
    | refine yqQ (a := 0) (b := 1) rfl (by decide +kernel) (by decide +kernel) rfl rfl rfl (fun k h1 h2 hg => by (have hk : k = 0 ∨ k = 1 := (by omega)); (rcases hk with rfl | rfl) <;> (first | exact std0 | exact std1)) (by exact rfl) ?_
    | refine yqQ (a := 1) (b := 1) rfl (by decide +kernel) (by decide +kernel) rfl rfl rfl (fun k h1 h2 hg => by (have hk : k = 1 := (by omega)); (rcases hk with rfl) <;> (first | exact std0 | exact std1)) (by exact rfl) ?_
    | refine yqQ (a := 0) (b := 2) rfl (by decide +kernel) (by decide +kernel) rfl rfl rfl (fun k h1 h2 hg => by (have hk : k = 0 ∨ k = 1 ∨ k = 2 := (by omega)); (rcases hk with rfl | rfl | rfl) <;> (first | exact std0 | exact std1)) (by exact rfl) ?_
    | refine yqQ (a := 1) (b := 2) rfl (by decide +kernel) (by decide +kernel) rfl rfl rfl (fun k h1 h2 hg => by (have hk : k = 1 ∨ k = 2 := (by omega)); (rcases hk with rfl | rfl) <;> (first | exact std0 | exact std1)) (by exact rfl) ?_
    | refine yqQ (a := 2) (b := 2) rfl (by decide +kernel) (by decide +kernel) rfl rfl rfl (fun k h1 h2 hg => by (have hk : k = 2 := (by omega)); (rcases hk with rfl) <;> (first | exact std0 | exact std1)) (by exact rfl) ?_)
   refine YQ.nil (hK _ _ ?_)
   clear hK K'
   repeat' (first | refine aoQ rfl rfl rfl (fun hg => by first | exact std0 | exact pbD tabOk rfl rfl nds | exact pbS tabOk rfl rfl nds) (by exact rfl) ?_ | refine rgK (fun K' hK => ?_) | (refine aoN (hK _ _ ?_); clear hK K') | refine aoE (stW tabOk rfl rfl rfl tI rfl rfl tI rfl rfl rfl rfl rfl rfl rfl ?_) | refine aoE (EStep.appendArr' (l := 6) (sz := 3) (m := 3) (es3 := (exPrs.take 3).map Ed.encP) tabOk rfl rfl rfl (by decide) (Rd.w rfl tI) (.inl ⟨rfl, by decide⟩) rfl (Rd.w rfl tI) (.sl rfl (by intro x hx; rcases zAf.1 hx with rfl; rfl)) (zBp _) (LOk.of (tabOk.get rfl)) (LOk.of (tabOk.get rfl)) rfl rfl (by decide) (by decide) rfl rfl ?_))
   all_goals first | (exfalso; omega) | skip
   exact ⟨3, by decide, by decide, ⟨rfl, rfl, rfl, rfl, rfl, rfl, tI⟩, rfl⟩
 · repeat' (first | refine aoQ rfl rfl rfl (fun hg => by exact std0) (by exact rfl) ?_ | refine sqW ?_ | refine rgK (fun K' hK => ?_) | (refine aoN (hK _ _ ?_); clear hK K') | (refine cdW rfl tI (fun hc => ?_) (fun hc => ?_) <;> (first | (simp only [dEt] at hc) | (simp only [dEf, iNl, iNe] at hc) | skip)) | refine blK ?_ | refine exW ?_ | refine skW ?_)
   all_goals first | (exfalso; omega) | skip
   refine AWP.drawY (fun j => match j with | 0 => exSt 3 | 1 => [.var (cellS 3), .var z30, .var z40, .var (cellS 3), .var (cellE 3), .own 4 3, .arr 3 3 (exPrs.map Ed.encP)] | 2 => [.var (cellS 3), .var (cellE 3), .var z40, .var (cellS 3), .var (cellE 3), .own 4 3, .arr 3 3 (exPrs.map Ed.encP)] | _ => exEnd) rfl (by kernel_rfl) (by decide +kernel) rfl (by decide +kernel) (fun K' hK => ?_)
   repeat' (first
    | refine yqQ (a := 0) (b := 0) rfl (by decide +kernel) (by decide +kernel) rfl rfl rfl (fun k h1 h2 hg => by (have hk : k = 0 := (by omega)); (rcases hk with rfl) <;> (first | exact std0 | exact pbD tabOk rfl rfl nds | exact pbS tabOk rfl rfl nds | exact std1)) (by exact rfl) ?_
    | refine yqQ (a := 0) (b := 1) rfl (by decide +kernel) (by decide +kernel) rfl rfl rfl (fun k h1 h2 hg => by (have hk : k = 0 ∨ k = 1 := (by omega)); (rcases hk with rfl | rfl) <;> (first | exact std0 | exact pbD tabOk rfl rfl nds | exact pbS tabOk rfl rfl nds | exact std1)) (by exact rfl) ?_
    | refine yqQ (a := 1) (b := 1) rfl (by decide +kernel) (by decide +kernel) rfl rfl rfl (fun k h1 h2 hg => by (have hk : k = 1 := (by omega)); (rcases hk with rfl) <;> (first | exact std0 | exact pbD tabOk rfl rfl nds | exact pbS tabOk rfl rfl nds | exact std1)) (by exact rfl) ?_
    | refine yqQ (a := 0) (b := 2) rfl (by decide +kernel) (by decide +kernel) rfl rfl rfl (fun k h1 h2 hg => by (have hk : k = 0 ∨ k = 1 ∨ k = 2 := (by omega)); (rcases hk with rfl | rfl | rfl) <;> (first | exact std0 | exact pbD tabOk rfl rfl nds | exact pbS tabOk rfl rfl nds | exact std1)) (by exact rfl) ?_
    | refine yqQ (a := 1) (b := 2) rfl (by decide +kernel) (by decide +kernel) rfl rfl rfl (fun k h1 h2 hg => by (have hk : k = 1 ∨ k = 2 := (by omega)); (rcases hk with rfl | rfl) <;> (first | exact std0 | exact pbD tabOk rfl rfl nds | exact pbS tabOk rfl rfl nds | exact std1)) (by exact rfl) ?_
    | refine yqQ (a := 2) (b := 2) rfl (by decide +kernel) (by decide +kernel) rfl rfl rfl (fun k h1 h2 hg => by (have hk : k = 2 := (by omega)); (rcases hk with rfl) <;> (first | exact std0 | exact pbD tabOk rfl rfl nds | exact pbS tabOk rfl rfl nds | exact std1)) (by exact rfl) ?_
    | refine yqQ (a := 0) (b := 3) rfl (by decide +kernel) (by decide +kernel) rfl rfl rfl (fun k h1 h2 hg => by (have hk : k = 0 ∨ k = 1 ∨ k = 2 ∨ k = 3 := (by omega)); (rcases hk with rfl | rfl | rfl | rfl) <;> (first | exact std0 | exact pbD tabOk rfl rfl nds | exact pbS tabOk rfl rfl nds | exact std1)) (by exact rfl) ?_
    | refine yqQ (a := 1) (b := 3) rfl (by decide +kernel) (by decide +kernel) rfl rfl rfl (fun k h1 h2 hg => by (have hk : k = 1 ∨ k = 2 ∨ k = 3 := (by omega)); (rcases hk with rfl | rfl | rfl) <;> (first | exact std0 | exact pbD tabOk rfl rfl nds | exact pbS tabOk rfl rfl nds | exact std1)) (by exact rfl) ?_
    | refine yqQ (a := 2) (b := 3) rfl (by decide +kernel) (by decide +kernel) rfl rfl rfl (fun k h1 h2 hg => by (have hk : k = 2 ∨ k = 3 := (by omega)); (rcases hk with rfl | rfl) <;> (first | exact std0 | exact pbD tabOk rfl rfl nds | exact pbS tabOk rfl rfl nds | exact std1)) (by exact rfl) ?_
    | refine yqQ (a := 3) (b := 3) rfl (by decide +kernel) (by decide +kernel) rfl rfl rfl (fun k h1 h2 hg => by (have hk : k = 3 := (by omega)); (rcases hk with rfl) <;> (first | exact std0 | exact pbD tabOk rfl rfl nds | exact pbS tabOk rfl rfl nds | exact std1)) (by exact rfl) ?_)
   refine YQ.e (v := .any) (d := none) rfl rfl rfl ?_ ?_
   · intro env' he
     exact stW tabOk rfl rfl ((rdv_congr (he 0 (by decide +kernel))).trans rfl) (by rw [rdn_congr (he 0 (by decide +kernel))]; first | exact tI | exact rfl) rfl ((rdv_congr (he 36 (by decide +kernel))).trans rfl) (by rw [rdn_congr (he 36 (by decide +kernel))]; first | exact tI | exact rfl) rfl rfl rfl rfl rfl rfl rfl ⟨rfl, rfl⟩
   repeat' (first
    | refine yqQ (a := 0) (b := 0) rfl (by decide +kernel) (by decide +kernel) rfl rfl rfl (fun k h1 h2 hg => by (have hk : k = 0 := (by omega)); (rcases hk with rfl) <;> (first | exact std0 | exact pbD tabOk rfl rfl nds | exact pbS tabOk rfl rfl nds | exact std1)) (by exact rfl) ?_
    | refine yqQ (a := 0) (b := 1) rfl (by decide +kernel) (by decide +kernel) rfl rfl rfl (fun k h1 h2 hg => by (have hk : k = 0 ∨ k = 1 := (by omega)); (rcases hk with rfl | rfl) <;> (first | exact std0 | exact pbD tabOk rfl rfl nds | exact pbS tabOk rfl rfl nds | exact std1)) (by exact rfl) ?_
    | refine yqQ (a := 1) (b := 1) rfl (by decide +kernel) (by decide +kernel) rfl rfl rfl (fun k h1 h2 hg => by (have hk : k = 1 := (by omega)); (rcases hk with rfl) <;> (first | exact std0 | exact pbD tabOk rfl rfl nds | exact pbS tabOk rfl rfl nds | exact std1)) (by exact rfl) ?_
    | refine yqQ (a := 0) (b := 2) rfl (by decide +kernel) (by decide +kernel) rfl rfl rfl (fun k h1 h2 hg => by (have hk : k = 0 ∨ k = 1 ∨ k = 2 := (by omega)); (rcases hk with rfl | rfl | rfl) <;> (first | exact std0 | exact pbD tabOk rfl rfl nds | exact pbS tabOk rfl rfl nds | exact std1)) (by exact rfl) ?_
    | refine yqQ (a := 1) (b := 2) rfl (by decide +kernel) (by decide +kernel) rfl rfl rfl (fun k h1 h2 hg => by (have hk : k = 1 ∨ k = 2 := (by omega)); (rcases hk with rfl | rfl) <;> (first | exact std0 | exact pbD tabOk rfl rfl nds | exact pbS tabOk rfl rfl nds | exact std1)) (by exact rfl) ?_
    | refine yqQ (a := 2) (b := 2) rfl (by decide +kernel) (by decide +kernel) rfl rfl rfl (fun k h1 h2 hg => by (have hk : k = 2 := (by omega)); (rcases hk with rfl) <;> (first | exact std0 | exact pbD tabOk rfl rfl nds | exact pbS tabOk rfl rfl nds | exact std1)) (by exact rfl) ?_
    | refine yqQ (a := 0) (b := 3) rfl (by decide +kernel) (by decide +kernel) rfl rfl rfl (fun k h1 h2 hg => by (have hk : k = 0 ∨ k = 1 ∨ k = 2 ∨ k = 3 := (by omega)); (rcases hk with rfl | rfl | rfl | rfl) <;> (first | exact std0 | exact pbD tabOk rfl rfl nds | exact pbS tabOk rfl rfl nds | exact std1)) (by exact rfl) ?_
    | refine yqQ (a := 1) (b := 3) rfl (by decide +kernel) (by decide +kernel) rfl rfl rfl (fun k h1 h2 hg => by (have hk : k = 1 ∨ k = 2 ∨ k = 3 := (by omega)); (rcases hk with rfl | rfl | rfl) <;> (first | exact std0 | exact pbD tabOk rfl rfl nds | exact pbS tabOk rfl rfl nds | exact std1)) (by exact rfl) ?_
    | refine yqQ (a := 2) (b := 3) rfl (by decide +kernel) (by decide +kernel) rfl rfl rfl (fun k h1 h2 hg => by (have hk : k = 2 ∨ k = 3 := (by omega)); (rcases hk with rfl | rfl) <;> (first | exact std0 | exact pbD tabOk rfl rfl nds | exact pbS tabOk rfl rfl nds | exact std1)) (by exact rfl) ?_
    | refine yqQ (a := 3) (b := 3) rfl (by decide +kernel) (by decide +kernel) rfl rfl rfl (fun k h1 h2 hg => by (have hk : k = 3 := (by omega)); (rcases hk with rfl) <;> (first | exact std0 | exact pbD tabOk rfl rfl nds | exact pbS tabOk rfl rfl nds | exact std1)) (by exact rfl) ?_)
   refine YQ.e (v := .any) (d := none) rfl rfl rfl ?_ ?_
   · intro env' he
     exact stW tabOk rfl rfl ((rdv_congr (he 1 (by decide +kernel))).trans rfl) (by rw [rdn_congr (he 1 (by decide +kernel))]; first | exact tI | exact rfl) rfl ((rdv_congr (he 37 (by decide +kernel))).trans rfl) (by rw [rdn_congr (he 37 (by decide +kernel))]; first | exact tI | exact rfl) rfl rfl rfl rfl rfl rfl rfl ⟨rfl, rfl⟩
   repeat' (first
    | refine yqQ (a := 0) (b := 0) rfl (by decide +kernel) (by decide +kernel) rfl rfl rfl (fun k h1 h2 hg => by (have hk : k = 0 := (by omega)); (rcases hk with rfl) <;> (first | exact std0 | exact pbD tabOk rfl rfl nds | exact pbS tabOk rfl rfl nds | exact std1)) (by exact rfl) ?_
    | refine yqQ (a := 0) (b := 1) rfl (by decide +kernel) (by decide +kernel) rfl rfl rfl (fun k h1 h2 hg => by (have hk : k = 0 ∨ k = 1 := (by omega)); (rcases hk with rfl | rfl) <;> (first | exact std0 | exact pbD tabOk rfl rfl nds | exact pbS tabOk rfl rfl nds | exact std1)) (by exact rfl) ?_
    | refine yqQ (a := 1) (b := 1) rfl (by decide +kernel) (by decide +kernel) rfl rfl rfl (fun k h1 h2 hg => by (have hk : k = 1 := (by omega)); (rcases hk with rfl) <;> (first | exact std0 | exact pbD tabOk rfl rfl nds | exact pbS tabOk rfl rfl nds | exact std1)) (by exact rfl) ?_
    | refine yqQ (a := 0) (b := 2) rfl (by decide +kernel) (by decide +kernel) rfl rfl rfl (fun k h1 h2 hg => by (have hk : k = 0 ∨ k = 1 ∨ k = 2 := (by omega)); (rcases hk with rfl | rfl | rfl) <;> (first | exact std0 | exact pbD tabOk rfl rfl nds | exact pbS tabOk rfl rfl nds | exact std1)) (by exact rfl) ?_
    | refine yqQ (a := 1) (b := 2) rfl (by decide +kernel) (by decide +kernel) rfl rfl rfl (fun k h1 h2 hg => by (have hk : k = 1 ∨ k = 2 := (by omega)); (rcases hk with rfl | rfl) <;> (first | exact std0 | exact pbD tabOk rfl rfl nds | exact pbS tabOk rfl rfl nds | exact std1)) (by exact rfl) ?_
    | refine yqQ (a := 2) (b := 2) rfl (by decide +kernel) (by decide +kernel) rfl rfl rfl (fun k h1 h2 hg => by (have hk : k = 2 := (by omega)); (rcases hk with rfl) <;> (first | exact std0 | exact pbD tabOk rfl rfl nds | exact pbS tabOk rfl rfl nds | exact std1)) (by exact rfl) ?_
    | refine yqQ (a := 0) (b := 3) rfl (by decide +kernel) (by decide +kernel) rfl rfl rfl (fun k h1 h2 hg => by (have hk : k = 0 ∨ k = 1 ∨ k = 2 ∨ k = 3 := (by omega)); (rcases hk with rfl | rfl | rfl | rfl) <;> (first | exact std0 | exact pbD tabOk rfl rfl nds | exact pbS tabOk rfl rfl nds | exact std1)) (by exact rfl) ?_
    | refine yqQ (a := 1) (b := 3) rfl (by decide +kernel) (by decide +kernel) rfl rfl rfl (fun k h1 h2 hg => by (have hk : k = 1 ∨ k = 2 ∨ k = 3 := (by omega)); (rcases hk with rfl | rfl | rfl) <;> (first | exact std0 | exact pbD tabOk rfl rfl nds | exact pbS tabOk rfl rfl nds | exact std1)) (by exact rfl) ?_
    | refine yqQ (a := 2) (b := 3) rfl (by decide +kernel) (by decide +kernel) rfl rfl rfl (fun k h1 h2 hg => by (have hk : k = 2 ∨ k = 3 := (by omega)); (rcases hk with rfl | rfl) <;> (first | exact std0 | exact pbD tabOk rfl rfl nds | exact pbS tabOk rfl rfl nds | exact std1)) (by exact rfl) ?_
    | refine yqQ (a := 3) (b := 3) rfl (by decide +kernel) (by decide +kernel) rfl rfl rfl (fun k h1 h2 hg => by (have hk : k = 3 := (by omega)); (rcases hk with rfl) <;> (first | exact std0 | exact pbD tabOk rfl rfl nds | exact pbS tabOk rfl rfl nds | exact std1)) (by exact rfl) ?_)
   refine YQ.e (v := .any) (d := none) rfl rfl rfl ?_ ?_
   · intro env' he
     exact stW tabOk rfl rfl ((rdv_congr (he 2 (by decide +kernel))).trans rfl) (by rw [rdn_congr (he 2 (by decide +kernel))]; first | exact tI | exact rfl) rfl ((rdv_congr (he 41 (by decide +kernel))).trans rfl) (by rw [rdn_congr (he 41 (by decide +kernel))]; first | exact tI | exact rfl) rfl rfl rfl rfl rfl rfl rfl ⟨rfl, rfl⟩
   repeat' (first
    | refine yqQ (a := 0) (b := 0) rfl (by decide +kernel) (by decide +kernel) rfl rfl rfl (fun k h1 h2 hg => by (have hk : k = 0 := (by omega)); (rcases hk with rfl) <;> (first | exact std0 | exact pbD tabOk rfl rfl nds | exact pbS tabOk rfl rfl nds | exact std1)) (by exact rfl) ?_
    | refine yqQ (a := 0) (b := 1) rfl (by decide +kernel) (by decide +kernel) rfl rfl rfl (fun k h1 h2 hg => by (have hk : k = 0 ∨ k = 1 := (by omega)); (rcases hk with rfl | rfl) <;> (first | exact std0 | exact pbD tabOk rfl rfl nds | exact pbS tabOk rfl rfl nds | exact std1)) (by exact rfl) ?_
    | refine yqQ (a := 1) (b := 1) rfl (by decide +kernel) (by decide +kernel) rfl rfl rfl (fun k h1 h2 hg => by (have hk : k = 1 := (by omega)); (rcases hk with rfl) <;> (first | exact std0 | exact pbD tabOk rfl rfl nds | exact pbS tabOk rfl rfl nds | exact std1)) (by exact rfl) ?_
    | refine yqQ (a := 0) (b := 2) rfl (by decide +kernel) (by decide +kernel) rfl rfl rfl (fun k h1 h2 hg => by (have hk : k = 0 ∨ k = 1 ∨ k = 2 := (by omega)); (rcases hk with rfl | rfl | rfl) <;> (first | exact std0 | exact pbD tabOk rfl rfl nds | exact pbS tabOk rfl rfl nds | exact std1)) (by exact rfl) ?_
    | refine yqQ (a := 1) (b := 2) rfl (by decide +kernel) (by decide +kernel) rfl rfl rfl (fun k h1 h2 hg => by (have hk : k = 1 ∨ k = 2 := (by omega)); (rcases hk with rfl | rfl) <;> (first | exact std0 | exact pbD tabOk rfl rfl nds | exact pbS tabOk rfl rfl nds | exact std1)) (by exact rfl) ?_
    | refine yqQ (a := 2) (b := 2) rfl (by decide +kernel) (by decide +kernel) rfl rfl rfl (fun k h1 h2 hg => by (have hk : k = 2 := (by omega)); (rcases hk with rfl) <;> (first | exact std0 | exact pbD tabOk rfl rfl nds | exact pbS tabOk rfl rfl nds | exact std1)) (by exact rfl) ?_
    | refine yqQ (a := 0) (b := 3) rfl (by decide +kernel) (by decide +kernel) rfl rfl rfl (fun k h1 h2 hg => by (have hk : k = 0 ∨ k = 1 ∨ k = 2 ∨ k = 3 := (by omega)); (rcases hk with rfl | rfl | rfl | rfl) <;> (first | exact std0 | exact pbD tabOk rfl rfl nds | exact pbS tabOk rfl rfl nds | exact std1)) (by exact rfl) ?_
    | refine yqQ (a := 1) (b := 3) rfl (by decide +kernel) (by decide +kernel) rfl rfl rfl (fun k h1 h2 hg => by (have hk : k = 1 ∨ k = 2 ∨ k = 3 := (by omega)); (rcases hk with rfl | rfl | rfl) <;> (first | exact std0 | exact pbD tabOk rfl rfl nds | exact pbS tabOk rfl rfl nds | exact std1)) (by exact rfl) ?_
    | refine yqQ (a := 2) (b := 3) rfl (by decide +kernel) (by decide +kernel) rfl rfl rfl (fun k h1 h2 hg => by (have hk : k = 2 ∨ k = 3 := (by omega)); (rcases hk with rfl | rfl) <;> (first | exact std0 | exact pbD tabOk rfl rfl nds | exact pbS tabOk rfl rfl nds | exact std1)) (by exact rfl) ?_
    | refine yqQ (a := 3) (b := 3) rfl (by decide +kernel) (by decide +kernel) rfl rfl rfl (fun k h1 h2 hg => by (have hk : k = 3 := (by omega)); (rcases hk with rfl) <;> (first | exact std0 | exact pbD tabOk rfl rfl nds | exact pbS tabOk rfl rfl nds | exact std1)) (by exact rfl) ?_)
   refine YQ.nil (hK _ _ ?_)
   clear hK K'
   repeat' (first | refine rtW ?_)
   exact ⟨.inr rfl, _, exEnd, ⟨rfl, rfl⟩, rfl, nZl _, rfl, rfl, rfl⟩
def exC : Call := ⟨⟨#[66]⟩, 0, 1, ⟨1, 1⟩, 2⟩
def exM : Mom := ⟨13, 2, ⟨1, 1⟩⟩
def exR2 : Room := ⟨1, { exF with cuts := [⟨2, 3, 2⟩] }, []⟩
def exE2 : Ed.Edition := ⟨1, 1, [exPr 0, exPr 1, ⟨3, 99, 0⟩], [⟨⟨#[66]⟩, 1⟩]⟩
theorem ex_right : rightB exS exE exR = true := by unfold rightB; rw [scoreOk_eq]; decide +kernel
theorem ex_right2 : rightB exS exE exR2 = true := by unfold rightB; rw [scoreOk_eq]; decide +kernel
theorem ex_right3 : rightB exS exE2 exR2 = true := by unfold rightB; rw [scoreOk_eq]; decide +kernel
theorem ex_1 : resolve exS exE exR exC = (exM, 0) := by unfold resolve; rw [ex_right]; kernel_rfl
theorem ex_2 : locate exS exE exR exM = (exC, true, 0) := by unfold locate; rw [ex_right]; kernel_rfl
theorem ex_3 : resolve exS exE exR ⟨⟨#[66]⟩, 0, -1, ⟨0, 1⟩, 0⟩ = (⟨11, 1, ⟨0, 1⟩⟩, 0) := by unfold resolve; rw [ex_right]; kernel_rfl
theorem ex_4 : resolve exS exE exR ⟨⟨#[66]⟩, 0, -2, ⟨0, 1⟩, 0⟩ = (noMom, 21) := by unfold resolve; rw [ex_right]; kernel_rfl
theorem ex_5 : resolve exS exE exR ⟨⟨#[66]⟩, 0, 0, ⟨4, 1⟩, 0⟩ = (noMom, 3) := by unfold resolve; rw [ex_right]; kernel_rfl
theorem ex_6 : resolve exS exE exR ⟨⟨#[66]⟩, 0, 0, ⟨0, 1⟩, 3⟩ = (noMom, 30) := by unfold resolve; rw [ex_right]; kernel_rfl
theorem ex_7 : resolve exS exE exR2 exC = (noMom, 31) := by unfold resolve; rw [ex_right2]; kernel_rfl
theorem ex_8 : resolve exS exE2 exR2 exC = (noMom, 32) := by unfold resolve; rw [ex_right3]; kernel_rfl
end Go.Proofs.YtdglbdfdkabjfaaGreatDoor.Pl
