/- Contracts by content: Letter, Number, Place, Visit of package edition. No statement is proved here. -/
import Derived.Test.YtdglbdfdkabjfaaGreatDoorP7
set_option linter.unusedVariables false
set_option linter.unusedSimpArgs false
/- Letter, Number, Place, Visit. -/
namespace Go.Proofs.YtdglbdfdkabjfaaGreatDoor.Ed
open Go.Ab
attribute [local irreducible] AWP AOps EStep AQ PStep PRun PCall TCall VCall
theorem findI_ub {α : Type} [Inhabited α] (p : α → Bool) (l : List α) : -1 ≤ findI p l ∧ findI p l < l.length := by
 rcases Int.lt_or_le (findI p l) 0 with h | h
 · have := findI_neg.1 h; omega
 · obtain ⟨k, h1, h2, _⟩ := findI_lt h; omega
theorem ok2 {a b : Bool} (h : (!a || !b) = false) : (a && b) = true := by cases a <;> cases b <;> simp_all
theorem ok3 {a b c : Bool} (h : (!a || !b || !c) = false) : (a && b && c) = true := by cases a <;> cases b <;> cases c <;> simp_all
def numP (n : Int) (b : Printed) : Bool := b.number == n
theorem numP_spec (b : Printed) (n : Int) : PCall Tryz.prog 93 [.agg (encP b), .iptr [.int n]] (.b (numP n b)) := by
 refine PCall.body Tryz.func93 rfl rfl Tryz.ntmps93 rfl rfl ?_
 repeat' (first | refine aoQ rfl rfl rfl (fun hg => by exact std0) (by exact rfl) ?_ | refine sqW ?_ | refine rgK (fun K' hK => ?_) | (refine aoN (hK _ _ ?_); clear hK K') | refine aoE (bxW rfl rfl rfl rfl rfl tI rfl rfl ?_) | refine rtW ?_)
 exact ⟨.inr rfl, fun _ _ h => h⟩
def numI (e : Edition) (n : Int) : Int := findI (numP n) e.bars
def numR (e : Edition) (n : Int) : Int × Int :=
 if formB e && inB n 0 100000 then
  (if numI e n < 0 then (0, 4) else if findI (numP n) (e.bars.drop (numI e n + 1).toNat) ≥ 0 then (0, 5) else (numI e n, 0))
 else (0, 1)
theorem number_spec (e : Edition) (hw : Wf e) (n : Int) : PCall Tryz.prog 39 [.agg (encE e), .int n] (.tup [.int (numR e n).1, .int (numR e n).2]) := by
 refine PCall.body Tryz.func39 rfl rfl Tryz.ntmps39 rfl rfl ?_
 have hf : ∀ x, FnCall Tryz.prog (.fn (.func 93) [] [.iptr [.int n]]) [.agg (encP x)] (.b (numP n x)) := fun x => ⟨93, [], [.iptr [.int n]], rfl, numP_spec x n⟩
 have hb := hw.bars
 have hub := findI_ub (numP n) e.bars
 have hd : ∀ k, (e.bars.drop k).length ≤ 9223372036854775807 := fun k => by simp; omega
 repeat' (first | refine aoQ rfl rfl rfl (fun hg => by first | exact std0 | exact pcW (within_spec _ _ _) rfl rfl nd rfl nds | exact pcW (formed_form e hw) rfl rfl nd rfl nds | exact pbW (idxP_spec e.bars (.fn (.func 93) [] [.iptr [.int n]]) (numP n) (fun x _ => hf x) hw.bars) rfl rfl nd rfl rfl nds | exact PRun.sliceLoM tabOk rfl rfl nd rfl nd rfl (by omega) | exact pbW (anyP_spec (e.bars.drop (findI (numP n) e.bars + 1).toNat) (.fn (.func 93) [] [.iptr [.int n]]) (numP n) (fun x _ => hf x) (hd _)) rfl rfl nd rfl rfl nds) (by exact rfl) ?_ | refine sqW ?_ | refine rgK (fun K' hK => ?_) | (refine aoN (hK _ _ ?_); clear hK K') | refine aoE (bxW rfl rfl rfl rfl rfl tI rfl rfl ?_) | refine cdN rfl tI (fun hc => ?_) (fun hc => ?_) | refine blK ?_ | refine skW ?_ | refine rtW ?_)
 all_goals (refine ⟨.inr rfl, ?_⟩)
 all_goals (clear hf hd)
 · rw [show numR e n = (0, 1) from by unfold numR; rw [if_neg]; revert hc; cases formB e <;> cases inB n 0 100000 <;> simp]
   exact fun _ _ h => h
 · rename_i hc0
   rw [show numR e n = (0, 4) from by unfold numR numI; rw [if_pos (ok2 hc0), if_pos hc]]
   exact fun _ _ h => h
 · rename_i hc0 hc1
   rw [show numR e n = (0, 5) from by unfold numR numI; rw [if_pos (ok2 hc0), if_neg (by omega), if_pos hc]]
   exact fun _ _ h => h
 · rename_i hc0 hc1
   rw [show numR e n = (findI (numP n) e.bars, 0) from by unfold numR numI; rw [if_pos (ok2 hc0), if_neg (by omega), if_neg (by omega)]]
   exact fun _ _ h => h
def letR (e : Edition) (nm : ByteArray) : Int × Int :=
 if formB e && nameB nm then (match lk (lettersAL e.letters) nm with | some i => (i, 0) | none => (0, 4)) else (0, 1)
theorem let_spec (e : Edition) (hw : Wf e) (nm : ByteArray) (hn : nm.size ≤ 9223372036854775807) : PCall Tryz.prog 38 [.agg (encE e), .str nm] (.tup [.int (letR e nm).1, .int (letR e nm).2]) := by
 refine PCall.body Tryz.func38 rfl rfl Tryz.ntmps38 rfl rfl ?_
 repeat' (first | refine aoQ rfl rfl rfl (fun hg => by first | exact std0 | exact pcW (isName_spec nm hn) rfl rfl nd rfl nds | exact pcW (formed_form e hw) rfl rfl nd rfl nds | exact pcW (letters_spec e hw.letters) rfl rfl nd rfl nds | exact PRun.lookup (ek := ekS) (ev := AV.int) (keyLaw_str (LOk.of (tabOk.get rfl))) (LOk.of (tabOk.get rfl)) (LOk.of (tabOk.get rfl)) rfl rfl (Rd.w rfl nd) (Or.inl rfl) (Rd.w rfl nd) rfl) (by exact rfl) ?_ | refine sqW ?_ | refine rgK (fun K' hK => ?_) | (refine aoN (hK _ _ ?_); clear hK K') | refine aoE (bxW rfl rfl rfl rfl rfl tI rfl rfl ?_) | refine cdN rfl tI (fun hc => ?_) (fun hc => ?_) | refine skW ?_ | refine rtW ?_)
 all_goals (refine ⟨.inr rfl, ?_⟩)
 · rw [show letR e nm = (0, 1) from by unfold letR; rw [if_neg]; revert hc; cases formB e <;> cases nameB nm <;> simp]
   exact fun _ _ h => h
 · rename_i hc0
   rw [show letR e nm = (0, 4) from by unfold letR; rw [if_pos (ok2 hc0)]; cases hl : lk (lettersAL e.letters) nm <;> simp_all]
   exact fun _ _ h => h
 · rename_i hc0
   rw [show letR e nm = ((lk (lettersAL e.letters) nm).getD 0, 0) from by unfold letR; rw [if_pos (ok2 hc0)]; cases hl : lk (lettersAL e.letters) nm <;> simp_all]
   exact fun _ _ h => h
def plP (vb vp : Int) (b : Printed) : Bool := b.bar == vb && (b.pass == 0 || b.pass == vp)
theorem plP_spec (b : Printed) (vb vp : Int) : PCall Tryz.prog 106 [.agg (encP b), .iptr [.int vb, .int vp]] (.b (plP vb vp b)) := by
 refine PCall.body Tryz.func106 rfl rfl Tryz.ntmps106 rfl rfl ?_
 repeat' (first | refine aoQ rfl rfl rfl (fun hg => by exact std0) (by exact rfl) ?_ | refine sqW ?_ | refine rgK (fun K' hK => ?_) | (refine aoN (hK _ _ ?_); clear hK K') | refine aoE (bxW rfl rfl rfl rfl rfl tI rfl rfl ?_) | refine rtW ?_)
 exact ⟨.inr rfl, fun _ _ h => h⟩
def plI (e : Edition) (vb vp : Int) : Int := findI (plP vb vp) e.bars
structure PlR where
 pos : Int
 pass : Int
 ok : Bool
 err : Int
 deriving DecidableEq
def plR (e : Edition) (vb vp : Int) : PlR :=
 if formB e && inB vb 1 1000000 && inB vp 1 20000 then
  (if plI e vb vp < 0 then ⟨0, 0, false, 0⟩ else ⟨plI e vb vp, if (e.bars.getD (plI e vb vp).toNat default).pass == 0 && decide (vp > 1) then vp else 0, true, 0⟩)
 else ⟨0, 0, false, 1⟩
def encPl (r : PlR) : AV := .tup [.int r.pos, .int r.pass, .b r.ok, .int r.err]
theorem place_spec (e : Edition) (hw : Wf e) (vb vp : Int) : PCall Tryz.prog 53 [.agg (encE e), .agg [.int vb, .int vp]] (encPl (plR e vb vp)) := by
 refine PCall.body Tryz.func53 rfl rfl Tryz.ntmps53 rfl rfl ?_
 have hf : ∀ x, FnCall Tryz.prog (.fn (.func 106) [] [.iptr [.int vb, .int vp]]) [.agg (encP x)] (.b (plP vb vp x)) := fun x => ⟨106, [], [.iptr [.int vb, .int vp]], rfl, plP_spec x vb vp⟩
 have hb := hw.bars
 have hub := findI_ub (plP vb vp) e.bars
 repeat' (first | refine aoQ rfl rfl rfl (fun hg => by first | exact std0 | exact pcW (within_spec _ _ _) rfl rfl nd rfl nds | exact pcW (formed_form e hw) rfl rfl nd rfl nds | exact pbW (idxP_spec e.bars (.fn (.func 106) [] [.iptr [.int vb, .int vp]]) (plP vb vp) (fun x _ => hf x) hw.bars) rfl rfl nd rfl rfl nds | exact std1) (by exact rfl) ?_ | refine sqW ?_ | refine rgK (fun K' hK => ?_) | (refine aoN (hK _ _ ?_); clear hK K') | refine aoE (bxW rfl rfl rfl rfl rfl tI rfl rfl ?_) | refine cdN rfl tI (fun hc => ?_) (fun hc => ?_) | refine skW ?_ | refine rtW ?_)
 all_goals (refine ⟨.inr rfl, ?_⟩)
 all_goals (clear hf)
 · rw [show plR e vb vp = ⟨0, 0, false, 1⟩ from by unfold plR; rw [if_neg]; revert hc; cases formB e <;> cases inB vb 1 1000000 <;> cases inB vp 1 20000 <;> simp]
   exact fun _ _ h => h
 · rename_i hc0
   rw [show plR e vb vp = ⟨0, 0, false, 0⟩ from by unfold plR plI; rw [if_pos (ok3 hc0), if_pos hc]]
   exact fun _ _ h => h
 · rename_i hc0 hc1
   rw [show plR e vb vp = ⟨findI (plP vb vp) e.bars, vp, true, 0⟩ from by unfold plR plI; rw [if_pos (ok3 hc0), if_neg (by omega), if_pos hc]]
   exact fun _ _ h => h
 · rename_i hc0 hc1
   rw [show plR e vb vp = ⟨findI (plP vb vp) e.bars, 0, true, 0⟩ from by unfold plR plI; rw [if_pos (ok3 hc0), if_neg (by omega), if_neg (by rw [hc]; exact Bool.false_ne_true)]]
   exact fun _ _ h => h
structure ViR where
 bar : Int
 pass : Int
 err : Int
 deriving DecidableEq
def viR (e : Edition) (i pass : Int) : ViR :=
 if formB e && inB i 0 ((e.bars.length : Int) - 1) && inB pass 0 20000 then
  (if (e.bars.getD i.toNat default).pass = 0 then ⟨(e.bars.getD i.toNat default).bar, max 1 pass, 0⟩
   else if pass > 1 then ⟨0, 0, 30⟩ else ⟨(e.bars.getD i.toNat default).bar, (e.bars.getD i.toNat default).pass, 0⟩)
 else ⟨0, 0, 1⟩
def encVi (r : ViR) : AV := .tup [.agg [.int r.bar, .int r.pass], .int r.err]
theorem visit_spec (e : Edition) (hw : Wf e) (i pass : Int) : PCall Tryz.prog 22 [.agg (encE e), .int i, .int pass] (encVi (viR e i pass)) := by
 refine PCall.bodyS tabOk Tryz.func22 rfl rfl Tryz.ntmps22 rfl ?_
 have hb := hw.bars
 repeat' (first | refine aoQ rfl rfl rfl (fun hg => by first | exact std0 | exact pcW (within_spec _ _ _) rfl rfl nd rfl nds | exact pcW (formed_form e hw) rfl rfl nd rfl nds | exact pbD tabOk rfl rfl nds | exact std1) (by exact rfl) ?_ | refine sqW ?_ | refine rgK (fun K' hK => ?_) | (refine aoN (hK _ _ ?_); clear hK K') | refine aoE (bxW rfl rfl rfl rfl rfl tI rfl rfl ?_) | refine aoE (stW tabOk rfl rfl rfl tI rfl rfl tI rfl rfl rfl rfl rfl rfl rfl ?_) | refine aoE (alW tabOk rfl rfl rfl rfl rfl rfl ?_) | refine cdN rfl tI (fun hc => ?_) (fun hc => ?_) | refine skW ?_ | refine rtW ?_)
 · refine ⟨.inr rfl, _, rfl, ?_⟩
   rw [show viR e i pass = ⟨0, 0, 1⟩ from by unfold viR; rw [if_neg]; revert hc; cases formB e <;> cases inB i 0 ((e.bars.length : Int) - 1) <;> cases inB pass 0 20000 <;> simp]
   exact fun _ _ h => h
 have hok := ok3 hc
 have hi : 0 ≤ i ∧ i < e.bars.length := by
  simp only [zA0] at hok
  have := hok.1.2
  simp [inB] at this; omega
 clear hc
 repeat' (first | refine aoQ rfl rfl rfl (fun hg => by first | exact std0 | exact pbD tabOk rfl rfl nds | exact std1) (by exact rfl) ?_ | refine sqW ?_ | refine rgK (fun K' hK => ?_) | (refine aoN (hK _ _ ?_); clear hK K') | refine aoE (stW tabOk rfl rfl rfl tI rfl rfl tI rfl rfl rfl rfl rfl rfl rfl ?_) | refine aoE (alW tabOk rfl rfl rfl rfl rfl rfl ?_) | refine cdN rfl tI (fun hc => ?_) (fun hc => ?_) | refine blK ?_ | refine skW ?_ | refine rtW ?_)
 all_goals (refine ⟨.inr rfl, _, rfl, ?_⟩)
 · rw [show viR e i pass = ⟨(e.bars.getD i.toNat default).bar, max 1 pass, 0⟩ from by unfold viR; rw [if_pos hok, if_pos (by simpa using hc)]]
   exact fun _ _ h => h
 · rename_i hc0
   rw [show viR e i pass = ⟨0, 0, 30⟩ from by unfold viR; rw [if_pos hok, if_neg (by simpa using hc0), if_pos hc]]
   exact fun _ _ h => h
 · rename_i hc0
   rw [show viR e i pass = ⟨(e.bars.getD i.toNat default).bar, (e.bars.getD i.toNat default).pass, 0⟩ from by unfold viR; rw [if_pos hok, if_neg (by simpa using hc0), if_neg (by omega)]]
   exact fun _ _ h => h
end Go.Proofs.YtdglbdfdkabjfaaGreatDoor.Ed
