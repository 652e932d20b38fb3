/- Contracts by content: score.index at bars, parts and notes.  Contracts by content: score.areParts.  Contracts by content: score.wrong.  Contracts by content: score.Valid.  Notes in order, in plain words: the sort and the insertion give the same.  Contracts by content: the reference's order and sort of notes.  Contracts by content: the iterator over the bars of a form as they come. No statement is proved here. -/
import Derived.Test.YtdglbdfdkabjfaaGreatDoorP9
import Derived.Test.YtdglbdfdkabjfaaGreatDoorP11
import Derived.Test.YtdglbdfdkabjfaaGreatDoorP12
import Derived.Test.YtdglbdfdkabjfaaGreatDoorP15
import Derived.Test.YtdglbdfdkabjfaaGreatDoorP16
set_option linter.unusedVariables false
set_option linter.unusedSimpArgs false
namespace Go.Proofs.YtdglbdfdkabjfaaGreatDoor
open Go.Ab
attribute [local irreducible] AWP AOps EStep AQ PStep PRun PCall TCall VCall
def idxR (i : Int) : Int × Bool := (max i 0, decide (i ≥ 0))
theorem indexBar1_spec (x : Bar) (id : Int) : PCall Tryz.prog 195 [.agg (encB x), .iptr [(.fn (.func 154) [] [])], .iptr [.int id]] (.b (x.id == id)) := by
 refine PCall.body Tryz.func195 rfl rfl Tryz.ntmps195 rfl rfl ?_
 repeat' (first | refine aoQ rfl rfl rfl (fun hg => by first | exact std0 | exact pcW (barID_spec x) rfl rfl nd rfl nds | exact std1) (by exact rfl) ?_ | refine sqW ?_ | refine rgK (fun K' hK => ?_) | (refine aoN (hK _ _ ?_); clear hK K') | refine aoE (bxW rfl rfl rfl rfl rfl tI rfl rfl ?_) | refine aoE (stW tabOk rfl rfl rfl tI rfl rfl tI rfl rfl rfl rfl rfl rfl rfl ?_) | refine aoE (alW tabOk rfl rfl rfl rfl rfl rfl ?_) | refine cdN rfl tI (fun hc => ?_) (fun hc => ?_) | refine blK ?_ | refine exW ?_ | refine skW ?_ | refine rtW ?_ | refine dK2 (by decide +kernel) (by kernel_rfl) (by decide +kernel) rfl (fun K' hK => ?_) | refine dL2 (by kernel_rfl) (by decide +kernel) rfl (fun K' hK => ?_) | (refine aqN (hK _ ?_); clear hK K') | refine aqN ?_ | refine aqQ rfl rfl (fun hg => by first | exact std0 | exact pcW (barID_spec x) rfl rfl nd rfl nds | exact std1) (by exact rfl) ?_)
 exact ⟨.inr rfl, Ent.b rfl⟩
theorem indexBar_spec (l : List Bar) (id : Int) (hl : l.length ≤ 9223372036854775807) : PCall Tryz.prog 153 [.sl 4 (l.map encB) .no, .int id, (.fn (.func 154) [] [])]
 (.tup [.int (idxR (findI (fun x : Bar => x.id == id) l)).1, .b (idxR (findI (fun x : Bar => x.id == id) l)).2]) := by
 have hf : ∀ x : Bar, FnCall Tryz.prog (.fn (.func 195) [] [.iptr [(.fn (.func 154) [] [])], .iptr [.int id]]) [.agg (encB x)] (.b (x.id == id)) := fun x => ⟨_, [], _, rfl, indexBar1_spec x id⟩
 have h := idxBar_spec l _ (fun x : Bar => x.id == id) (fun x _ => hf x) hl
 refine PCall.body Tryz.func153 rfl rfl Tryz.ntmps153 rfl rfl ?_
 repeat' (first | refine aoQ rfl rfl rfl (fun hg => by first | exact std0 | exact pbW (h) rfl rfl nd rfl rfl nds | exact PRun.maxW rfl rfl nd rfl nd | exact std1) (by exact rfl) ?_ | refine sqW ?_ | refine rgK (fun K' hK => ?_) | (refine aoN (hK _ _ ?_); clear hK K') | refine aoE (bxW rfl rfl rfl rfl rfl tI rfl rfl ?_) | refine aoE (stW tabOk rfl rfl rfl tI rfl rfl tI rfl rfl rfl rfl rfl rfl rfl ?_) | refine aoE (alW tabOk rfl rfl rfl rfl rfl rfl ?_) | refine cdN rfl tI (fun hc => ?_) (fun hc => ?_) | refine blK ?_ | refine exW ?_ | refine skW ?_ | refine rtW ?_ | refine dK2 (by decide +kernel) (by kernel_rfl) (by decide +kernel) rfl (fun K' hK => ?_) | refine dL2 (by kernel_rfl) (by decide +kernel) rfl (fun K' hK => ?_) | (refine aqN (hK _ ?_); clear hK K') | refine aqN ?_ | refine aqQ rfl rfl (fun hg => by first | exact std0 | exact pbW (h) rfl rfl nd rfl rfl nds | exact PRun.maxW rfl rfl nd rfl nd | exact std1) (by exact rfl) ?_)
 exact ⟨.inr rfl, Ent.t2 rfl rfl⟩
abbrev evP (p : Part) : AV := .agg (encP p)
def lost (al : List (Int × Part)) (p : Part) : Bool := p.of_ != 0 && (!(lk al p.of_).isSome || ((lk al p.of_).getD default).of_ != 0)
theorem lost_spec (al : List (Int × Part)) (x : Part) : PCall Tryz.prog 185 [.agg (encP x), .iptr [.imap (encM ekI evP al)]] (.b (lost al x)) := by
 refine PCall.body Tryz.func185 rfl rfl Tryz.ntmps185 rfl rfl ?_
 repeat' (first | refine aoQ rfl rfl rfl (fun hg => by first | exact std0 | exact PRun.lookup (ek := ekI) (ev := evP) (zv := (default : Part)) (keyLaw_int (LOk.of (tabOk.get rfl))) (LOk.of (tabOk.get rfl)) (LOk.of (tabOk.get rfl)) rfl rfl (Rd.w rfl nd) (Or.inl rfl) (Rd.w rfl nd) rfl | exact std1) (by exact rfl) ?_ | refine sqW ?_ | refine rgK (fun K' hK => ?_) | (refine aoN (hK _ _ ?_); clear hK K') | refine aoE (bxW rfl rfl rfl rfl rfl tI rfl rfl ?_) | refine aoE (stW tabOk rfl rfl rfl tI rfl rfl tI rfl rfl rfl rfl rfl rfl rfl ?_) | refine aoE (alW tabOk rfl rfl rfl rfl rfl rfl ?_) | refine rtW ?_)
 exact ⟨.inr rfl, Ent.b rfl⟩
def partsAL (l : List Part) : List (Int × Part) := l.foldl (fun al p => ins al p.id p) []
theorem partsAL_succ (l : List Part) (k : Nat) (h : k < l.length) : partsAL (l.take (k + 1)) = ins (partsAL (l.take k)) (l.getD k default).id (l.getD k default) := by
 have e : l.take (k + 1) = l.take k ++ [l.getD k default] := by
  rw [zBi, show l[k]? = some (l.getD k default) by simp [List.getD, h]]; rfl
 rw [e]; unfold partsAL; rw [zD6]; rfl
def partsOk (l : List Part) : Bool := inB l.length 1 60 && l.all partOk && (((partsAL l).length : Int) == (l.length : Int) && !decide (findI (lost (partsAL l)) l ≥ 0))
theorem areParts_spec (l : List Part) (hl : l.length ≤ 9223372036854775807) : PCall Tryz.prog 145 [.sl 13 (l.map encP) .no] (.b (partsOk l)) := by
 have hf : ∀ x : Part, FnCall Tryz.prog (.fn (.func 185) [] [.iptr [.imap (encM ekI evP (partsAL l))]]) [.agg (encP x)] (.b (lost (partsAL l) x)) := fun x => ⟨_, [], _, rfl, lost_spec (partsAL l) x⟩
 have h := contPart_spec l _ (lost (partsAL l)) (fun x _ => hf x) hl
 refine PCall.body Tryz.func145 rfl rfl Tryz.ntmps145 rfl rfl ?_
 repeat' (first | refine aoQ rfl rfl rfl (fun hg => by first | exact std0 | exact pcW (swithin_spec _ _ _) rfl rfl nd rfl nds | exact std1) (by exact rfl) ?_ | refine sqW ?_ | refine rgK (fun K' hK => ?_) | (refine aoN (hK _ _ ?_); clear hK K') | refine aoE (stW tabOk rfl rfl rfl tI rfl rfl tI rfl rfl rfl rfl rfl rfl rfl ?_) | refine aoE (alW tabOk rfl rfl rfl rfl rfl rfl ?_) | refine aoE (EStep.makeMapW rfl rfl rfl rfl ?_) | refine cdN rfl tI (fun hc => ?_) (fun hc => ?_) | refine blK ?_ | refine skW ?_ | refine rtW ?_)
 · refine ⟨.inr rfl, Ent.b (Eq.symm ?_)⟩
   unfold partsOk
   rw [show inB (l.length : Int) 1 60 = false by simpa using hc]; rfl
 have h0 : inB (l.length : Int) 1 60 = true := by simpa using hc
 clear hc
 refine lpD (ι := Nat) (fun k => [(0, .sl 13 (l.map encP) .no), (3, .ptr 1 0), (12, .sl 13 (l.map encP) .no), (13, .int l.length), (14, .int k)]) (fun k => [.map (encM ekI evP (partsAL (l.take k))), .var [.map 0]])
  (fun k => k ≤ l.length ∧ ∀ j, j < k → partOk (l.getD j default) = true) (fun k => l.length - k) 2 (fun _ => rfl) 0 ⟨nZl _, fun j h => absurd h (by omega)⟩ ⟨rfl, rfl, rfl, rfl, rfl, tI⟩ rfl (fun _ _ => rfl) (fun k _ => by simp [okObj, encM, okRef, encP]) ?_
 rintro k ⟨hk, hall⟩
 by_cases hlt : k < l.length
 · repeat' (first | refine aoQ rfl rfl rfl (fun hg => by first | exact std0 | exact pcW (isPart_spec (l.getD k default)) rfl rfl nd rfl nds | exact std1) (by exact rfl) ?_ | refine sqW ?_ | refine rgK (fun K' hK => ?_) | (refine aoN (hK _ _ ?_); clear hK K') | refine aoE (stW tabOk rfl rfl rfl tI rfl rfl tI rfl rfl rfl rfl rfl rfl rfl ?_) | refine aoE (alW tabOk rfl rfl rfl rfl rfl rfl ?_) | refine aoE (EStep.mapUpd (ek := ekI) (ev := evP) (v := l.getD k default) (keyLaw_int (LOk.of (tabOk.get rfl))) (LOk.of (tabOk.get rfl)) rfl rfl rfl (Rd.w rfl tI) rfl (Rd.w rfl tI) rfl (Rd.w rfl tI) ?_) | refine cdN rfl tI (fun hc => ?_) (fun hc => ?_) | refine blK ?_ | refine exW ?_ | refine skW ?_ | refine rtW ?_)
   · refine ⟨.inr rfl, Ent.b (Eq.symm ?_)⟩
     unfold partsOk
     rw [h0, all_no hlt (by simpa using hc)]; rfl
   · refine ⟨k + 1, ⟨by omega, fun j hj => lt_succ_cases hall (by simpa using hc) hj⟩, by omega, ⟨rfl, rfl, rfl, rfl, rfl, tI⟩, ?_⟩
     rw [partsAL_succ l k hlt]; rfl
   · exfalso; omega
 · have htk : l.take k = l := zAi (by omega)
   have e : partsAL l = partsAL (l.take k) := by rw [htk]
   rw [e] at h
   refine AWP.freezeMapV (ek := ekI) (ev := evP) (l := 0) (al := partsAL (l.take k)) rfl (pureE_flat fun _ => rfl) ?_
   refine AWP.keep [(0, .sl 13 (l.map encP) .no), (3, .ptr 1 0), (12, .sl 13 (l.map encP) .no), (13, .int l.length), (14, .int k)] ⟨rfl, rfl, rfl, rfl, rfl, tI⟩ ?_
   repeat' (first | refine aoQ rfl rfl rfl (fun hg => by first | exact std0 | exact pbW (h) rfl rfl nd rfl rfl nds | exact PRun.lenMap (ek := ekI) (ev := evP) (al := partsAL (l.take k)) rfl (Rd.w rfl nd) (Or.inl rfl) (LOk.of (tabOk.get rfl)) | exact std1) (by exact rfl) ?_ | refine sqW ?_ | refine rgK (fun K' hK => ?_) | (refine aoN (hK _ _ ?_); clear hK K') | refine aoE (stW tabOk rfl rfl rfl tI rfl rfl tI rfl rfl rfl rfl rfl rfl rfl ?_) | refine aoE (alW tabOk rfl rfl rfl rfl rfl rfl ?_) | refine cdN rfl tI (fun hc => ?_) (fun hc => ?_) | refine blK ?_ | refine exW ?_ | refine skW ?_ | refine rtW ?_)
   · exfalso; omega
   all_goals (first | (exfalso; omega) | skip)
   refine ⟨.inr rfl, Ent.b (Eq.symm ?_)⟩
   unfold partsOk
   rw [h0, all_yes fun j hj => hall j (by omega), e]; rfl
def stranger (al : List (Int × Part)) (n : Note) : Bool := !(lk al n.part).isSome
def farN (al : List (Int × Part)) (n : Note) : Bool := !inB (numR2 n.pitch).1 (numR2 ((lk al n.part).getD default).low).1 (numR2 ((lk al n.part).getD default).high).1
theorem stranger_spec (al : List (Int × Part)) (x : Note) : PCall Tryz.prog 189 [.agg (encN x), .iptr [.imap (encM ekI evP al)]] (.b (stranger al x)) := by
 refine PCall.body Tryz.func189 rfl rfl Tryz.ntmps189 rfl rfl ?_
 repeat' (first | refine aoQ rfl rfl rfl (fun hg => by first | exact std0 | exact PRun.lookup (ek := ekI) (ev := evP) (zv := (default : Part)) (keyLaw_int (LOk.of (tabOk.get rfl))) (LOk.of (tabOk.get rfl)) (LOk.of (tabOk.get rfl)) rfl rfl (Rd.w rfl nd) (Or.inl rfl) (Rd.w rfl nd) rfl | exact std1) (by exact rfl) ?_ | refine sqW ?_ | refine rgK (fun K' hK => ?_) | (refine aoN (hK _ _ ?_); clear hK K') | refine aoE (bxW rfl rfl rfl rfl rfl tI rfl rfl ?_) | refine aoE (stW tabOk rfl rfl rfl tI rfl rfl tI rfl rfl rfl rfl rfl rfl rfl ?_) | refine aoE (alW tabOk rfl rfl rfl rfl rfl rfl ?_) | refine rtW ?_)
 exact ⟨.inr rfl, Ent.b rfl⟩
theorem farN_spec (al : List (Int × Part)) (x : Note) : PCall Tryz.prog 190 [.agg (encN x), .iptr [.imap (encM ekI evP al)]] (.b (farN al x)) := by
 refine PCall.body Tryz.func190 rfl rfl Tryz.ntmps190 rfl rfl ?_
 repeat' (first | refine aoQ rfl rfl rfl (fun hg => by first | exact std0 | exact PRun.lookup (ek := ekI) (ev := evP) (zv := (default : Part)) (keyLaw_int (LOk.of (tabOk.get rfl))) (LOk.of (tabOk.get rfl)) (LOk.of (tabOk.get rfl)) rfl rfl (Rd.w rfl nd) (Or.inl rfl) (Rd.w rfl nd) rfl | exact std1) (by exact rfl) ?_ | refine sqW ?_ | refine rgK (fun K' hK => ?_) | (refine aoN (hK _ _ ?_); clear hK K') | refine aoE (bxW rfl rfl rfl rfl rfl tI rfl rfl ?_) | refine aoE (stW tabOk rfl rfl rfl tI rfl rfl tI rfl rfl rfl rfl rfl rfl rfl ?_) | refine aoE (alW tabOk rfl rfl rfl rfl rfl rfl ?_) | refine rtW ?_ | refine dK2 (by decide +kernel) (by kernel_rfl) (by decide +kernel) rfl (fun K' hK => ?_) | (refine aqN (hK _ ?_); clear hK K') | refine aqQ rfl rfl (fun hg => by first | exact std0 | exact pcW (height_spec x.pitch) rfl rfl nd rfl nds | exact pcW (height_spec ((lk al x.part).getD default).low) rfl rfl nd rfl nds | exact pcW (height_spec ((lk al x.part).getD default).high) rfl rfl nd rfl nds | exact pcW (swithin_spec _ _ _) rfl rfl nd rfl nds | exact std1) (by exact rfl) ?_)
 exact ⟨.inr rfl, Ent.b rfl⟩
def ownAL (l : List Part) : List (Int × Part) := partsAL (l.filter fun p => p.of_ == 0)
theorem ownAL_succ (l : List Part) (k : Nat) (h : k < l.length) : ownAL (l.take (k + 1)) = if (l.getD k default).of_ == 0 then ins (ownAL (l.take k)) (l.getD k default).id (l.getD k default) else ownAL (l.take k) := by
 have e : l.take (k + 1) = l.take k ++ [l.getD k default] := by
  rw [zBi, show l[k]? = some (l.getD k default) by simp [List.getD, h]]; rfl
 unfold ownAL
 rw [e, List.filter_append]
 by_cases h2 : ((l.getD k default).of_ == 0) = true
 · rw [if_pos h2, zCa (p := fun p : Part => p.of_ == 0) h2]
   unfold partsAL; rw [List.filter_nil, zD6]; rfl
 · rw [if_neg h2, zCb (p := fun p : Part => p.of_ == 0) h2, List.filter_nil, zCy]
def wrongR (parts : List Part) (l : List Note) : Int := if findI (stranger (ownAL parts)) l ≥ 0 then 22 else if findI (farN (ownAL parts)) l ≥ 0 then 20 else 0
theorem wrong_spec (parts : List Part) (l : List Note) (hp : parts.length ≤ 9223372036854775807) (hl : l.length ≤ 9223372036854775807) : PCall Tryz.prog 147 [.sl 13 (parts.map encP) .no, .sl 12 (l.map encN) .no] (.int (wrongR parts l)) := by
 have hf1 : ∀ x : Note, FnCall Tryz.prog (.fn (.func 189) [] [.iptr [.imap (encM ekI evP (ownAL parts))]]) [.agg (encN x)] (.b (stranger (ownAL parts) x)) := fun x => ⟨_, [], _, rfl, stranger_spec (ownAL parts) x⟩
 have hf2 : ∀ x : Note, FnCall Tryz.prog (.fn (.func 190) [] [.iptr [.imap (encM ekI evP (ownAL parts))]]) [.agg (encN x)] (.b (farN (ownAL parts) x)) := fun x => ⟨_, [], _, rfl, farN_spec (ownAL parts) x⟩
 have h1 := contNote_spec l _ (stranger (ownAL parts)) (fun x _ => hf1 x) hl
 have h2 := contNote_spec l _ (farN (ownAL parts)) (fun x _ => hf2 x) hl
 refine PCall.body Tryz.func147 rfl rfl Tryz.ntmps147 rfl rfl ?_
 repeat' (first | refine aoQ rfl rfl rfl (fun hg => by first | exact std0 | exact std1) (by exact rfl) ?_ | refine sqW ?_ | refine rgK (fun K' hK => ?_) | (refine aoN (hK _ _ ?_); clear hK K') | refine aoE (stW tabOk rfl rfl rfl tI rfl rfl tI rfl rfl rfl rfl rfl rfl rfl ?_) | refine aoE (alW tabOk rfl rfl rfl rfl rfl rfl ?_) | refine aoE (EStep.makeMapW rfl rfl rfl rfl ?_) | refine blK ?_)
 refine lpD (ι := Nat) (fun k => [(1, .sl 12 (l.map encN) .no), (5, .ptr 1 0), (11, .sl 13 (parts.map encP) .no), (12, .int parts.length), (13, .int k)]) (fun k => [.map (encM ekI evP (ownAL (parts.take k))), .var [.map 0]])
  (fun k => k ≤ parts.length) (fun k => parts.length - k) 2 (fun _ => rfl) 0 (nZl _) ⟨rfl, rfl, rfl, rfl, rfl, tI⟩ rfl (fun _ _ => rfl) (fun k _ => by simp [okObj, encM, okRef, encP]) ?_
 intro k hk
 by_cases hlt : k < parts.length
 · repeat' (first | refine aoQ rfl rfl rfl (fun hg => by first | exact std0 | exact std1) (by exact rfl) ?_ | refine sqW ?_ | refine rgK (fun K' hK => ?_) | (refine aoN (hK _ _ ?_); clear hK K') | refine aoE (stW tabOk rfl rfl rfl tI rfl rfl tI rfl rfl rfl rfl rfl rfl rfl ?_) | refine aoE (alW tabOk rfl rfl rfl rfl rfl rfl ?_) | refine aoE (EStep.mapUpd (ek := ekI) (ev := evP) (v := parts.getD k default) (keyLaw_int (LOk.of (tabOk.get rfl))) (LOk.of (tabOk.get rfl)) rfl rfl rfl (Rd.w rfl tI) rfl (Rd.w rfl tI) rfl (Rd.w rfl tI) ?_) | refine cdN rfl tI (fun hc => ?_) (fun hc => ?_) | refine blK ?_ | refine exW ?_ | refine skW ?_)
   · refine ⟨k + 1, by omega, by omega, ⟨rfl, rfl, rfl, rfl, rfl, tI⟩, ?_⟩
     rw [ownAL_succ parts k hlt, if_pos (by simpa using hc)]; rfl
   · refine ⟨k + 1, by omega, by omega, ⟨rfl, rfl, rfl, rfl, rfl, tI⟩, ?_⟩
     rw [ownAL_succ parts k hlt, if_neg (by simpa using hc)]; rfl
   · exfalso; omega
 · have htk : parts.take k = parts := zAi (by omega)
   have e : ownAL parts = ownAL (parts.take k) := by rw [htk]
   rw [e] at h1 h2
   refine AWP.freezeMapV (ek := ekI) (ev := evP) (l := 0) (al := ownAL (parts.take k)) rfl (pureE_flat fun _ => rfl) ?_
   refine AWP.keep [(1, .sl 12 (l.map encN) .no), (5, .ptr 1 0), (11, .sl 13 (parts.map encP) .no), (12, .int parts.length), (13, .int k)] ⟨rfl, rfl, rfl, rfl, rfl, tI⟩ ?_
   repeat' (first | refine aoQ rfl rfl rfl (fun hg => by first | exact std0 | exact pbW (h1) rfl rfl nd rfl rfl nds | exact pbW (h2) rfl rfl nd rfl rfl nds | exact std1) (by exact rfl) ?_ | refine sqW ?_ | refine rgK (fun K' hK => ?_) | (refine aoN (hK _ _ ?_); clear hK K') | refine aoE (stW tabOk rfl rfl rfl tI rfl rfl tI rfl rfl rfl rfl rfl rfl rfl ?_) | refine aoE (alW tabOk rfl rfl rfl rfl rfl rfl ?_) | refine cdN rfl tI (fun hc => ?_) (fun hc => ?_) | refine blK ?_ | refine exW ?_ | refine skW ?_ | refine rtW ?_)
   all_goals (first | (exfalso; omega) | skip)
   · refine ⟨.inr rfl, Ent.int (Eq.symm ?_)⟩
     unfold wrongR; rw [e, if_pos (by simpa using hc)]
   · rename_i hc0
     refine ⟨.inr rfl, Ent.int (Eq.symm ?_)⟩
     unfold wrongR; rw [e, if_neg (by simpa using hc0), if_pos (by simpa using hc)]
   · rename_i hc0
     refine ⟨.inr rfl, Ent.int (Eq.symm ?_)⟩
     unfold wrongR; rw [e, if_neg (by simpa using hc0), if_neg (by simpa using hc)]
structure Score where
 version : Int
 bars : List Bar
 parts : List Part
 notes : List Note
 deriving DecidableEq, Inhabited
def encS (s : Score) : List AV := [.int s.version, .sl 4 (s.bars.map encB) .no, .sl 13 (s.parts.map encP) .no, .sl 12 (s.notes.map encN) .no]
def Score.Small (s : Score) : Prop := s.bars.length ≤ 1000000000 ∧ s.parts.length ≤ 1000000000 ∧ s.notes.length ≤ 1000000000
def scoreBad (s : Score) : Bool := !inB s.version 1 1000000 || !barsOk s.bars || !partsOk s.parts || !notesOk s.bars s.notes || wrongR s.parts s.notes != 0
def scoreOk (s : Score) : Bool := !scoreBad s && ((sortR s.bars s.notes).2 == 0 && (sortR s.bars s.notes).1 == s.notes)
theorem sortR_len (bars : List Bar) (l : List Note) : (sortR bars l).1.length ≤ l.length := by
 unfold sortR; split
 · simp [sortN_len]
 · simp
theorem svalid_spec (s : Score) (hs : s.Small) : PCall Tryz.prog 89 [.agg (encS s)] (.b (scoreOk s)) := by
 obtain ⟨h1, h2, h3⟩ := hs
 have v1 := mvalid_spec s.bars (by omega)
 have v2 := areParts_spec s.parts (by omega)
 have v3 := nvalid_spec s.bars s.notes (by omega) (by omega)
 have v4 := wrong_spec s.parts s.notes (by omega) (by omega)
 have v5 := Sort_spec s.bars s.notes h1 h3
 have hq := sortR_len s.bars s.notes
 have v6 := equalN_spec (sortR s.bars s.notes).1 s.notes (by omega) (by omega)
 refine PCall.body Tryz.func89 rfl rfl Tryz.ntmps89 rfl rfl ?_
 repeat' (first | refine aoQ rfl rfl rfl (fun hg => by first | exact std0 | exact pcW (sisID_spec _) rfl rfl nd rfl nds | exact pcW (v1) rfl rfl nd rfl nds | exact pcW (v2) rfl rfl nd rfl nds | exact pcW (v3) rfl rfl nd rfl nds | exact pcW (v4) rfl rfl nd rfl nds | exact pcW (v5) rfl rfl nd rfl nds | exact pcW (v6) rfl rfl nd rfl nds | exact std1) (by exact rfl) ?_ | refine sqW ?_ | refine rgK (fun K' hK => ?_) | (refine aoN (hK _ _ ?_); clear hK K') | refine aoE (bxW rfl rfl rfl rfl rfl tI rfl rfl ?_) | refine cdN rfl tI (fun hc => ?_) (fun hc => ?_) | refine skW ?_ | refine rtW ?_)
 · refine ⟨.inr rfl, Ent.b (Eq.symm ?_)⟩
   unfold scoreOk
   rw [show scoreBad s = true from hc]; rfl
 · refine ⟨.inr rfl, Ent.b (Eq.symm ?_)⟩
   unfold scoreOk
   rw [show scoreBad s = false from hc]; rfl
end Go.Proofs.YtdglbdfdkabjfaaGreatDoor
namespace Go.Proofs.YtdglbdfdkabjfaaGreatDoor
open Go.Ab Go.Sort
theorem orL_zero_iff : ∀ {l : List Int}, orL l = 0 ↔ ∀ x ∈ l, x = 0
 | [] => by simp [orL]
 | x :: r => by
   have := orL_zero_iff (l := r)
   by_cases h : x = 0
   · subst h; simp [orL, this]
   · simp [orL, h]
def bef (al : List (Int × Int)) (a b : Note) : Bool := decide (cmpK (keyN al a) (keyN al b) < 0)
theorem bef_iff {al : List (Int × Int)} {a b : Note} : bef al a b = true ↔ cmpK (keyN al a) (keyN al b) < 0 := decide_eq_true_iff
theorem bef_irr (al : List (Int × Int)) (a : Note) : bef al a a = false := by
 have := cmpK_anti (keyN al a) (keyN al a)
 refine decide_eq_false ?_; omega
theorem bef_trans {al : List (Int × Int)} {a b c : Note} (h : bef al a b = true) (h' : bef al b c = true) : bef al a c = true := by
 rw [bef_iff] at *
 exact cmpK_lt (a := keyN al a) (b := keyN al b) (c := keyN al c) rfl rfl h h'
theorem bef_asymm {al : List (Int × Int)} {a b : Note} (h : bef al a b = true) : bef al b a = false := by
 cases h2 : bef al b a with
 | false => rfl
 | true => have := bef_trans h h2; rw [bef_irr] at this; cases this
theorem bef_total {al : List (Int × Int)} {a b : Note} (h : a.id ≠ b.id) (h' : bef al a b = false) : bef al b a = true := by
 rw [bef_iff]
 have h1 : ¬ cmpK (keyN al a) (keyN al b) < 0 := by simpa [bef] using h'
 have h2 := cmpK_anti (keyN al a) (keyN al b)
 rcases (show cmpK (keyN al a) (keyN al b) = 0 ∨ cmpK (keyN al b) (keyN al a) < 0 by omega) with h3 | h3
 · exfalso
   have := orL_zero_iff.1 h3 (a.id - b.id) (by simp [keyN])
   omega
 · exact h3
theorem ord_unique {al : List (Int × Int)} {l m : List Note} (hp : l.Perm m) (hl : l.Pairwise fun a b => bef al a b = true) (hm : m.Pairwise fun a b => bef al a b = true) : l = m := by
 refine List.Perm.eq_of_pairwise (le := fun a b => bef al a b = true) (fun a b _ _ h1 h2 => ?_) hl hm hp
 rw [bef_asymm h1] at h2; cases h2
theorem sortN_ord {al : List (Int × Int)} {l : List Note} (hin : ∀ n ∈ l, noteIn n) (hn : (l.map (·.id)).Nodup) : (sortN al l).Pairwise fun a b => bef al a b = true := by
 have hs := (sortL_spec _ (swoN al fixN) l).2
 have hp := sortN_perm al l
 have hlen := sortN_len al l
 rw [zBr]
 intro i j hi hj hij
 have h1 := hs i j (nZl _) hij (by omega)
 have e : ∀ k (hk : k < (sortN al l).length), (sortL (fun x y => cmpN al (fixN x) (fixN y)) l).toArray[k]! = (sortN al l)[k] := fun k hk => by
  unfold sortN at hk ⊢
  simp [hk]
 rw [e i hi, e j hj] at h1
 have m1 := hin _ (hp.mem_iff.1 (lGm hi))
 have m2 := hin _ (hp.mem_iff.1 (lGm hj))
 have h2 : bef al (sortN al l)[j] (sortN al l)[i] = false := by
  have h3 := (ltN' al fixN _ _).1 h1
  rw [fixN_eq m1, fixN_eq m2] at h3
  exact decide_eq_false h3
 refine bef_total (fun e2 => ?_) h2
 have hnd : ((sortN al l).map (·.id)).Nodup := (hp.map _).nodup_iff.2 hn
 have := (List.getElem_inj (h₀ := by simpa using hj) (h₁ := by simpa using hi) hnd).1 (by simpa using e2)
 omega
theorem sortN_self {al : List (Int × Int)} {l : List Note} (hin : ∀ n ∈ l, noteIn n) (hn : (l.map (·.id)).Nodup) (h : l.Pairwise fun a b => bef al a b = true) : sortN al l = l :=
 ord_unique (sortN_perm al l) (sortN_ord hin hn) h
theorem notesOk_nodup {bars : List Bar} {l : List Note} (h : notesOk bars l = true) : (l.map (·.id)).Nodup := by
 unfold notesOk at h; simp only [zA0, dEt] at h; exact h.2
def stepsOk (al : List (Int × Int)) (l : List Note) : Bool := (List.range l.length).all fun i => i == 0 || bef al (l.getD (i - 1) default) (l.getD i default)
theorem steps_ord {al : List (Int × Int)} {l : List Note} : stepsOk al l = true ↔ l.Pairwise fun a b => bef al a b = true := by
 unfold stepsOk
 rw [zA6, zBr]
 constructor
 · intro h i j hi hj hij
   induction j with
   | zero => omega
   | succ j ih =>
     have h1 := h (j + 1) (zAu.2 hj)
     simp only [Nat.add_sub_cancel, zB6, beq_iff_eq] at h1
     rcases h1 with h1 | h1
     · omega
     · rw [getD_lt (by omega), getD_lt hj] at h1
       rcases nLg i j with h2 | h2
       · exact bef_trans (ih (by omega) h2) h1
       · have : i = j := by omega
         subst this; exact h1
 · intro h i hi
   have hi := zAu.1 hi
   cases i with
   | zero => rfl
   | succ i =>
     simp only [Nat.add_sub_cancel, zB6]
     right
     rw [getD_lt (by omega), getD_lt hi]
     exact h i (i + 1) (by omega) hi (by omega)
theorem sort_steps {bars : List Bar} {l : List Note} (h : notesOk bars l = true) : ((sortR bars l).2 == 0 && (sortR bars l).1 == l) = stepsOk (idxAL bars) l := by
 unfold sortR
 rw [if_pos h]
 simp only [beq_self_eq_true, zBd]
 rw [zAl, steps_ord, beq_iff_eq]
 constructor
 · intro e; rw [← e]; exact sortN_ord (notesOk_in h) (notesOk_nodup h)
 · exact sortN_self (notesOk_in h) (notesOk_nodup h)
end Go.Proofs.YtdglbdfdkabjfaaGreatDoor
namespace Go.Ab
theorem EStep.gd {P : Program} {n : Nat} {ops : Array Oper} {o : Oper} {k : Env → Store → Prop} {env : Env} {σ : Store} {g : GG} (hg : gOf ops env o = some g) (hh : g.holds) (h : EStep P n ops { o with guard := none } k env σ) : EStep P n ops o k env σ := by
 intro G a w hr
 have h' := h G a w hr
 rw [if_pos (by simp [Region.wanted])] at h'
 have hw : Region.wanted o (yielded ops a.tmps) = true := by
  unfold gOf at hg
  split at hg
  · rename_i hgd; simp [Region.wanted, hgd]
  · rename_i j want hgd
    split at hg
    · rename_i d hd
      have hz := hr.vals d
      have key : ∀ t, (t == want) = true → a.tmps.getD d undef = .bool t → Region.wanted o (yielded ops a.tmps) = true := fun t ht h1 => by
       have h2 : a.tmps[d]? = some (.bool t) := by
        cases h : a.tmps[d]? with
        | none => simp [h, undef] at h1
        | some y => simp [h] at h1; rw [h1]
       simp only [Region.wanted, hgd, yielded, hd, Option.bind_some, h2]
       cases t <;> cases want <;> first | rfl | cases ht
      split at hg
      · rename_i t he
        simp at hg; subst hg
        rw [he] at hz
        exact key t hh (VRel.prim_eq hz)
      · rename_i g' t he
        simp at hg; subst hg
        have hh' : g' = true ∧ (t == want) = true := by simpa using hh
        rw [he] at hz
        cases hz with
        | when _ _ _ h0 h1 => exact key t hh'.2 (VRel.prim_eq (h0 hh'.1))
      · simp at hg
    · simp at hg
 rw [if_pos hw]
 exact h'
theorem gOf_yesP {ops : Array Oper} {o : Oper} {env : Env} {j d : Nat} {want t : Bool} (h1 : o.guard = some (j, want)) (h2 : (ops[j]?).bind (·.dst) = some d) (h3 : env d = .prim (.bool t)) : gOf ops env o = some (.yes (t == want)) := by
 simp [gOf, h1, h2, h3]
theorem ex10 {σ : Store} (h : σ.length = 10) : σ = [σ.getD 0 .dead, σ.getD 1 .dead, σ.getD 2 .dead, σ.getD 3 .dead, σ.getD 4 .dead, σ.getD 5 .dead, σ.getD 6 .dead, σ.getD 7 .dead, σ.getD 8 .dead, σ.getD 9 .dead] := by
 match σ, h with
 | [a, b, c, d, e, f, g, h, i, j], _ => rfl
end Go.Ab
namespace Go.Proofs.YtdglbdfdkabjfaaGreatDoor.Pl
open Go.Ab Go.Pl
attribute [local irreducible] AWP AOps EStep AQ PStep PRun PCall TCall VCall
theorem bar1_spec (r : PRep) (bar : Int) : PCall Tryz.prog 206 [.agg (encRp r), .iptr [.int bar]] (.b (r.from_ == bar)) := by
 refine PCall.body Tryz.func206 rfl rfl Tryz.ntmps206 rfl rfl ?_
 repeat' (first | refine aoQ rfl rfl rfl (fun hg => by exact std0) (by exact rfl) ?_ | refine sqW ?_ | refine rgK (fun K' hK => ?_) | (refine aoN (hK _ _ ?_); clear hK K') | refine aoE (bxW rfl rfl rfl rfl rfl tI rfl rfl ?_) | refine rtW ?_)
 exact ⟨.inr rfl, Ent.b rfl⟩
theorem starts_no {l : List PRep} {bar : Int} (h : startsR l bar = none) : findI (fun r : PRep => r.from_ == bar) l = -1 := by
 refine findI_no fun j hj => ?_
 unfold startsR at h
 rw [List.find?_eq_none] at h
 have := h _ (getD_in hj)
 simpa using this
theorem starts_at {l : List PRep} {bar : Int} {r : PRep} (h : startsR l bar = some r) : ∃ k : Nat, k < l.length ∧ l.getD k default = r ∧ findI (fun r : PRep => r.from_ == bar) l = k ∧ r.from_ = bar := by
 unfold startsR at h
 rw [List.find?_eq_some_iff_getElem] at h
 obtain ⟨h1, k, hk, h2, h3⟩ := h
 refine ⟨k, hk, by rw [getD_at' hk]; exact h2, findI_at hk (by rw [getD_at' hk, h2]; exact h1) fun j hj => ?_, by simpa using h1⟩
 have := h3 j hj
 rw [getD_at' (by omega)]
 simpa using this
abbrev s10 (s : Store) : Store := [s.getD 0 .dead, s.getD 1 .dead, s.getD 2 .dead, s.getD 3 .dead, s.getD 4 .dead, s.getD 5 .dead, s.getD 6 .dead, s.getD 7 .dead, s.getD 8 .dead, s.getD 9 .dead]
abbrev s10a (s : Store) (ver : Nat) (bar : Int) : Store := [s.getD 0 .dead, s.getD 1 .dead, s.getD 2 .dead, s.getD 3 .dead, s.getD 4 .dead, s.getD 5 .dead, s.getD 6 .dead, s.getD 7 .dead, s.getD 8 .dead, s.getD 9 .dead, .arr 1 ver [[.int bar]]]
abbrev s10b (s : Store) (ver : Nat) (bar : Int) (r : PRep) : Store := [s.getD 0 .dead, s.getD 1 .dead, s.getD 2 .dead, s.getD 3 .dead, s.getD 4 .dead, s.getD 5 .dead, s.getD 6 .dead, s.getD 7 .dead, s.getD 8 .dead, s.getD 9 .dead, .arr 1 ver [[.int bar]], .var (encRp r)]
abbrev yI (l : List Int) : List (List AV) := l.map fun i => [.int i]
theorem drop_head {l rest : List Int} {j : Nat} {b : Int} (h : l.drop j = b :: rest) : j < l.length ∧ l[j]? = some b ∧ l.drop (j + 1) = rest := by
 have hj : j < l.length := by
  rcases nLg j l.length with h1 | h1
  · exact h1
  · rw [zB9 h1] at h; cases h
 rw [zBf hj] at h
 injection h with h1 h2
 exact ⟨hj, by rw [zA1 hj, h1], h2⟩
structure FOk (f : PForm) : Prop where
 bars : f.bars ≤ 4000
 reps : ∀ r ∈ f.reps, 0 ≤ r.from_ ∧ r.from_ < r.until_ ∧ r.until_ ≤ f.bars ∧ 1 ≤ r.times ∧ r.times ≤ 9
theorem yieldX {yv : AV} {xs : List (List AV)} {S : Nat → Store} {Pj : Nat → Prop} {R : Nat → Store → Prop} {L : Nat} (hS : ∀ j, j ≤ xs.length → (S j).length = L ∧ (S j).all (okObj L) = true) (hR : ∀ j s, R j s → s.length = L ∧ s.all (okObj L) = true)
 (hy : okRef L 3 yv = true) (hyield : ∀ j x, xs[j]? = some x → Pj j → VCall Tryz.prog (.opq yv) x (S j) (fun r s => (r = .b true ∧ s = S (j + 1) ∧ Pj (j + 1)) ∨ (r = .b false ∧ R j s))) {j : Nat} {b : List AV} (hb : xs[j]? = some b) (ho : b.all (okRef L 4) = true) (hP : Pj j) (τ : Store) :
 VCall Tryz.prog (.opq yv) b (S j ++ τ) (fun r t => (r = .b true ∧ t = S (j + 1) ++ τ ∧ Pj (j + 1)) ∨ (r = .b false ∧ ∃ t', t = t' ++ τ ∧ R j t')) := by
 have hj : j < xs.length := (zAb.1 hb).1
 have hv := VCall.frame (hyield j b hb hP) τ
  (by rw [(hS _ (by omega)).1]; exact (hS _ (by omega)).2) (by rw [(hS _ (by omega)).1]; exact hy) (by rw [(hS _ (by omega)).1]; exact ho) (by
   rintro rv s' (⟨_, rfl, _⟩ | ⟨_, hh⟩)
   · rw [(hS _ (by omega)).1, (hS _ (by omega)).1]
   · rw [(hS _ (by omega)).1, (hR _ _ hh).1])
 refine VCall.mono hv ?_
 rintro r t ⟨t', rfl, (⟨rfl, rfl, hp⟩ | ⟨rfl, hh⟩)⟩
 · exact .inl ⟨rfl, rfl, hp⟩
 · exact .inr ⟨rfl, t', rfl, hh⟩
set_option maxHeartbeats 2000000 in
set_option maxRecDepth 20000 in
theorem bars_iter (f : PForm) (hf : FIn f) (hB : FOk f) (a u : Int) (all : Bool) (ha : 0 ≤ a ∧ a ≤ 4000) (hu : u ≤ 4000) (S : Nat → Store) (Pj : Nat → Prop) :
 IterP Tryz.prog 204 [] [.iptr [.int a], .iptr [.int u], .iptr (encF f), .iptr [.b all]] (yI (partL f a u all)) 10 S Pj := by
 intro yv R hP0 hS hR hyd hyield
 have hy := hyd 2
 clear hyd
 have hy2 := @yieldX yv (yI (partL f a u all)) S Pj R 10 hS hR hy hyield
 clear hyield
 have hyo : okRef 11 4 (.opq yv) = true := okRef_mono (zCg 10) 3 yv hy
 rw [lLm] at *
 have hr1 : ∀ r ∈ f.reps, r.from_ < r.until_ := fun r hr => (hB.reps r hr).2.1
 have hb := hB.bars
 generalize hxs : partL f a u all = xs at *
 have ex : ∀ j, j ≤ xs.length → S j = s10 (S j) := fun j hj => ex10 (hS j hj).1
 have hok : ∀ j, j ≤ xs.length → (s10 (S j)).all (okObj 10) = true := fun j hj => by rw [← ex j hj]; exact (hS j hj).2
 have hokA : ∀ j, j ≤ xs.length → ∀ ver bar, (s10a (S j) ver bar).all (okObj 11) = true := fun j hj ver bar => by
  show (s10 (S j) ++ [AObj.arr 1 ver [[AV.int bar]]] : Store).all (okObj 11) = true
  rw [zCp, okObjs_mono (zCg _) (hok j hj)]; rfl
 have hokB : ∀ j, j ≤ xs.length → ∀ ver bar r, (s10b (S j) ver bar r).all (okObj 12) = true := fun j hj ver bar r => by
  show (s10a (S j) ver bar ++ [AObj.var (encRp r)] : Store).all (okObj 12) = true
  rw [zCp, okObjs_mono (zCg _) (hokA j hj ver bar)]; rfl
 have hv1 : ∀ j b, xs[j]? = some b → Pj j → ∀ ver bar, VCall Tryz.prog (.opq yv) [.int b] (s10a (S j) ver bar) (fun r t => (r = .b true ∧ t = s10a (S (j + 1)) ver bar ∧ Pj (j + 1)) ∨ (r = .b false ∧ ∃ t', t = t' ++ [.arr 1 ver [[.int bar]]] ∧ R j t')) := fun j b hjb hp ver bar => by
  have h := hy2 (show (yI xs)[j]? = some [.int b] by rw [zA9, hjb]; rfl) rfl hp [.arr 1 ver [[.int bar]]]
  have hj := (zAb.1 hjb).1
  rw [ex j (by omega), ex (j + 1) hj] at h
  exact h
 have hv2 : ∀ j b, xs[j]? = some b → Pj j → ∀ ver bar r0, VCall Tryz.prog (.opq yv) [.int b] (s10b (S j) ver bar r0) (fun r t => (r = .b true ∧ t = s10b (S (j + 1)) ver bar r0 ∧ Pj (j + 1)) ∨ (r = .b false ∧ ∃ t', t = t' ++ [.arr 1 ver [[.int bar]], .var (encRp r0)] ∧ R j t')) := fun j b hjb hp ver bar r0 => by
  have h := hy2 (show (yI xs)[j]? = some [.int b] by rw [zA9, hjb]; rfl) rfl hp [.arr 1 ver [[.int bar]], .var (encRp r0)]
  have hj := (zAb.1 hjb).1
  rw [ex j (by omega), ex (j + 1) hj] at h
  exact h
 have hend := ex xs.length (nLr _)
 have hS0 := ex 0 (nZl _)
 clear hy2 ex hok
 show TCall _ _ [.opq yv, .iptr [.int a], .iptr [.int u], .iptr (encF f), .iptr [.b all]] (S 0) _
 rw [hS0]
 clear hS0
 refine TCall.body Tryz.func204 rfl rfl Tryz.ntmps204 rfl rfl ?_
 refine AWP.newArr 1 ?_
 repeat' (first | refine aoE (EStep.allocArrV (l := 10) (sz := 1) tabOk rfl rfl rfl rfl rfl rfl rfl rfl ?_) | refine aoQ rfl rfl rfl (fun hg => by exact std0) (by exact rfl) ?_ | refine sqW ?_ | refine rgK (fun K' hK => ?_) | (refine aoN (hK _ _ ?_); clear hK K') | refine aoE (EStep.storeE (l := 10) tabOk rfl rfl rfl tI rfl (zBp _) rfl tI rfl rfl rfl rfl rfl rfl ?_) | refine blK ?_)
 refine lpD (ι := Nat × Nat × Int) (fun q => [(0, .opq yv), (2, .iptr [.int u]), (3, .iptr (encF f)), (4, .iptr [.b all]), (6, .eptr 10 1 0 0 q.1)]) (fun q => s10a (S q.2.1) q.1 q.2.2)
  (fun q => q.2.1 ≤ xs.length ∧ Pj q.2.1 ∧ (0 ≤ q.2.2 ∧ q.2.2 ≤ 4000) ∧ xs.drop q.2.1 = partL f q.2.2 u all) (fun q => (u - q.2.2).toNat) 11 (fun _ => rfl) (1, 0, a) ⟨nZl _, hP0, ha, by rw [hxs]; rfl⟩ ⟨rfl, rfl, rfl, rfl, rfl, tI⟩ rfl (fun q _ => by
   simp only [zCe, List.all_nil, zC9, zA0]
   exact ⟨hyo, rfl, rfl, rfl, rfl⟩) (fun q hq => hokA _ hq.1 _ _) ?_
 rintro ⟨ver, j, bar⟩ ⟨hj, hPj, hbar, hdr⟩
 dsimp only at hj hPj hbar hdr ⊢
 by_cases hlt : bar < u
 · have hix := idxR_spec f.reps (.fn (.func 206) [] [.iptr [.int bar]]) (fun r => r.from_ == bar) (fun x _ => ⟨_, [], _, rfl, bar1_spec x bar⟩) hf.reps
   cases hs : startsR f.reps bar with
   | none =>
     rw [starts_no hs] at hix
     rw [part_bar hr1 hlt all hs] at hdr
     obtain ⟨hj1, hjb, hdr2⟩ := drop_head hdr
     have hv := hv1 j bar hjb hPj ver bar
     clear hv1 hv2 hokA hokB
     repeat' (first | refine aoQ rfl rfl rfl (fun hg => by first | exact PRun.callL hix rfl rfl nd ⟨Lend.of 1 rfl, Lend.fn1 (Lend.eptr rfl (zBp _) rfl), tI⟩ rfl nds | exact std0 | exact PRun.loadE tabOk rfl rfl nd rfl (zBp _) rfl rfl rfl | exact std1) (by exact rfl) ?_ | refine sqW ?_ | refine rgK (fun K' hK => ?_) | (refine aoN (hK _ _ ?_); clear hK K') | refine aoE (stW tabOk rfl rfl rfl tI rfl rfl tI rfl rfl rfl rfl rfl rfl rfl ?_) | refine aoE (alW tabOk rfl rfl rfl rfl rfl rfl ?_) | refine aoE (scT (hv) rfl rfl rfl rfl rfl nd rfl rfl nds ?_) | refine cdN rfl tI (fun hc => ?_) (fun hc => ?_) | refine blK ?_ | refine exW ?_ | refine skW ?_)
     all_goals first | (exfalso; omega) | skip
     rintro r t (⟨rfl, rfl, hp⟩ | ⟨rfl, t', rfl, hh⟩)
     · repeat' (first | refine aoE (EStep.allocArrV (l := 10) (sz := 1) tabOk rfl rfl rfl rfl rfl rfl rfl rfl ?_) | refine aoQ rfl rfl rfl (fun hg => by first | exact std0 | exact PRun.loadE tabOk rfl rfl nd rfl (zBp _) rfl rfl rfl) (by exact rfl) ?_ | refine sqW ?_ | refine rgK (fun K' hK => ?_) | (refine aoN (hK _ _ ?_); clear hK K') | refine aoE (EStep.storeE (l := 10) tabOk rfl rfl rfl tI rfl (zBp _) rfl tI rfl rfl rfl rfl rfl rfl ?_) | refine cdN rfl tI (fun hc => ?_) (fun hc => ?_) | refine exW ?_ | refine skW ?_ | refine rtW ?_)
       · exfalso; simp at hc
       · exact ⟨(ver + 1, j + 1, bar + 1), ⟨hj1, hp, ⟨show 0 ≤ bar + 1 by omega, show bar + 1 ≤ 4000 by omega⟩, hdr2⟩, by show (u - (bar + 1)).toNat < (u - bar).toNat; omega, ⟨rfl, rfl, rfl, rfl, rfl, tI⟩, rfl⟩
     · repeat' (first | refine aoQ rfl rfl rfl (fun hg => by exact std0) (by exact rfl) ?_ | refine sqW ?_ | refine rgK (fun K' hK => ?_) | (refine aoN (hK _ _ ?_); clear hK K') | refine cdN rfl tI (fun hc => ?_) (fun hc => ?_) | refine exW ?_ | refine skW ?_ | refine rtW ?_)
       · obtain ⟨k1, k2⟩ := hR _ _ hh
         exact ⟨.inr rfl, .tup [], t', .inr ⟨_, hj1, hh⟩, by simp, by rw [k1]; exact nLr _, by rw [k1]; exact k2, rfl, rfl⟩
       · exfalso; simp at hc
   | some r =>
     obtain ⟨k, hk, hkr, hfi, hfr⟩ := starts_at hs
     rw [hfi] at hix
     rw [part_rep hr1 hlt all hs] at hdr
     have hrb := hB.reps r (zB1 hs)
     have hkl := hf.reps
     clear hv1
     repeat' (first | refine aoQ rfl rfl rfl (fun hg => by first | exact iX encRp f.reps ((k : Nat) : Int) hkr (hb := by omega) | exact PRun.callL hix rfl rfl nd ⟨Lend.of 1 rfl, Lend.fn1 (Lend.eptr rfl (zBp _) rfl), tI⟩ rfl nds | exact std0 | exact PRun.loadE tabOk rfl rfl nd rfl (zBp _) rfl rfl rfl) (by exact rfl) ?_ | refine sqW ?_ | refine rgK (fun K' hK => ?_) | (refine aoN (hK _ _ ?_); clear hK K') | refine aoE (stW tabOk rfl rfl rfl tI rfl rfl tI rfl rfl rfl rfl rfl rfl rfl ?_) | refine aoE (alW tabOk rfl rfl rfl rfl rfl rfl ?_) | refine cdN rfl tI (fun hc => ?_) (fun hc => ?_) | refine blK ?_ | refine exW ?_ | refine skW ?_)
     all_goals (first | (exfalso; omega) | skip)
     all_goals
      refine lpD (ι := Nat × Int) (fun q => [(0, .opq yv), (2, .iptr [.int u]), (3, .iptr (encF f)), (4, .iptr [.b all]), (6, .eptr 10 1 0 0 ver), (8, .ptr 11 0), (10, .int q.2)]) (fun q => s10b (S q.1) ver bar r)
       (fun q => q.1 ≤ xs.length ∧ Pj q.1 ∧ (1 ≤ q.2 ∧ q.2 ≤ r.times + 1) ∧ xs.drop q.1 = (upTo q.2 (r.times + 1)).flatMap (passL f r) ++ partL f r.until_ u all) (fun q => (r.times + 1 - q.2).toNat) 12 (fun _ => rfl) (j, if all then 1 else r.times) ⟨hj, hPj, by dsimp only; split <;> omega, hdr⟩ ⟨rfl, rfl, rfl, rfl, rfl, rfl, by rw [hc]; rfl, tI⟩ rfl (fun q _ => by
        simp only [zCe, List.all_nil, zC9, zA0]
        exact ⟨okRef_mono (zCg 11) 4 _ hyo, rfl, rfl, rfl, rfl, rfl, rfl⟩) (fun q hq => hokB _ hq.1 _ _ _) ?_
      rintro ⟨j1, pass⟩ ⟨hj1, hP1, hps, hd1⟩
      dsimp only at hj1 hP1 hps hd1 ⊢
      by_cases hlp : pass ≤ r.times
      · rw [upTo_cons (by omega), List.flatMap_cons, zBb] at hd1
        repeat' (first | refine aoQ rfl rfl rfl (fun hg => by exact std0) (by exact rfl) ?_ | refine sqW ?_ | refine rgK (fun K' hK => ?_) | (refine aoN (hK _ _ ?_); clear hK K') | refine cdN rfl tI (fun hc => ?_) (fun hc => ?_) | refine blK ?_ | refine exW ?_ | refine skW ?_)
        all_goals (first | (exfalso; omega) | skip)
        refine lpD (ι := Nat × Int) (fun q => [(0, .opq yv), (2, .iptr [.int u]), (3, .iptr (encF f)), (4, .iptr [.b all]), (6, .eptr 10 1 0 0 ver), (8, .ptr 11 0), (10, .int pass), (11, .int q.2)]) (fun q => s10b (S q.1) ver bar r)
         (fun q => q.1 ≤ xs.length ∧ Pj q.1 ∧ (r.from_ ≤ q.2 ∧ q.2 ≤ r.until_) ∧ xs.drop q.1 = (upTo q.2 r.until_).filter (fun i => playedE f.ends i pass) ++ ((upTo (pass + 1) (r.times + 1)).flatMap (passL f r) ++ partL f r.until_ u all)) (fun q => (r.until_ - q.2).toNat) 12 (fun _ => rfl) (j1, r.from_) ⟨hj1, hP1, ⟨zBh _, by dsimp only; omega⟩, hd1⟩ ⟨rfl, rfl, rfl, rfl, rfl, rfl, rfl, rfl, tI⟩ rfl (fun q _ => by
          simp only [zCe, List.all_nil, zC9, zA0]
          exact ⟨okRef_mono (zCg 11) 4 _ hyo, rfl, rfl, rfl, rfl, rfl, rfl, rfl⟩) (fun q hq => hokB _ hq.1 _ _ _) ?_
        rintro ⟨j2, i⟩ ⟨hj2, hP2, hi, hd2⟩
        dsimp only at hj2 hP2 hi hd2 ⊢
        by_cases hli : i < r.until_
        · rw [upTo_cons hli] at hd2
          have hen := isEnding_spec f hf i pass
          cases hpl : playedE f.ends i pass with
          | false =>
            rw [zCb (by rw [hpl]; decide)] at hd2
            rw [hpl] at hen
            clear hv2 hokA hokB
            repeat' (first | refine aoQ rfl rfl rfl (fun hg => by first | exact std0 | exact pcW (hen) rfl rfl nd rfl nds | exact (Bool.noConfusion (show false = true from hg) : PRun _ _ _ _ (.b false)) | fail) (by exact rfl) ?_ | refine sqW ?_ | refine rgK (fun K' hK => ?_) | (refine aoN (hK _ _ ?_); clear hK K') | refine cdN rfl tI (fun hc => ?_) (fun hc => ?_) | refine blK ?_ | refine exW ?_ | refine skW ?_ | refine rtW ?_)
            all_goals (first | (exfalso; omega) | skip)
            all_goals first | exact ⟨(j2, i + 1), ⟨hj2, hP2, ⟨by dsimp only; omega, by dsimp only; omega⟩, hd2⟩, by dsimp only; omega, ⟨rfl, rfl, rfl, rfl, rfl, rfl, rfl, rfl, tI⟩, rfl⟩ | (exfalso; cases hc; done) | (exfalso; simp at hc; done)
          | true =>
            rw [zCa (by exact hpl), zD7] at hd2
            rw [hpl] at hen
            obtain ⟨hj3, hjb, hd3⟩ := drop_head hd2
            have hv := hv2 j2 i hjb hP2 ver bar r
            clear hv2 hokA hokB
            repeat' (first | refine aoQ rfl rfl rfl (fun hg => by first | exact std0 | exact pcW (hen) rfl rfl nd rfl nds) (by exact rfl) ?_ | refine sqW ?_ | refine rgK (fun K' hK => ?_) | (refine aoN (hK _ _ ?_); clear hK K') | refine aoE (EStep.gd (gOf_yesP rfl rfl rfl) rfl <| scT hv rfl rfl rfl rfl rfl (by exact rfl) rfl rfl (by repeat' (first | exact tI | exact rfl | refine ⟨?_, ?_⟩)) ?_) | refine cdN rfl tI (fun hc => ?_) (fun hc => ?_) | refine blK ?_ | refine exW ?_ | refine skW ?_)
            all_goals (first | (exfalso; omega) | skip)
            rintro r1 t (⟨rfl, rfl, hp⟩ | ⟨rfl, t', rfl, hh⟩)
            · repeat' (first | refine aoQ rfl rfl rfl (fun hg => by exact std0) (by exact rfl) ?_ | refine rgK (fun K' hK => ?_) | (refine aoN (hK _ _ ?_); clear hK K') | refine cdN rfl tI (fun hc => ?_) (fun hc => ?_) | refine skW ?_ | refine rtW ?_)
              · exfalso; simp at hc
              · exact ⟨(j2 + 1, i + 1), ⟨hj3, hp, ⟨by dsimp only; omega, by dsimp only; omega⟩, hd3⟩, by dsimp only; omega, ⟨rfl, rfl, rfl, rfl, rfl, rfl, rfl, rfl, tI⟩, rfl⟩
            · repeat' (first | refine aoQ rfl rfl rfl (fun hg => by exact std0) (by exact rfl) ?_ | refine rgK (fun K' hK => ?_) | (refine aoN (hK _ _ ?_); clear hK K') | refine cdN rfl tI (fun hc => ?_) (fun hc => ?_) | refine skW ?_ | refine rtW ?_)
              · obtain ⟨k1, k2⟩ := hR _ _ hh
                exact ⟨.inr rfl, .tup [], t', .inr ⟨_, hj3, hh⟩, by simp, by rw [k1]; exact nLr _, by rw [k1]; exact k2, rfl, rfl⟩
              · exfalso; simp at hc
        · rw [upTo_nil (by omega)] at hd2
          repeat' (first | refine aoQ rfl rfl rfl (fun hg => by exact std0) (by exact rfl) ?_ | refine sqW ?_ | refine rgK (fun K' hK => ?_) | (refine aoN (hK _ _ ?_); clear hK K') | refine cdN rfl tI (fun hc => ?_) (fun hc => ?_) | refine blK ?_ | refine exW ?_ | refine skW ?_)
          all_goals (first | (exfalso; omega) | skip)
          exact ⟨(j2, pass + 1), ⟨hj2, hP2, ⟨by dsimp only; omega, by dsimp only; omega⟩, hd2⟩, by dsimp only; omega, ⟨rfl, rfl, rfl, rfl, rfl, rfl, rfl, tI⟩, rfl⟩
      · rw [upTo_nil (by omega)] at hd1
        repeat' (first | refine aoE (EStep.allocArrV (l := 10) (sz := 1) tabOk rfl rfl rfl rfl rfl rfl rfl rfl ?_) | refine aoQ rfl rfl rfl (fun hg => by first | exact std0 | exact PRun.loadE tabOk rfl rfl nd rfl (zBp _) rfl rfl rfl) (by exact rfl) ?_ | refine sqW ?_ | refine rgK (fun K' hK => ?_) | (refine aoN (hK _ _ ?_); clear hK K') | refine aoE (EStep.storeE (l := 10) tabOk rfl rfl rfl tI rfl (zBp _) rfl tI rfl rfl rfl rfl rfl rfl ?_) | refine cdN rfl tI (fun hc => ?_) (fun hc => ?_) | refine blK ?_ | refine exW ?_ | refine skW ?_)
        all_goals (first | (exfalso; omega) | skip)
        have e5 : r.until_ - 1 + 1 = r.until_ := by omega
        refine ⟨(ver + 1, j1, r.until_ - 1 + 1), ⟨hj1, hP1, ⟨show 0 ≤ r.until_ - 1 + 1 by omega, show r.until_ - 1 + 1 ≤ 4000 by omega⟩, ?_⟩, ?_, ⟨rfl, rfl, rfl, rfl, rfl, tI⟩, rfl⟩
        · show xs.drop j1 = partL f (r.until_ - 1 + 1) u all
          rw [e5]; exact hd1
        · show (u - (r.until_ - 1 + 1)).toNat < (u - bar).toNat
          omega
 · rw [part_end (by omega)] at hdr
   repeat' (first | refine aoQ rfl rfl rfl (fun hg => by first | exact std0 | exact PRun.loadE tabOk rfl rfl nd rfl (zBp _) rfl rfl rfl) (by exact rfl) ?_ | refine sqW ?_ | refine rgK (fun K' hK => ?_) | (refine aoN (hK _ _ ?_); clear hK K') | refine cdN rfl tI (fun hc => ?_) (fun hc => ?_) | refine blK ?_ | refine exW ?_ | refine skW ?_)
   all_goals (first | (exfalso; omega) | skip)
   have hjl : j = xs.length := by
    have := congrArg List.length hdr
    rw [List.length_drop] at this
    have h0 : ([] : List Int).length = 0 := rfl
    omega
   subst hjl
   refine ⟨.inl rfl, .tup [], S xs.length, .inl ⟨rfl, hPj⟩, ?_, ?_, ?_, rfl, rfl⟩
   · rw [(hS _ (nLr _)).1]
     conv => rhs; rw [hend]
     rfl
   · rw [(hS _ (nLr _)).1]; exact nLr _
   · rw [(hS _ (nLr _)).1]; exact (hS _ (nLr _)).2
end Go.Proofs.YtdglbdfdkabjfaaGreatDoor.Pl
