/- Texts joined: CQ CR CS CT8 SI FW SJ SK SU NT RS RU. No statement is proved here. -/
import Derived.Test.YtnmdmmfdnnmdfaaDoorCP
import Derived.Test.YtnmdmmfdnnmdfaaDoorSH
import Derived.Test.YtnmdmmfdnnmdfaaDoorFU
import Derived.Test.YtnmdmmfdnnmdfaaDoorFX
import Derived.Test.YtnmdmmfdnnmdfaaDoorNK
import Derived.Test.YtnmdmmfdnnmdfaaDoorM3
import Derived.SizedLaws
import Derived.LaidMore
import Derived.MakeChecks
set_option linter.unusedVariables false
set_option linter.unusedSimpArgs false
/- Contracts by content: score.asked, Bar, Part, Note. No statement is proved here. -/
namespace Go.Proofs.YtnmdmmfdnnmdfaaDoor
open Go.Ab
attribute [local irreducible] AWP AOps EStep AQ PStep PRun PCall TCall VCall

def askedB (s : Score) (id : Int) : Bool := scoreOk s && inB id 1 1000000
/-- An index, whether it is one, and the error. -/
def idR (ok : Bool) (i : Int) : Int × Bool × Int := if ok then ((idxR i).1, (idxR i).2, 0) else (0, false, 1)
def at3 (r : Int × Bool × Int) : AV := .tup [.int r.1, .b r.2.1, .int r.2.2]
def barR (s : Score) (id : Int) : Int × Bool × Int := idR (askedB s id) (findI (fun x : Bar => x.id == id) s.bars)
def partR (s : Score) (id : Int) : Int × Bool × Int := idR (askedB s id) (findI (fun x : Part => x.id == id) s.parts)
def noteR (s : Score) (id : Int) : Int × Bool × Int := idR (askedB s id) (findI (fun x : Note => x.id == id) s.notes)
end Go.Proofs.YtnmdmmfdnnmdfaaDoor
/- Contracts by content: score.played, an iterator. No statement is proved here. -/
namespace Go.Proofs.YtnmdmmfdnnmdfaaDoor
open Go.Ab
attribute [local irreducible] AWP AOps EStep AQ PStep PRun PCall TCall VCall

def playN (p : Part) (n : Note) : Note := { n with part := p.id, pitch := { n.pitch with oct := n.pitch.oct + p.octave } }
def srcOf (p : Part) : Int := if p.of_ == 0 then p.id else p.of_
/-- What a part plays. -/
def playedL (l : List Note) (p : Part) : List Note := (l.filter fun n => n.part == srcOf p).map (playN p)
theorem played_len (l : List Note) (p : Part) : (playedL l p).length ≤ l.length := by
  unfold playedL; rw [List.length_map]; exact List.length_filter_le _ _
theorem played_yes {l : List Note} {p : Part} {k : Nat} (h : k < l.length) (hp : ((l.getD k default).part == srcOf p) = true) :
    (playedL l p)[(playedL (l.take k) p).length]? = some (playN p (l.getD k default)) ∧ (playedL (l.take (k + 1)) p).length = (playedL (l.take k) p).length + 1 := by
  have e1 : l = l.take k ++ (l.getD k default :: l.drop (k + 1)) := by
    rw [getD_lt h, ← List.drop_eq_getElem_cons h, List.take_append_drop]
  have e2 : l.take (k + 1) = l.take k ++ [l.getD k default] := by
    rw [List.take_add_one, getD_lt h]; simp [h]
  constructor
  · have e3 : playedL l p = playedL (l.take k) p ++ (playN p (l.getD k default) :: playedL (l.drop (k + 1)) p) := by
      conv => lhs; rw [e1]
      unfold playedL
      rw [List.filter_append, List.filter_cons_of_pos (by exact hp), List.map_append, List.map_cons]
    rw [e3]; simp
  · rw [e2]; unfold playedL
    rw [List.filter_append, List.filter_cons_of_pos (by exact hp)]; simp
theorem played_no {l : List Note} {p : Part} {k : Nat} (h : k < l.length) (hp : ((l.getD k default).part == srcOf p) = false) : (playedL (l.take (k + 1)) p).length = (playedL (l.take k) p).length := by
  have e2 : l.take (k + 1) = l.take k ++ [l.getD k default] := by
    rw [List.take_add_one, getD_lt h]; simp [h]
  rw [e2]; unfold playedL
  rw [List.filter_append, List.filter_cons_of_neg (by rw [hp]; decide)]; simp
theorem bne_f {a b : Int} (h : (a != b) = false) : (a == b) = true := by simpa using h
theorem bne_t {a b : Int} (h : (a != b) = true) : (a == b) = false := by simpa using h
def octIn (l : List Note) : Prop := ∀ n ∈ l, -1000 ≤ n.pitch.oct ∧ n.pitch.oct ≤ 1000
theorem ex4 {σ : Store} (h : σ.length = 4) : σ = [σ.getD 0 .dead, σ.getD 1 .dead, σ.getD 2 .dead, σ.getD 3 .dead] := by
  match σ, h with
  | [a, b, c, d], _ => rfl
end Go.Proofs.YtnmdmmfdnnmdfaaDoor
/- Contracts by content: score.Plays. No statement is proved here. -/
namespace Go.Proofs.YtnmdmmfdnnmdfaaDoor
open Go.Ab
attribute [local irreducible] AWP AOps EStep AQ PStep PRun PCall TCall VCall

/-- The numbers of a valid score are small. -/
theorem scoreOk_oct {s : Score} (h : scoreOk s = true) : octIn s.notes ∧ ∀ p ∈ s.parts, -1000 ≤ p.octave ∧ p.octave ≤ 1000 := by
  unfold scoreOk scoreBad at h
  simp only [Bool.and_eq_true, Bool.not_eq_true', Bool.or_eq_false_iff, Bool.not_eq_false'] at h
  obtain ⟨⟨⟨⟨⟨h1, h2⟩, h3⟩, h4⟩, h5⟩, h6⟩ := h
  constructor
  · intro n hn
    unfold notesOk at h4
    simp only [Bool.and_eq_true, List.all_eq_true] at h4
    have h7 := h4.1.2 n hn
    unfold noteOk at h7
    split at h7
    · unfold nformed noteForm noteP at h7
      simp only [Bool.and_eq_true] at h7
      have := h7.2.2.2
      simp only [inB, Bool.and_eq_true, decide_eq_true_eq] at this
      omega
    · cases h7
  · intro p hp
    unfold partsOk at h3
    simp only [Bool.and_eq_true, List.all_eq_true] at h3
    have h7 := h3.1.2 p hp
    unfold partOk partBad partNums at h7
    simp only [Bool.and_eq_true, Bool.not_eq_true', Bool.or_eq_false_iff, Bool.not_eq_false'] at h7
    have := h7.1.1.1.1.1.2
    simp only [inB, Bool.and_eq_true, decide_eq_true_eq] at this
    omega
def playsR (s : Score) (id : Int) : List Note × Int := if scoreOk s then (if findI (fun x : Part => x.id == id) s.parts ≥ 0 then (playedL s.notes (s.parts.getD (findI (fun x : Part => x.id == id) s.parts).toNat default), 0) else ([], 22)) else ([], 1)
end Go.Proofs.YtnmdmmfdnnmdfaaDoor
/- Contracts by content: slices.Clone of bars and parts; score.With. No statement is proved here. -/
namespace Go.Ab
theorem Ent.agg {us vs : List AV} (hl : us.length = vs.length) (h : ∀ (i : Nat) (u v : AV), us[i]? = some u → vs[i]? = some v → Ent u v) : Ent (.agg us) (.agg vs) := fun M x hx => by
  cases hx with
  | agg _ xs h1 h2 =>
    refine .agg vs xs (by rw [h1, hl]) fun i c hi => ?_
    have hlt : i < us.length := by
      rw [hl]
      rcases Nat.lt_or_ge i vs.length with h | h
      · exact h
      · simp [List.getElem?_eq_none h] at hi
    exact h i us[i] c (List.getElem?_eq_getElem hlt) hi M _ (h2 i _ (List.getElem?_eq_getElem hlt))
end Go.Ab
namespace Go.Proofs.YtnmdmmfdnnmdfaaDoor
open Go.Ab
attribute [local irreducible] AWP AOps EStep AQ PStep PRun PCall TCall VCall

theorem one_encB (l : List Bar) : ∀ x ∈ l.map encB, x.all oneAV = true := fun x hx => by
  obtain ⟨c, _, rfl⟩ := List.mem_map.1 hx; rfl
theorem one_encP (l : List Part) : ∀ x ∈ l.map encP, x.all oneAV = true := fun x hx => by
  obtain ⟨c, _, rfl⟩ := List.mem_map.1 hx; rfl
theorem pure_prims {es : List (List AV)} (h : ∀ e ∈ es, e.all pureC = true) : ∀ e ∈ es, ∀ a ∈ e, ∀ M B x, VRel M B a x → VRel M [] a x := fun e he a ha _ _ _ hx => pureC_rel (List.all_eq_true.1 (h e he) a ha) hx
theorem cloneB_spec (l : List Bar) (hl : l.length ≤ 1000000000) : PCall Tryd.prog 45 [.sl 4 (l.map encB) .no] (.sl 4 (l.map encB) .no) := by
  have hll : (l.map encB).length = l.length := by simp
  refine PCall.body Tryd.func45 rfl rfl Tryd.ntmps45 rfl rfl ?_
  repeat' (first | refine AOps.q rfl rfl rfl (fun hg => by first | exact std0 | exact std1) (by exact rfl) ?_ | refine AWP.seq ?_ | refine AWP.regionK (fun K' hK => ?_) | (refine AOps.nil (hK _ _ ?_); clear hK K') | refine AOps.e (EStep.boxW rfl rfl rfl rfl rfl True.intro rfl rfl ?_) | refine AOps.e (EStep.storeW tabOk rfl rfl rfl True.intro rfl rfl True.intro rfl rfl rfl rfl rfl rfl rfl ?_) | refine AOps.e (EStep.allocW tabOk rfl rfl rfl rfl rfl rfl ?_) | refine AOps.e (EStep.nilSl tabOk rfl rfl rfl rfl rfl True.intro rfl ?_) | (refine AWP.condW rfl True.intro (fun hc => ?_) (fun hc => ?_) <;> (first | (simp only [decide_eq_true_eq] at hc) | (simp only [decide_eq_false_iff_not, Int.not_lt, Int.not_le] at hc) | skip)) | refine AWP.block ?_ | refine AWP.exit ?_ | refine AWP.skip ?_ | refine AWP.drawK2 (by decide +kernel) (by kernel_rfl) (by decide +kernel) rfl (fun K' hK => ?_) | refine AWP.drawL2 (by kernel_rfl) (by decide +kernel) rfl (fun K' hK => ?_) | (refine AQ.nil (hK _ ?_); clear hK K') | refine AQ.nil ?_ | refine AQ.q rfl rfl (fun hg => by first | exact std0 | exact std1) (by exact rfl) ?_)
  intro b hb
  repeat' (first | refine AOps.q rfl rfl rfl (fun hg => by first | exact PRun.buildSl0 tabOk rfl rfl | exact std0 | exact std1) (by exact rfl) ?_ | refine AWP.seq ?_ | refine AWP.regionK (fun K' hK => ?_) | (refine AOps.nil (hK _ _ ?_); clear hK K') | refine AOps.e (EStep.boxW rfl rfl rfl rfl rfl True.intro rfl rfl ?_) | refine AOps.e (EStep.storeW tabOk rfl rfl rfl True.intro rfl rfl True.intro rfl rfl rfl rfl rfl rfl rfl ?_) | refine AOps.e (EStep.allocW tabOk rfl rfl rfl rfl rfl rfl ?_) | refine AOps.e (EStep.appendArrF tabOk rfl rfl rfl rfl (Rd.w rfl True.intro) (Rd.w rfl True.intro) (.sl rfl (one_encB _)) (LOk.of (tabOk.get rfl)) (LOk.of (tabOk.get rfl)) rfl rfl (by simp only [hll]; omega) (by omega) ?_) | (refine AWP.condW rfl True.intro (fun hc => ?_) (fun hc => ?_) <;> (first | (simp only [decide_eq_true_eq] at hc) | (simp only [decide_eq_false_iff_not, Int.not_lt, Int.not_le] at hc) | skip)) | refine AWP.block ?_ | refine AWP.exit ?_ | refine AWP.skip ?_ | refine AWP.drawK2 (by decide +kernel) (by kernel_rfl) (by decide +kernel) rfl (fun K' hK => ?_) | refine AWP.drawL2 (by kernel_rfl) (by decide +kernel) rfl (fun K' hK => ?_) | (refine AQ.nil (hK _ ?_); clear hK K') | refine AQ.nil ?_ | refine AQ.q rfl rfl (fun hg => by first | exact PRun.buildSl0 tabOk rfl rfl | exact std0 | exact std1) (by exact rfl) ?_)
  · have : l = [] := by simpa using hb hc
    subst this
    refine AWP.ret ⟨.inr rfl, Ent.nil⟩
  · refine AWP.freezeA (d := 2) (l := 0) (sz := 4) (ver := 0) (es := l.map encB) rfl rfl (pure_prims fun e he => by obtain ⟨c, _, rfl⟩ := List.mem_map.1 he; rfl) ?_
    exact AWP.ret ⟨.inr rfl, fun _ _ h => h⟩
theorem cloneP_spec (l : List Part) (hl : l.length ≤ 1000000000) : PCall Tryd.prog 46 [.sl 13 (l.map encP) .no] (.sl 13 (l.map encP) .no) := by
  have hll : (l.map encP).length = l.length := by simp
  refine PCall.body Tryd.func46 rfl rfl Tryd.ntmps46 rfl rfl ?_
  repeat' (first | refine AOps.q rfl rfl rfl (fun hg => by first | exact std0 | exact std1) (by exact rfl) ?_ | refine AWP.seq ?_ | refine AWP.regionK (fun K' hK => ?_) | (refine AOps.nil (hK _ _ ?_); clear hK K') | refine AOps.e (EStep.boxW rfl rfl rfl rfl rfl True.intro rfl rfl ?_) | refine AOps.e (EStep.storeW tabOk rfl rfl rfl True.intro rfl rfl True.intro rfl rfl rfl rfl rfl rfl rfl ?_) | refine AOps.e (EStep.allocW tabOk rfl rfl rfl rfl rfl rfl ?_) | refine AOps.e (EStep.nilSl tabOk rfl rfl rfl rfl rfl True.intro rfl ?_) | (refine AWP.condW rfl True.intro (fun hc => ?_) (fun hc => ?_) <;> (first | (simp only [decide_eq_true_eq] at hc) | (simp only [decide_eq_false_iff_not, Int.not_lt, Int.not_le] at hc) | skip)) | refine AWP.block ?_ | refine AWP.exit ?_ | refine AWP.skip ?_ | refine AWP.drawK2 (by decide +kernel) (by kernel_rfl) (by decide +kernel) rfl (fun K' hK => ?_) | refine AWP.drawL2 (by kernel_rfl) (by decide +kernel) rfl (fun K' hK => ?_) | (refine AQ.nil (hK _ ?_); clear hK K') | refine AQ.nil ?_ | refine AQ.q rfl rfl (fun hg => by first | exact std0 | exact std1) (by exact rfl) ?_)
  intro b hb
  repeat' (first | refine AOps.q rfl rfl rfl (fun hg => by first | exact PRun.buildSl0 tabOk rfl rfl | exact std0 | exact std1) (by exact rfl) ?_ | refine AWP.seq ?_ | refine AWP.regionK (fun K' hK => ?_) | (refine AOps.nil (hK _ _ ?_); clear hK K') | refine AOps.e (EStep.boxW rfl rfl rfl rfl rfl True.intro rfl rfl ?_) | refine AOps.e (EStep.storeW tabOk rfl rfl rfl True.intro rfl rfl True.intro rfl rfl rfl rfl rfl rfl rfl ?_) | refine AOps.e (EStep.allocW tabOk rfl rfl rfl rfl rfl rfl ?_) | refine AOps.e (EStep.appendArrF tabOk rfl rfl rfl rfl (Rd.w rfl True.intro) (Rd.w rfl True.intro) (.sl rfl (one_encP _)) (LOk.of (tabOk.get rfl)) (LOk.of (tabOk.get rfl)) rfl rfl (by simp only [hll]; omega) (by omega) ?_) | (refine AWP.condW rfl True.intro (fun hc => ?_) (fun hc => ?_) <;> (first | (simp only [decide_eq_true_eq] at hc) | (simp only [decide_eq_false_iff_not, Int.not_lt, Int.not_le] at hc) | skip)) | refine AWP.block ?_ | refine AWP.exit ?_ | refine AWP.skip ?_ | refine AWP.drawK2 (by decide +kernel) (by kernel_rfl) (by decide +kernel) rfl (fun K' hK => ?_) | refine AWP.drawL2 (by kernel_rfl) (by decide +kernel) rfl (fun K' hK => ?_) | (refine AQ.nil (hK _ ?_); clear hK K') | refine AQ.nil ?_ | refine AQ.q rfl rfl (fun hg => by first | exact PRun.buildSl0 tabOk rfl rfl | exact std0 | exact std1) (by exact rfl) ?_)
  · have : l = [] := by simpa using hb hc
    subst this
    refine AWP.ret ⟨.inr rfl, Ent.nil⟩
  · refine AWP.freezeA (d := 2) (l := 0) (sz := 13) (ver := 0) (es := l.map encP) rfl rfl (pure_prims fun e he => by obtain ⟨c, _, rfl⟩ := List.mem_map.1 he; rfl) ?_
    exact AWP.ret ⟨.inr rfl, fun _ _ h => h⟩
def noScore : Score := ⟨0, [], [], []⟩
theorem entNo : Ent (.agg [.int 0, .nils, .nils, .nils]) (.agg (encS noScore)) := Ent.agg rfl fun i u v hu hv => by
  match i, hu, hv with
  | 0, hu, hv => simp [encS, noScore] at hu hv; subst hu; subst hv; exact Ent.rfl' _
  | 1, hu, hv => simp [encS, noScore] at hu hv; subst hu; subst hv; exact Ent.nil
  | 2, hu, hv => simp [encS, noScore] at hu hv; subst hu; subst hv; exact Ent.nil
  | 3, hu, hv => simp [encS, noScore] at hu hv; subst hu; subst hv; exact Ent.nil
  | i + 4, hu, _ => simp at hu
/-- A score with other notes, and the error. -/
def withR (s : Score) (v : Int) (l : List Note) : Score × Int :=
  if (!scoreOk s || !inB v 1 1000000) || !notesOk s.bars l then (noScore, 1) else if wrongR s.parts l != 0 then (noScore, wrongR s.parts l) else (⟨v, s.bars, s.parts, (sortR s.bars l).1⟩, 0)
def tupS (r : Score × Int) : AV := .tup [.agg (encS r.1), .int r.2]
theorem with_spec (s : Score) (hs : s.Small) (v : Int) (l : List Note) (hl : l.length ≤ 1000000000) : PCall Tryd.prog 14 [.agg (encS s), .int v, .sl 12 (l.map encN) .no] (tupS (withR s v l)) := by
  have hv := svalid_spec s hs
  obtain ⟨h1, h2, h3⟩ := hs
  have hn := nvalid_spec s.bars l (by omega) (by omega)
  have hw := wrong_spec s.parts l (by omega) (by omega)
  have ho := Sort_spec s.bars l h1 hl
  have c1 := cloneB_spec s.bars h1
  have c2 := cloneP_spec s.parts h2
  refine PCall.bodyS tabOk Tryd.func14 rfl rfl Tryd.ntmps14 rfl ?_
  repeat' (first | refine AOps.q rfl rfl rfl (fun hg => by first | exact std0 | exact PRun.callW (hv) rfl rfl nd rfl nds | exact PRun.callW (sisID_spec _) rfl rfl nd rfl nds | exact PRun.callW (hn) rfl rfl nd rfl nds | exact PRun.callW (hw) rfl rfl nd rfl nds | exact PRun.callW (ho) rfl rfl nd rfl nds | exact PRun.callW (c1) rfl rfl nd rfl nds | exact PRun.callW (c2) rfl rfl nd rfl nds | exact PRun.buildW tabOk rfl rfl nds | exact std1) (by exact rfl) ?_ | refine AWP.seq ?_ | refine AWP.regionK (fun K' hK => ?_) | (refine AOps.nil (hK _ _ ?_); clear hK K') | refine AOps.e (EStep.boxW rfl rfl rfl rfl rfl True.intro rfl rfl ?_) | refine AOps.e (EStep.storeW tabOk rfl rfl rfl True.intro rfl rfl True.intro rfl rfl rfl rfl rfl rfl rfl ?_) | refine AOps.e (EStep.allocW tabOk rfl rfl rfl rfl rfl rfl ?_) | (refine AWP.condW rfl True.intro (fun hc => ?_) (fun hc => ?_) <;> (first | (simp only [decide_eq_true_eq] at hc) | (simp only [decide_eq_false_iff_not, Int.not_lt, Int.not_le] at hc) | skip)) | refine AWP.block ?_ | refine AWP.exit ?_ | refine AWP.skip ?_ | refine AWP.ret ?_ | refine AWP.drawK2 (by decide +kernel) (by kernel_rfl) (by decide +kernel) rfl (fun K' hK => ?_) | refine AWP.drawL2 (by kernel_rfl) (by decide +kernel) rfl (fun K' hK => ?_) | (refine AQ.nil (hK _ ?_); clear hK K') | refine AQ.nil ?_ | refine AQ.q rfl rfl (fun hg => by first | exact std0 | exact PRun.callW (hv) rfl rfl nd rfl nds | exact PRun.callW (sisID_spec _) rfl rfl nd rfl nds | exact PRun.callW (hn) rfl rfl nd rfl nds | exact PRun.callW (hw) rfl rfl nd rfl nds | exact PRun.callW (ho) rfl rfl nd rfl nds | exact PRun.callW (c1) rfl rfl nd rfl nds | exact PRun.callW (c2) rfl rfl nd rfl nds | exact PRun.buildW tabOk rfl rfl nds | exact std1) (by exact rfl) ?_)
  · refine ⟨.inr rfl, _, rfl, ?_⟩
    rw [show withR s v l = (noScore, 1) from if_pos hc]
    exact Ent.tup2 entNo (Ent.rfl' _)
  · rename_i hc0
    refine ⟨.inr rfl, _, rfl, ?_⟩
    rw [show withR s v l = (noScore, wrongR s.parts l) from by unfold withR; rw [if_neg (by rw [hc0]; decide), if_pos hc]]
    exact Ent.tup2 entNo (Ent.rfl' _)
  · rename_i hc0
    refine ⟨.inr rfl, _, rfl, ?_⟩
    rw [show withR s v l = (⟨v, s.bars, s.parts, (sortR s.bars l).1⟩, 0) from by unfold withR; rw [if_neg (by rw [hc0]; decide), if_neg (by rw [hc]; decide)]]
    exact Ent.of rfl
end Go.Proofs.YtnmdmmfdnnmdfaaDoor
/- Contracts by content: the reference of scores: Valid, Bar, Part, Note, Plays, With. No statement is proved here. -/
namespace Go.Proofs.YtnmdmmfdnnmdfaaDoor
open Go.Ab
attribute [local irreducible] AWP AOps EStep AQ PStep PRun PCall TCall VCall

def Score.Sized (s : Score) : Prop := s.bars.length ≤ 9223372036854775807 ∧ s.parts.length ≤ 9223372036854775807 ∧ s.notes.length ≤ 9223372036854775807
def Score.few (s : Score) : Bool := decide ((s.bars.length : Int) ≤ 60) && decide ((s.parts.length : Int) ≤ 61) && decide ((s.notes.length : Int) ≤ 60)
theorem Score.few_small {s : Score} (h : s.few = true) : s.Small := by
  unfold Score.few at h; simp only [Bool.and_eq_true, decide_eq_true_eq] at h
  exact ⟨by omega, by omega, by omega⟩
theorem few8_spec (s : Score) (hs : s.Sized) : PCall Tryd.prog 11 [.agg (encS s)] (.b s.few) := by
  obtain ⟨h1, h2, h3⟩ := hs
  refine PCall.body Tryd.func11 rfl rfl Tryd.ntmps11 rfl rfl ?_
  repeat' (first | refine AOps.q rfl rfl rfl (fun hg => by first | exact std0 | exact std1) (by exact rfl) ?_ | refine AWP.seq ?_ | refine AWP.regionK (fun K' hK => ?_) | (refine AOps.nil (hK _ _ ?_); clear hK K') | refine AOps.e (EStep.boxW rfl rfl rfl rfl rfl True.intro rfl rfl ?_) | refine AOps.e (EStep.storeW tabOk rfl rfl rfl True.intro rfl rfl True.intro rfl rfl rfl rfl rfl rfl rfl ?_) | refine AOps.e (EStep.allocW tabOk rfl rfl rfl rfl rfl rfl ?_) | (refine AWP.condW rfl True.intro (fun hc => ?_) (fun hc => ?_) <;> (first | (simp only [decide_eq_true_eq] at hc) | (simp only [decide_eq_false_iff_not, Int.not_lt, Int.not_le] at hc) | skip)) | refine AWP.block ?_ | refine AWP.exit ?_ | refine AWP.skip ?_ | refine AWP.ret ?_ | refine AWP.drawK2 (by decide +kernel) (by kernel_rfl) (by decide +kernel) rfl (fun K' hK => ?_) | refine AWP.drawL2 (by kernel_rfl) (by decide +kernel) rfl (fun K' hK => ?_) | (refine AQ.nil (hK _ ?_); clear hK K') | refine AQ.nil ?_ | refine AQ.q rfl rfl (fun hg => by first | exact std0 | exact std1) (by exact rfl) ?_)
  exact ⟨.inr rfl, Ent.b rfl⟩
theorem notesOk_all {bars : List Bar} {l : List Note} (h : notesOk bars l = true) : barsOk bars = true ∧ l.length ≤ 20000 ∧ ∀ x ∈ l, noteOk bars x = true := by
  unfold notesOk at h
  simp only [Bool.and_eq_true, decide_eq_true_eq, List.all_eq_true] at h
  exact ⟨h.1.1.1, by omega, h.1.2⟩
/-- A score that is valid, by the steps of its notes. -/
def scoreX (s : Score) : Bool := !scoreBad s && stepsOk (idxAL s.bars) s.notes
theorem scoreOk_eq (s : Score) : scoreOk s = scoreX s := by
  unfold scoreOk scoreX
  cases h : scoreBad s with
  | true => rfl
  | false =>
    have : notesOk s.bars s.notes = true := by
      unfold scoreBad at h
      simp only [Bool.or_eq_false_iff, Bool.not_eq_false'] at h
      exact h.1.2
    rw [sort_steps this]
theorem findI_ge {α : Type} (p : α → Bool) (l : List α) : -1 ≤ findI p l := by unfold findI; split <;> omega
theorem played_take {l : List Note} {p : Part} {k : Nat} (h : k < l.length) : playedL (l.take (k + 1)) p = if (l.getD k default).part == srcOf p then playedL (l.take k) p ++ [playN p (l.getD k default)] else playedL (l.take k) p := by
  rw [take_snoc h]; unfold playedL
  rw [List.filter_append, List.map_append]
  split
  · rename_i h2; rw [List.filter_cons_of_pos (by exact h2)]; rfl
  · rename_i h2; rw [List.filter_cons_of_neg (by exact h2)]; simp
end Go.Proofs.YtnmdmmfdnnmdfaaDoor
/- Regions that draw their order, with two chains of effects that may come in any order with one another. -/
namespace Go.Ab
section
variable {P : Program} {n : Nat} {ops : Array Oper} {md : Region.Mode} {S : Nat → Nat → Store} {cls : Oper → Nat} {lo hi rank : Nat → Nat → Nat}

inductive WS (P : Program) (n : Nat) (ops : Array Oper) (S : Nat → Nat → Store) (cls : Oper → Nat) (lo hi rank : Nat → Nat → Nat) (i : Nat) (o : Oper) (env : Env) : Nat → Nat → AV → Nat → Nat → Prop
  | q {j1 j2 : Nat} {v : AV} (h1 : lo 1 i ≤ j1 ∧ j1 ≤ hi 1 i) (h2 : lo 2 i ≤ j2 ∧ j2 ≤ hi 2 i) (he : cls o = 0) (h : ∀ k1 k2, k1 ≤ hi 1 i → k2 ≤ hi 2 i → PStep P ops o env (S k1 k2) v) : WS P n ops S cls lo hi rank i o env j1 j2 v j1 j2
  | e1 {j1 j2 : Nat} {v : AV} (hr : rank 1 i = j1 + 1) (h2 : lo 2 i ≤ j2 ∧ j2 ≤ hi 2 i) (he : cls o = 1)
      (h : ∀ env', (∀ x ∈ o.looksAt ops, env' x = env x) → ∀ k2, lo 2 i ≤ k2 → k2 ≤ hi 2 i → EStep P n ops o (fun e s => e = env'.putO o.dst v ∧ s = S (j1 + 1) k2) env' (S j1 k2)) : WS P n ops S cls lo hi rank i o env j1 j2 v (j1 + 1) j2
  | e2 {j1 j2 : Nat} {v : AV} (hr : rank 2 i = j2 + 1) (h1 : lo 1 i ≤ j1 ∧ j1 ≤ hi 1 i) (he : cls o = 2)
      (h : ∀ env', (∀ x ∈ o.looksAt ops, env' x = env x) → ∀ k1, lo 1 i ≤ k1 → k1 ≤ hi 1 i → EStep P n ops o (fun e s => e = env'.putO o.dst v ∧ s = S k1 (j2 + 1)) env' (S k1 j2)) : WS P n ops S cls lo hi rank i o env j1 j2 v j1 (j2 + 1)

theorem WS.congr {i : Nat} {o : Oper} {env env' : Env} {j1 j2 j1' j2' : Nat} {v : AV} (h : WS P n ops S cls lo hi rank i o env j1 j2 v j1' j2') (he : ∀ x ∈ o.looksAt ops, env' x = env x) : WS P n ops S cls lo hi rank i o env' j1 j2 v j1' j2' := by
  cases h with
  | q h1 h2 hf h => exact .q h1 h2 hf fun k1 k2 g1 g2 => (h k1 k2 g1 g2).congr he
  | e1 hr h2 hf h => exact .e1 hr h2 hf fun e2 g2 => h e2 fun x hx => (g2 x hx).trans (he x hx)
  | e2 hr h1 hf h => exact .e2 hr h1 hf fun e2 g2 => h e2 fun x hx => (g2 x hx).trans (he x hx)

def wq (P : Program) (n : Nat) (ops : Array Oper) (S : Nat → Nat → Store) (cls : Oper → Nat) (lo hi rank : Nat → Nat → Nat) (i : Nat) (K : Env → Nat → Nat → Prop) (env : Env) (j1 j2 : Nat) : Prop :=
  match ops[i]? with
  | none => K env j1 j2
  | some o => ∃ v j1' j2', WS P n ops S cls lo hi rank i o env j1 j2 v j1' j2' ∧ K (env.putO o.dst v) j1' j2'

theorem wq_mono {i : Nat} {env : Env} {j1 j2 : Nat} {K K' : Env → Nat → Nat → Prop} (h : ∀ e j1 j2, K e j1 j2 → K' e j1 j2) (hh : wq P n ops S cls lo hi rank i K env j1 j2) : wq P n ops S cls lo hi rank i K' env j1 j2 := by
  unfold wq at *
  split
  · exact h _ _ _ (by simpa [*] using hh)
  · rename_i o ho; simp only [ho] at hh; obtain ⟨v, a, b, h1, h2⟩ := hh; exact ⟨v, a, b, h1, h _ _ _ h2⟩

def wAny (P : Program) (n : Nat) (md : Region.Mode) (ops : Array Oper) (S : Nat → Nat → Store) (cls : Oper → Nat) (lo hi rank : Nat → Nat → Nat) (K : Env → Nat → Nat → Prop) : Nat → Array Bool → Env → Nat → Nat → Prop
  | 0, listed, e, j1, j2 => Region.ready md ops listed = [] ∧ K e j1 j2
  | fuel + 1, listed, e, j1, j2 =>
    (Region.ready md ops listed = [] → K e j1 j2) ∧ ∀ i ∈ Region.ready md ops listed, wq P n ops S cls lo hi rank i (wAny P n md ops S cls lo hi rank K fuel (listed.setIfInBounds i true)) e j1 j2

theorem wq_put {i i0 : Nat} {oi oj : Oper} {v : AV} {j1 j2 a1 a2 : Nat} (hj : ops[i0]? = some oj) (hap : oi.apart ops oj = true) (hp1 : pairC cls lo hi rank 1 i i0 oi oj) (hp2 : pairC cls lo hi rank 2 i i0 oi oj) {K : Env → Nat → Nat → Prop} {env : Env}
    (hy : WS P n ops S cls lo hi rank i oi env j1 j2 v a1 a2) (h : wq P n ops S cls lo hi rank i0 K (env.putO oi.dst v) a1 a2) :
    wq P n ops S cls lo hi rank i0 (fun e b1 b2 => ∃ c1 c2, WS P n ops S cls lo hi rank i oi e b1 b2 v c1 c2 ∧ K (e.putO oi.dst v) c1 c2) env j1 j2 := by
  obtain ⟨h1, h2, h3⟩ := Oper.apart_spec hap
  obtain ⟨p1, p2, p3⟩ := hp1
  obtain ⟨q1, q2, q3⟩ := hp2
  unfold wq at *
  simp only [hj] at *
  obtain ⟨u, c1, c2, hu, hK⟩ := h
  have hu' := hu.congr (env' := env) fun x hx => (Env.putO_other _ fun i hi e => h1 i hi (e ▸ hx)).symm
  have hy' := hy.congr (env' := env.putO oj.dst u) fun x hx => Env.putO_other _ fun i hi e => h3 i hi (e ▸ hx)
  rw [Env.putO_comm env v u h2] at hK
  cases hu' with
  | q g1 g2 gf gh =>
    cases hy' with
    | q k1 k2 kf kh => exact ⟨u, _, _, .q g1 g2 gf gh, _, _, .q k1 k2 kf kh, hK⟩
    | e1 kr k2 kf kh =>
      have := p3 kf (by omega)
      exact ⟨u, _, _, .q ⟨by omega, by omega⟩ g2 gf gh, _, _, .e1 kr k2 kf kh, hK⟩
    | e2 kr k1 kf kh =>
      have := q3 kf (by omega)
      exact ⟨u, _, _, .q g1 ⟨by omega, by omega⟩ gf gh, _, _, .e2 kr k1 kf kh, hK⟩
  | e1 gr g2 gf gh =>
    cases hy' with
    | q k1 k2 kf kh =>
      have := p2 (by omega) gf
      exact ⟨u, _, _, .e1 gr g2 gf gh, _, _, .q ⟨by omega, by omega⟩ k2 kf kh, hK⟩
    | e1 kr k2 kf kh => exact absurd ⟨kf, gf⟩ p1
    | e2 kr k1 kf kh =>
      have a := q3 kf (by omega)
      have b := p2 (by omega) gf
      exact ⟨u, _, _, .e1 gr ⟨by omega, by omega⟩ gf gh, _, _, .e2 kr ⟨by omega, by omega⟩ kf kh, hK⟩
  | e2 gr g1 gf gh =>
    cases hy' with
    | q k1 k2 kf kh =>
      have := q2 (by omega) gf
      exact ⟨u, _, _, .e2 gr g1 gf gh, _, _, .q k1 ⟨by omega, by omega⟩ kf kh, hK⟩
    | e1 kr k2 kf kh =>
      have a := p3 kf (by omega)
      have b := q2 (by omega) gf
      exact ⟨u, _, _, .e2 gr ⟨by omega, by omega⟩ gf gh, _, _, .e1 kr ⟨by omega, by omega⟩ kf kh, hK⟩
    | e2 kr k1 kf kh => exact absurd ⟨kf, gf⟩ q1

theorem wAny_first {K : Env → Nat → Nat → Prop} {i : Nat} {oi : Oper} {v : AV} (hio : ops[i]? = some oi) :
    ∀ (fuel : Nat) (listed : Array Bool) (env : Env) (j1 j2 a1 a2 : Nat),
      (∀ k ok, ops[k]? = some ok → k ≠ i → listed.getD k true = false → (∀ e ∈ ok.after, Region.binds md e = true → e.on ≠ i) → oi.apart ops ok = true ∧ pairC cls lo hi rank 1 i k oi ok ∧ pairC cls lo hi rank 2 i k oi ok) →
      i ∈ Region.ready md ops listed → WS P n ops S cls lo hi rank i oi env j1 j2 v a1 a2 →
      wAny P n md ops S cls lo hi rank K fuel (listed.setIfInBounds i true) (env.putO oi.dst v) a1 a2 → wAny P n md ops S cls lo hi rank K (fuel + 1) listed env j1 j2 := by
  have take : ∀ {env : Env} {j1 j2 a1 a2 : Nat} {K : Env → Nat → Nat → Prop}, WS P n ops S cls lo hi rank i oi env j1 j2 v a1 a2 → K (env.putO oi.dst v) a1 a2 → wq P n ops S cls lo hi rank i K env j1 j2 := fun hy h => by
    unfold wq; simp only [hio]; exact ⟨v, _, _, hy, h⟩
  intro fuel
  induction fuel with
  | zero =>
    intro listed env j1 j2 a1 a2 _ hr hy H
    refine ⟨fun h => (by rw [h] at hr; cases hr), fun k hk => ?_⟩
    by_cases hki : k = i
    · subst hki; exact take hy H
    · have := ready_mono hk hki
      rw [H.1] at this
      cases this
  | succ fuel ih =>
    intro listed env j1 j2 a1 a2 hfree hr hy H
    refine ⟨fun h => (by rw [h] at hr; cases hr), fun k hk => ?_⟩
    by_cases hki : k = i
    · subst hki; exact take hy H
    · have h1 := H.2 k (ready_mono hk hki)
      obtain ⟨hkun, ok, hok, hall⟩ := mem_ready.1 hk
      have hnot : ∀ e ∈ ok.after, Region.binds md e = true → e.on ≠ i := fun e he hb heq => by
        have h1 := hall e he hb
        have h0 := (mem_ready.1 hr).1
        rw [heq] at h1
        rcases Nat.lt_or_ge i listed.size with h' | h'
        · simp [h'] at h0 h1; rw [h0] at h1; cases h1
        · simp [Array.getElem?_eq_none h'] at h1
      obtain ⟨f1, f2, f3⟩ := hfree k ok hok hki hkun hnot
      have h2 := wq_put hok f1 f2 f3 hy h1
      have hfree' : ∀ l ol, ops[l]? = some ol → l ≠ i → (listed.setIfInBounds k true).getD l true = false →
          (∀ e ∈ ol.after, Region.binds md e = true → e.on ≠ i) → oi.apart ops ol = true ∧ pairC cls lo hi rank 1 i l oi ol ∧ pairC cls lo hi rank 2 i l oi ol := fun l ol hl hli hun hno => by
        refine hfree l ol hl hli ?_ hno
        by_cases hkl : k = l
        · subst hkl; exact hkun
        · rw [getD_set_ne true hkl] at hun; exact hun
      refine wq_mono (fun e' b1 b2 h3 => ?_) h2
      obtain ⟨c1, c2, h4, h5⟩ := h3
      refine ih (listed.setIfInBounds k true) e' b1 b2 c1 c2 hfree' (ready_mono hr (Ne.symm hki)) h4 ?_
      rw [Array.setIfInBounds_comm _ _ hki]
      exact h5

/-- In the order of the text. -/
def WQ (P : Program) (n : Nat) (ops : Array Oper) (S : Nat → Nat → Store) (cls : Oper → Nat) (lo hi rank : Nat → Nat → Nat) (K : Env → Nat → Nat → Prop) : List Oper → Nat → Env → Nat → Nat → Prop
  | [], _, e, j1, j2 => K e j1 j2
  | o :: rest, i, e, j1, j2 => ∃ v a1 a2, WS P n ops S cls lo hi rank i o e j1 j2 v a1 a2 ∧ WQ P n ops S cls lo hi rank K rest (i + 1) (e.putO o.dst v) a1 a2

def rngAtW (md : Region.Mode) (ops : Array Oper) (cls : Oper → Nat) (lo hi rank : Nat → Nat → Nat) (listed : Array Bool) (i : Nat) : Bool := (List.range ops.size).all fun k => i == k || listed.getD k true || match ops[i]?, ops[k]? with
  | some o, some o' => edgeB md o' i || !(o.apart ops o') || (rngC cls lo hi rank 1 i k o o' && rngC cls lo hi rank 2 i k o o')
  | _, _ => true
def rngW (md : Region.Mode) (ops : Array Oper) (cls : Oper → Nat) (lo hi rank : Nat → Nat → Nat) : Nat → Nat → Array Bool → Bool
  | 0, _, _ => true
  | f + 1, i, listed => rngAtW md ops cls lo hi rank listed i && rngW md ops cls lo hi rank f (i + 1) (listed.setIfInBounds i true)
theorem rngAtW_spec {listed : Array Bool} {i k : Nat} (h : rngAtW md ops cls lo hi rank listed i = true) {o o' : Oper} (hne : k ≠ i) (h1 : ops[i]? = some o) (h2 : ops[k]? = some o') (hun : listed.getD k true = false) (hno : ∀ e ∈ o'.after, Region.binds md e = true → e.on ≠ i) (hap : o.apart ops o' = true) :
    pairC cls lo hi rank 1 i k o o' ∧ pairC cls lo hi rank 2 i k o o' := by
  have m2 := (Array.getElem?_eq_some_iff.1 h2).1
  have h3 := List.all_eq_true.1 h k (List.mem_range.2 m2)
  have e : (i == k) = false := by simp; exact fun e => hne e.symm
  have e2 : edgeB md o' i = false := by
    cases hb : edgeB md o' i with
    | false => rfl
    | true =>
      unfold edgeB at hb
      obtain ⟨x, hx, hy⟩ := Array.any_eq_true'.1 hb
      simp only [Bool.and_eq_true, beq_iff_eq] at hy
      exact absurd hy.2 (hno x hx hy.1)
  simp only [e, Bool.false_or, h1, h2, e2, hap, Bool.not_true, hun, Bool.and_eq_true] at h3
  exact ⟨rngC_spec h3.1, rngC_spec h3.2⟩

theorem wAny_lex {K : Env → Nat → Nat → Prop} : ∀ (l : List Oper) (k : Nat) (listed : Array Bool) (env : Env) (j1 j2 : Nat), (∀ i, l[i]? = ops[k + i]?) →
    rngW md ops cls lo hi rank l.length k listed = true → Region.lexFrom md ops l.length k listed = true → WQ P n ops S cls lo hi rank K l k env j1 j2 → wAny P n md ops S cls lo hi rank K l.length listed env j1 j2
  | [], _, _, _, _, _, _, _, hB, h => ⟨by simpa [Region.lexFrom] using hB, h⟩
  | o :: l, k, listed, env, j1, j2, hl, hE, hB, h => by
    simp only [List.length_cons, rngW, Bool.and_eq_true] at hE
    have h0 : ops[k]? = some o := by simpa using (hl 0).symm
    simp only [List.length_cons, Region.lexFrom, Bool.and_eq_true] at hB
    obtain ⟨⟨hr, hf⟩, hB'⟩ := hB
    obtain ⟨v, a1, a2, hy, hK⟩ := h
    exact wAny_first h0 l.length listed env j1 j2 a1 a2 (fun k2 ok h1 h2 h3 h4 => let ap := Region.free_spec h0 hf k2 ok h1 h2 h3 h4; ⟨ap, rngAtW_spec hE.1 h2 h0 h1 h3 h4 ap⟩) (by simpa using hr) hy
      (wAny_lex l (k + 1) _ _ a1 a2 (fun i => by have := hl (i + 1); simpa [Nat.add_assoc, Nat.add_comm 1 i] using this) hE.2 hB' hK)

theorem wpAny_of_wAny {K : Env → Nat → Nat → Prop} (ro : Option Nat) (hd : dstsOk n ops = true) : ∀ (fuel : Nat) (listed : Array Bool) (env : Env) (j1 j2 : Nat), wAny P n md ops S cls lo hi rank K fuel listed env j1 j2 → ∀ G a w, ARel n G env (S j1 j2) a w →
    ∀ Q : Exit → Act → World → Prop, (∀ G' env' j1' j2' a' w', G.Le G' → K env' j1' j2' → ARel n G' env' (S j1' j2') a' w' → Q .normal a' w') → wpAnyIn (FR ro) 0 P md ops Q fuel listed a w
  | 0, _, env, j1, j2, h, G, a, w, hr, Q, hQ => ⟨h.1, hQ G env j1 j2 a w (Gh.Le.refl G) h.2 hr⟩
  | fuel + 1, listed, env, j1, j2, h, G, a, w, hr, Q, hQ => by
    refine ⟨fun h0 => hQ G env j1 j2 a w (Gh.Le.refl G) (h.1 h0) hr, fun i hi => ?_⟩
    have hq := h.2 i hi
    unfold wq at hq
    unfold wpOpIn
    split
    · rename_i ho; simp only [ho] at hq; exact wpAny_of_wAny ro hd fuel _ env j1 j2 hq G a w hr Q hQ
    · rename_i o ho
      simp only [ho] at hq
      obtain ⟨v, a1, a2, hx, hK⟩ := hq
      have hdo : ∀ x, o.dst = some x → x < n := dstOk_spec (by
        have := List.all_eq_true.1 hd o (by
          obtain ⟨hlt, he⟩ := Array.getElem?_eq_some_iff.1 ho
          rw [← he]; simp)
        exact this)
      have effect : EStep P n ops o (fun e s => e = env.putO o.dst v ∧ s = S a1 a2) env (S j1 j2) →
          if Region.wanted o (yielded ops a.tmps) then OWP P o a w (fun a' w' => ∃ env' σ' G', (env' = env.putO o.dst v ∧ σ' = S a1 a2) ∧ G.Le G' ∧ ARel n G' env' σ' a' w')
          else ∃ env' σ', (env' = env.putO o.dst v ∧ σ' = S a1 a2) ∧ ARel n G env' σ' (a.put o.dst undef) w := fun h => h G a w hr
      cases hx with
      | q g1 g2 hf hp =>
        have := hp j1 j2 g1.2 g2.2 G a w hr.st (fun x _ => hr.vals x)
        split
        · rename_i hw
          rw [if_pos hw] at this
          refine this.toIn ?_
          rintro a' w' ⟨x, G', rfl, h1, h2, h3⟩
          have hr' : ARel n G' env (S j1 j2) a w' := hr.later h2 h3
          exact wpAny_of_wAny ro hd fuel _ _ j1 j2 hK G' _ w' (hr'.putO hdo h1) Q fun G'' e' b1 b2 a'' w'' hg hk hr => hQ G'' e' b1 b2 a'' w'' (h2.trans hg) hk hr
        · rename_i hw
          rw [if_neg hw] at this
          exact ⟨fun _ _ => trivial, wpAny_of_wAny ro hd fuel _ _ j1 j2 hK G _ w (hr.putO hdo this) Q hQ⟩
      | e1 gr g2 hf hp =>
        have := effect (hp env (fun _ _ => rfl) j2 g2.1 g2.2)
        split
        · rename_i hw
          rw [if_pos hw] at this
          refine this.toIn ?_
          rintro a' w' ⟨e', s', G', ⟨rfl, rfl⟩, h2, h3⟩
          exact wpAny_of_wAny ro hd fuel _ _ _ _ hK G' a' w' h3 Q fun G'' e' b1 b2 a'' w'' hg hk hr => hQ G'' e' b1 b2 a'' w'' (h2.trans hg) hk hr
        · rename_i hw
          rw [if_neg hw] at this
          obtain ⟨env', σ', ⟨rfl, rfl⟩, h3⟩ := this
          exact ⟨fun _ _ => trivial, wpAny_of_wAny ro hd fuel _ _ _ _ hK G _ w h3 Q hQ⟩
      | e2 gr g1 hf hp =>
        have := effect (hp env (fun _ _ => rfl) j1 g1.1 g1.2)
        split
        · rename_i hw
          rw [if_pos hw] at this
          refine this.toIn ?_
          rintro a' w' ⟨e', s', G', ⟨rfl, rfl⟩, h2, h3⟩
          exact wpAny_of_wAny ro hd fuel _ _ _ _ hK G' a' w' h3 Q fun G'' e' b1 b2 a'' w'' hg hk hr => hQ G'' e' b1 b2 a'' w'' (h2.trans hg) hk hr
        · rename_i hw
          rw [if_neg hw] at this
          obtain ⟨env', σ', ⟨rfl, rfl⟩, h3⟩ := this
          exact ⟨fun _ _ => trivial, wpAny_of_wAny ro hd fuel _ _ _ _ hK G _ w h3 Q hQ⟩

/-- A region that draws its order, with two chains of effects: the stores on the way are S a b. -/
theorem AWP.drawW {id : Nat} {l : List Oper} {K : Exit → Env → Store → Prop} {env : Env} {σ : Store} (cls : Oper → Nat) (S : Nat → Nat → Store) (h0 : S 0 0 = σ)
    (hm : P.follows .mixedOrders = true) (hB : Region.lexB .any l.toArray = true) (hd : dstsOk n l.toArray = true) (hE : rngW .any l.toArray cls (fun c => loOf l (cOf cls c)) (fun c => hiOf l (cOf cls c)) (fun c => rankOf l (cOf cls c)) l.length 0 (Array.replicate l.length false) = true)
    (h : ∀ K' : Env → Nat → Nat → Prop, (∀ e j1 j2, K .normal e (S j1 j2) → K' e j1 j2) → WQ P n l.toArray S cls (fun c => loOf l (cOf cls c)) (fun c => hiOf l (cOf cls c)) (fun c => rankOf l (cOf cls c)) K' l 0 env 0 0) : AWP P n (.region id l.toArray true) K env σ := by
  subst h0
  intro G a w hr
  simp only [Region.lexB, Bool.and_eq_true] at hB
  refine wpIn_region_any hm ?_
  have := wAny_lex (md := .any) l 0 (Array.replicate l.toArray.size false) env 0 0 (by simp) (by simpa using hE) (by simpa using hB.2) (h (fun e j1 j2 => K .normal e (S j1 j2)) fun _ _ _ h => h)
  refine wpAny_of_wAny _ hd _ _ env 0 0 (by simpa using this) G a _ ⟨hr.size, hr.defers, hr.vals, hr.st.drew⟩ _ ?_
  intro G' env' b1 b2 a' w' hg hk hr'
  exact ⟨env', S b1 b2, G', hk, hg, hr'⟩

theorem WQ.nil {K : Env → Nat → Nat → Prop} {env : Env} {i j1 j2 : Nat} (h : K env j1 j2) : WQ P n ops S cls lo hi rank K [] i env j1 j2 := h
theorem WQ.q {K : Env → Nat → Nat → Prop} {env : Env} {i j1 j2 : Nat} {o : Oper} {rest : List Oper} {v v' : AV} {g : GG} {d : Nat} (he : cls o = 0) (hj : (decide (lo 1 i ≤ j1) && decide (j1 ≤ hi 1 i) && decide (lo 2 i ≤ j2) && decide (j2 ≤ hi 2 i) && decide (hi 1 i ≤ 2) && decide (hi 2 i ≤ 2)) = true) (hd : o.dst = some d) (hg : gOf ops env o = some g)
    (h : ∀ k1 k2, k1 ≤ 2 → k2 ≤ 2 → g.holds → PRun P o env (S k1 k2) v) (hv : g.wrap v = v') (hk : WQ P n ops S cls lo hi rank K rest (i + 1) (env.put d v') j1 j2) : WQ P n ops S cls lo hi rank K (o :: rest) i env j1 j2 := by
  subst hv
  simp only [Bool.and_eq_true, decide_eq_true_eq] at hj
  obtain ⟨⟨⟨⟨⟨a1, a2⟩, a3⟩, a4⟩, a5⟩, a6⟩ := hj
  refine ⟨g.wrap v, j1, j2, .q ⟨a1, a2⟩ ⟨a3, a4⟩ he fun k1 k2 h1 h2 => PStep.g hg (h k1 k2 (by omega) (by omega)), ?_⟩
  rw [hd]; exact hk
theorem WQ.e1 (B : Nat) {K : Env → Nat → Nat → Prop} {env : Env} {i j1 j2 : Nat} {o : Oper} {rest : List Oper} {v : AV} {d : Option Nat} (he : cls o = 1) (hj : (rank 1 i == j1 + 1 && decide (lo 2 i ≤ j2) && decide (j2 ≤ hi 2 i) && decide (hi 2 i ≤ B)) = true) (hd : o.dst = d)
    (h : ∀ env', (∀ x ∈ o.looksAt ops, env' x = env x) → ∀ k2, k2 ≤ B → EStep P n ops o (fun e s => e = env'.putO o.dst v ∧ s = S (j1 + 1) k2) env' (S j1 k2))
    (hk : WQ P n ops S cls lo hi rank K rest (i + 1) (env.putO d v) (j1 + 1) j2) : WQ P n ops S cls lo hi rank K (o :: rest) i env j1 j2 := by
  subst hd
  simp only [Bool.and_eq_true, decide_eq_true_eq, beq_iff_eq] at hj
  obtain ⟨⟨⟨a1, a2⟩, a3⟩, a4⟩ := hj
  exact ⟨v, j1 + 1, j2, .e1 a1 ⟨a2, a3⟩ he fun e1 h1 k2 _ g2 => h e1 h1 k2 (by omega), hk⟩
theorem WQ.e2 (A B : Nat) {K : Env → Nat → Nat → Prop} {env : Env} {i j1 j2 : Nat} {o : Oper} {rest : List Oper} {v : AV} {d : Option Nat} (he : cls o = 2) (hj : (rank 2 i == j2 + 1 && decide (lo 1 i ≤ j1) && decide (j1 ≤ hi 1 i) && decide (hi 1 i ≤ B) && decide (A ≤ lo 1 i)) = true) (hd : o.dst = d)
    (h : ∀ env', (∀ x ∈ o.looksAt ops, env' x = env x) → ∀ k1, A ≤ k1 → k1 ≤ B → EStep P n ops o (fun e s => e = env'.putO o.dst v ∧ s = S k1 (j2 + 1)) env' (S k1 j2))
    (hk : WQ P n ops S cls lo hi rank K rest (i + 1) (env.putO d v) j1 (j2 + 1)) : WQ P n ops S cls lo hi rank K (o :: rest) i env j1 j2 := by
  subst hd
  simp only [Bool.and_eq_true, decide_eq_true_eq, beq_iff_eq] at hj
  obtain ⟨⟨⟨⟨a1, a2⟩, a3⟩, a4⟩, a5⟩ := hj
  exact ⟨v, j1, j2 + 1, .e2 a1 ⟨a2, a3⟩ he fun e1 h1 k1 g1 g2 => h e1 h1 k1 (by omega) (by omega), hk⟩
end
/-- Appends in the first chain, allocations and stores in the second one. -/
def clsA (o : Oper) : Nat := match o.op with
  | .call { callee := .builtin .append, args := _, argTypes := _ } => 1
  | .store _ _ _ | .alloc _ => 2
  | _ => 0
/-- A growing array of the call's own, still empty. -/
theorem AWP.newOwn {P : Program} {n : Nat} {c : Code} {K : Exit → Env → Store → Prop} {env : Env} {σ : Store} (sz : Nat) (hk : AWP P n c K env (σ ++ [.own sz 0])) : AWP P n c K env σ := by
  intro G a w hr
  have hle : G.Le { G with B := G.B ++ [.own none 0 0] } := .upB (BLe.append _ _)
  refine wpIn_mono (hk { G with B := G.B ++ [GB.own none 0 0] } a w (hr.later hle (hr.st.ownNil sz))) ?_
  rintro x a' w' ⟨e, s, G', h1, h2, h3⟩
  exact ⟨e, s, G', h1, Gh.Le.trans hle h2, h3⟩
end Go.Ab
/- Contracts by content: the reference's With; the head of the laws. No statement is proved here. -/
namespace Go.Proofs.YtnmdmmfdnnmdfaaDoor
open Go.Ab
attribute [local irreducible] AWP AOps EStep AQ PStep PRun PCall TCall VCall

theorem stepsR {bars : List Bar} {l : List Note} (h : notesOk bars l = true) : (sortR bars l).1 = putsL (idxAL bars) l := by
  unfold sortR; rw [if_pos h]; exact sortN_puts (notesOk_in h) (notesOk_nodup h)
def lawN (a b c d e : Int) : Note := ⟨a, b, 5, 0, 0, ⟨c, 1⟩, ⟨1, 1⟩, ⟨d, 0, e⟩⟩
def exS : Score := ⟨1, [⟨5, ⟨4, 1⟩, 0⟩], [⟨1, 0, 0, 0, 1, ⟨0, 0⟩, ⟨0, 0, 3⟩, ⟨0, 0, 6⟩⟩, ⟨2, 0, 1, -1, 1, ⟨0, 0⟩, ⟨0, 0, 2⟩, ⟨0, 0, 5⟩⟩], [lawN 8 1 0 0 4, lawN 7 1 1 2 4]⟩
def exS2 : Score := ⟨2, exS.bars, exS.parts, exS.notes⟩
/-- With, by the insertion. -/
def withX (s : Score) (v : Int) (l : List Note) : Score × Int :=
  if (!scoreX s || !inB v 1 1000000) || !notesOk s.bars l then (noScore, 1) else if wrongR s.parts l != 0 then (noScore, wrongR s.parts l) else (⟨v, s.bars, s.parts, putsL (idxAL s.bars) l⟩, 0)
theorem withX_eq (s : Score) (v : Int) (l : List Note) : withR s v l = withX s v l := by
  unfold withR withX
  rw [scoreOk_eq]
  split
  · rfl
  · rename_i h
    simp only [Bool.or_eq_true, not_or, Bool.not_eq_true, Bool.not_eq_false'] at h
    rw [stepsR h.2]
theorem ex_ok : scoreOk exS = true := by rw [scoreOk_eq]; decide +kernel
theorem ex_plays : playsR exS 2 = ([lawN 8 2 0 0 3, lawN 7 2 1 2 3], 0) := by unfold playsR; rw [ex_ok]; decide +kernel
theorem ex_plays3 : playsR exS 3 = ([], 22) := by unfold playsR; rw [ex_ok]; decide +kernel
theorem ex_with1 : withR exS 2 (exS.notes ++ [lawN 9 2 2 6 2]) = (noScore, 22) := by rw [withX_eq]; decide +kernel
theorem ex_with2 : withR exS 2 (exS.notes ++ [lawN 9 1 2 6 2]) = (noScore, 20) := by rw [withX_eq]; decide +kernel
theorem ex_with3 : withR exS 2 [lawN 7 1 1 2 4, lawN 8 1 0 0 4] = (exS2, 0) := by rw [withX_eq]; decide +kernel
theorem ex_note : noteR exS 7 = (1, true, 0) := by unfold noteR askedB; rw [ex_ok]; decide +kernel
theorem ex_part : partR exS 3 = (0, false, 0) := by unfold partR askedB; rw [ex_ok]; decide +kernel
theorem no_plays : playsR noScore 1 = ([], 1) := by unfold playsR; rw [scoreOk_eq]; decide +kernel
theorem ex_ok2 : scoreOk exS2 = true := by rw [scoreOk_eq]; decide +kernel
abbrev zS : List AV := [.int 0, .nils, .nils, .nils]
abbrev copyS (s : Store) (r : List AV) (a b : Nat) : Nat → Nat → Store := fun j1 j2 => s ++ [.own 12 (match j1 with | 0 => 0 | 1 => a | _ => b)] ++ (match j2 with | 0 => [] | 1 => [.var zS] | _ => [.var r])
end Go.Proofs.YtnmdmmfdnnmdfaaDoor
/- The law ScoreMatchesReference by content. -/
namespace Go.Proofs.YtnmdmmfdnnmdfaaDoor
open Go.Ab
attribute [local irreducible] AWP AOps EStep AQ PStep PRun PCall TCall VCall

theorem withR_small (s : Score) (hs : s.Small) (v : Int) (l : List Note) (hl : l.length ≤ 1000000000) : (withR s v l).1.Small := by
  obtain ⟨h1, h2, h3⟩ := hs
  unfold withR
  split
  · exact ⟨Nat.zero_le _, Nat.zero_le _, Nat.zero_le _⟩
  · split
    · exact ⟨Nat.zero_le _, Nat.zero_le _, Nat.zero_le _⟩
    · have := sortR_len s.bars l
      exact ⟨h1, h2, by show (sortR s.bars l).1.length ≤ _; omega⟩
theorem playsR_len (s : Score) (id : Int) : (playsR s id).1.length ≤ s.notes.length := by
  unfold playsR
  split
  · split
    · exact played_len _ _
    · simp
  · simp
end Go.Proofs.YtnmdmmfdnnmdfaaDoor
/- Scores with other notes, in plain words. No statement is proved here. -/
namespace Go.Proofs.YtnmdmmfdnnmdfaaDoor
open Go.Ab Go.Sort

theorem findI_ex {α : Type} [Inhabited α] {p : α → Bool} {l : List α} : findI p l ≥ 0 ↔ ∃ x ∈ l, p x = true := by
  constructor
  · intro h
    obtain ⟨k, _, h2, h3, _⟩ := findI_lt h
    exact ⟨_, by rw [getD_lt h2]; exact List.getElem_mem h2, h3⟩
  · rintro ⟨x, hx, hp⟩
    rcases (show findI p l ≥ 0 ∨ findI p l < 0 by omega) with h | h
    · exact h
    · exfalso
      have h2 := findI_neg.1 h
      unfold findI at h2
      split at h2
      · omega
      · rename_i h3
        rw [List.findIdx?_eq_none_iff] at h3
        rw [h3 x hx] at hp; cases hp
theorem notesOk_perm {bars : List Bar} {l m : List Note} (h : l.Perm m) : notesOk bars l = notesOk bars m := by
  unfold notesOk
  have h1 : l.all (noteOk bars) = m.all (noteOk bars) := by
    rw [Bool.eq_iff_iff, List.all_eq_true, List.all_eq_true]
    exact ⟨fun g x hx => g x (h.mem_iff.2 hx), fun g x hx => g x (h.mem_iff.1 hx)⟩
  have h2 : ((l.map (·.id)).Nodup) ↔ ((m.map (·.id)).Nodup) := (h.map _).nodup_iff
  rw [h1, h.length_eq, decide_eq_decide.2 h2]
theorem wrongR_perm {parts : List Part} {l m : List Note} (h : l.Perm m) : wrongR parts l = wrongR parts m := by
  have e : ∀ p : Note → Bool, (findI p l ≥ 0) ↔ (findI p m ≥ 0) := fun p => by
    rw [findI_ex, findI_ex]
    exact ⟨fun ⟨x, h1, h2⟩ => ⟨x, h.mem_iff.1 h1, h2⟩, fun ⟨x, h1, h2⟩ => ⟨x, h.mem_iff.2 h1, h2⟩⟩
  unfold wrongR
  by_cases h1 : findI (stranger (ownAL parts)) l ≥ 0
  · rw [if_pos h1, if_pos ((e _).1 h1)]
  · rw [if_neg h1, if_neg (fun g => h1 ((e _).2 g))]
    by_cases h2 : findI (farN (ownAL parts)) l ≥ 0
    · rw [if_pos h2, if_pos ((e _).1 h2)]
    · rw [if_neg h2, if_neg (fun g => h2 ((e _).2 g))]
theorem sortN_same {bars : List Bar} {l m : List Note} (h : l.Perm m) (hl : notesOk bars l = true) : sortN (idxAL bars) l = sortN (idxAL bars) m := by
  have hm : notesOk bars m = true := by rw [← notesOk_perm h]; exact hl
  exact ord_unique ((sortN_perm _ l).trans (h.trans (sortN_perm _ m).symm)) (sortN_ord (notesOk_in hl) (notesOk_nodup hl)) (sortN_ord (notesOk_in hm) (notesOk_nodup hm))
theorem sortR_ok {bars : List Bar} {l : List Note} (h : notesOk bars l = true) : (sortR bars l).1 = sortN (idxAL bars) l := by unfold sortR; rw [if_pos h]
theorem score_facts {s : Score} (h : scoreOk s = true) : inB s.version 1 1000000 = true ∧ barsOk s.bars = true ∧ partsOk s.parts = true ∧ notesOk s.bars s.notes = true ∧ wrongR s.parts s.notes = 0 ∧ sortN (idxAL s.bars) s.notes = s.notes := by
  have h0 := h
  unfold scoreOk scoreBad at h
  simp only [Bool.and_eq_true, Bool.not_eq_true', Bool.or_eq_false_iff, Bool.not_eq_false', bne_eq_false_iff_eq, beq_iff_eq] at h
  exact ⟨h.1.1.1.1.1, h.1.1.1.1.2, h.1.1.1.2, h.1.1.2, h.1.2, by rw [← sortR_ok h.1.1.2]; exact h.2.2⟩
theorem score_ord {s : Score} (h : scoreOk s = true) : s.notes.Pairwise fun a b => bef (idxAL s.bars) a b = true := by
  obtain ⟨_, _, _, h4, _, h6⟩ := score_facts h
  rw [← h6]; exact sortN_ord (notesOk_in h4) (notesOk_nodup h4)
theorem with_rev {s : Score} (h : scoreOk s = true) {v : Int} (hv : inB v 1 1000000 = true) : withR s v s.notes.reverse = (⟨v, s.bars, s.parts, s.notes⟩, 0) := by
  obtain ⟨_, _, _, h4, h5, h6⟩ := score_facts h
  have hp := List.reverse_perm s.notes
  have hn : notesOk s.bars s.notes.reverse = true := by rw [notesOk_perm hp]; exact h4
  unfold withR
  rw [h, hv, hn, wrongR_perm hp, h5, sortR_ok hn, sortN_same hp hn, h6]; rfl
theorem with_bad {s : Score} {v : Int} {l : List Note} (h : (withR s v l).2 ≠ 0) : (withR s v l).1 = noScore := by
  unfold withR at h ⊢
  split
  · rfl
  · split
    · rfl
    · rename_i h1 h2
      rw [if_neg h1, if_neg h2] at h
      exact absurd rfl h
/-- A score with other notes is valid. -/
theorem with_good {s : Score} {v : Int} {l : List Note} (h : (withR s v l).2 = 0) : scoreOk s = true ∧ inB v 1 1000000 = true ∧ notesOk s.bars l = true ∧ wrongR s.parts l = 0 ∧ withR s v l = (⟨v, s.bars, s.parts, sortN (idxAL s.bars) l⟩, 0) := by
  have h0 := h
  unfold withR at h
  split at h
  · cases h
  · rename_i h1
    simp only [Bool.or_eq_true, not_or, Bool.not_eq_true, Bool.not_eq_false'] at h1
    split at h
    · rename_i h2
      dsimp only at h
      rw [h] at h2; cases h2
    · rename_i h2
      have hw : wrongR s.parts l = 0 := by simpa using h2
      refine ⟨h1.1.1, h1.1.2, h1.2, hw, ?_⟩
      unfold withR
      rw [h1.1.1, h1.1.2, h1.2, hw, sortR_ok h1.2]; rfl
theorem sorted_valid {s : Score} {v : Int} {l : List Note} (hs : scoreOk s = true) (hv : inB v 1 1000000 = true) (hn : notesOk s.bars l = true) (hw : wrongR s.parts l = 0) : scoreOk ⟨v, s.bars, s.parts, sortN (idxAL s.bars) l⟩ = true := by
  obtain ⟨_, h2, h3, _, _, _⟩ := score_facts hs
  have hp := sortN_perm (idxAL s.bars) l
  have hn2 : notesOk s.bars (sortN (idxAL s.bars) l) = true := by rw [notesOk_perm hp]; exact hn
  have hw2 : wrongR s.parts (sortN (idxAL s.bars) l) = 0 := by rw [wrongR_perm hp]; exact hw
  rw [scoreOk_eq]
  unfold scoreX scoreBad
  dsimp only
  rw [hv, h2, h3, hn2, hw2, steps_ord.2 (sortN_ord (notesOk_in hn) (notesOk_nodup hn))]; rfl
theorem noteAt_perm {l m : List Note} (hp : m.Perm l) (hn : (l.map (·.id)).Nodup) {n : Note} (h : n ∈ l) : ∃ j : Nat, noteAt m n.id = j ∧ j < m.length ∧ m.getD j default = n := by
  have hn2 : (m.map (·.id)).Nodup := (hp.map _).nodup_iff.2 hn
  obtain ⟨j, hj, e⟩ := List.mem_iff_getElem.1 (hp.mem_iff.2 h)
  have e2 : m.getD j default = n := by rw [getD_lt hj]; exact e
  refine ⟨j, ?_, hj, e2⟩
  rw [← e2]
  unfold noteAt
  refine findI_at hj (by simp) fun i hi => ?_
  have : (m.getD i default).id ≠ (m.getD j default).id := fun e => by
    have := nodup_at (fun b : Note => b.id) hn2 (show i < m.length by omega) hj e
    omega
  simpa using this
/-- Notes of all parts with their own notes. -/
def manyL (notes : List Note) (l : List Part) : Nat := (l.map fun p => if p.of_ == 0 then (playedL notes p).length else 0).sum
theorem manyL_succ (notes : List Note) {l : List Part} {k : Nat} (h : k < l.length) : manyL notes (l.take (k + 1)) = manyL notes (l.take k) + (if (l.getD k default).of_ == 0 then (playedL notes (l.getD k default)).length else 0) := by
  rw [take_snoc h]; unfold manyL; simp
theorem played_cons (n : Note) (ns : List Note) (p : Part) : (playedL (n :: ns) p).length = (if n.part == srcOf p then 1 else 0) + (playedL ns p).length := by
  unfold playedL
  rw [List.length_map, List.length_map]
  by_cases h : (n.part == srcOf p) = true
  · rw [List.filter_cons_of_pos (by exact h), if_pos h, List.length_cons]; omega
  · rw [List.filter_cons_of_neg (by exact h), if_neg h]; omega
theorem many_one {n : Note} : ∀ {l : List Part}, (l.map (·.id)).Nodup → (∃ p ∈ l, p.of_ = 0 ∧ p.id = n.part) → (l.map fun p => if p.of_ == 0 then (if n.part == srcOf p then 1 else 0) else 0).sum = 1
  | [], _, ⟨p, hp, _⟩ => by cases hp
  | q :: r, hn, ⟨p, hp, h0, hid⟩ => by
    rw [List.map_cons, List.nodup_cons] at hn
    rw [List.map_cons, List.sum_cons]
    have none_of : ∀ (l : List Part), (∀ x ∈ l, x.of_ = 0 → x.id ≠ n.part) → (l.map fun p => if p.of_ == 0 then (if n.part == srcOf p then 1 else 0) else 0).sum = 0 := fun l => by
      induction l with
      | nil => intro _; rfl
      | cons a l ih =>
        intro h
        rw [List.map_cons, List.sum_cons, ih fun x hx => h x (List.mem_cons_of_mem _ hx)]
        by_cases ha : a.of_ = 0
        · have := h a (List.mem_cons_self ..) ha
          have e : srcOf a = a.id := by unfold srcOf; rw [if_pos (by simp [ha])]
          simp [ha, e]; exact fun e => this e.symm
        · simp [ha]
    rcases List.mem_cons.1 hp with rfl | hp
    · have e : srcOf p = p.id := by unfold srcOf; rw [if_pos (by simp [h0])]
      rw [none_of r fun x hx _ e2 => hn.1 (List.mem_map.2 ⟨x, hx, by rw [e2, hid]⟩)]
      simp [h0, e, hid]
    · rw [many_one hn.2 ⟨p, hp, h0, hid⟩]
      have : ¬ (q.id = n.part) := fun e => hn.1 (List.mem_map.2 ⟨p, hp, by rw [hid, e]⟩)
      by_cases hq : q.of_ = 0
      · have e : srcOf q = q.id := by unfold srcOf; rw [if_pos (by simp [hq])]
        simp [hq, e]; exact fun e => this e.symm
      · simp [hq]
theorem many_all {l : List Part} (hn : (l.map (·.id)).Nodup) : ∀ {ns : List Note}, (∀ n ∈ ns, ∃ p ∈ l, p.of_ = 0 ∧ p.id = n.part) → manyL ns l = ns.length
  | [], _ => by
    unfold manyL
    have : (l.map fun p : Part => if p.of_ == 0 then (playedL [] p).length else 0) = l.map fun _ => 0 := List.map_congr_left fun p _ => by simp [playedL]
    rw [this]
    have z : ∀ q : List Part, (q.map fun _ => 0).sum = 0 := fun q => by
      induction q with
      | nil => rfl
      | cons a q ih => rw [List.map_cons, List.sum_cons, ih]
    exact z l
  | n :: ns, h => by
    have ih := many_all hn (ns := ns) fun x hx => h x (List.mem_cons_of_mem _ hx)
    have h1 := many_one hn (h n (List.mem_cons_self ..))
    unfold manyL at ih ⊢
    have : ∀ (q : List Part), (q.map fun p => if p.of_ == 0 then (playedL (n :: ns) p).length else 0).sum = (q.map fun p => if p.of_ == 0 then (if n.part == srcOf p then 1 else 0) else 0).sum + (q.map fun p => if p.of_ == 0 then (playedL ns p).length else 0).sum := fun q => by
      induction q with
      | nil => rfl
      | cons a q ih2 =>
        rw [List.map_cons, List.sum_cons, List.map_cons, List.sum_cons, List.map_cons, List.sum_cons, ih2, played_cons]
        by_cases ha : (a.of_ == 0) = true
        · simp only [if_pos ha]; omega
        · simp only [if_neg ha]; omega
    rw [this, h1, ih, List.length_cons]; omega
theorem score_own {s : Score} (h : scoreOk s = true) : ∀ n ∈ s.notes, ∃ p ∈ s.parts, p.of_ = 0 ∧ p.id = n.part := fun n hn => by
  obtain ⟨_, _, h3, _, h5, _⟩ := score_facts h
  have hs : ¬ findI (stranger (ownAL s.parts)) s.notes ≥ 0 := fun g => by
    unfold wrongR at h5; rw [if_pos g] at h5; cases h5
  rcases own_lk (partsOk_nodup h3) n with ⟨h1, _⟩ | ⟨j, _, _, _, h2, h4, h6⟩
  · exfalso
    refine hs (findI_ex.2 ⟨n, hn, ?_⟩)
    unfold stranger; rw [h1]; rfl
  · exact ⟨_, by rw [getD_lt h2]; exact List.getElem_mem h2, h6, h4⟩
/-- The notes of a part in a score with a further note: the same, if it is another part's. -/
theorem further_other {al : List (Int × Int)} {l T : List Note} {n : Note} {p : Part} (hT : T.Perm (l ++ [n])) (hl : l.Pairwise fun a b => bef al a b = true) (ho : T.Pairwise fun a b => bef al a b = true) (h : n.part ≠ srcOf p) : playedL l p = playedL T p := by
  unfold playedL
  congr 1
  refine ord_unique (al := al) ?_ (hl.filter _) (ho.filter _)
  refine ((hT.filter _).trans ?_).symm
  rw [List.filter_append, List.filter_cons_of_neg (by simpa using h)]
  simp
/-- .. and else the same with the note in between. -/
theorem further_own {al : List (Int × Int)} {l T : List Note} {n : Note} {p : Part} (hT : T.Perm (l ++ [n])) (hl : l.Pairwise fun a b => bef al a b = true) (ho : T.Pairwise fun a b => bef al a b = true) (hn : ((l ++ [n]).map (·.id)).Nodup) (h : n.part = srcOf p) :
    ∃ k : Nat, noteAt (playedL T p) n.id = k ∧ k < (playedL T p).length ∧ (playedL T p).length = (playedL l p).length + 1 ∧ (playedL T p).take k ++ (playedL T p).drop (k + 1) = playedL l p ∧ (playedL T p).getD k default = playN p n := by
  have hf : (T.filter fun x => x.part == srcOf p).Perm ((l.filter fun x => x.part == srcOf p) ++ [n]) := by
    refine (hT.filter _).trans ?_
    rw [List.filter_append, List.filter_cons_of_pos (by simp [h])]; simp
  have hnF : (((l.filter fun x => x.part == srcOf p) ++ [n]).map (·.id)).Nodup := by
    refine hn.sublist (List.Sublist.map _ ?_)
    exact List.Sublist.append List.filter_sublist (List.Sublist.refl _)
  obtain ⟨k, h1, h2, h3⟩ := noteAt_perm hf hnF (n := n) (by simp)
  have hF : (T.filter fun x => x.part == srcOf p).take k ++ (T.filter fun x => x.part == srcOf p).drop (k + 1) = l.filter fun x => x.part == srcOf p := by
    have e : T.filter (fun x => x.part == srcOf p) = (T.filter fun x => x.part == srcOf p).take k ++ (n :: (T.filter fun x => x.part == srcOf p).drop (k + 1)) := by
      rw [← h3, getD_lt h2, ← List.drop_eq_getElem_cons h2, List.take_append_drop]
    have hp2 : ((T.filter fun x => x.part == srcOf p).take k ++ (T.filter fun x => x.part == srcOf p).drop (k + 1)).Perm (l.filter fun x => x.part == srcOf p) := by
      have h5 := hf
      rw [e] at h5
      have h6 := List.perm_middle.symm.trans (h5.trans (List.perm_append_singleton n _))
      exact List.Perm.cons_inv h6
    refine ord_unique (al := al) hp2 ?_ (hl.filter _)
    have h7 := ho.filter (fun x => x.part == srcOf p)
    refine List.Pairwise.sublist ?_ h7
    conv => rhs; rw [e]
    exact List.Sublist.append (List.Sublist.refl _) (List.sublist_cons_self _ _)
  have hnoteAt : noteAt (playedL T p) n.id = noteAt (T.filter fun x => x.part == srcOf p) n.id := by
    unfold noteAt findI playedL
    rw [List.findIdx?_map]; rfl
  have hlen : (playedL T p).length = (T.filter fun x => x.part == srcOf p).length := by unfold playedL; simp
  refine ⟨k, hnoteAt.trans h1, by omega, ?_, ?_, ?_⟩
  · rw [hlen, hf.length_eq]; unfold playedL; simp
  · unfold playedL
    rw [← List.map_take, ← List.map_drop, ← List.map_append, hF]
  · unfold playedL
    rw [getD_lt (by simpa using h2), List.getElem_map]
    rw [getD_lt h2] at h3; rw [h3]
end Go.Proofs.YtnmdmmfdnnmdfaaDoor
/- The law NotesOrder by content. -/
namespace Go.Proofs.YtnmdmmfdnnmdfaaDoor.Nt
open Go.Ab Go.Sort
attribute [local irreducible] AWP AOps EStep AQ PStep PRun PCall TCall VCall

abbrev evNo (n : Note) : AV := .agg (encN n)
/-- The notes by their IDs. -/
def idAL (l : List Note) : List (Int × Note) := l.foldl (fun al n => ins al n.id n) []
theorem idAL_succ {l : List Note} {k : Nat} (h : k < l.length) : idAL (l.take (k + 1)) = ins (idAL (l.take k)) (l.getD k default).id (l.getD k default) := by
  rw [take_snoc' h]; unfold idAL; rw [List.foldl_append]; rfl
theorem lk_id {l : List Note} (hn : (l.map (·.id)).Nodup) : ∀ k, k ≤ l.length → ∀ j, j < k → lk (idAL (l.take k)) (l.getD j default).id = some (l.getD j default)
  | 0, _, j, h => absurd h (by omega)
  | k + 1, hk, j, hj => by
    rw [idAL_succ (by omega), lk_ins']
    by_cases h : j = k
    · subst h; rw [if_pos rfl]
    · rw [if_neg fun e => h (nodup_at (fun n : Note => n.id) hn (show j < l.length by omega) (show k < l.length by omega) e.symm)]
      exact lk_id hn k (by omega) j (by omega)
theorem lk_mem {l : List Note} (hn : (l.map (·.id)).Nodup) {n : Note} (h : n ∈ l) : lk (idAL l) n.id = some n := by
  obtain ⟨j, hj, rfl⟩ := List.mem_iff_getElem.1 h
  have := lk_id hn l.length (Nat.le_refl _) j hj
  rw [List.take_length, getD_lt hj] at this
  exact this
def zN : Note := ⟨0, 0, 0, 0, 0, ⟨0, 0⟩, ⟨0, 0⟩, ⟨0, 0, 0⟩⟩
theorem swap_perm {α : Type} [Inhabited α] {l : List α} {i j : Nat} (hi : i < l.length) (hj : j < l.length) : ((l.set i (l.getD j default)).set j (l.getD i default)).Perm l := by
  rw [getD_lt hi, getD_lt hj]
  exact List.set_set_perm hi hj
set_option maxHeartbeats 16000000 in
set_option maxRecDepth 40000 in
theorem order_law (bars : List Bar) (hb : bars.length ≤ 9223372036854775807) (l : List Note) (hl : l.length ≤ 9223372036854775807) (by_ : List UInt8) (hy : by_.length ≤ 9223372036854775807) :
    PCall Tryd.prog 5 [.sl 4 (bars.map encB) .no, .sl 12 (l.map encN) .no, .sl 1 (by_.map by8) .no] (.b true) := by
  have hh := head_spec
  have hu := usable7_spec bars l hb hl
  by_cases hg0 : ((decide ((bars.length : Int) ≤ 60) && decide ((l.length : Int) ≤ 60)) && notesOk bars l) = true ∧ by_.length ≤ 100
  · obtain ⟨hg, hy100⟩ := hg0
    obtain ⟨hb60, hl60, hn⟩ := usable_iff hg
    rw [hg] at hu
    obtain ⟨hbo, hno⟩ := notesOk_bars hn
    have hnd := notesOk_nodup hn
    have hp := sortN_perm (idxAL bars) l
    have hsl := hp.length_eq
    have c1 := Sort_spec bars l (by omega) (by omega)
    rw [show sortR bars l = (sortN (idxAL bars) l, 0) from by unfold sortR; rw [if_pos hn]] at c1
    have hnS : notesOk bars (sortN (idxAL bars) l) = true := by rw [notesOk_perm hp]; exact hn
    have c3 := Sort_spec bars (sortN (idxAL bars) l) (by omega) (by omega)
    rw [show sortR bars (sortN (idxAL bars) l) = (sortN (idxAL bars) l, 0) from by
      unfold sortR; rw [if_pos hnS, sortN_same hp hnS]] at c3
    have cs := sameN_spec (sortN (idxAL bars) l) (sortN (idxAL bars) l) (by omega) (by omega)
    rw [beq_self_eq_true] at cs
    have c2 : ∀ cur : List Note, cur.Perm l → PCall Tryd.prog 17 [.sl 4 (bars.map encB) .no, .sl 12 (cur.map encN) .no] (.tup [.sl 12 ((sortN (idxAL bars) l).map encN) .no, .int 0]) := fun cur hc => by
      have hcn : notesOk bars cur = true := by rw [notesOk_perm hc]; exact hn
      have hcl := hc.length_eq
      have := Sort_spec bars cur (by omega) (by omega)
      rwa [show sortR bars cur = (sortN (idxAL bars) l, 0) from by unfold sortR; rw [if_pos hcn, sortN_same hc hcn]] at this
    have hord := sortN_ord (al := idxAL bars) (notesOk_in hn) hnd
    have hSm : ∀ i, i < (sortN (idxAL bars) l).length → lk (idAL l) ((sortN (idxAL bars) l).getD i default).id = some ((sortN (idxAL bars) l).getD i default) ∧ noteOk bars ((sortN (idxAL bars) l).getD i default) = true := fun i hi => by
      have hm := hp.mem_iff.1 (getD_mem hi)
      exact ⟨lk_mem hnd hm, hno _ hm⟩
    have hbf : ∀ i, i + 1 < (sortN (idxAL bars) l).length → bef (idxAL bars) ((sortN (idxAL bars) l).getD i default) ((sortN (idxAL bars) l).getD (i + 1) default) = true := fun i hi => by
      rw [getD_lt (by omega), getD_lt hi]
      exact List.pairwise_iff_getElem.1 hord i (i + 1) (by omega) hi (by omega)
    generalize sortN (idxAL bars) l = S at *
    dsimp only at c1 c3
    clear hord hp hnS hn hg
    have hll : (l.map encN).length = l.length := by simp
    refine PCall.body Tryd.func5 rfl rfl Tryd.ntmps5 rfl rfl ?_
    repeat' (first | refine AOps.q rfl rfl rfl (fun hg => by first | exact PRun.buildSl0 tabOk rfl rfl | exact std0 | exact PRun.callW (hh) rfl rfl nd rfl nds | exact PRun.callW (hu) rfl rfl nd rfl nds | exact std1) (by exact rfl) ?_ | refine AWP.seq ?_ | refine AWP.regionK (fun K' hK => ?_) | (refine AOps.nil (hK _ _ ?_); clear hK K') | refine AOps.e (EStep.boxW rfl rfl rfl rfl rfl True.intro rfl rfl ?_) | refine AOps.e (EStep.storeW tabOk rfl rfl rfl True.intro rfl rfl True.intro rfl rfl rfl rfl rfl rfl rfl ?_) | refine AOps.e (EStep.allocW tabOk rfl rfl rfl rfl rfl rfl ?_) | refine AOps.e (EStep.appendArrF tabOk rfl rfl rfl rfl (Rd.w rfl True.intro) (Rd.w rfl True.intro) (.sl rfl (one_encN _)) (LOk.of (tabOk.get rfl)) (LOk.of (tabOk.get rfl)) rfl rfl (by simp only [hll]; omega) (by omega) ?_) | (refine AWP.condW rfl True.intro (fun hc => ?_) (fun hc => ?_) <;> (first | (simp only [decide_eq_true_eq] at hc) | (simp only [decide_eq_false_iff_not, Int.not_lt, Int.not_le] at hc) | skip)) | refine AWP.block ?_ | refine AWP.exit ?_ | refine AWP.skip ?_ | refine AWP.ret ?_ | (refine AQ.nil (hK _ ?_); clear hK K') | refine AQ.nil ?_ | refine AQ.q rfl rfl (fun hg => by first | exact PRun.buildSl0 tabOk rfl rfl | exact std0 | exact PRun.callW (hh) rfl rfl nd rfl nds | exact PRun.callW (hu) rfl rfl nd rfl nds | exact std1) (by exact rfl) ?_)
    all_goals (first | (exfalso; simp at hc; done) | (exfalso; simp at hc; omega) | skip)
    refine AWP.loopD (ι := Nat × List Note) (fun x => [(0, .sl 4 (bars.map encB) .no), (1, .sl 12 (l.map encN) .no), (7, .b true), (8, .sla 0 12 0 l.length 0), (40, .sl 1 (by_.map by8) .no), (41, .int by_.length), (42, .int x.1)]) (fun x => [.arr 12 0 (x.2.map encN)])
      (fun x => x.1 ≤ by_.length ∧ x.2.Perm l) (fun x => by_.length - x.1) 1 (fun _ => rfl) (0, l) ⟨Nat.zero_le _, List.Perm.refl _⟩ ⟨rfl, rfl, rfl, (by show AV.sla 0 12 0 (l.map encN).length 0 = _; rw [hll]), rfl, rfl, rfl, True.intro⟩ rfl (fun _ _ => rfl) (fun x _ => by simp [okObj, encN, okRef]) ?_
    rintro ⟨k, cur⟩ ⟨hk, hcp⟩
    dsimp only at hk hcp
    have hcl := hcp.length_eq
    by_cases hlt : k < by_.length
    · obtain ⟨c, hck⟩ : ∃ c, by_.getD k default = c := ⟨_, rfl⟩
      by_cases hl0 : 0 < l.length
      · have hlz : ((l.length : Nat) : Int) ≠ 0 := by omega
        obtain ⟨i, hi⟩ : ∃ i : Nat, k % l.length = i := ⟨_, rfl⟩
        obtain ⟨j, hj⟩ : ∃ j : Nat, c.toNat % l.length = j := ⟨_, rfl⟩
        have hil : i < l.length := by rw [← hi]; exact Nat.mod_lt _ hl0
        have hjl : j < l.length := by rw [← hj]; exact Nat.mod_lt _ hl0
        have r1 : Int.tmod ((k : Nat) : Int) (l.length : Nat) = ((i : Nat) : Int) := by rw [← hi]; exact (Int.ofNat_tmod k l.length).symm
        have r2 : Int.tmod ((c.toNat : Nat) : Int) (l.length : Nat) = ((j : Nat) : Int) := by rw [← hj]; exact (Int.ofNat_tmod c.toNat l.length).symm
        have hc8 := c.toNat_lt
        have ein : ((i : Nat) : Int).toNat = i := Int.toNat_natCast i
        have ejn : ((j : Nat) : Int).toNat = j := Int.toNat_natCast j
        repeat' (first | refine AOps.q rfl rfl rfl (fun hg => by first | exact PRun.convV tabOk (wrap64 ⟨by omega, by omega⟩) rfl rfl nd rfl rfl | exact PRun.remV r2 hlz rfl rfl nd rfl nd | exact PRun.remV r1 hlz rfl rfl nd rfl nd | exact PRun.eq (v := .iptr (by8 (by_.getD ((k : Nat) : Int).toNat default))) (PRun.indexMW tabOk rfl rfl nd rfl nd rfl rfl (by omega)) (congrArg (fun x => AV.iptr (by8 x)) hck) | exact std0 | exact std1) (by exact rfl) ?_ | refine AWP.seq ?_ | refine AWP.regionK (fun K' hK => ?_) | (refine AOps.nil (hK _ _ ?_); clear hK K') | refine AOps.e (EStep.boxW rfl rfl rfl rfl rfl True.intro rfl rfl ?_) | refine AOps.e (EStep.storeW tabOk rfl rfl rfl True.intro rfl rfl True.intro rfl rfl rfl rfl rfl rfl rfl ?_) | refine AOps.e (EStep.allocW tabOk rfl rfl rfl rfl rfl rfl ?_) | (refine AWP.condW rfl True.intro (fun hc => ?_) (fun hc => ?_) <;> (first | (simp only [decide_eq_true_eq] at hc) | (simp only [decide_eq_false_iff_not, Int.not_lt, Int.not_le] at hc) | skip)) | refine AWP.block ?_ | refine AWP.exit ?_ | refine AWP.skip ?_ | refine AWP.ret ?_ | refine AWP.drawK2 (by decide +kernel) (by kernel_rfl) (by decide +kernel) rfl (fun K' hK => ?_) | refine AWP.drawL2 (by kernel_rfl) (by decide +kernel) rfl (fun K' hK => ?_) | (refine AQ.nil (hK _ ?_); clear hK K') | refine AQ.nil ?_ | refine AQ.q rfl rfl (fun hg => by first | exact PRun.convV tabOk (wrap64 ⟨by omega, by omega⟩) rfl rfl nd rfl rfl | exact PRun.remV r2 hlz rfl rfl nd rfl nd | exact PRun.remV r1 hlz rfl rfl nd rfl nd | exact PRun.eq (v := .iptr (by8 (by_.getD ((k : Nat) : Int).toNat default))) (PRun.indexMW tabOk rfl rfl nd rfl nd rfl rfl (by omega)) (congrArg (fun x => AV.iptr (by8 x)) hck) | exact std0 | exact std1) (by exact rfl) ?_)
        all_goals (first | (exfalso; omega) | (exfalso; simp at hc; omega) | skip)
        refine AWP.drawY (fun q => match q with | 0 => [.arr 12 0 (cur.map encN)] | 1 => [.arr 12 0 ((cur.map encN).set ((i : Nat) : Int).toNat (encN (cur.getD ((j : Nat) : Int).toNat default)))] | _ => [.arr 12 0 (((cur.map encN).set ((i : Nat) : Int).toNat (encN (cur.getD ((j : Nat) : Int).toNat default))).set ((j : Nat) : Int).toNat (encN (cur.getD ((i : Nat) : Int).toNat default)))]) rfl (by kernel_rfl) (by decide +kernel) rfl (by decide +kernel) (fun K' hK => ?_)
        repeat' (first
          | refine YQ.q (a := 0) (b := 0) rfl (by decide +kernel) (by decide +kernel) rfl rfl rfl (fun k h1 h2 hg => by (have hk : k = 0 := (by omega)); (rcases hk with rfl) <;> (first | exact std0 | exact PRun.indexA0 tabOk rfl rfl nd rfl nd rfl (by decide) rfl ⟨Int.natCast_nonneg _, Int.ofNat_lt.2 hjl⟩ | exact PRun.indexA0 tabOk rfl rfl nd rfl nd rfl (by decide) rfl ⟨Int.natCast_nonneg _, Int.ofNat_lt.2 hil⟩ | exact PRun.loadEM (f := encN) (xs := cur) tabOk rfl rfl nd rfl (by rw [ejn]; omega) rfl rfl | exact PRun.loadEM (f := encN) (xs := cur) tabOk rfl rfl nd rfl (by rw [ein]; omega) rfl rfl | exact std1)) (by exact rfl) ?_
          | refine YQ.q (a := 0) (b := 1) rfl (by decide +kernel) (by decide +kernel) rfl rfl rfl (fun k h1 h2 hg => by (have hk : k = 0 ∨ k = 1 := (by omega)); (rcases hk with rfl | rfl) <;> (first | exact std0 | exact PRun.indexA0 tabOk rfl rfl nd rfl nd rfl (by decide) rfl ⟨Int.natCast_nonneg _, Int.ofNat_lt.2 hjl⟩ | exact PRun.indexA0 tabOk rfl rfl nd rfl nd rfl (by decide) rfl ⟨Int.natCast_nonneg _, Int.ofNat_lt.2 hil⟩ | exact PRun.loadEM (f := encN) (xs := cur) tabOk rfl rfl nd rfl (by rw [ejn]; omega) rfl rfl | exact PRun.loadEM (f := encN) (xs := cur) tabOk rfl rfl nd rfl (by rw [ein]; omega) rfl rfl | exact std1)) (by exact rfl) ?_
          | refine YQ.q (a := 1) (b := 1) rfl (by decide +kernel) (by decide +kernel) rfl rfl rfl (fun k h1 h2 hg => by (have hk : k = 1 := (by omega)); (rcases hk with rfl) <;> (first | exact std0 | exact PRun.indexA0 tabOk rfl rfl nd rfl nd rfl (by decide) rfl ⟨Int.natCast_nonneg _, Int.ofNat_lt.2 hjl⟩ | exact PRun.indexA0 tabOk rfl rfl nd rfl nd rfl (by decide) rfl ⟨Int.natCast_nonneg _, Int.ofNat_lt.2 hil⟩ | exact PRun.loadEM (f := encN) (xs := cur) tabOk rfl rfl nd rfl (by rw [ejn]; omega) rfl rfl | exact PRun.loadEM (f := encN) (xs := cur) tabOk rfl rfl nd rfl (by rw [ein]; omega) rfl rfl | exact std1)) (by exact rfl) ?_
          | refine YQ.q (a := 0) (b := 2) rfl (by decide +kernel) (by decide +kernel) rfl rfl rfl (fun k h1 h2 hg => by (have hk : k = 0 ∨ k = 1 ∨ k = 2 := (by omega)); (rcases hk with rfl | rfl | rfl) <;> (first | exact std0 | exact PRun.indexA0 tabOk rfl rfl nd rfl nd rfl (by decide) rfl ⟨Int.natCast_nonneg _, Int.ofNat_lt.2 hjl⟩ | exact PRun.indexA0 tabOk rfl rfl nd rfl nd rfl (by decide) rfl ⟨Int.natCast_nonneg _, Int.ofNat_lt.2 hil⟩ | exact PRun.loadEM (f := encN) (xs := cur) tabOk rfl rfl nd rfl (by rw [ejn]; omega) rfl rfl | exact PRun.loadEM (f := encN) (xs := cur) tabOk rfl rfl nd rfl (by rw [ein]; omega) rfl rfl | exact std1)) (by exact rfl) ?_
          | refine YQ.q (a := 1) (b := 2) rfl (by decide +kernel) (by decide +kernel) rfl rfl rfl (fun k h1 h2 hg => by (have hk : k = 1 ∨ k = 2 := (by omega)); (rcases hk with rfl | rfl) <;> (first | exact std0 | exact PRun.indexA0 tabOk rfl rfl nd rfl nd rfl (by decide) rfl ⟨Int.natCast_nonneg _, Int.ofNat_lt.2 hjl⟩ | exact PRun.indexA0 tabOk rfl rfl nd rfl nd rfl (by decide) rfl ⟨Int.natCast_nonneg _, Int.ofNat_lt.2 hil⟩ | exact PRun.loadEM (f := encN) (xs := cur) tabOk rfl rfl nd rfl (by rw [ejn]; omega) rfl rfl | exact PRun.loadEM (f := encN) (xs := cur) tabOk rfl rfl nd rfl (by rw [ein]; omega) rfl rfl | exact std1)) (by exact rfl) ?_
          | refine YQ.q (a := 2) (b := 2) rfl (by decide +kernel) (by decide +kernel) rfl rfl rfl (fun k h1 h2 hg => by (have hk : k = 2 := (by omega)); (rcases hk with rfl) <;> (first | exact std0 | exact PRun.indexA0 tabOk rfl rfl nd rfl nd rfl (by decide) rfl ⟨Int.natCast_nonneg _, Int.ofNat_lt.2 hjl⟩ | exact PRun.indexA0 tabOk rfl rfl nd rfl nd rfl (by decide) rfl ⟨Int.natCast_nonneg _, Int.ofNat_lt.2 hil⟩ | exact PRun.loadEM (f := encN) (xs := cur) tabOk rfl rfl nd rfl (by rw [ejn]; omega) rfl rfl | exact PRun.loadEM (f := encN) (xs := cur) tabOk rfl rfl nd rfl (by rw [ein]; omega) rfl rfl | exact std1)) (by exact rfl) ?_)
        refine YQ.e (v := .any) (d := none) rfl rfl rfl ?_ ?_
        · intro env' he
          exact EStep.storeE tabOk rfl rfl ((rdv_congr (he 71 (by decide +kernel))).trans rfl) (by rw [rdn_congr (he 71 (by decide +kernel))]; first | exact True.intro | exact rfl) rfl (by rw [ein, List.length_map]; omega) ((rdv_congr (he 66 (by decide +kernel))).trans rfl) (by rw [rdn_congr (he 66 (by decide +kernel))]; first | exact True.intro | exact rfl) rfl rfl rfl rfl rfl rfl ⟨rfl, rfl⟩
        repeat' (first
          | refine YQ.q (a := 0) (b := 0) rfl (by decide +kernel) (by decide +kernel) rfl rfl rfl (fun k h1 h2 hg => by (have hk : k = 0 := (by omega)); (rcases hk with rfl) <;> (first | exact std0 | exact PRun.indexA0 tabOk rfl rfl nd rfl nd rfl (by decide) rfl ⟨Int.natCast_nonneg _, Int.ofNat_lt.2 hjl⟩ | exact PRun.indexA0 tabOk rfl rfl nd rfl nd rfl (by decide) rfl ⟨Int.natCast_nonneg _, Int.ofNat_lt.2 hil⟩ | exact PRun.loadEM (f := encN) (xs := cur) tabOk rfl rfl nd rfl (by rw [ejn]; omega) rfl rfl | exact PRun.loadEM (f := encN) (xs := cur) tabOk rfl rfl nd rfl (by rw [ein]; omega) rfl rfl | exact std1)) (by exact rfl) ?_
          | refine YQ.q (a := 0) (b := 1) rfl (by decide +kernel) (by decide +kernel) rfl rfl rfl (fun k h1 h2 hg => by (have hk : k = 0 ∨ k = 1 := (by omega)); (rcases hk with rfl | rfl) <;> (first | exact std0 | exact PRun.indexA0 tabOk rfl rfl nd rfl nd rfl (by decide) rfl ⟨Int.natCast_nonneg _, Int.ofNat_lt.2 hjl⟩ | exact PRun.indexA0 tabOk rfl rfl nd rfl nd rfl (by decide) rfl ⟨Int.natCast_nonneg _, Int.ofNat_lt.2 hil⟩ | exact PRun.loadEM (f := encN) (xs := cur) tabOk rfl rfl nd rfl (by rw [ejn]; omega) rfl rfl | exact PRun.loadEM (f := encN) (xs := cur) tabOk rfl rfl nd rfl (by rw [ein]; omega) rfl rfl | exact std1)) (by exact rfl) ?_
          | refine YQ.q (a := 1) (b := 1) rfl (by decide +kernel) (by decide +kernel) rfl rfl rfl (fun k h1 h2 hg => by (have hk : k = 1 := (by omega)); (rcases hk with rfl) <;> (first | exact std0 | exact PRun.indexA0 tabOk rfl rfl nd rfl nd rfl (by decide) rfl ⟨Int.natCast_nonneg _, Int.ofNat_lt.2 hjl⟩ | exact PRun.indexA0 tabOk rfl rfl nd rfl nd rfl (by decide) rfl ⟨Int.natCast_nonneg _, Int.ofNat_lt.2 hil⟩ | exact PRun.loadEM (f := encN) (xs := cur) tabOk rfl rfl nd rfl (by rw [ejn]; omega) rfl rfl | exact PRun.loadEM (f := encN) (xs := cur) tabOk rfl rfl nd rfl (by rw [ein]; omega) rfl rfl | exact std1)) (by exact rfl) ?_
          | refine YQ.q (a := 0) (b := 2) rfl (by decide +kernel) (by decide +kernel) rfl rfl rfl (fun k h1 h2 hg => by (have hk : k = 0 ∨ k = 1 ∨ k = 2 := (by omega)); (rcases hk with rfl | rfl | rfl) <;> (first | exact std0 | exact PRun.indexA0 tabOk rfl rfl nd rfl nd rfl (by decide) rfl ⟨Int.natCast_nonneg _, Int.ofNat_lt.2 hjl⟩ | exact PRun.indexA0 tabOk rfl rfl nd rfl nd rfl (by decide) rfl ⟨Int.natCast_nonneg _, Int.ofNat_lt.2 hil⟩ | exact PRun.loadEM (f := encN) (xs := cur) tabOk rfl rfl nd rfl (by rw [ejn]; omega) rfl rfl | exact PRun.loadEM (f := encN) (xs := cur) tabOk rfl rfl nd rfl (by rw [ein]; omega) rfl rfl | exact std1)) (by exact rfl) ?_
          | refine YQ.q (a := 1) (b := 2) rfl (by decide +kernel) (by decide +kernel) rfl rfl rfl (fun k h1 h2 hg => by (have hk : k = 1 ∨ k = 2 := (by omega)); (rcases hk with rfl | rfl) <;> (first | exact std0 | exact PRun.indexA0 tabOk rfl rfl nd rfl nd rfl (by decide) rfl ⟨Int.natCast_nonneg _, Int.ofNat_lt.2 hjl⟩ | exact PRun.indexA0 tabOk rfl rfl nd rfl nd rfl (by decide) rfl ⟨Int.natCast_nonneg _, Int.ofNat_lt.2 hil⟩ | exact PRun.loadEM (f := encN) (xs := cur) tabOk rfl rfl nd rfl (by rw [ejn]; omega) rfl rfl | exact PRun.loadEM (f := encN) (xs := cur) tabOk rfl rfl nd rfl (by rw [ein]; omega) rfl rfl | exact std1)) (by exact rfl) ?_
          | refine YQ.q (a := 2) (b := 2) rfl (by decide +kernel) (by decide +kernel) rfl rfl rfl (fun k h1 h2 hg => by (have hk : k = 2 := (by omega)); (rcases hk with rfl) <;> (first | exact std0 | exact PRun.indexA0 tabOk rfl rfl nd rfl nd rfl (by decide) rfl ⟨Int.natCast_nonneg _, Int.ofNat_lt.2 hjl⟩ | exact PRun.indexA0 tabOk rfl rfl nd rfl nd rfl (by decide) rfl ⟨Int.natCast_nonneg _, Int.ofNat_lt.2 hil⟩ | exact PRun.loadEM (f := encN) (xs := cur) tabOk rfl rfl nd rfl (by rw [ejn]; omega) rfl rfl | exact PRun.loadEM (f := encN) (xs := cur) tabOk rfl rfl nd rfl (by rw [ein]; omega) rfl rfl | exact std1)) (by exact rfl) ?_)
        refine YQ.e (v := .any) (d := none) rfl rfl rfl ?_ ?_
        · intro env' he
          exact EStep.storeE tabOk rfl rfl ((rdv_congr (he 72 (by decide +kernel))).trans rfl) (by rw [rdn_congr (he 72 (by decide +kernel))]; first | exact True.intro | exact rfl) rfl (by rw [ejn, List.length_set, List.length_map]; omega) ((rdv_congr (he 70 (by decide +kernel))).trans rfl) (by rw [rdn_congr (he 70 (by decide +kernel))]; first | exact True.intro | exact rfl) rfl rfl rfl rfl rfl rfl ⟨rfl, rfl⟩
        refine YQ.nil (hK _ _ ?_)
        clear hK K'
        show AWP _ _ _ _ _ _
        refine AWP.keep [(0, .sl 4 (bars.map encB) .no), (1, .sl 12 (l.map encN) .no), (7, .b true), (8, .sla 0 12 0 l.length 0), (40, .sl 1 (by_.map by8) .no), (41, .int by_.length), (42, .int k)] ⟨rfl, rfl, rfl, rfl, rfl, rfl, rfl, True.intro⟩ ?_
        repeat' (first | refine AOps.q rfl rfl rfl (fun hg => by first | exact std0 | exact std1) (by exact rfl) ?_ | refine AWP.seq ?_ | refine AWP.regionK (fun K' hK => ?_) | (refine AOps.nil (hK _ _ ?_); clear hK K') | refine AOps.e (EStep.boxW rfl rfl rfl rfl rfl True.intro rfl rfl ?_) | refine AOps.e (EStep.storeW tabOk rfl rfl rfl True.intro rfl rfl True.intro rfl rfl rfl rfl rfl rfl rfl ?_) | refine AOps.e (EStep.allocW tabOk rfl rfl rfl rfl rfl rfl ?_) | (refine AWP.condW rfl True.intro (fun hc => ?_) (fun hc => ?_) <;> (first | (simp only [decide_eq_true_eq] at hc) | (simp only [decide_eq_false_iff_not, Int.not_lt, Int.not_le] at hc) | skip)) | refine AWP.block ?_ | refine AWP.exit ?_ | refine AWP.skip ?_ | refine AWP.ret ?_ | (refine AQ.nil (hK _ ?_); clear hK K') | refine AQ.nil ?_ | refine AQ.q rfl rfl (fun hg => by first | exact std0 | exact std1) (by exact rfl) ?_)
        all_goals (first | (exfalso; omega) | (exfalso; simp at hc; omega) | skip)
        refine ⟨(k + 1, (cur.set i (cur.getD j default)).set j (cur.getD i default)), ⟨hlt, (swap_perm (by omega) (by omega)).trans hcp⟩, by show by_.length - (k + 1) < by_.length - k; omega, ⟨rfl, rfl, rfl, rfl, rfl, rfl, rfl, True.intro⟩, ?_⟩
        show [AObj.arr 12 0 (((cur.map encN).set ((i : Nat) : Int).toNat (encN (cur.getD ((j : Nat) : Int).toNat default))).set ((j : Nat) : Int).toNat (encN (cur.getD ((i : Nat) : Int).toNat default)))] = [AObj.arr 12 0 (((cur.set i (cur.getD j default)).set j (cur.getD i default)).map encN)]
        rw [ein, ejn, List.map_set, List.map_set]
      · repeat' (first | refine AOps.q rfl rfl rfl (fun hg => by first | exact PRun.eq (v := .iptr (by8 (by_.getD ((k : Nat) : Int).toNat default))) (PRun.indexMW tabOk rfl rfl nd rfl nd rfl rfl (by omega)) (congrArg (fun x => AV.iptr (by8 x)) hck) | exact std0 | exact std1) (by exact rfl) ?_ | refine AWP.seq ?_ | refine AWP.regionK (fun K' hK => ?_) | (refine AOps.nil (hK _ _ ?_); clear hK K') | refine AOps.e (EStep.boxW rfl rfl rfl rfl rfl True.intro rfl rfl ?_) | refine AOps.e (EStep.storeW tabOk rfl rfl rfl True.intro rfl rfl True.intro rfl rfl rfl rfl rfl rfl rfl ?_) | refine AOps.e (EStep.allocW tabOk rfl rfl rfl rfl rfl rfl ?_) | (refine AWP.condW rfl True.intro (fun hc => ?_) (fun hc => ?_) <;> (first | (simp only [decide_eq_true_eq] at hc) | (simp only [decide_eq_false_iff_not, Int.not_lt, Int.not_le] at hc) | skip)) | refine AWP.block ?_ | refine AWP.exit ?_ | refine AWP.skip ?_ | refine AWP.ret ?_ | (refine AQ.nil (hK _ ?_); clear hK K') | refine AQ.nil ?_ | refine AQ.q rfl rfl (fun hg => by first | exact PRun.eq (v := .iptr (by8 (by_.getD ((k : Nat) : Int).toNat default))) (PRun.indexMW tabOk rfl rfl nd rfl nd rfl rfl (by omega)) (congrArg (fun x => AV.iptr (by8 x)) hck) | exact std0 | exact std1) (by exact rfl) ?_)
        all_goals (first | (exfalso; omega) | (exfalso; simp at hc; omega) | skip)
        exact ⟨(k + 1, cur), ⟨hlt, hcp⟩, by show by_.length - (k + 1) < by_.length - k; omega, ⟨rfl, rfl, rfl, rfl, rfl, rfl, rfl, True.intro⟩, rfl⟩
    · obtain rfl : k = by_.length := by omega
      repeat' (first | refine AOps.q rfl rfl rfl (fun hg => by first | exact std0 | exact std1) (by exact rfl) ?_ | refine AWP.seq ?_ | refine AWP.regionK (fun K' hK => ?_) | (refine AOps.nil (hK _ _ ?_); clear hK K') | refine AOps.e (EStep.boxW rfl rfl rfl rfl rfl True.intro rfl rfl ?_) | refine AOps.e (EStep.storeW tabOk rfl rfl rfl True.intro rfl rfl True.intro rfl rfl rfl rfl rfl rfl rfl ?_) | refine AOps.e (EStep.allocW tabOk rfl rfl rfl rfl rfl rfl ?_) | fail | refine AWP.block ?_ | refine AWP.exit ?_ | refine AWP.skip ?_ | refine AWP.ret ?_ | (refine AQ.nil (hK _ ?_); clear hK K') | refine AQ.nil ?_ | refine AQ.q rfl rfl (fun hg => by first | exact std0 | exact std1) (by exact rfl) ?_)
      refine AWP.condW rfl True.intro (fun hc => ?_) (fun hc => ?_)
      · exfalso; simp at hc
      refine AWP.exit ?_
      show AWP _ _ _ _ _ _
      refine AWP.freezeA (d := 8) (l := 0) (sz := 12) (ver := 0) (es := cur.map encN) (by show AV.sla 0 12 0 l.length 0 = _; rw [List.length_map, hcl]) rfl (pureN _) ?_
      refine AWP.keep [(0, .sl 4 (bars.map encB) .no), (1, .sl 12 (l.map encN) .no), (7, .b true), (8, .sl 12 (cur.map encN) .no)] ⟨rfl, rfl, rfl, rfl, True.intro⟩ ?_
      have c4 := c2 cur hcp
      clear c2
      show AWP _ _ _ _ _ [.dead]
      repeat' (first | refine AOps.q rfl rfl rfl (fun hg => by first | exact std0 | exact PRun.callW (c1) rfl rfl nd rfl nds | exact PRun.callW (c3) rfl rfl nd rfl nds | exact PRun.callW (c4) rfl rfl nd rfl nds | exact PRun.callW (cs) rfl rfl nd rfl nds | exact std1) (by exact rfl) ?_ | refine AWP.seq ?_ | refine AWP.regionK (fun K' hK => ?_) | (refine AOps.nil (hK _ _ ?_); clear hK K') | refine AOps.e (EStep.boxW rfl rfl rfl rfl rfl True.intro rfl rfl ?_) | refine AOps.e (EStep.storeW tabOk rfl rfl rfl True.intro rfl rfl True.intro rfl rfl rfl rfl rfl rfl rfl ?_) | refine AOps.e (EStep.allocW tabOk rfl rfl rfl rfl rfl rfl ?_) | refine AOps.e (EStep.makeMapW rfl rfl rfl rfl ?_) | (refine AWP.condW rfl True.intro (fun hc => ?_) (fun hc => ?_) <;> (first | (simp only [decide_eq_true_eq] at hc) | (simp only [decide_eq_false_iff_not, Int.not_lt, Int.not_le] at hc) | skip)) | refine AWP.block ?_ | refine AWP.exit ?_ | refine AWP.skip ?_ | refine AWP.ret ?_ | (refine AQ.nil (hK _ ?_); clear hK K') | refine AQ.nil ?_ | refine AQ.q rfl rfl (fun hg => by first | exact std0 | exact PRun.callW (c1) rfl rfl nd rfl nds | exact PRun.callW (c3) rfl rfl nd rfl nds | exact PRun.callW (c4) rfl rfl nd rfl nds | exact PRun.callW (cs) rfl rfl nd rfl nds | exact std1) (by exact rfl) ?_)
      all_goals (first | (exfalso; simp at hc; done) | (exfalso; simp at hc; omega) | skip)
      refine AWP.loopD (ι := Nat) (fun i => [(0, .sl 4 (bars.map encB) .no), (7, .b true), (13, .sl 12 (S.map encN) .no), (19, .map 1), (122, .sl 12 (l.map encN) .no), (123, .int l.length), (124, .int i)]) (fun i => [.dead, .map (encM ekI evNo (idAL (l.take i)))])
        (fun i => i ≤ l.length) (fun i => l.length - i) 2 (fun _ => rfl) 0 (Nat.zero_le _) ⟨rfl, rfl, rfl, rfl, rfl, rfl, rfl, True.intro⟩ rfl (fun _ _ => rfl) (fun i _ => by simp [okObj, encM, okRef, encN]) ?_
      intro i hi
      by_cases hil : i < l.length
      · obtain ⟨n, hni⟩ : ∃ n, l.getD i default = n := ⟨_, rfl⟩
        have hsuc := idAL_succ hil
        rw [hni] at hsuc
        repeat' (first | refine AOps.q rfl rfl rfl (fun hg => by first | exact PRun.eq (v := .iptr (encN (l.getD ((i : Nat) : Int).toNat default))) (PRun.indexMW tabOk rfl rfl nd rfl nd rfl rfl (by omega)) (congrArg (fun x => AV.iptr (encN x)) hni) | exact std0 | exact std1) (by exact rfl) ?_ | refine AWP.seq ?_ | refine AWP.regionK (fun K' hK => ?_) | (refine AOps.nil (hK _ _ ?_); clear hK K') | refine AOps.e (EStep.boxW rfl rfl rfl rfl rfl True.intro rfl rfl ?_) | refine AOps.e (EStep.storeW tabOk rfl rfl rfl True.intro rfl rfl True.intro rfl rfl rfl rfl rfl rfl rfl ?_) | refine AOps.e (EStep.allocW tabOk rfl rfl rfl rfl rfl rfl ?_) | refine AOps.e (EStep.mapUpd (ek := ekI) (ev := evNo) (keyLaw_int (LOk.of (tabOk.get rfl))) (LOk.of (tabOk.get rfl)) rfl rfl rfl (Rd.w rfl True.intro) rfl (Rd.w rfl True.intro) rfl (Rd.w rfl True.intro) ?_) | (refine AWP.condW rfl True.intro (fun hc => ?_) (fun hc => ?_) <;> (first | (simp only [decide_eq_true_eq] at hc) | (simp only [decide_eq_false_iff_not, Int.not_lt, Int.not_le] at hc) | skip)) | refine AWP.block ?_ | refine AWP.exit ?_ | refine AWP.skip ?_ | refine AWP.ret ?_ | refine AWP.drawK2 (by decide +kernel) (by kernel_rfl) (by decide +kernel) rfl (fun K' hK => ?_) | refine AWP.drawL2 (by kernel_rfl) (by decide +kernel) rfl (fun K' hK => ?_) | (refine AQ.nil (hK _ ?_); clear hK K') | refine AQ.nil ?_ | refine AQ.q rfl rfl (fun hg => by first | exact PRun.eq (v := .iptr (encN (l.getD ((i : Nat) : Int).toNat default))) (PRun.indexMW tabOk rfl rfl nd rfl nd rfl rfl (by omega)) (congrArg (fun x => AV.iptr (encN x)) hni) | exact std0 | exact std1) (by exact rfl) ?_)
        all_goals (first | (exfalso; omega) | (exfalso; simp at hc; omega) | skip)
        refine ⟨i + 1, hil, by omega, ⟨rfl, rfl, rfl, rfl, rfl, rfl, rfl, True.intro⟩, ?_⟩
        rw [hsuc]; rfl
      · obtain rfl : i = l.length := by omega
        rw [List.take_length]
        repeat' (first | refine AOps.q rfl rfl rfl (fun hg => by first | exact std0 | exact std1) (by exact rfl) ?_ | refine AWP.seq ?_ | refine AWP.regionK (fun K' hK => ?_) | (refine AOps.nil (hK _ _ ?_); clear hK K') | refine AOps.e (EStep.boxW rfl rfl rfl rfl rfl True.intro rfl rfl ?_) | refine AOps.e (EStep.storeW tabOk rfl rfl rfl True.intro rfl rfl True.intro rfl rfl rfl rfl rfl rfl rfl ?_) | refine AOps.e (EStep.allocW tabOk rfl rfl rfl rfl rfl rfl ?_) | (refine AWP.condW rfl True.intro (fun hc => ?_) (fun hc => ?_) <;> (first | (simp only [decide_eq_true_eq] at hc) | (simp only [decide_eq_false_iff_not, Int.not_lt, Int.not_le] at hc) | skip)) | refine AWP.block ?_ | refine AWP.exit ?_ | refine AWP.skip ?_ | refine AWP.ret ?_ | (refine AQ.nil (hK _ ?_); clear hK K') | refine AQ.nil ?_ | refine AQ.q rfl rfl (fun hg => by first | exact std0 | exact std1) (by exact rfl) ?_)
        all_goals (first | (exfalso; omega) | (exfalso; simp at hc; omega) | skip)
        refine AWP.loopD (ι := Nat) (fun i => [(0, .sl 4 (bars.map encB) .no), (7, .b true), (13, .sl 12 (S.map encN) .no), (19, .map 1), (133, .sl 12 (S.map encN) .no), (134, .int S.length), (135, .int i)]) (fun _ => [.dead, .map (encM ekI evNo (idAL l))])
          (fun i => i ≤ S.length) (fun i => S.length - i) 2 (fun _ => rfl) 0 (Nat.zero_le _) ⟨rfl, rfl, rfl, rfl, rfl, rfl, rfl, True.intro⟩ rfl (fun _ _ => rfl) (fun i _ => by simp [okObj, encM, okRef, encN]) ?_
        intro i hi
        by_cases hil : i < S.length
        · obtain ⟨hlk, hns⟩ := hSm i hil
          obtain ⟨s, hsi⟩ : ∃ s, S.getD i default = s := ⟨_, rfl⟩
          rw [hsi] at hlk hns
          rcases i with _ | i
          · repeat' (first | refine AOps.q rfl rfl rfl (fun hg => by first | exact PRun.eq (v' := .b false) (PRun.neN flN rfl rfl nd rfl nd rfl) (by simp) | exact PRun.eq (v := .tup [evNo ((lk (idAL l) s.id).getD zN), .b (lk (idAL l) s.id).isSome]) (PRun.lookup (ok := true) (ek := ekI) (ev := evNo) (zv := zN) (keyLaw_int (LOk.of (tabOk.get rfl))) (LOk.of (tabOk.get rfl)) (LOk.of (tabOk.get rfl)) rfl rfl (Rd.w rfl nd) (Or.inr ⟨_, rfl, rfl⟩) (Rd.w rfl nd) rfl) (show AV.tup [evNo ((lk (idAL l) s.id).getD zN), .b (lk (idAL l) s.id).isSome] = AV.tup [evNo s, .b true] by rw [hlk]; rfl) | exact PRun.eq (v := .iptr (encN (S.getD ((0 : Nat) : Int).toNat default))) (PRun.indexMW tabOk rfl rfl nd rfl nd rfl rfl (by omega)) (congrArg (fun x => AV.iptr (encN x)) hsi) | exact std0 | exact (Bool.noConfusion (show false = true from hg) : PRun _ _ _ _ (.b false)) | exact std1) (by exact rfl) ?_ | refine AWP.seq ?_ | refine AWP.regionK (fun K' hK => ?_) | (refine AOps.nil (hK _ _ ?_); clear hK K') | refine AOps.e (EStep.boxW rfl rfl rfl rfl rfl True.intro rfl rfl ?_) | refine AOps.e (EStep.storeW tabOk rfl rfl rfl True.intro rfl rfl True.intro rfl rfl rfl rfl rfl rfl rfl ?_) | refine AOps.e (EStep.allocW tabOk rfl rfl rfl rfl rfl rfl ?_) | (refine AWP.condW rfl True.intro (fun hc => ?_) (fun hc => ?_) <;> (first | (simp only [decide_eq_true_eq] at hc) | (simp only [decide_eq_false_iff_not, Int.not_lt, Int.not_le] at hc) | skip)) | refine AWP.block ?_ | refine AWP.exit ?_ | refine AWP.skip ?_ | refine AWP.ret ?_ | refine AWP.drawK2 (by decide +kernel) (by kernel_rfl) (by decide +kernel) rfl (fun K' hK => ?_) | refine AWP.drawL2 (by kernel_rfl) (by decide +kernel) rfl (fun K' hK => ?_) | (refine AQ.nil (hK _ ?_); clear hK K') | refine AQ.nil ?_ | refine AQ.q rfl rfl (fun hg => by first | exact PRun.eq (v' := .b false) (PRun.neN flN rfl rfl nd rfl nd rfl) (by simp) | exact PRun.eq (v := .tup [evNo ((lk (idAL l) s.id).getD zN), .b (lk (idAL l) s.id).isSome]) (PRun.lookup (ok := true) (ek := ekI) (ev := evNo) (zv := zN) (keyLaw_int (LOk.of (tabOk.get rfl))) (LOk.of (tabOk.get rfl)) (LOk.of (tabOk.get rfl)) rfl rfl (Rd.w rfl nd) (Or.inr ⟨_, rfl, rfl⟩) (Rd.w rfl nd) rfl) (show AV.tup [evNo ((lk (idAL l) s.id).getD zN), .b (lk (idAL l) s.id).isSome] = AV.tup [evNo s, .b true] by rw [hlk]; rfl) | exact PRun.eq (v := .iptr (encN (S.getD ((0 : Nat) : Int).toNat default))) (PRun.indexMW tabOk rfl rfl nd rfl nd rfl rfl (by omega)) (congrArg (fun x => AV.iptr (encN x)) hsi) | exact std0 | exact (Bool.noConfusion (show false = true from hg) : PRun _ _ _ _ (.b false)) | exact std1) (by exact rfl) ?_)
            all_goals (first | (exfalso; omega) | (exfalso; simp at hc; done) | (exfalso; simp at hc; omega) | (rename_i h0; exfalso; simp at h0; omega) | skip)
            exact ⟨0 + 1, hil, by omega, ⟨rfl, rfl, rfl, rfl, rfl, rfl, rfl, True.intro⟩, rfl⟩
          · have hp1 := (hSm i (by omega)).2
            have hbe := hbf i hil
            obtain ⟨r, hri⟩ : ∃ r, S.getD i default = r := ⟨_, rfl⟩
            rw [hri] at hp1 hbe
            rw [hsi] at hbe
            have cb := before_spec bars r s hb hbo hp1 hns
            rw [hbe] at cb
            have epv : (((i + 1 : Nat) : Int) - 1).toNat = i := by omega
            repeat' (first | refine AOps.q rfl rfl rfl (fun hg => by first | exact PRun.eq (v := .tup [evNo ((lk (idAL l) s.id).getD zN), .b (lk (idAL l) s.id).isSome]) (PRun.lookup (ok := true) (ek := ekI) (ev := evNo) (zv := zN) (keyLaw_int (LOk.of (tabOk.get rfl))) (LOk.of (tabOk.get rfl)) (LOk.of (tabOk.get rfl)) rfl rfl (Rd.w rfl nd) (Or.inr ⟨_, rfl, rfl⟩) (Rd.w rfl nd) rfl) (show AV.tup [evNo ((lk (idAL l) s.id).getD zN), .b (lk (idAL l) s.id).isSome] = AV.tup [evNo s, .b true] by rw [hlk]; rfl) | exact PRun.eq (v := .iptr (encN (S.getD (((i + 1 : Nat) : Int) - 1).toNat default))) (PRun.indexMW tabOk rfl rfl nd rfl nd rfl rfl (by omega)) (congrArg (fun x => AV.iptr (encN x)) (show S.getD (((i + 1 : Nat) : Int) - 1).toNat default = r by rw [epv, hri])) | exact PRun.eq (v := .iptr (encN (S.getD ((i + 1 : Nat) : Int).toNat default))) (PRun.indexMW tabOk rfl rfl nd rfl nd rfl rfl (by omega)) (congrArg (fun x => AV.iptr (encN x)) hsi) | exact std0 | exact PRun.neN flN rfl rfl nd rfl nd rfl | exact PRun.callW (cb) rfl rfl nd rfl nds | exact std1) (by exact rfl) ?_ | refine AWP.seq ?_ | refine AWP.regionK (fun K' hK => ?_) | (refine AOps.nil (hK _ _ ?_); clear hK K') | refine AOps.e (EStep.boxW rfl rfl rfl rfl rfl True.intro rfl rfl ?_) | refine AOps.e (EStep.storeW tabOk rfl rfl rfl True.intro rfl rfl True.intro rfl rfl rfl rfl rfl rfl rfl ?_) | refine AOps.e (EStep.allocW tabOk rfl rfl rfl rfl rfl rfl ?_) | (refine AWP.condW rfl True.intro (fun hc => ?_) (fun hc => ?_) <;> (first | (simp only [decide_eq_true_eq] at hc) | (simp only [decide_eq_false_iff_not, Int.not_lt, Int.not_le] at hc) | skip)) | refine AWP.block ?_ | refine AWP.exit ?_ | refine AWP.skip ?_ | refine AWP.ret ?_ | refine AWP.drawK2 (by decide +kernel) (by kernel_rfl) (by decide +kernel) rfl (fun K' hK => ?_) | refine AWP.drawL2 (by kernel_rfl) (by decide +kernel) rfl (fun K' hK => ?_) | (refine AQ.nil (hK _ ?_); clear hK K') | refine AQ.nil ?_ | refine AQ.q rfl rfl (fun hg => by first | exact PRun.eq (v := .tup [evNo ((lk (idAL l) s.id).getD zN), .b (lk (idAL l) s.id).isSome]) (PRun.lookup (ok := true) (ek := ekI) (ev := evNo) (zv := zN) (keyLaw_int (LOk.of (tabOk.get rfl))) (LOk.of (tabOk.get rfl)) (LOk.of (tabOk.get rfl)) rfl rfl (Rd.w rfl nd) (Or.inr ⟨_, rfl, rfl⟩) (Rd.w rfl nd) rfl) (show AV.tup [evNo ((lk (idAL l) s.id).getD zN), .b (lk (idAL l) s.id).isSome] = AV.tup [evNo s, .b true] by rw [hlk]; rfl) | exact PRun.eq (v := .iptr (encN (S.getD (((i + 1 : Nat) : Int) - 1).toNat default))) (PRun.indexMW tabOk rfl rfl nd rfl nd rfl rfl (by omega)) (congrArg (fun x => AV.iptr (encN x)) (show S.getD (((i + 1 : Nat) : Int) - 1).toNat default = r by rw [epv, hri])) | exact PRun.eq (v := .iptr (encN (S.getD ((i + 1 : Nat) : Int).toNat default))) (PRun.indexMW tabOk rfl rfl nd rfl nd rfl rfl (by omega)) (congrArg (fun x => AV.iptr (encN x)) hsi) | exact std0 | exact PRun.neN flN rfl rfl nd rfl nd rfl | exact PRun.callW (cb) rfl rfl nd rfl nds | exact std1) (by exact rfl) ?_)
            all_goals (first | (exfalso; omega) | (exfalso; simp at hc; done) | (exfalso; simp at hc; omega) | (rename_i h0; exfalso; simp at h0; omega) | skip)
            exact ⟨(i + 1) + 1, hil, by omega, ⟨rfl, rfl, rfl, rfl, rfl, rfl, rfl, True.intro⟩, rfl⟩
        · repeat' (first | refine AOps.q rfl rfl rfl (fun hg => by first | exact std0 | exact std1) (by exact rfl) ?_ | refine AWP.seq ?_ | refine AWP.regionK (fun K' hK => ?_) | (refine AOps.nil (hK _ _ ?_); clear hK K') | refine AOps.e (EStep.boxW rfl rfl rfl rfl rfl True.intro rfl rfl ?_) | refine AOps.e (EStep.storeW tabOk rfl rfl rfl True.intro rfl rfl True.intro rfl rfl rfl rfl rfl rfl rfl ?_) | refine AOps.e (EStep.allocW tabOk rfl rfl rfl rfl rfl rfl ?_) | (refine AWP.condW rfl True.intro (fun hc => ?_) (fun hc => ?_) <;> (first | (simp only [decide_eq_true_eq] at hc) | (simp only [decide_eq_false_iff_not, Int.not_lt, Int.not_le] at hc) | skip)) | refine AWP.block ?_ | refine AWP.exit ?_ | refine AWP.skip ?_ | refine AWP.ret ?_ | refine AWP.drawK2 (by decide +kernel) (by kernel_rfl) (by decide +kernel) rfl (fun K' hK => ?_) | refine AWP.drawL2 (by kernel_rfl) (by decide +kernel) rfl (fun K' hK => ?_) | (refine AQ.nil (hK _ ?_); clear hK K') | refine AQ.nil ?_ | refine AQ.q rfl rfl (fun hg => by first | exact std0 | exact std1) (by exact rfl) ?_)
          all_goals (first | (exfalso; omega) | (exfalso; simp at hc; omega) | skip)
          exact ⟨.inr rfl, Ent.b rfl⟩
  · refine PCall.body Tryd.func5 rfl rfl Tryd.ntmps5 rfl rfl ?_
    repeat' (first | refine AOps.q rfl rfl rfl (fun hg => by first | exact std0 | exact PRun.callW (hh) rfl rfl nd rfl nds | exact PRun.callW (hu) rfl rfl nd rfl nds | exact (Bool.noConfusion (show false = true from hg) : PRun _ _ _ _ (.b false)) | exact std1) (by exact rfl) ?_ | refine AWP.seq ?_ | refine AWP.regionK (fun K' hK => ?_) | (refine AOps.nil (hK _ _ ?_); clear hK K') | refine AOps.e (EStep.boxW rfl rfl rfl rfl rfl True.intro rfl rfl ?_) | refine AOps.e (EStep.storeW tabOk rfl rfl rfl True.intro rfl rfl True.intro rfl rfl rfl rfl rfl rfl rfl ?_) | refine AOps.e (EStep.allocW tabOk rfl rfl rfl rfl rfl rfl ?_) | fail | refine AWP.block ?_ | refine AWP.exit ?_ | refine AWP.skip ?_ | refine AWP.ret ?_ | (refine AQ.nil (hK _ ?_); clear hK K') | refine AQ.nil ?_ | refine AQ.q rfl rfl (fun hg => by first | exact std0 | exact PRun.callW (hh) rfl rfl nd rfl nds | exact PRun.callW (hu) rfl rfl nd rfl nds | exact (Bool.noConfusion (show false = true from hg) : PRun _ _ _ _ (.b false)) | exact std1) (by exact rfl) ?_)
    refine AWP.condW rfl True.intro (fun hc => ?_) (fun hc => ?_)
    · repeat' (first | refine AOps.q rfl rfl rfl (fun hg => by first | exact std0 | exact std1) (by exact rfl) ?_ | refine AWP.seq ?_ | refine AWP.regionK (fun K' hK => ?_) | (refine AOps.nil (hK _ _ ?_); clear hK K') | refine AOps.e (EStep.boxW rfl rfl rfl rfl rfl True.intro rfl rfl ?_) | refine AOps.e (EStep.storeW tabOk rfl rfl rfl True.intro rfl rfl True.intro rfl rfl rfl rfl rfl rfl rfl ?_) | refine AOps.e (EStep.allocW tabOk rfl rfl rfl rfl rfl rfl ?_) | (refine AWP.condW rfl True.intro (fun hc => ?_) (fun hc => ?_) <;> (first | (simp only [decide_eq_true_eq] at hc) | (simp only [decide_eq_false_iff_not, Int.not_lt, Int.not_le] at hc) | skip)) | refine AWP.block ?_ | refine AWP.exit ?_ | refine AWP.skip ?_ | refine AWP.ret ?_ | (refine AQ.nil (hK _ ?_); clear hK K') | refine AQ.nil ?_ | refine AQ.q rfl rfl (fun hg => by first | exact std0 | exact std1) (by exact rfl) ?_)
      exact ⟨.inr rfl, Ent.b rfl⟩
    · exfalso
      apply hg0
      simp only [Bool.or_eq_false_iff, Bool.not_eq_false', decide_eq_false_iff_not] at hc
      exact ⟨hc.1, by omega⟩
end Go.Proofs.YtnmdmmfdnnmdfaaDoor.Nt
/- What is handed in to the laws over scores reads as a content. No statement is proved here. -/
set_option maxRecDepth 20000
namespace Go.Ab
open Go.ChangeShapes Go.WideShapes
theorem slice_ok1 {P : Program} {w : World} {r : Reach} {b0 : Nat} {t e : TypeId} {v : Value} (hu : P.underlying t = some (.slice e)) (hv : Value.okWide P w r b0 t v) : ∀ a len cap, v = .slice (some a) len cap → a.spot = none := fun a len cap he => by
  subst he
  unfold Value.okWide at hv
  rw [hu] at hv
  simp only at hv
  unfold Cell.okWide at hv
  simp only [hu] at hv
  unfold Cell.ok at hv
  simp only [hu] at hv
  exact hv.2.2.2.1
theorem slice_val1 {P : Program} {w : World} {r : Reach} {b0 : Nat} {t e : TypeId} {v : Value} (hu : P.underlying t = some (.slice e)) (hv : Value.okWide P w r b0 t v) : v.cells.toList = [v] := by
  unfold Value.okWide at hv
  rw [hu] at hv
  simp only at hv
  unfold Cell.okWide at hv
  simp only [hu] at hv
  cases v with
  | slice a l c => simp [Value.cells]
  | _ => unfold Cell.ok at hv; simp [hu] at hv
end Go.Ab
namespace Go.Proofs.YtnmdmmfdnnmdfaaDoor
open Go.Ab Go.ChangeShapes Go.WideShapes
section
variable {H : Type} {enc : TypeId × Value → H} {W : World} {base b0 fuel : Nat} {held : Bool} {spare : Nat → Bool}
abbrev vI (n : Int) : Value := .int .i64 n
theorem lk3 : LOk Tryd.prog 3 ⟨.int .i64, 1, 8, [.i .i64]⟩ := .of (tabOk.get rfl)
theorem cn3 : Tryd.prog.cellsOf 3 = 1 := by kernel_rfl

theorem lkRat : LOk Tryd.prog 51 ⟨.struct [(3, 0, 1), (3, 1, 1)], 2, 16, [.i .i64, .i .i64]⟩ := .of (tabOk.get rfl)
theorem cnRat : Tryd.prog.cellsOf 51 = 2 := by kernel_rfl
def vRat (x : Rat) : List Value := [vI x.n] ++ [vI x.d]
theorem rdRat {cs : List Value} {y : DataW H × List MemPlace} (h : DataW.trod enc Tryd.prog W base spare held fuel 51 cs = some y) : ∃ x : Rat, cs = vRat x := by
  obtain ⟨hlen, n, hf⟩ := struct_rd lkRat h
  rw [cnRat] at hlen
  match cs, hlen with
  | [u0, u1], _ =>
    obtain ⟨y0, h0⟩ := hf 0 3 0 1 rfl
    obtain ⟨y1, h1⟩ := hf 1 3 1 1 rfl
    rw [cn3] at h0 h1
    obtain ⟨n0, e0, _⟩ := int_rd lk3 h0
    obtain ⟨n1, e1, _⟩ := int_rd lk3 h1
    have g0 : u0 = vI n0 := by simpa using e0
    have g1 : u1 = vI n1 := by simpa using e1
    refine ⟨⟨n0, n1⟩, ?_⟩
    subst g0
    subst g1
    unfold vRat
    rfl
theorem relRat (x : Rat) : ∀ (j : Nat) c, (encR x)[j]? = some c → VRel (memOf W) [] c ((vRat x).getD j undef) := fun j c hj => by
  match j, hj with
  | 0, hj | 1, hj => simp only [encR, List.getElem?_cons_succ, List.getElem?_cons_zero, Option.some.injEq] at hj; subst hj; exact .prim _
  | j + 2, hj => simp [encR] at hj
theorem lkInterval : LOk Tryd.prog 91 ⟨.struct [(3, 0, 1), (3, 1, 1)], 2, 16, [.i .i64, .i .i64]⟩ := .of (tabOk.get rfl)
theorem cnInterval : Tryd.prog.cellsOf 91 = 2 := by kernel_rfl
def vInterval (x : Interval) : List Value := [vI x.steps] ++ [vI x.semi]
theorem rdInterval {cs : List Value} {y : DataW H × List MemPlace} (h : DataW.trod enc Tryd.prog W base spare held fuel 91 cs = some y) : ∃ x : Interval, cs = vInterval x := by
  obtain ⟨hlen, n, hf⟩ := struct_rd lkInterval h
  rw [cnInterval] at hlen
  match cs, hlen with
  | [u0, u1], _ =>
    obtain ⟨y0, h0⟩ := hf 0 3 0 1 rfl
    obtain ⟨y1, h1⟩ := hf 1 3 1 1 rfl
    rw [cn3] at h0 h1
    obtain ⟨n0, e0, _⟩ := int_rd lk3 h0
    obtain ⟨n1, e1, _⟩ := int_rd lk3 h1
    have g0 : u0 = vI n0 := by simpa using e0
    have g1 : u1 = vI n1 := by simpa using e1
    refine ⟨⟨n0, n1⟩, ?_⟩
    subst g0
    subst g1
    unfold vInterval
    rfl
theorem relInterval (x : Interval) : ∀ (j : Nat) c, (encI x)[j]? = some c → VRel (memOf W) [] c ((vInterval x).getD j undef) := fun j c hj => by
  match j, hj with
  | 0, hj | 1, hj => simp only [encI, List.getElem?_cons_succ, List.getElem?_cons_zero, Option.some.injEq] at hj; subst hj; exact .prim _
  | j + 2, hj => simp [encI] at hj
theorem lkPitch : LOk Tryd.prog 53 ⟨.struct [(3, 0, 1), (3, 1, 1), (3, 2, 1)], 3, 24, [.i .i64, .i .i64, .i .i64]⟩ := .of (tabOk.get rfl)
theorem cnPitch : Tryd.prog.cellsOf 53 = 3 := by kernel_rfl
def vPitch (x : Pitch) : List Value := [vI x.step] ++ [vI x.alter] ++ [vI x.oct]
theorem rdPitch {cs : List Value} {y : DataW H × List MemPlace} (h : DataW.trod enc Tryd.prog W base spare held fuel 53 cs = some y) : ∃ x : Pitch, cs = vPitch x := by
  obtain ⟨hlen, n, hf⟩ := struct_rd lkPitch h
  rw [cnPitch] at hlen
  match cs, hlen with
  | [u0, u1, u2], _ =>
    obtain ⟨y0, h0⟩ := hf 0 3 0 1 rfl
    obtain ⟨y1, h1⟩ := hf 1 3 1 1 rfl
    obtain ⟨y2, h2⟩ := hf 2 3 2 1 rfl
    rw [cn3] at h0 h1 h2
    obtain ⟨n0, e0, _⟩ := int_rd lk3 h0
    obtain ⟨n1, e1, _⟩ := int_rd lk3 h1
    obtain ⟨n2, e2, _⟩ := int_rd lk3 h2
    have g0 : u0 = vI n0 := by simpa using e0
    have g1 : u1 = vI n1 := by simpa using e1
    have g2 : u2 = vI n2 := by simpa using e2
    refine ⟨⟨n0, n1, n2⟩, ?_⟩
    subst g0
    subst g1
    subst g2
    unfold vPitch
    rfl
theorem relPitch (x : Pitch) : ∀ (j : Nat) c, (encPi x)[j]? = some c → VRel (memOf W) [] c ((vPitch x).getD j undef) := fun j c hj => by
  match j, hj with
  | 0, hj | 1, hj | 2, hj => simp only [encPi, List.getElem?_cons_succ, List.getElem?_cons_zero, Option.some.injEq] at hj; subst hj; exact .prim _
  | j + 3, hj => simp [encPi] at hj
theorem lkBar : LOk Tryd.prog 61 ⟨.struct [(3, 0, 1), (51, 1, 2), (3, 3, 1)], 4, 32, [.i .i64, .i .i64, .i .i64, .i .i64]⟩ := .of (tabOk.get rfl)
theorem cnBar : Tryd.prog.cellsOf 61 = 4 := by kernel_rfl
def vBar (x : Bar) : List Value := [vI x.id] ++ vRat x.len ++ [vI x.key]
theorem rdBar {cs : List Value} {y : DataW H × List MemPlace} (h : DataW.trod enc Tryd.prog W base spare held fuel 61 cs = some y) : ∃ x : Bar, cs = vBar x := by
  obtain ⟨hlen, n, hf⟩ := struct_rd lkBar h
  rw [cnBar] at hlen
  match cs, hlen with
  | [u0, u1, u2, u3], _ =>
    obtain ⟨y0, h0⟩ := hf 0 3 0 1 rfl
    obtain ⟨y1, h1⟩ := hf 1 51 1 2 rfl
    obtain ⟨y2, h2⟩ := hf 2 3 3 1 rfl
    rw [cn3] at h0 h2
    rw [cnRat] at h1
    obtain ⟨n0, e0, _⟩ := int_rd lk3 h0
    obtain ⟨n1, e1⟩ := rdRat h1
    obtain ⟨n2, e2, _⟩ := int_rd lk3 h2
    have g0 : u0 = vI n0 := by simpa using e0
    have g1 : [u1, u2] = vRat n1 := by simpa using e1
    have g2 : u3 = vI n2 := by simpa using e2
    refine ⟨⟨n0, n1, n2⟩, ?_⟩
    subst g0
    subst g2
    unfold vBar
    rw [← g1]
    rfl
theorem relBar (x : Bar) : ∀ (j : Nat) c, (encB x)[j]? = some c → VRel (memOf W) [] c ((vBar x).getD j undef) := fun j c hj => by
  match j, hj with
  | 0, hj | 1, hj | 2, hj | 3, hj => simp only [encB, List.getElem?_cons_succ, List.getElem?_cons_zero, Option.some.injEq] at hj; subst hj; exact .prim _
  | j + 4, hj => simp [encB] at hj
theorem lkPart : LOk Tryd.prog 93 ⟨.struct [(3, 0, 1), (3, 1, 1), (3, 2, 1), (3, 3, 1), (3, 4, 1), (91, 5, 2), (53, 7, 3), (53, 10, 3)], 13, 104, [.i .i64, .i .i64, .i .i64, .i .i64, .i .i64, .i .i64, .i .i64, .i .i64, .i .i64, .i .i64, .i .i64, .i .i64, .i .i64]⟩ := .of (tabOk.get rfl)
theorem cnPart : Tryd.prog.cellsOf 93 = 13 := by kernel_rfl
def vPart (x : Part) : List Value := [vI x.id] ++ [vI x.section_] ++ [vI x.of_] ++ [vI x.octave] ++ [vI x.desks] ++ vInterval x.shift ++ vPitch x.low ++ vPitch x.high
theorem rdPart {cs : List Value} {y : DataW H × List MemPlace} (h : DataW.trod enc Tryd.prog W base spare held fuel 93 cs = some y) : ∃ x : Part, cs = vPart x := by
  obtain ⟨hlen, n, hf⟩ := struct_rd lkPart h
  rw [cnPart] at hlen
  match cs, hlen with
  | [u0, u1, u2, u3, u4, u5, u6, u7, u8, u9, u10, u11, u12], _ =>
    obtain ⟨y0, h0⟩ := hf 0 3 0 1 rfl
    obtain ⟨y1, h1⟩ := hf 1 3 1 1 rfl
    obtain ⟨y2, h2⟩ := hf 2 3 2 1 rfl
    obtain ⟨y3, h3⟩ := hf 3 3 3 1 rfl
    obtain ⟨y4, h4⟩ := hf 4 3 4 1 rfl
    obtain ⟨y5, h5⟩ := hf 5 91 5 2 rfl
    obtain ⟨y6, h6⟩ := hf 6 53 7 3 rfl
    obtain ⟨y7, h7⟩ := hf 7 53 10 3 rfl
    rw [cn3] at h0 h1 h2 h3 h4
    rw [cnInterval] at h5
    rw [cnPitch] at h6
    rw [cnPitch] at h7
    obtain ⟨n0, e0, _⟩ := int_rd lk3 h0
    obtain ⟨n1, e1, _⟩ := int_rd lk3 h1
    obtain ⟨n2, e2, _⟩ := int_rd lk3 h2
    obtain ⟨n3, e3, _⟩ := int_rd lk3 h3
    obtain ⟨n4, e4, _⟩ := int_rd lk3 h4
    obtain ⟨n5, e5⟩ := rdInterval h5
    obtain ⟨n6, e6⟩ := rdPitch h6
    obtain ⟨n7, e7⟩ := rdPitch h7
    have g0 : u0 = vI n0 := by simpa using e0
    have g1 : u1 = vI n1 := by simpa using e1
    have g2 : u2 = vI n2 := by simpa using e2
    have g3 : u3 = vI n3 := by simpa using e3
    have g4 : u4 = vI n4 := by simpa using e4
    have g5 : [u5, u6] = vInterval n5 := by simpa using e5
    have g6 : [u7, u8, u9] = vPitch n6 := by simpa using e6
    have g7 : [u10, u11, u12] = vPitch n7 := by simpa using e7
    refine ⟨⟨n0, n1, n2, n3, n4, n5, n6, n7⟩, ?_⟩
    subst g0
    subst g1
    subst g2
    subst g3
    subst g4
    unfold vPart
    rw [← g5]
    rw [← g6]
    rw [← g7]
    rfl
theorem relPart (x : Part) : ∀ (j : Nat) c, (encP x)[j]? = some c → VRel (memOf W) [] c ((vPart x).getD j undef) := fun j c hj => by
  match j, hj with
  | 0, hj | 1, hj | 2, hj | 3, hj | 4, hj | 5, hj | 6, hj | 7, hj | 8, hj | 9, hj | 10, hj | 11, hj | 12, hj => simp only [encP, List.getElem?_cons_succ, List.getElem?_cons_zero, Option.some.injEq] at hj; subst hj; exact .prim _
  | j + 13, hj => simp [encP] at hj
theorem lkNote : LOk Tryd.prog 55 ⟨.struct [(3, 0, 1), (3, 1, 1), (3, 2, 1), (3, 3, 1), (3, 4, 1), (51, 5, 2), (51, 7, 2), (53, 9, 3)], 12, 96, [.i .i64, .i .i64, .i .i64, .i .i64, .i .i64, .i .i64, .i .i64, .i .i64, .i .i64, .i .i64, .i .i64, .i .i64]⟩ := .of (tabOk.get rfl)
theorem cnNote : Tryd.prog.cellsOf 55 = 12 := by kernel_rfl
def vNote (x : Note) : List Value := [vI x.id] ++ [vI x.part] ++ [vI x.bar] ++ [vI x.voice] ++ [vI x.ossia] ++ vRat x.start ++ vRat x.len ++ vPitch x.pitch
theorem rdNote {cs : List Value} {y : DataW H × List MemPlace} (h : DataW.trod enc Tryd.prog W base spare held fuel 55 cs = some y) : ∃ x : Note, cs = vNote x := by
  obtain ⟨hlen, n, hf⟩ := struct_rd lkNote h
  rw [cnNote] at hlen
  match cs, hlen with
  | [u0, u1, u2, u3, u4, u5, u6, u7, u8, u9, u10, u11], _ =>
    obtain ⟨y0, h0⟩ := hf 0 3 0 1 rfl
    obtain ⟨y1, h1⟩ := hf 1 3 1 1 rfl
    obtain ⟨y2, h2⟩ := hf 2 3 2 1 rfl
    obtain ⟨y3, h3⟩ := hf 3 3 3 1 rfl
    obtain ⟨y4, h4⟩ := hf 4 3 4 1 rfl
    obtain ⟨y5, h5⟩ := hf 5 51 5 2 rfl
    obtain ⟨y6, h6⟩ := hf 6 51 7 2 rfl
    obtain ⟨y7, h7⟩ := hf 7 53 9 3 rfl
    rw [cn3] at h0 h1 h2 h3 h4
    rw [cnRat] at h5
    rw [cnRat] at h6
    rw [cnPitch] at h7
    obtain ⟨n0, e0, _⟩ := int_rd lk3 h0
    obtain ⟨n1, e1, _⟩ := int_rd lk3 h1
    obtain ⟨n2, e2, _⟩ := int_rd lk3 h2
    obtain ⟨n3, e3, _⟩ := int_rd lk3 h3
    obtain ⟨n4, e4, _⟩ := int_rd lk3 h4
    obtain ⟨n5, e5⟩ := rdRat h5
    obtain ⟨n6, e6⟩ := rdRat h6
    obtain ⟨n7, e7⟩ := rdPitch h7
    have g0 : u0 = vI n0 := by simpa using e0
    have g1 : u1 = vI n1 := by simpa using e1
    have g2 : u2 = vI n2 := by simpa using e2
    have g3 : u3 = vI n3 := by simpa using e3
    have g4 : u4 = vI n4 := by simpa using e4
    have g5 : [u5, u6] = vRat n5 := by simpa using e5
    have g6 : [u7, u8] = vRat n6 := by simpa using e6
    have g7 : [u9, u10, u11] = vPitch n7 := by simpa using e7
    refine ⟨⟨n0, n1, n2, n3, n4, n5, n6, n7⟩, ?_⟩
    subst g0
    subst g1
    subst g2
    subst g3
    subst g4
    unfold vNote
    rw [← g5]
    rw [← g6]
    rw [← g7]
    rfl
theorem relNote (x : Note) : ∀ (j : Nat) c, (encN x)[j]? = some c → VRel (memOf W) [] c ((vNote x).getD j undef) := fun j c hj => by
  match j, hj with
  | 0, hj | 1, hj | 2, hj | 3, hj | 4, hj | 5, hj | 6, hj | 7, hj | 8, hj | 9, hj | 10, hj | 11, hj => simp only [encN, List.getElem?_cons_succ, List.getElem?_cons_zero, Option.some.injEq] at hj; subst hj; exact .prim _
  | j + 12, hj => simp [encN] at hj
theorem lkSBar : LOk Tryd.prog 22 ⟨.slice 61, 1, 24, [.slice]⟩ := .of (tabOk.get rfl)
theorem cnSBar : Tryd.prog.cellsOf 22 = 1 := by kernel_rfl
theorem rdSBar {v : Value} {y : DataW H × List MemPlace} (hspot : ∀ a len cap, v = .slice (some a) len cap → a.spot = none) (h : DataW.trod enc Tryd.prog W base spare held fuel 22 [v] = some y) : ∃ l : List Bar, VRel (memOf W) [] (.sl 4 (l.map encB) .no) v ∧ l.length ≤ 9223372036854775807 := by
  obtain ⟨l, h1, h2, _⟩ := slice_rel (w := W) (enc := enc) (base := base) (held := held) (spare := spare) encB (fun _ => True) lkSBar.und_slice cnBar (by decide) (fun n cs y h => by
    obtain ⟨e, rfl⟩ := rdBar h
    exact ⟨e, rfl, relBar e, trivial⟩) hspot h
  exact ⟨l, h1, h2⟩
theorem argBars {r : Reach} {v : Value} {d : DataW H} {p : List MemPlace} (hval : Value.okWide Tryd.prog W r b0 22 v) (h : DataW.Trod enc Tryd.prog W base spare held 22 v d p) : ∃ l : List Bar, VRel (memOf W) [] (.sl 4 (l.map encB) .no) v ∧ l.length ≤ 9223372036854775807 := by
  obtain ⟨fuel, hf⟩ := h
  rw [slice_val1 lkSBar.und_slice hval] at hf
  exact rdSBar (slice_ok1 lkSBar.und_slice hval) hf
theorem lkSPart : LOk Tryd.prog 23 ⟨.slice 93, 1, 24, [.slice]⟩ := .of (tabOk.get rfl)
theorem cnSPart : Tryd.prog.cellsOf 23 = 1 := by kernel_rfl
theorem rdSPart {v : Value} {y : DataW H × List MemPlace} (hspot : ∀ a len cap, v = .slice (some a) len cap → a.spot = none) (h : DataW.trod enc Tryd.prog W base spare held fuel 23 [v] = some y) : ∃ l : List Part, VRel (memOf W) [] (.sl 13 (l.map encP) .no) v ∧ l.length ≤ 9223372036854775807 := by
  obtain ⟨l, h1, h2, _⟩ := slice_rel (w := W) (enc := enc) (base := base) (held := held) (spare := spare) encP (fun _ => True) lkSPart.und_slice cnPart (by decide) (fun n cs y h => by
    obtain ⟨e, rfl⟩ := rdPart h
    exact ⟨e, rfl, relPart e, trivial⟩) hspot h
  exact ⟨l, h1, h2⟩
theorem argParts {r : Reach} {v : Value} {d : DataW H} {p : List MemPlace} (hval : Value.okWide Tryd.prog W r b0 23 v) (h : DataW.Trod enc Tryd.prog W base spare held 23 v d p) : ∃ l : List Part, VRel (memOf W) [] (.sl 13 (l.map encP) .no) v ∧ l.length ≤ 9223372036854775807 := by
  obtain ⟨fuel, hf⟩ := h
  rw [slice_val1 lkSPart.und_slice hval] at hf
  exact rdSPart (slice_ok1 lkSPart.und_slice hval) hf
theorem lkSNote : LOk Tryd.prog 24 ⟨.slice 55, 1, 24, [.slice]⟩ := .of (tabOk.get rfl)
theorem cnSNote : Tryd.prog.cellsOf 24 = 1 := by kernel_rfl
theorem rdSNote {v : Value} {y : DataW H × List MemPlace} (hspot : ∀ a len cap, v = .slice (some a) len cap → a.spot = none) (h : DataW.trod enc Tryd.prog W base spare held fuel 24 [v] = some y) : ∃ l : List Note, VRel (memOf W) [] (.sl 12 (l.map encN) .no) v ∧ l.length ≤ 9223372036854775807 := by
  obtain ⟨l, h1, h2, _⟩ := slice_rel (w := W) (enc := enc) (base := base) (held := held) (spare := spare) encN (fun _ => True) lkSNote.und_slice cnNote (by decide) (fun n cs y h => by
    obtain ⟨e, rfl⟩ := rdNote h
    exact ⟨e, rfl, relNote e, trivial⟩) hspot h
  exact ⟨l, h1, h2⟩
theorem argNotes {r : Reach} {v : Value} {d : DataW H} {p : List MemPlace} (hval : Value.okWide Tryd.prog W r b0 24 v) (h : DataW.Trod enc Tryd.prog W base spare held 24 v d p) : ∃ l : List Note, VRel (memOf W) [] (.sl 12 (l.map encN) .no) v ∧ l.length ≤ 9223372036854775807 := by
  obtain ⟨fuel, hf⟩ := h
  rw [slice_val1 lkSNote.und_slice hval] at hf
  exact rdSNote (slice_ok1 lkSNote.und_slice hval) hf
theorem ctNote : Tryd.prog.cellTypes Tryd.prog.depth 55 = some [3, 3, 3, 3, 3, 3, 3, 3, 3, 3, 3, 3] := by kernel_rfl
theorem argNote {r : Reach} {v : Value} {d : DataW H} {p : List MemPlace} (hval : Value.okWide Tryd.prog W r b0 55 v) (h : DataW.Trod enc Tryd.prog W base spare held 55 v d p) : ∃ e : Note, VRel (memOf W) [] (.agg (encN e)) v := by
  obtain ⟨cs, rfl, hsz, _⟩ := struct_ok lkNote ctNote hval
  obtain ⟨fuel, hf⟩ := h
  obtain ⟨l, rfl⟩ : ∃ l, cs = List.toArray l := ⟨cs.toList, by simp⟩
  simp only [Value.cells] at hf
  obtain ⟨e, he⟩ := rdNote hf
  have he : l = vNote e := by simpa using he
  subst he
  refine ⟨e, .agg _ _ rfl fun i c hi => ?_⟩
  have := relNote (W := W) e i c hi
  simpa using this
theorem lkScore : LOk Tryd.prog 26 ⟨.struct [(3, 0, 1), (22, 1, 1), (23, 2, 1), (24, 3, 1)], 4, 80, [.i .i64, .slice, .slice, .slice]⟩ := .of (tabOk.get rfl)
theorem cnScore : Tryd.prog.cellsOf 26 = 4 := by kernel_rfl
theorem ctScore : Tryd.prog.cellTypes Tryd.prog.depth 26 = some [3, 22, 23, 24] := by kernel_rfl
theorem argScore {r : Reach} {v : Value} {d : DataW H} {p : List MemPlace} (hval : Value.okWide Tryd.prog W r b0 26 v) (h : DataW.Trod enc Tryd.prog W base spare held 26 v d p) : ∃ s : Score, VRel (memOf W) [] (.agg (encS s)) v ∧ s.Sized := by
  obtain ⟨cs, rfl, hsz, hspot⟩ := struct_ok lkScore ctScore hval
  obtain ⟨fuel, hf⟩ := h
  obtain ⟨l, rfl⟩ : ∃ l, cs = List.toArray l := ⟨cs.toList, by simp⟩
  simp only [Value.cells] at hf
  obtain ⟨hlen, n, hff⟩ := struct_rd lkScore hf
  rw [cnScore] at hlen
  match l, hlen with
  | [u0, u1, u2, u3], _ =>
    obtain ⟨y0, h0⟩ := hff 0 3 0 1 rfl
    obtain ⟨y1, h1⟩ := hff 1 22 1 1 rfl
    obtain ⟨y2, h2⟩ := hff 2 23 2 1 rfl
    obtain ⟨y3, h3⟩ := hff 3 24 3 1 rfl
    rw [cn3] at h0
    rw [cnSBar] at h1
    rw [cnSPart] at h2
    rw [cnSNote] at h3
    obtain ⟨n0, e0, _⟩ := int_rd lk3 h0
    have g0 : u0 = vI n0 := by simpa using e0
    subst g0
    obtain ⟨a, r1, b1⟩ := rdSBar (v := u1) (fun ad len cap e => hspot 1 _ _ ad len cap (by decide) rfl lkSBar.und_slice (by subst e; rfl)) (by simpa using h1)
    obtain ⟨b, r2, b2⟩ := rdSPart (v := u2) (fun ad len cap e => hspot 2 _ _ ad len cap (by decide) rfl lkSPart.und_slice (by subst e; rfl)) (by simpa using h2)
    obtain ⟨c, r3, b3⟩ := rdSNote (v := u3) (fun ad len cap e => hspot 3 _ _ ad len cap (by decide) rfl lkSNote.und_slice (by subst e; rfl)) (by simpa using h3)
    refine ⟨⟨n0, a, b, c⟩, .agg _ _ rfl fun i c hi => ?_, b1, b2, b3⟩
    match i, hi with
    | 0, hi => simp [encS] at hi; subst hi; exact .prim _
    | 1, hi => simp [encS] at hi; subst hi; exact r1
    | 2, hi => simp [encS] at hi; subst hi; exact r2
    | 3, hi => simp [encS] at hi; subst hi; exact r3
    | i + 4, hi => simp [encS] at hi
end
theorem own : ownKnob Tryd.prog.godebug = none := by kernel_rfl
theorem laidOut : laidOutB Tryd.prog = true := by kernel_rfl
abbrev laid1 : List (String × DataW Unit) := [("partbook/pitch.naturals", Rows.laid_partbook_pitch_naturals)]
theorem door_met (os : Os) (args : Array Value) : laidMetH Tryd.prog laid1 ((World.doorLaid Tryd.prog 4000 os).forCall (fun _ _ => 0) ⟨#[], args, []⟩).memory :=
  laidMetH_of_parts3 (fuel := 8) (laidMet_of_run' 8 (by kernel_rfl) (by kernel_rfl)) (by kernel_rfl) (by kernel_rfl)
theorem gNat : Tryd.prog.globalNamed "partbook/pitch.naturals" = some 0 := by kernel_rfl
theorem tNat : (Tryd.prog.globals[0]?).map (·.type) = some 174 := by kernel_rfl
theorem uNat : Tryd.prog.underlying 174 = some (.array 7 3) := by kernel_rfl
/-- What the laid variable holds. -/
theorem gam_laid {W : World} (h : laidMetH Tryd.prog laid1 W) : GamOk (memOf W) := by
  rw [MakeChecks.laidMetH_plain _ _ _ (by kernel_rfl)] at h
  obtain ⟨ps, ⟨g0, t0, cs0, f0, p0, q0, hg0, ht0, hv0, hd0, _⟩, _, _⟩ := h
  obtain rfl := Option.some.inj (gNat.symm.trans hg0)
  obtain rfl := Option.some.inj (tNat.symm.trans ht0)
  obtain ⟨xs, m1, hx0, hx1, hlen, hn3, hel⟩ := DataW.trod_array uNat hd0
  have hm : xs.map (·.1) = [.lit (.int .i64 0), .lit (.int .i64 2), .lit (.int .i64 4), .lit (.int .i64 5), .lit (.int .i64 7), .lit (.int .i64 9), .lit (.int .i64 11)] := by
    have := congrArg Prod.fst hx1
    simp only [Rows.laid_partbook_pitch_naturals, DataW.agg.injEq] at this
    exact this.symm
  have key : ∀ j, j < 7 → ∃ k, cs0[j]? = some (.int .i64 k) ∧ (xs.map (·.1))[j]? = some (.lit (.int .i64 k)) := fun j hj => by
    have h0 := hel j hj
    rw [cn3, Nat.mul_one, List.getElem?_eq_getElem (by omega)] at h0
    obtain ⟨k, e1, e2, _⟩ := DataW.trod_int lk3.und_int h0
    refine ⟨k, ?_, ?_⟩
    · have := congrArg (fun l => l[0]?) e1
      simpa using this
    · rw [List.getElem?_map, List.getElem?_eq_getElem (by omega), e2]; rfl
  intro p hp j v hv
  simp only [Gam, List.mem_singleton] at hp
  subst hp
  dsimp only at hv ⊢
  have hj : j < 7 := by
    rcases Nat.lt_or_ge j 7 with h | h
    · exact h
    · rw [List.getElem?_eq_none (by simpa using h)] at hv; cases hv
  obtain ⟨k, h1, h2⟩ := key j hj
  rw [hm] at h2
  have hk : v = .int .i64 k := by
    match j, hj, hv, h2 with
    | 0, _, hv, h2 | 1, _, hv, h2 | 2, _, hv, h2 | 3, _, hv, h2 | 4, _, hv, h2 | 5, _, hv, h2 | 6, _, hv, h2 => simp at hv h2; rw [← hv, ← h2]
  rw [hk]
  show W.cell? ⟨0, j, none⟩ = _
  rw [World.var?_cell hg0 hv0 j]; exact h1
end Go.Proofs.YtnmdmmfdnnmdfaaDoor
/- What is handed in to the laws of notes reads as a content: bytes. No statement is proved here. -/
namespace Go.Proofs.YtnmdmmfdnnmdfaaDoor
open Go.Ab Go.ChangeShapes Go.WideShapes
section
variable {H : Type} {enc : TypeId × Value → H} {W : World} {base b0 fuel : Nat} {held : Bool} {spare : Nat → Bool}
theorem lkU8 : LOk Tryd.prog 5 ⟨.int .u8, 1, 1, [.i .u8]⟩ := .of (tabOk.get rfl)
theorem cnU8 : Tryd.prog.cellsOf 5 = 1 := by kernel_rfl
theorem lkBy : LOk Tryd.prog 49 ⟨.slice 5, 1, 24, [.slice]⟩ := .of (tabOk.get rfl)
theorem argBytes {r : Reach} {v : Value} {d : DataW H} {p : List MemPlace} (hval : Value.okWide Tryd.prog W r b0 49 v) (h : DataW.Trod enc Tryd.prog W base spare held 49 v d p) : ∃ b : List UInt8, VRel (memOf W) [] (.sl 1 (b.map by8) .no) v ∧ b.length ≤ 9223372036854775807 := by
  obtain ⟨fuel, hf⟩ := h
  rw [slice_val1 lkBy.und_slice hval] at hf
  obtain ⟨b, h1, h2, _⟩ := slice_rel (w := W) (enc := enc) (base := base) (held := held) (spare := spare) by8 (fun _ => True) lkBy.und_slice cnU8 (by decide) (fun n cs y h => by
    obtain ⟨k, e, hw⟩ := int_rd lkU8 h
    subst e
    have hk : 0 ≤ k ∧ k ≤ 255 := by
      simp only [Lit.wf, Bool.and_eq_true, decide_eq_true_eq] at hw
      exact hw
    refine ⟨UInt8.ofNat k.toNat, rfl, fun j c hj => ?_, trivial⟩
    match j, hj with
    | 0, hj =>
      simp only [List.getElem?_cons_zero, Option.some.injEq] at hj; subst hj
      have : ((UInt8.ofNat k.toNat).toNat : Int) = k := by rw [UInt8.toNat_ofNat']; omega
      show VRel _ _ (.prim (.int .u8 ((UInt8.ofNat k.toNat).toNat : Int))) (.int .u8 k)
      rw [this]; exact .prim _
    | j + 1, hj => simp at hj) (slice_ok1 lkBy.und_slice hval) hf
  exact ⟨b, h1, h2⟩
end
end Go.Proofs.YtnmdmmfdnnmdfaaDoor
