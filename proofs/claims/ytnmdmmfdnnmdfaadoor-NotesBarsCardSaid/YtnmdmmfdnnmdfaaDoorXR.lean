/- Texts joined: CQ CR CS CT8 SI RS. No statement is proved here. -/
import Derived.Test.YtnmdmmfdnnmdfaaDoorCP
import Derived.Test.YtnmdmmfdnnmdfaaDoorSH
import Derived.Test.YtnmdmmfdnnmdfaaDoorM3
import Derived.SizedLaws
import Derived.LaidMore
import Derived.MakeChecks
set_option linter.unusedVariables false
set_option linter.unusedSimpArgs false
/- Contracts by content: score.asked, Bar, Part, Note. No statement is proved here. -/
namespace Go.Proofs.YtnmdmmfdnnmdfaaDoor
open Go.Ab
attribute [local irreducible] AWP AOps EStep AQ PStep PRun PCall TCall VCall

def askedB (s : Score) (id : Int) : Bool := scoreOk s && inB id 1 1000000
/-- An index, whether it is one, and the error. -/
def idR (ok : Bool) (i : Int) : Int × Bool × Int := if ok then ((idxR i).1, (idxR i).2, 0) else (0, false, 1)
def at3 (r : Int × Bool × Int) : AV := .tup [.int r.1, .b r.2.1, .int r.2.2]
def barR (s : Score) (id : Int) : Int × Bool × Int := idR (askedB s id) (findI (fun x : Bar => x.id == id) s.bars)
def partR (s : Score) (id : Int) : Int × Bool × Int := idR (askedB s id) (findI (fun x : Part => x.id == id) s.parts)
def noteR (s : Score) (id : Int) : Int × Bool × Int := idR (askedB s id) (findI (fun x : Note => x.id == id) s.notes)
end Go.Proofs.YtnmdmmfdnnmdfaaDoor
/- Contracts by content: score.played, an iterator. No statement is proved here. -/
namespace Go.Proofs.YtnmdmmfdnnmdfaaDoor
open Go.Ab
attribute [local irreducible] AWP AOps EStep AQ PStep PRun PCall TCall VCall

def playN (p : Part) (n : Note) : Note := { n with part := p.id, pitch := { n.pitch with oct := n.pitch.oct + p.octave } }
def srcOf (p : Part) : Int := if p.of_ == 0 then p.id else p.of_
/-- What a part plays. -/
def playedL (l : List Note) (p : Part) : List Note := (l.filter fun n => n.part == srcOf p).map (playN p)
theorem played_len (l : List Note) (p : Part) : (playedL l p).length ≤ l.length := by
  unfold playedL; rw [List.length_map]; exact List.length_filter_le _ _
theorem played_yes {l : List Note} {p : Part} {k : Nat} (h : k < l.length) (hp : ((l.getD k default).part == srcOf p) = true) :
    (playedL l p)[(playedL (l.take k) p).length]? = some (playN p (l.getD k default)) ∧ (playedL (l.take (k + 1)) p).length = (playedL (l.take k) p).length + 1 := by
  have e1 : l = l.take k ++ (l.getD k default :: l.drop (k + 1)) := by
    rw [getD_lt h, ← List.drop_eq_getElem_cons h, List.take_append_drop]
  have e2 : l.take (k + 1) = l.take k ++ [l.getD k default] := by
    rw [List.take_add_one, getD_lt h]; simp [h]
  constructor
  · have e3 : playedL l p = playedL (l.take k) p ++ (playN p (l.getD k default) :: playedL (l.drop (k + 1)) p) := by
      conv => lhs; rw [e1]
      unfold playedL
      rw [List.filter_append, List.filter_cons_of_pos (by exact hp), List.map_append, List.map_cons]
    rw [e3]; simp
  · rw [e2]; unfold playedL
    rw [List.filter_append, List.filter_cons_of_pos (by exact hp)]; simp
theorem played_no {l : List Note} {p : Part} {k : Nat} (h : k < l.length) (hp : ((l.getD k default).part == srcOf p) = false) : (playedL (l.take (k + 1)) p).length = (playedL (l.take k) p).length := by
  have e2 : l.take (k + 1) = l.take k ++ [l.getD k default] := by
    rw [List.take_add_one, getD_lt h]; simp [h]
  rw [e2]; unfold playedL
  rw [List.filter_append, List.filter_cons_of_neg (by rw [hp]; decide)]; simp
theorem bne_f {a b : Int} (h : (a != b) = false) : (a == b) = true := by simpa using h
theorem bne_t {a b : Int} (h : (a != b) = true) : (a == b) = false := by simpa using h
def octIn (l : List Note) : Prop := ∀ n ∈ l, -1000 ≤ n.pitch.oct ∧ n.pitch.oct ≤ 1000
theorem ex4 {σ : Store} (h : σ.length = 4) : σ = [σ.getD 0 .dead, σ.getD 1 .dead, σ.getD 2 .dead, σ.getD 3 .dead] := by
  match σ, h with
  | [a, b, c, d], _ => rfl
end Go.Proofs.YtnmdmmfdnnmdfaaDoor
/- Contracts by content: score.Plays. No statement is proved here. -/
namespace Go.Proofs.YtnmdmmfdnnmdfaaDoor
open Go.Ab
attribute [local irreducible] AWP AOps EStep AQ PStep PRun PCall TCall VCall

/-- The numbers of a valid score are small. -/
theorem scoreOk_oct {s : Score} (h : scoreOk s = true) : octIn s.notes ∧ ∀ p ∈ s.parts, -1000 ≤ p.octave ∧ p.octave ≤ 1000 := by
  unfold scoreOk scoreBad at h
  simp only [Bool.and_eq_true, Bool.not_eq_true', Bool.or_eq_false_iff, Bool.not_eq_false'] at h
  obtain ⟨⟨⟨⟨⟨h1, h2⟩, h3⟩, h4⟩, h5⟩, h6⟩ := h
  constructor
  · intro n hn
    unfold notesOk at h4
    simp only [Bool.and_eq_true, List.all_eq_true] at h4
    have h7 := h4.1.2 n hn
    unfold noteOk at h7
    split at h7
    · unfold nformed noteForm noteP at h7
      simp only [Bool.and_eq_true] at h7
      have := h7.2.2.2
      simp only [inB, Bool.and_eq_true, decide_eq_true_eq] at this
      omega
    · cases h7
  · intro p hp
    unfold partsOk at h3
    simp only [Bool.and_eq_true, List.all_eq_true] at h3
    have h7 := h3.1.2 p hp
    unfold partOk partBad partNums at h7
    simp only [Bool.and_eq_true, Bool.not_eq_true', Bool.or_eq_false_iff, Bool.not_eq_false'] at h7
    have := h7.1.1.1.1.1.2
    simp only [inB, Bool.and_eq_true, decide_eq_true_eq] at this
    omega
def playsR (s : Score) (id : Int) : List Note × Int := if scoreOk s then (if findI (fun x : Part => x.id == id) s.parts ≥ 0 then (playedL s.notes (s.parts.getD (findI (fun x : Part => x.id == id) s.parts).toNat default), 0) else ([], 22)) else ([], 1)
end Go.Proofs.YtnmdmmfdnnmdfaaDoor
/- Contracts by content: slices.Clone of bars and parts; score.With. No statement is proved here. -/
namespace Go.Ab
theorem Ent.agg {us vs : List AV} (hl : us.length = vs.length) (h : ∀ (i : Nat) (u v : AV), us[i]? = some u → vs[i]? = some v → Ent u v) : Ent (.agg us) (.agg vs) := fun M x hx => by
  cases hx with
  | agg _ xs h1 h2 =>
    refine .agg vs xs (by rw [h1, hl]) fun i c hi => ?_
    have hlt : i < us.length := by
      rw [hl]
      rcases Nat.lt_or_ge i vs.length with h | h
      · exact h
      · simp [List.getElem?_eq_none h] at hi
    exact h i us[i] c (List.getElem?_eq_getElem hlt) hi M _ (h2 i _ (List.getElem?_eq_getElem hlt))
end Go.Ab
namespace Go.Proofs.YtnmdmmfdnnmdfaaDoor
open Go.Ab
attribute [local irreducible] AWP AOps EStep AQ PStep PRun PCall TCall VCall

theorem one_encB (l : List Bar) : ∀ x ∈ l.map encB, x.all oneAV = true := fun x hx => by
  obtain ⟨c, _, rfl⟩ := List.mem_map.1 hx; rfl
theorem one_encP (l : List Part) : ∀ x ∈ l.map encP, x.all oneAV = true := fun x hx => by
  obtain ⟨c, _, rfl⟩ := List.mem_map.1 hx; rfl
theorem pure_prims {es : List (List AV)} (h : ∀ e ∈ es, e.all pureC = true) : ∀ e ∈ es, ∀ a ∈ e, ∀ M B x, VRel M B a x → VRel M [] a x := fun e he a ha _ _ _ hx => pureC_rel (List.all_eq_true.1 (h e he) a ha) hx
theorem cloneB_spec (l : List Bar) (hl : l.length ≤ 1000000000) : PCall Tryd.prog 45 [.sl 4 (l.map encB) .no] (.sl 4 (l.map encB) .no) := by
  have hll : (l.map encB).length = l.length := by simp
  refine PCall.body Tryd.func45 rfl rfl Tryd.ntmps45 rfl rfl ?_
  repeat' (first | refine AOps.q rfl rfl rfl (fun hg => by first | exact std0 | exact std1) (by exact rfl) ?_ | refine AWP.seq ?_ | refine AWP.regionK (fun K' hK => ?_) | (refine AOps.nil (hK _ _ ?_); clear hK K') | refine AOps.e (EStep.boxW rfl rfl rfl rfl rfl True.intro rfl rfl ?_) | refine AOps.e (EStep.storeW tabOk rfl rfl rfl True.intro rfl rfl True.intro rfl rfl rfl rfl rfl rfl rfl ?_) | refine AOps.e (EStep.allocW tabOk rfl rfl rfl rfl rfl rfl ?_) | refine AOps.e (EStep.nilSl tabOk rfl rfl rfl rfl rfl True.intro rfl ?_) | (refine AWP.condW rfl True.intro (fun hc => ?_) (fun hc => ?_) <;> (first | (simp only [decide_eq_true_eq] at hc) | (simp only [decide_eq_false_iff_not, Int.not_lt, Int.not_le] at hc) | skip)) | refine AWP.block ?_ | refine AWP.exit ?_ | refine AWP.skip ?_ | refine AWP.drawK2 (by decide +kernel) (by kernel_rfl) (by decide +kernel) rfl (fun K' hK => ?_) | refine AWP.drawL2 (by kernel_rfl) (by decide +kernel) rfl (fun K' hK => ?_) | (refine AQ.nil (hK _ ?_); clear hK K') | refine AQ.nil ?_ | refine AQ.q rfl rfl (fun hg => by first | exact std0 | exact std1) (by exact rfl) ?_)
  intro b hb
  repeat' (first | refine AOps.q rfl rfl rfl (fun hg => by first | exact PRun.buildSl0 tabOk rfl rfl | exact std0 | exact std1) (by exact rfl) ?_ | refine AWP.seq ?_ | refine AWP.regionK (fun K' hK => ?_) | (refine AOps.nil (hK _ _ ?_); clear hK K') | refine AOps.e (EStep.boxW rfl rfl rfl rfl rfl True.intro rfl rfl ?_) | refine AOps.e (EStep.storeW tabOk rfl rfl rfl True.intro rfl rfl True.intro rfl rfl rfl rfl rfl rfl rfl ?_) | refine AOps.e (EStep.allocW tabOk rfl rfl rfl rfl rfl rfl ?_) | refine AOps.e (EStep.appendArrF tabOk rfl rfl rfl rfl (Rd.w rfl True.intro) (Rd.w rfl True.intro) (.sl rfl (one_encB _)) (LOk.of (tabOk.get rfl)) (LOk.of (tabOk.get rfl)) rfl rfl (by simp only [hll]; omega) (by omega) ?_) | (refine AWP.condW rfl True.intro (fun hc => ?_) (fun hc => ?_) <;> (first | (simp only [decide_eq_true_eq] at hc) | (simp only [decide_eq_false_iff_not, Int.not_lt, Int.not_le] at hc) | skip)) | refine AWP.block ?_ | refine AWP.exit ?_ | refine AWP.skip ?_ | refine AWP.drawK2 (by decide +kernel) (by kernel_rfl) (by decide +kernel) rfl (fun K' hK => ?_) | refine AWP.drawL2 (by kernel_rfl) (by decide +kernel) rfl (fun K' hK => ?_) | (refine AQ.nil (hK _ ?_); clear hK K') | refine AQ.nil ?_ | refine AQ.q rfl rfl (fun hg => by first | exact PRun.buildSl0 tabOk rfl rfl | exact std0 | exact std1) (by exact rfl) ?_)
  · have : l = [] := by simpa using hb hc
    subst this
    refine AWP.ret ⟨.inr rfl, Ent.nil⟩
  · refine AWP.freezeA (d := 2) (l := 0) (sz := 4) (ver := 0) (es := l.map encB) rfl rfl (pure_prims fun e he => by obtain ⟨c, _, rfl⟩ := List.mem_map.1 he; rfl) ?_
    exact AWP.ret ⟨.inr rfl, fun _ _ h => h⟩
theorem cloneP_spec (l : List Part) (hl : l.length ≤ 1000000000) : PCall Tryd.prog 46 [.sl 13 (l.map encP) .no] (.sl 13 (l.map encP) .no) := by
  have hll : (l.map encP).length = l.length := by simp
  refine PCall.body Tryd.func46 rfl rfl Tryd.ntmps46 rfl rfl ?_
  repeat' (first | refine AOps.q rfl rfl rfl (fun hg => by first | exact std0 | exact std1) (by exact rfl) ?_ | refine AWP.seq ?_ | refine AWP.regionK (fun K' hK => ?_) | (refine AOps.nil (hK _ _ ?_); clear hK K') | refine AOps.e (EStep.boxW rfl rfl rfl rfl rfl True.intro rfl rfl ?_) | refine AOps.e (EStep.storeW tabOk rfl rfl rfl True.intro rfl rfl True.intro rfl rfl rfl rfl rfl rfl rfl ?_) | refine AOps.e (EStep.allocW tabOk rfl rfl rfl rfl rfl rfl ?_) | refine AOps.e (EStep.nilSl tabOk rfl rfl rfl rfl rfl True.intro rfl ?_) | (refine AWP.condW rfl True.intro (fun hc => ?_) (fun hc => ?_) <;> (first | (simp only [decide_eq_true_eq] at hc) | (simp only [decide_eq_false_iff_not, Int.not_lt, Int.not_le] at hc) | skip)) | refine AWP.block ?_ | refine AWP.exit ?_ | refine AWP.skip ?_ | refine AWP.drawK2 (by decide +kernel) (by kernel_rfl) (by decide +kernel) rfl (fun K' hK => ?_) | refine AWP.drawL2 (by kernel_rfl) (by decide +kernel) rfl (fun K' hK => ?_) | (refine AQ.nil (hK _ ?_); clear hK K') | refine AQ.nil ?_ | refine AQ.q rfl rfl (fun hg => by first | exact std0 | exact std1) (by exact rfl) ?_)
  intro b hb
  repeat' (first | refine AOps.q rfl rfl rfl (fun hg => by first | exact PRun.buildSl0 tabOk rfl rfl | exact std0 | exact std1) (by exact rfl) ?_ | refine AWP.seq ?_ | refine AWP.regionK (fun K' hK => ?_) | (refine AOps.nil (hK _ _ ?_); clear hK K') | refine AOps.e (EStep.boxW rfl rfl rfl rfl rfl True.intro rfl rfl ?_) | refine AOps.e (EStep.storeW tabOk rfl rfl rfl True.intro rfl rfl True.intro rfl rfl rfl rfl rfl rfl rfl ?_) | refine AOps.e (EStep.allocW tabOk rfl rfl rfl rfl rfl rfl ?_) | refine AOps.e (EStep.appendArrF tabOk rfl rfl rfl rfl (Rd.w rfl True.intro) (Rd.w rfl True.intro) (.sl rfl (one_encP _)) (LOk.of (tabOk.get rfl)) (LOk.of (tabOk.get rfl)) rfl rfl (by simp only [hll]; omega) (by omega) ?_) | (refine AWP.condW rfl True.intro (fun hc => ?_) (fun hc => ?_) <;> (first | (simp only [decide_eq_true_eq] at hc) | (simp only [decide_eq_false_iff_not, Int.not_lt, Int.not_le] at hc) | skip)) | refine AWP.block ?_ | refine AWP.exit ?_ | refine AWP.skip ?_ | refine AWP.drawK2 (by decide +kernel) (by kernel_rfl) (by decide +kernel) rfl (fun K' hK => ?_) | refine AWP.drawL2 (by kernel_rfl) (by decide +kernel) rfl (fun K' hK => ?_) | (refine AQ.nil (hK _ ?_); clear hK K') | refine AQ.nil ?_ | refine AQ.q rfl rfl (fun hg => by first | exact PRun.buildSl0 tabOk rfl rfl | exact std0 | exact std1) (by exact rfl) ?_)
  · have : l = [] := by simpa using hb hc
    subst this
    refine AWP.ret ⟨.inr rfl, Ent.nil⟩
  · refine AWP.freezeA (d := 2) (l := 0) (sz := 13) (ver := 0) (es := l.map encP) rfl rfl (pure_prims fun e he => by obtain ⟨c, _, rfl⟩ := List.mem_map.1 he; rfl) ?_
    exact AWP.ret ⟨.inr rfl, fun _ _ h => h⟩
def noScore : Score := ⟨0, [], [], []⟩
theorem entNo : Ent (.agg [.int 0, .nils, .nils, .nils]) (.agg (encS noScore)) := Ent.agg rfl fun i u v hu hv => by
  match i, hu, hv with
  | 0, hu, hv => simp [encS, noScore] at hu hv; subst hu; subst hv; exact Ent.rfl' _
  | 1, hu, hv => simp [encS, noScore] at hu hv; subst hu; subst hv; exact Ent.nil
  | 2, hu, hv => simp [encS, noScore] at hu hv; subst hu; subst hv; exact Ent.nil
  | 3, hu, hv => simp [encS, noScore] at hu hv; subst hu; subst hv; exact Ent.nil
  | i + 4, hu, _ => simp at hu
/-- A score with other notes, and the error. -/
def withR (s : Score) (v : Int) (l : List Note) : Score × Int :=
  if (!scoreOk s || !inB v 1 1000000) || !notesOk s.bars l then (noScore, 1) else if wrongR s.parts l != 0 then (noScore, wrongR s.parts l) else (⟨v, s.bars, s.parts, (sortR s.bars l).1⟩, 0)
def tupS (r : Score × Int) : AV := .tup [.agg (encS r.1), .int r.2]
theorem with_spec (s : Score) (hs : s.Small) (v : Int) (l : List Note) (hl : l.length ≤ 1000000000) : PCall Tryd.prog 14 [.agg (encS s), .int v, .sl 12 (l.map encN) .no] (tupS (withR s v l)) := by
  have hv := svalid_spec s hs
  obtain ⟨h1, h2, h3⟩ := hs
  have hn := nvalid_spec s.bars l (by omega) (by omega)
  have hw := wrong_spec s.parts l (by omega) (by omega)
  have ho := Sort_spec s.bars l h1 hl
  have c1 := cloneB_spec s.bars h1
  have c2 := cloneP_spec s.parts h2
  refine PCall.bodyS tabOk Tryd.func14 rfl rfl Tryd.ntmps14 rfl ?_
  repeat' (first | refine AOps.q rfl rfl rfl (fun hg => by first | exact std0 | exact PRun.callW (hv) rfl rfl nd rfl nds | exact PRun.callW (sisID_spec _) rfl rfl nd rfl nds | exact PRun.callW (hn) rfl rfl nd rfl nds | exact PRun.callW (hw) rfl rfl nd rfl nds | exact PRun.callW (ho) rfl rfl nd rfl nds | exact PRun.callW (c1) rfl rfl nd rfl nds | exact PRun.callW (c2) rfl rfl nd rfl nds | exact PRun.buildW tabOk rfl rfl nds | exact std1) (by exact rfl) ?_ | refine AWP.seq ?_ | refine AWP.regionK (fun K' hK => ?_) | (refine AOps.nil (hK _ _ ?_); clear hK K') | refine AOps.e (EStep.boxW rfl rfl rfl rfl rfl True.intro rfl rfl ?_) | refine AOps.e (EStep.storeW tabOk rfl rfl rfl True.intro rfl rfl True.intro rfl rfl rfl rfl rfl rfl rfl ?_) | refine AOps.e (EStep.allocW tabOk rfl rfl rfl rfl rfl rfl ?_) | (refine AWP.condW rfl True.intro (fun hc => ?_) (fun hc => ?_) <;> (first | (simp only [decide_eq_true_eq] at hc) | (simp only [decide_eq_false_iff_not, Int.not_lt, Int.not_le] at hc) | skip)) | refine AWP.block ?_ | refine AWP.exit ?_ | refine AWP.skip ?_ | refine AWP.ret ?_ | refine AWP.drawK2 (by decide +kernel) (by kernel_rfl) (by decide +kernel) rfl (fun K' hK => ?_) | refine AWP.drawL2 (by kernel_rfl) (by decide +kernel) rfl (fun K' hK => ?_) | (refine AQ.nil (hK _ ?_); clear hK K') | refine AQ.nil ?_ | refine AQ.q rfl rfl (fun hg => by first | exact std0 | exact PRun.callW (hv) rfl rfl nd rfl nds | exact PRun.callW (sisID_spec _) rfl rfl nd rfl nds | exact PRun.callW (hn) rfl rfl nd rfl nds | exact PRun.callW (hw) rfl rfl nd rfl nds | exact PRun.callW (ho) rfl rfl nd rfl nds | exact PRun.callW (c1) rfl rfl nd rfl nds | exact PRun.callW (c2) rfl rfl nd rfl nds | exact PRun.buildW tabOk rfl rfl nds | exact std1) (by exact rfl) ?_)
  · refine ⟨.inr rfl, _, rfl, ?_⟩
    rw [show withR s v l = (noScore, 1) from if_pos hc]
    exact Ent.tup2 entNo (Ent.rfl' _)
  · rename_i hc0
    refine ⟨.inr rfl, _, rfl, ?_⟩
    rw [show withR s v l = (noScore, wrongR s.parts l) from by unfold withR; rw [if_neg (by rw [hc0]; decide), if_pos hc]]
    exact Ent.tup2 entNo (Ent.rfl' _)
  · rename_i hc0
    refine ⟨.inr rfl, _, rfl, ?_⟩
    rw [show withR s v l = (⟨v, s.bars, s.parts, (sortR s.bars l).1⟩, 0) from by unfold withR; rw [if_neg (by rw [hc0]; decide), if_neg (by rw [hc]; decide)]]
    exact Ent.of rfl
end Go.Proofs.YtnmdmmfdnnmdfaaDoor
/- Contracts by content: the reference of scores: Valid, Bar, Part, Note, Plays, With. No statement is proved here. -/
namespace Go.Proofs.YtnmdmmfdnnmdfaaDoor
open Go.Ab
attribute [local irreducible] AWP AOps EStep AQ PStep PRun PCall TCall VCall

def Score.Sized (s : Score) : Prop := s.bars.length ≤ 9223372036854775807 ∧ s.parts.length ≤ 9223372036854775807 ∧ s.notes.length ≤ 9223372036854775807
def Score.few (s : Score) : Bool := decide ((s.bars.length : Int) ≤ 60) && decide ((s.parts.length : Int) ≤ 61) && decide ((s.notes.length : Int) ≤ 60)
theorem Score.few_small {s : Score} (h : s.few = true) : s.Small := by
  unfold Score.few at h; simp only [Bool.and_eq_true, decide_eq_true_eq] at h
  exact ⟨by omega, by omega, by omega⟩
theorem few8_spec (s : Score) (hs : s.Sized) : PCall Tryd.prog 11 [.agg (encS s)] (.b s.few) := by
  obtain ⟨h1, h2, h3⟩ := hs
  refine PCall.body Tryd.func11 rfl rfl Tryd.ntmps11 rfl rfl ?_
  repeat' (first | refine AOps.q rfl rfl rfl (fun hg => by first | exact std0 | exact std1) (by exact rfl) ?_ | refine AWP.seq ?_ | refine AWP.regionK (fun K' hK => ?_) | (refine AOps.nil (hK _ _ ?_); clear hK K') | refine AOps.e (EStep.boxW rfl rfl rfl rfl rfl True.intro rfl rfl ?_) | refine AOps.e (EStep.storeW tabOk rfl rfl rfl True.intro rfl rfl True.intro rfl rfl rfl rfl rfl rfl rfl ?_) | refine AOps.e (EStep.allocW tabOk rfl rfl rfl rfl rfl rfl ?_) | (refine AWP.condW rfl True.intro (fun hc => ?_) (fun hc => ?_) <;> (first | (simp only [decide_eq_true_eq] at hc) | (simp only [decide_eq_false_iff_not, Int.not_lt, Int.not_le] at hc) | skip)) | refine AWP.block ?_ | refine AWP.exit ?_ | refine AWP.skip ?_ | refine AWP.ret ?_ | refine AWP.drawK2 (by decide +kernel) (by kernel_rfl) (by decide +kernel) rfl (fun K' hK => ?_) | refine AWP.drawL2 (by kernel_rfl) (by decide +kernel) rfl (fun K' hK => ?_) | (refine AQ.nil (hK _ ?_); clear hK K') | refine AQ.nil ?_ | refine AQ.q rfl rfl (fun hg => by first | exact std0 | exact std1) (by exact rfl) ?_)
  exact ⟨.inr rfl, Ent.b rfl⟩
theorem notesOk_all {bars : List Bar} {l : List Note} (h : notesOk bars l = true) : barsOk bars = true ∧ l.length ≤ 20000 ∧ ∀ x ∈ l, noteOk bars x = true := by
  unfold notesOk at h
  simp only [Bool.and_eq_true, decide_eq_true_eq, List.all_eq_true] at h
  exact ⟨h.1.1.1, by omega, h.1.2⟩
/-- A score that is valid, by the steps of its notes. -/
def scoreX (s : Score) : Bool := !scoreBad s && stepsOk (idxAL s.bars) s.notes
theorem scoreOk_eq (s : Score) : scoreOk s = scoreX s := by
  unfold scoreOk scoreX
  cases h : scoreBad s with
  | true => rfl
  | false =>
    have : notesOk s.bars s.notes = true := by
      unfold scoreBad at h
      simp only [Bool.or_eq_false_iff, Bool.not_eq_false'] at h
      exact h.1.2
    rw [sort_steps this]
theorem findI_ge {α : Type} (p : α → Bool) (l : List α) : -1 ≤ findI p l := by unfold findI; split <;> omega
theorem played_take {l : List Note} {p : Part} {k : Nat} (h : k < l.length) : playedL (l.take (k + 1)) p = if (l.getD k default).part == srcOf p then playedL (l.take k) p ++ [playN p (l.getD k default)] else playedL (l.take k) p := by
  rw [take_snoc h]; unfold playedL
  rw [List.filter_append, List.map_append]
  split
  · rename_i h2; rw [List.filter_cons_of_pos (by exact h2)]; rfl
  · rename_i h2; rw [List.filter_cons_of_neg (by exact h2)]; simp
end Go.Proofs.YtnmdmmfdnnmdfaaDoor
/- What is handed in to the laws over scores reads as a content. No statement is proved here. -/
set_option maxRecDepth 20000
namespace Go.Ab
open Go.ChangeShapes Go.WideShapes
theorem slice_ok1 {P : Program} {w : World} {r : Reach} {b0 : Nat} {t e : TypeId} {v : Value} (hu : P.underlying t = some (.slice e)) (hv : Value.okWide P w r b0 t v) : ∀ a len cap, v = .slice (some a) len cap → a.spot = none := fun a len cap he => by
  subst he
  unfold Value.okWide at hv
  rw [hu] at hv
  simp only at hv
  unfold Cell.okWide at hv
  simp only [hu] at hv
  unfold Cell.ok at hv
  simp only [hu] at hv
  exact hv.2.2.2.1
theorem slice_val1 {P : Program} {w : World} {r : Reach} {b0 : Nat} {t e : TypeId} {v : Value} (hu : P.underlying t = some (.slice e)) (hv : Value.okWide P w r b0 t v) : v.cells.toList = [v] := by
  unfold Value.okWide at hv
  rw [hu] at hv
  simp only at hv
  unfold Cell.okWide at hv
  simp only [hu] at hv
  cases v with
  | slice a l c => simp [Value.cells]
  | _ => unfold Cell.ok at hv; simp [hu] at hv
end Go.Ab
namespace Go.Proofs.YtnmdmmfdnnmdfaaDoor
open Go.Ab Go.ChangeShapes Go.WideShapes
section
variable {H : Type} {enc : TypeId × Value → H} {W : World} {base b0 fuel : Nat} {held : Bool} {spare : Nat → Bool}
abbrev vI (n : Int) : Value := .int .i64 n
theorem lk3 : LOk Tryd.prog 3 ⟨.int .i64, 1, 8, [.i .i64]⟩ := .of (tabOk.get rfl)
theorem cn3 : Tryd.prog.cellsOf 3 = 1 := by kernel_rfl

theorem lkRat : LOk Tryd.prog 51 ⟨.struct [(3, 0, 1), (3, 1, 1)], 2, 16, [.i .i64, .i .i64]⟩ := .of (tabOk.get rfl)
theorem cnRat : Tryd.prog.cellsOf 51 = 2 := by kernel_rfl
def vRat (x : Rat) : List Value := [vI x.n] ++ [vI x.d]
theorem rdRat {cs : List Value} {y : DataW H × List MemPlace} (h : DataW.trod enc Tryd.prog W base spare held fuel 51 cs = some y) : ∃ x : Rat, cs = vRat x := by
  obtain ⟨hlen, n, hf⟩ := struct_rd lkRat h
  rw [cnRat] at hlen
  match cs, hlen with
  | [u0, u1], _ =>
    obtain ⟨y0, h0⟩ := hf 0 3 0 1 rfl
    obtain ⟨y1, h1⟩ := hf 1 3 1 1 rfl
    rw [cn3] at h0 h1
    obtain ⟨n0, e0, _⟩ := int_rd lk3 h0
    obtain ⟨n1, e1, _⟩ := int_rd lk3 h1
    have g0 : u0 = vI n0 := by simpa using e0
    have g1 : u1 = vI n1 := by simpa using e1
    refine ⟨⟨n0, n1⟩, ?_⟩
    subst g0
    subst g1
    unfold vRat
    rfl
theorem relRat (x : Rat) : ∀ (j : Nat) c, (encR x)[j]? = some c → VRel (memOf W) [] c ((vRat x).getD j undef) := fun j c hj => by
  match j, hj with
  | 0, hj | 1, hj => simp only [encR, List.getElem?_cons_succ, List.getElem?_cons_zero, Option.some.injEq] at hj; subst hj; exact .prim _
  | j + 2, hj => simp [encR] at hj
theorem lkInterval : LOk Tryd.prog 91 ⟨.struct [(3, 0, 1), (3, 1, 1)], 2, 16, [.i .i64, .i .i64]⟩ := .of (tabOk.get rfl)
theorem cnInterval : Tryd.prog.cellsOf 91 = 2 := by kernel_rfl
def vInterval (x : Interval) : List Value := [vI x.steps] ++ [vI x.semi]
theorem rdInterval {cs : List Value} {y : DataW H × List MemPlace} (h : DataW.trod enc Tryd.prog W base spare held fuel 91 cs = some y) : ∃ x : Interval, cs = vInterval x := by
  obtain ⟨hlen, n, hf⟩ := struct_rd lkInterval h
  rw [cnInterval] at hlen
  match cs, hlen with
  | [u0, u1], _ =>
    obtain ⟨y0, h0⟩ := hf 0 3 0 1 rfl
    obtain ⟨y1, h1⟩ := hf 1 3 1 1 rfl
    rw [cn3] at h0 h1
    obtain ⟨n0, e0, _⟩ := int_rd lk3 h0
    obtain ⟨n1, e1, _⟩ := int_rd lk3 h1
    have g0 : u0 = vI n0 := by simpa using e0
    have g1 : u1 = vI n1 := by simpa using e1
    refine ⟨⟨n0, n1⟩, ?_⟩
    subst g0
    subst g1
    unfold vInterval
    rfl
theorem relInterval (x : Interval) : ∀ (j : Nat) c, (encI x)[j]? = some c → VRel (memOf W) [] c ((vInterval x).getD j undef) := fun j c hj => by
  match j, hj with
  | 0, hj | 1, hj => simp only [encI, List.getElem?_cons_succ, List.getElem?_cons_zero, Option.some.injEq] at hj; subst hj; exact .prim _
  | j + 2, hj => simp [encI] at hj
theorem lkPitch : LOk Tryd.prog 53 ⟨.struct [(3, 0, 1), (3, 1, 1), (3, 2, 1)], 3, 24, [.i .i64, .i .i64, .i .i64]⟩ := .of (tabOk.get rfl)
theorem cnPitch : Tryd.prog.cellsOf 53 = 3 := by kernel_rfl
def vPitch (x : Pitch) : List Value := [vI x.step] ++ [vI x.alter] ++ [vI x.oct]
theorem rdPitch {cs : List Value} {y : DataW H × List MemPlace} (h : DataW.trod enc Tryd.prog W base spare held fuel 53 cs = some y) : ∃ x : Pitch, cs = vPitch x := by
  obtain ⟨hlen, n, hf⟩ := struct_rd lkPitch h
  rw [cnPitch] at hlen
  match cs, hlen with
  | [u0, u1, u2], _ =>
    obtain ⟨y0, h0⟩ := hf 0 3 0 1 rfl
    obtain ⟨y1, h1⟩ := hf 1 3 1 1 rfl
    obtain ⟨y2, h2⟩ := hf 2 3 2 1 rfl
    rw [cn3] at h0 h1 h2
    obtain ⟨n0, e0, _⟩ := int_rd lk3 h0
    obtain ⟨n1, e1, _⟩ := int_rd lk3 h1
    obtain ⟨n2, e2, _⟩ := int_rd lk3 h2
    have g0 : u0 = vI n0 := by simpa using e0
    have g1 : u1 = vI n1 := by simpa using e1
    have g2 : u2 = vI n2 := by simpa using e2
    refine ⟨⟨n0, n1, n2⟩, ?_⟩
    subst g0
    subst g1
    subst g2
    unfold vPitch
    rfl
theorem relPitch (x : Pitch) : ∀ (j : Nat) c, (encPi x)[j]? = some c → VRel (memOf W) [] c ((vPitch x).getD j undef) := fun j c hj => by
  match j, hj with
  | 0, hj | 1, hj | 2, hj => simp only [encPi, List.getElem?_cons_succ, List.getElem?_cons_zero, Option.some.injEq] at hj; subst hj; exact .prim _
  | j + 3, hj => simp [encPi] at hj
theorem lkBar : LOk Tryd.prog 61 ⟨.struct [(3, 0, 1), (51, 1, 2), (3, 3, 1)], 4, 32, [.i .i64, .i .i64, .i .i64, .i .i64]⟩ := .of (tabOk.get rfl)
theorem cnBar : Tryd.prog.cellsOf 61 = 4 := by kernel_rfl
def vBar (x : Bar) : List Value := [vI x.id] ++ vRat x.len ++ [vI x.key]
theorem rdBar {cs : List Value} {y : DataW H × List MemPlace} (h : DataW.trod enc Tryd.prog W base spare held fuel 61 cs = some y) : ∃ x : Bar, cs = vBar x := by
  obtain ⟨hlen, n, hf⟩ := struct_rd lkBar h
  rw [cnBar] at hlen
  match cs, hlen with
  | [u0, u1, u2, u3], _ =>
    obtain ⟨y0, h0⟩ := hf 0 3 0 1 rfl
    obtain ⟨y1, h1⟩ := hf 1 51 1 2 rfl
    obtain ⟨y2, h2⟩ := hf 2 3 3 1 rfl
    rw [cn3] at h0 h2
    rw [cnRat] at h1
    obtain ⟨n0, e0, _⟩ := int_rd lk3 h0
    obtain ⟨n1, e1⟩ := rdRat h1
    obtain ⟨n2, e2, _⟩ := int_rd lk3 h2
    have g0 : u0 = vI n0 := by simpa using e0
    have g1 : [u1, u2] = vRat n1 := by simpa using e1
    have g2 : u3 = vI n2 := by simpa using e2
    refine ⟨⟨n0, n1, n2⟩, ?_⟩
    subst g0
    subst g2
    unfold vBar
    rw [← g1]
    rfl
theorem relBar (x : Bar) : ∀ (j : Nat) c, (encB x)[j]? = some c → VRel (memOf W) [] c ((vBar x).getD j undef) := fun j c hj => by
  match j, hj with
  | 0, hj | 1, hj | 2, hj | 3, hj => simp only [encB, List.getElem?_cons_succ, List.getElem?_cons_zero, Option.some.injEq] at hj; subst hj; exact .prim _
  | j + 4, hj => simp [encB] at hj
theorem lkPart : LOk Tryd.prog 93 ⟨.struct [(3, 0, 1), (3, 1, 1), (3, 2, 1), (3, 3, 1), (3, 4, 1), (91, 5, 2), (53, 7, 3), (53, 10, 3)], 13, 104, [.i .i64, .i .i64, .i .i64, .i .i64, .i .i64, .i .i64, .i .i64, .i .i64, .i .i64, .i .i64, .i .i64, .i .i64, .i .i64]⟩ := .of (tabOk.get rfl)
theorem cnPart : Tryd.prog.cellsOf 93 = 13 := by kernel_rfl
def vPart (x : Part) : List Value := [vI x.id] ++ [vI x.section_] ++ [vI x.of_] ++ [vI x.octave] ++ [vI x.desks] ++ vInterval x.shift ++ vPitch x.low ++ vPitch x.high
theorem rdPart {cs : List Value} {y : DataW H × List MemPlace} (h : DataW.trod enc Tryd.prog W base spare held fuel 93 cs = some y) : ∃ x : Part, cs = vPart x := by
  obtain ⟨hlen, n, hf⟩ := struct_rd lkPart h
  rw [cnPart] at hlen
  match cs, hlen with
  | [u0, u1, u2, u3, u4, u5, u6, u7, u8, u9, u10, u11, u12], _ =>
    obtain ⟨y0, h0⟩ := hf 0 3 0 1 rfl
    obtain ⟨y1, h1⟩ := hf 1 3 1 1 rfl
    obtain ⟨y2, h2⟩ := hf 2 3 2 1 rfl
    obtain ⟨y3, h3⟩ := hf 3 3 3 1 rfl
    obtain ⟨y4, h4⟩ := hf 4 3 4 1 rfl
    obtain ⟨y5, h5⟩ := hf 5 91 5 2 rfl
    obtain ⟨y6, h6⟩ := hf 6 53 7 3 rfl
    obtain ⟨y7, h7⟩ := hf 7 53 10 3 rfl
    rw [cn3] at h0 h1 h2 h3 h4
    rw [cnInterval] at h5
    rw [cnPitch] at h6
    rw [cnPitch] at h7
    obtain ⟨n0, e0, _⟩ := int_rd lk3 h0
    obtain ⟨n1, e1, _⟩ := int_rd lk3 h1
    obtain ⟨n2, e2, _⟩ := int_rd lk3 h2
    obtain ⟨n3, e3, _⟩ := int_rd lk3 h3
    obtain ⟨n4, e4, _⟩ := int_rd lk3 h4
    obtain ⟨n5, e5⟩ := rdInterval h5
    obtain ⟨n6, e6⟩ := rdPitch h6
    obtain ⟨n7, e7⟩ := rdPitch h7
    have g0 : u0 = vI n0 := by simpa using e0
    have g1 : u1 = vI n1 := by simpa using e1
    have g2 : u2 = vI n2 := by simpa using e2
    have g3 : u3 = vI n3 := by simpa using e3
    have g4 : u4 = vI n4 := by simpa using e4
    have g5 : [u5, u6] = vInterval n5 := by simpa using e5
    have g6 : [u7, u8, u9] = vPitch n6 := by simpa using e6
    have g7 : [u10, u11, u12] = vPitch n7 := by simpa using e7
    refine ⟨⟨n0, n1, n2, n3, n4, n5, n6, n7⟩, ?_⟩
    subst g0
    subst g1
    subst g2
    subst g3
    subst g4
    unfold vPart
    rw [← g5]
    rw [← g6]
    rw [← g7]
    rfl
theorem relPart (x : Part) : ∀ (j : Nat) c, (encP x)[j]? = some c → VRel (memOf W) [] c ((vPart x).getD j undef) := fun j c hj => by
  match j, hj with
  | 0, hj | 1, hj | 2, hj | 3, hj | 4, hj | 5, hj | 6, hj | 7, hj | 8, hj | 9, hj | 10, hj | 11, hj | 12, hj => simp only [encP, List.getElem?_cons_succ, List.getElem?_cons_zero, Option.some.injEq] at hj; subst hj; exact .prim _
  | j + 13, hj => simp [encP] at hj
theorem lkNote : LOk Tryd.prog 55 ⟨.struct [(3, 0, 1), (3, 1, 1), (3, 2, 1), (3, 3, 1), (3, 4, 1), (51, 5, 2), (51, 7, 2), (53, 9, 3)], 12, 96, [.i .i64, .i .i64, .i .i64, .i .i64, .i .i64, .i .i64, .i .i64, .i .i64, .i .i64, .i .i64, .i .i64, .i .i64]⟩ := .of (tabOk.get rfl)
theorem cnNote : Tryd.prog.cellsOf 55 = 12 := by kernel_rfl
def vNote (x : Note) : List Value := [vI x.id] ++ [vI x.part] ++ [vI x.bar] ++ [vI x.voice] ++ [vI x.ossia] ++ vRat x.start ++ vRat x.len ++ vPitch x.pitch
theorem rdNote {cs : List Value} {y : DataW H × List MemPlace} (h : DataW.trod enc Tryd.prog W base spare held fuel 55 cs = some y) : ∃ x : Note, cs = vNote x := by
  obtain ⟨hlen, n, hf⟩ := struct_rd lkNote h
  rw [cnNote] at hlen
  match cs, hlen with
  | [u0, u1, u2, u3, u4, u5, u6, u7, u8, u9, u10, u11], _ =>
    obtain ⟨y0, h0⟩ := hf 0 3 0 1 rfl
    obtain ⟨y1, h1⟩ := hf 1 3 1 1 rfl
    obtain ⟨y2, h2⟩ := hf 2 3 2 1 rfl
    obtain ⟨y3, h3⟩ := hf 3 3 3 1 rfl
    obtain ⟨y4, h4⟩ := hf 4 3 4 1 rfl
    obtain ⟨y5, h5⟩ := hf 5 51 5 2 rfl
    obtain ⟨y6, h6⟩ := hf 6 51 7 2 rfl
    obtain ⟨y7, h7⟩ := hf 7 53 9 3 rfl
    rw [cn3] at h0 h1 h2 h3 h4
    rw [cnRat] at h5
    rw [cnRat] at h6
    rw [cnPitch] at h7
    obtain ⟨n0, e0, _⟩ := int_rd lk3 h0
    obtain ⟨n1, e1, _⟩ := int_rd lk3 h1
    obtain ⟨n2, e2, _⟩ := int_rd lk3 h2
    obtain ⟨n3, e3, _⟩ := int_rd lk3 h3
    obtain ⟨n4, e4, _⟩ := int_rd lk3 h4
    obtain ⟨n5, e5⟩ := rdRat h5
    obtain ⟨n6, e6⟩ := rdRat h6
    obtain ⟨n7, e7⟩ := rdPitch h7
    have g0 : u0 = vI n0 := by simpa using e0
    have g1 : u1 = vI n1 := by simpa using e1
    have g2 : u2 = vI n2 := by simpa using e2
    have g3 : u3 = vI n3 := by simpa using e3
    have g4 : u4 = vI n4 := by simpa using e4
    have g5 : [u5, u6] = vRat n5 := by simpa using e5
    have g6 : [u7, u8] = vRat n6 := by simpa using e6
    have g7 : [u9, u10, u11] = vPitch n7 := by simpa using e7
    refine ⟨⟨n0, n1, n2, n3, n4, n5, n6, n7⟩, ?_⟩
    subst g0
    subst g1
    subst g2
    subst g3
    subst g4
    unfold vNote
    rw [← g5]
    rw [← g6]
    rw [← g7]
    rfl
theorem relNote (x : Note) : ∀ (j : Nat) c, (encN x)[j]? = some c → VRel (memOf W) [] c ((vNote x).getD j undef) := fun j c hj => by
  match j, hj with
  | 0, hj | 1, hj | 2, hj | 3, hj | 4, hj | 5, hj | 6, hj | 7, hj | 8, hj | 9, hj | 10, hj | 11, hj => simp only [encN, List.getElem?_cons_succ, List.getElem?_cons_zero, Option.some.injEq] at hj; subst hj; exact .prim _
  | j + 12, hj => simp [encN] at hj
theorem lkSBar : LOk Tryd.prog 22 ⟨.slice 61, 1, 24, [.slice]⟩ := .of (tabOk.get rfl)
theorem cnSBar : Tryd.prog.cellsOf 22 = 1 := by kernel_rfl
theorem rdSBar {v : Value} {y : DataW H × List MemPlace} (hspot : ∀ a len cap, v = .slice (some a) len cap → a.spot = none) (h : DataW.trod enc Tryd.prog W base spare held fuel 22 [v] = some y) : ∃ l : List Bar, VRel (memOf W) [] (.sl 4 (l.map encB) .no) v ∧ l.length ≤ 9223372036854775807 := by
  obtain ⟨l, h1, h2, _⟩ := slice_rel (w := W) (enc := enc) (base := base) (held := held) (spare := spare) encB (fun _ => True) lkSBar.und_slice cnBar (by decide) (fun n cs y h => by
    obtain ⟨e, rfl⟩ := rdBar h
    exact ⟨e, rfl, relBar e, trivial⟩) hspot h
  exact ⟨l, h1, h2⟩
theorem argBars {r : Reach} {v : Value} {d : DataW H} {p : List MemPlace} (hval : Value.okWide Tryd.prog W r b0 22 v) (h : DataW.Trod enc Tryd.prog W base spare held 22 v d p) : ∃ l : List Bar, VRel (memOf W) [] (.sl 4 (l.map encB) .no) v ∧ l.length ≤ 9223372036854775807 := by
  obtain ⟨fuel, hf⟩ := h
  rw [slice_val1 lkSBar.und_slice hval] at hf
  exact rdSBar (slice_ok1 lkSBar.und_slice hval) hf
theorem lkSPart : LOk Tryd.prog 23 ⟨.slice 93, 1, 24, [.slice]⟩ := .of (tabOk.get rfl)
theorem cnSPart : Tryd.prog.cellsOf 23 = 1 := by kernel_rfl
theorem rdSPart {v : Value} {y : DataW H × List MemPlace} (hspot : ∀ a len cap, v = .slice (some a) len cap → a.spot = none) (h : DataW.trod enc Tryd.prog W base spare held fuel 23 [v] = some y) : ∃ l : List Part, VRel (memOf W) [] (.sl 13 (l.map encP) .no) v ∧ l.length ≤ 9223372036854775807 := by
  obtain ⟨l, h1, h2, _⟩ := slice_rel (w := W) (enc := enc) (base := base) (held := held) (spare := spare) encP (fun _ => True) lkSPart.und_slice cnPart (by decide) (fun n cs y h => by
    obtain ⟨e, rfl⟩ := rdPart h
    exact ⟨e, rfl, relPart e, trivial⟩) hspot h
  exact ⟨l, h1, h2⟩
theorem argParts {r : Reach} {v : Value} {d : DataW H} {p : List MemPlace} (hval : Value.okWide Tryd.prog W r b0 23 v) (h : DataW.Trod enc Tryd.prog W base spare held 23 v d p) : ∃ l : List Part, VRel (memOf W) [] (.sl 13 (l.map encP) .no) v ∧ l.length ≤ 9223372036854775807 := by
  obtain ⟨fuel, hf⟩ := h
  rw [slice_val1 lkSPart.und_slice hval] at hf
  exact rdSPart (slice_ok1 lkSPart.und_slice hval) hf
theorem lkSNote : LOk Tryd.prog 24 ⟨.slice 55, 1, 24, [.slice]⟩ := .of (tabOk.get rfl)
theorem cnSNote : Tryd.prog.cellsOf 24 = 1 := by kernel_rfl
theorem rdSNote {v : Value} {y : DataW H × List MemPlace} (hspot : ∀ a len cap, v = .slice (some a) len cap → a.spot = none) (h : DataW.trod enc Tryd.prog W base spare held fuel 24 [v] = some y) : ∃ l : List Note, VRel (memOf W) [] (.sl 12 (l.map encN) .no) v ∧ l.length ≤ 9223372036854775807 := by
  obtain ⟨l, h1, h2, _⟩ := slice_rel (w := W) (enc := enc) (base := base) (held := held) (spare := spare) encN (fun _ => True) lkSNote.und_slice cnNote (by decide) (fun n cs y h => by
    obtain ⟨e, rfl⟩ := rdNote h
    exact ⟨e, rfl, relNote e, trivial⟩) hspot h
  exact ⟨l, h1, h2⟩
theorem argNotes {r : Reach} {v : Value} {d : DataW H} {p : List MemPlace} (hval : Value.okWide Tryd.prog W r b0 24 v) (h : DataW.Trod enc Tryd.prog W base spare held 24 v d p) : ∃ l : List Note, VRel (memOf W) [] (.sl 12 (l.map encN) .no) v ∧ l.length ≤ 9223372036854775807 := by
  obtain ⟨fuel, hf⟩ := h
  rw [slice_val1 lkSNote.und_slice hval] at hf
  exact rdSNote (slice_ok1 lkSNote.und_slice hval) hf
theorem ctNote : Tryd.prog.cellTypes Tryd.prog.depth 55 = some [3, 3, 3, 3, 3, 3, 3, 3, 3, 3, 3, 3] := by kernel_rfl
theorem argNote {r : Reach} {v : Value} {d : DataW H} {p : List MemPlace} (hval : Value.okWide Tryd.prog W r b0 55 v) (h : DataW.Trod enc Tryd.prog W base spare held 55 v d p) : ∃ e : Note, VRel (memOf W) [] (.agg (encN e)) v := by
  obtain ⟨cs, rfl, hsz, _⟩ := struct_ok lkNote ctNote hval
  obtain ⟨fuel, hf⟩ := h
  obtain ⟨l, rfl⟩ : ∃ l, cs = List.toArray l := ⟨cs.toList, by simp⟩
  simp only [Value.cells] at hf
  obtain ⟨e, he⟩ := rdNote hf
  have he : l = vNote e := by simpa using he
  subst he
  refine ⟨e, .agg _ _ rfl fun i c hi => ?_⟩
  have := relNote (W := W) e i c hi
  simpa using this
theorem lkScore : LOk Tryd.prog 26 ⟨.struct [(3, 0, 1), (22, 1, 1), (23, 2, 1), (24, 3, 1)], 4, 80, [.i .i64, .slice, .slice, .slice]⟩ := .of (tabOk.get rfl)
theorem cnScore : Tryd.prog.cellsOf 26 = 4 := by kernel_rfl
theorem ctScore : Tryd.prog.cellTypes Tryd.prog.depth 26 = some [3, 22, 23, 24] := by kernel_rfl
theorem argScore {r : Reach} {v : Value} {d : DataW H} {p : List MemPlace} (hval : Value.okWide Tryd.prog W r b0 26 v) (h : DataW.Trod enc Tryd.prog W base spare held 26 v d p) : ∃ s : Score, VRel (memOf W) [] (.agg (encS s)) v ∧ s.Sized := by
  obtain ⟨cs, rfl, hsz, hspot⟩ := struct_ok lkScore ctScore hval
  obtain ⟨fuel, hf⟩ := h
  obtain ⟨l, rfl⟩ : ∃ l, cs = List.toArray l := ⟨cs.toList, by simp⟩
  simp only [Value.cells] at hf
  obtain ⟨hlen, n, hff⟩ := struct_rd lkScore hf
  rw [cnScore] at hlen
  match l, hlen with
  | [u0, u1, u2, u3], _ =>
    obtain ⟨y0, h0⟩ := hff 0 3 0 1 rfl
    obtain ⟨y1, h1⟩ := hff 1 22 1 1 rfl
    obtain ⟨y2, h2⟩ := hff 2 23 2 1 rfl
    obtain ⟨y3, h3⟩ := hff 3 24 3 1 rfl
    rw [cn3] at h0
    rw [cnSBar] at h1
    rw [cnSPart] at h2
    rw [cnSNote] at h3
    obtain ⟨n0, e0, _⟩ := int_rd lk3 h0
    have g0 : u0 = vI n0 := by simpa using e0
    subst g0
    obtain ⟨a, r1, b1⟩ := rdSBar (v := u1) (fun ad len cap e => hspot 1 _ _ ad len cap (by decide) rfl lkSBar.und_slice (by subst e; rfl)) (by simpa using h1)
    obtain ⟨b, r2, b2⟩ := rdSPart (v := u2) (fun ad len cap e => hspot 2 _ _ ad len cap (by decide) rfl lkSPart.und_slice (by subst e; rfl)) (by simpa using h2)
    obtain ⟨c, r3, b3⟩ := rdSNote (v := u3) (fun ad len cap e => hspot 3 _ _ ad len cap (by decide) rfl lkSNote.und_slice (by subst e; rfl)) (by simpa using h3)
    refine ⟨⟨n0, a, b, c⟩, .agg _ _ rfl fun i c hi => ?_, b1, b2, b3⟩
    match i, hi with
    | 0, hi => simp [encS] at hi; subst hi; exact .prim _
    | 1, hi => simp [encS] at hi; subst hi; exact r1
    | 2, hi => simp [encS] at hi; subst hi; exact r2
    | 3, hi => simp [encS] at hi; subst hi; exact r3
    | i + 4, hi => simp [encS] at hi
end
theorem own : ownKnob Tryd.prog.godebug = none := by kernel_rfl
theorem laidOut : laidOutB Tryd.prog = true := by kernel_rfl
abbrev laid1 : List (String × DataW Unit) := [("partbook/pitch.naturals", Rows.laid_partbook_pitch_naturals)]
theorem door_met (os : Os) (args : Array Value) : laidMetH Tryd.prog laid1 ((World.doorLaid Tryd.prog 4000 os).forCall (fun _ _ => 0) ⟨#[], args, []⟩).memory :=
  laidMetH_of_parts3 (fuel := 8) (laidMet_of_run' 8 (by kernel_rfl) (by kernel_rfl)) (by kernel_rfl) (by kernel_rfl)
theorem gNat : Tryd.prog.globalNamed "partbook/pitch.naturals" = some 0 := by kernel_rfl
theorem tNat : (Tryd.prog.globals[0]?).map (·.type) = some 174 := by kernel_rfl
theorem uNat : Tryd.prog.underlying 174 = some (.array 7 3) := by kernel_rfl
/-- What the laid variable holds. -/
theorem gam_laid {W : World} (h : laidMetH Tryd.prog laid1 W) : GamOk (memOf W) := by
  rw [MakeChecks.laidMetH_plain _ _ _ (by kernel_rfl)] at h
  obtain ⟨ps, ⟨g0, t0, cs0, f0, p0, q0, hg0, ht0, hv0, hd0, _⟩, _, _⟩ := h
  obtain rfl := Option.some.inj (gNat.symm.trans hg0)
  obtain rfl := Option.some.inj (tNat.symm.trans ht0)
  obtain ⟨xs, m1, hx0, hx1, hlen, hn3, hel⟩ := DataW.trod_array uNat hd0
  have hm : xs.map (·.1) = [.lit (.int .i64 0), .lit (.int .i64 2), .lit (.int .i64 4), .lit (.int .i64 5), .lit (.int .i64 7), .lit (.int .i64 9), .lit (.int .i64 11)] := by
    have := congrArg Prod.fst hx1
    simp only [Rows.laid_partbook_pitch_naturals, DataW.agg.injEq] at this
    exact this.symm
  have key : ∀ j, j < 7 → ∃ k, cs0[j]? = some (.int .i64 k) ∧ (xs.map (·.1))[j]? = some (.lit (.int .i64 k)) := fun j hj => by
    have h0 := hel j hj
    rw [cn3, Nat.mul_one, List.getElem?_eq_getElem (by omega)] at h0
    obtain ⟨k, e1, e2, _⟩ := DataW.trod_int lk3.und_int h0
    refine ⟨k, ?_, ?_⟩
    · have := congrArg (fun l => l[0]?) e1
      simpa using this
    · rw [List.getElem?_map, List.getElem?_eq_getElem (by omega), e2]; rfl
  intro p hp j v hv
  simp only [Gam, List.mem_singleton] at hp
  subst hp
  dsimp only at hv ⊢
  have hj : j < 7 := by
    rcases Nat.lt_or_ge j 7 with h | h
    · exact h
    · rw [List.getElem?_eq_none (by simpa using h)] at hv; cases hv
  obtain ⟨k, h1, h2⟩ := key j hj
  rw [hm] at h2
  have hk : v = .int .i64 k := by
    match j, hj, hv, h2 with
    | 0, _, hv, h2 | 1, _, hv, h2 | 2, _, hv, h2 | 3, _, hv, h2 | 4, _, hv, h2 | 5, _, hv, h2 | 6, _, hv, h2 => simp at hv h2; rw [← hv, ← h2]
  rw [hk]
  show W.cell? ⟨0, j, none⟩ = _
  rw [World.var?_cell hg0 hv0 j]; exact h1
end Go.Proofs.YtnmdmmfdnnmdfaaDoor
