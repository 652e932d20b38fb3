/- Contracts by content: notes: isNote, indexes, formed, Valid; cmp.Or. No statement is proved here. -/
import Derived.Test.YtnmdmmfdnnmdfaaDoorCC
set_option linter.unusedVariables false
set_option linter.unusedSimpArgs false
namespace Go.Proofs.YtnmdmmfdnnmdfaaDoor
open Go.Ab
attribute [local irreducible] AWP AOps EStep AQ PStep PRun PCall TCall VCall

theorem nwithin_spec (a b c : Int) : PCall Tryd.prog 95 [.int a, .int b, .int c] (.b (inB a b c)) := by
  refine PCall.body Tryd.func95 rfl rfl Tryd.ntmps95 rfl rfl ?_
  repeat' (first | refine AOps.q rfl rfl rfl (fun hg => by first | exact std0 | exact std1) (by exact rfl) ?_ | refine AWP.seq ?_ | refine AWP.regionK (fun K' hK => ?_) | (refine AOps.nil (hK _ _ ?_); clear hK K') | refine AOps.e (EStep.boxW rfl rfl rfl rfl rfl True.intro rfl rfl ?_) | refine AOps.e (EStep.storeW tabOk rfl rfl rfl True.intro rfl rfl True.intro rfl rfl rfl rfl rfl rfl rfl ?_) | refine AOps.e (EStep.allocW tabOk rfl rfl rfl rfl rfl rfl ?_) | (refine AWP.condW rfl True.intro (fun hc => ?_) (fun hc => ?_) <;> (first | (simp only [decide_eq_true_eq] at hc) | (simp only [decide_eq_false_iff_not, Int.not_lt, Int.not_le] at hc) | skip)) | refine AWP.block ?_ | refine AWP.exit ?_ | refine AWP.skip ?_ | refine AWP.ret ?_ | refine AWP.drawK2 (by decide +kernel) (by kernel_rfl) (by decide +kernel) rfl (fun K' hK => ?_) | refine AWP.drawL2 (by kernel_rfl) (by decide +kernel) rfl (fun K' hK => ?_) | (refine AQ.nil (hK _ ?_); clear hK K') | refine AQ.nil ?_ | refine AQ.q rfl rfl (fun hg => by first | exact std0 | exact std1) (by exact rfl) ?_)
  exact ⟨.inr rfl, Ent.b rfl⟩
theorem nisID_spec (a : Int) : PCall Tryd.prog 55 [.int a] (.b (inB a 1 1000000)) := by
  refine PCall.body Tryd.func55 rfl rfl Tryd.ntmps55 rfl rfl ?_
  repeat' (first | refine AOps.q rfl rfl rfl (fun hg => by first | exact std0 | exact PRun.callW (nwithin_spec _ _ _) rfl rfl nd rfl nds | exact std1) (by exact rfl) ?_ | refine AWP.seq ?_ | refine AWP.regionK (fun K' hK => ?_) | (refine AOps.nil (hK _ _ ?_); clear hK K') | refine AOps.e (EStep.boxW rfl rfl rfl rfl rfl True.intro rfl rfl ?_) | refine AOps.e (EStep.storeW tabOk rfl rfl rfl True.intro rfl rfl True.intro rfl rfl rfl rfl rfl rfl rfl ?_) | refine AOps.e (EStep.allocW tabOk rfl rfl rfl rfl rfl rfl ?_) | (refine AWP.condW rfl True.intro (fun hc => ?_) (fun hc => ?_) <;> (first | (simp only [decide_eq_true_eq] at hc) | (simp only [decide_eq_false_iff_not, Int.not_lt, Int.not_le] at hc) | skip)) | refine AWP.block ?_ | refine AWP.exit ?_ | refine AWP.skip ?_ | refine AWP.ret ?_ | refine AWP.drawK2 (by decide +kernel) (by kernel_rfl) (by decide +kernel) rfl (fun K' hK => ?_) | refine AWP.drawL2 (by kernel_rfl) (by decide +kernel) rfl (fun K' hK => ?_) | (refine AQ.nil (hK _ ?_); clear hK K') | refine AQ.nil ?_ | refine AQ.q rfl rfl (fun hg => by first | exact std0 | exact PRun.callW (nwithin_spec _ _ _) rfl rfl nd rfl nds | exact std1) (by exact rfl) ?_)
  exact ⟨.inr rfl, Ent.b rfl⟩
def noteP (p : Pitch) : Bool := pitchOk p && inB p.alter (-2) 2 && inB p.oct 0 9
theorem isNote_spec (p : Pitch) : PCall Tryd.prog 96 [.agg (encPi p)] (.b (noteP p)) := by
  refine PCall.body Tryd.func96 rfl rfl Tryd.ntmps96 rfl rfl ?_
  repeat' (first | refine AOps.q rfl rfl rfl (fun hg => by first | exact std0 | exact PRun.callW (pvalid_spec p) rfl rfl nd rfl nds | exact PRun.callW (nwithin_spec _ _ _) rfl rfl nd rfl nds | exact std1) (by exact rfl) ?_ | refine AWP.seq ?_ | refine AWP.regionK (fun K' hK => ?_) | (refine AOps.nil (hK _ _ ?_); clear hK K') | refine AOps.e (EStep.boxW rfl rfl rfl rfl rfl True.intro rfl rfl ?_) | refine AOps.e (EStep.storeW tabOk rfl rfl rfl True.intro rfl rfl True.intro rfl rfl rfl rfl rfl rfl rfl ?_) | refine AOps.e (EStep.allocW tabOk rfl rfl rfl rfl rfl rfl ?_) | (refine AWP.condW rfl True.intro (fun hc => ?_) (fun hc => ?_) <;> (first | (simp only [decide_eq_true_eq] at hc) | (simp only [decide_eq_false_iff_not, Int.not_lt, Int.not_le] at hc) | skip)) | refine AWP.block ?_ | refine AWP.exit ?_ | refine AWP.skip ?_ | refine AWP.ret ?_ | refine AWP.drawK2 (by decide +kernel) (by kernel_rfl) (by decide +kernel) rfl (fun K' hK => ?_) | refine AWP.drawL2 (by kernel_rfl) (by decide +kernel) rfl (fun K' hK => ?_) | (refine AQ.nil (hK _ ?_); clear hK K') | refine AQ.nil ?_ | refine AQ.q rfl rfl (fun hg => by first | exact std0 | exact PRun.callW (pvalid_spec p) rfl rfl nd rfl nds | exact PRun.callW (nwithin_spec _ _ _) rfl rfl nd rfl nds | exact std1) (by exact rfl) ?_)
  exact ⟨.inr rfl, Ent.b rfl⟩

def fits (b : Bar) (n : Note) : Bool := (ticksR n.start).2 && (ticksR n.len).2 && decide ((ticksR n.len).1 > 0) && decide ((ticksR n.start).1 + (ticksR n.len).1 ≤ (ticksR b.len).1)
def noteForm (n : Note) : Bool := inB n.id 1 1000000 && inB n.part 1 1000000 && inB n.voice 0 9 && inB n.ossia 0 20 && noteP n.pitch
def nformed (b : Bar) (n : Note) : Bool := fits b n && noteForm n
theorem ticksR_in (r : Rat) : 0 ≤ (ticksR r).1 ∧ (ticksR r).1 ≤ 1680000000000 := by
  unfold ticksR
  split
  · rename_i h
    have h1 := durOk_iff.1 h
    have h2 := ratOk_iff.1 h1.1
    have h3 := tdiv1680 h1.1
    have h4 := mul_in (x := r.n) (y := Int.tdiv 1680 r.d) (A := 1000000000) (B := 1680) (by omega) h3
    exact ⟨Int.mul_nonneg h1.2.1 h3.1, by show ticksV r ≤ _; unfold ticksV; omega⟩
  · exact ⟨by decide, by decide⟩
theorem nformed_spec (b : Bar) (n : Note) : PCall Tryd.prog 53 [.agg (encB b), .agg (encN n)] (.b (nformed b n)) := by
  have q1 := ticksR_in n.start
  have q2 := ticksR_in n.len
  refine PCall.body Tryd.func53 rfl rfl Tryd.ntmps53 rfl rfl ?_
  repeat' (first | refine AOps.q rfl rfl rfl (fun hg => by first | exact std0 | exact PRun.callW (ticks_spec n.start) rfl rfl nd rfl nds | exact PRun.callW (ticks_spec n.len) rfl rfl nd rfl nds | exact PRun.callW (ticks_spec b.len) rfl rfl nd rfl nds | exact PRun.callW (nisID_spec _) rfl rfl nd rfl nds | exact PRun.callW (nwithin_spec _ _ _) rfl rfl nd rfl nds | exact PRun.callW (isNote_spec n.pitch) rfl rfl nd rfl nds | exact std1) (by exact rfl) ?_ | refine AWP.seq ?_ | refine AWP.regionK (fun K' hK => ?_) | (refine AOps.nil (hK _ _ ?_); clear hK K') | refine AOps.e (EStep.boxW rfl rfl rfl rfl rfl True.intro rfl rfl ?_) | refine AOps.e (EStep.storeW tabOk rfl rfl rfl True.intro rfl rfl True.intro rfl rfl rfl rfl rfl rfl rfl ?_) | refine AOps.e (EStep.allocW tabOk rfl rfl rfl rfl rfl rfl ?_) | (refine AWP.condW rfl True.intro (fun hc => ?_) (fun hc => ?_) <;> (first | (simp only [decide_eq_true_eq] at hc) | (simp only [decide_eq_false_iff_not, Int.not_lt, Int.not_le] at hc) | skip)) | refine AWP.block ?_ | refine AWP.exit ?_ | refine AWP.skip ?_ | refine AWP.ret ?_ | refine AWP.drawK2 (by decide +kernel) (by kernel_rfl) (by decide +kernel) rfl (fun K' hK => ?_) | refine AWP.drawL2 (by kernel_rfl) (by decide +kernel) rfl (fun K' hK => ?_) | (refine AQ.nil (hK _ ?_); clear hK K') | refine AQ.nil ?_ | refine AQ.q rfl rfl (fun hg => by first | exact std0 | exact PRun.callW (ticks_spec n.start) rfl rfl nd rfl nds | exact PRun.callW (ticks_spec n.len) rfl rfl nd rfl nds | exact PRun.callW (ticks_spec b.len) rfl rfl nd rfl nds | exact PRun.callW (nisID_spec _) rfl rfl nd rfl nds | exact PRun.callW (nwithin_spec _ _ _) rfl rfl nd rfl nds | exact PRun.callW (isNote_spec n.pitch) rfl rfl nd rfl nds | exact std1) (by exact rfl) ?_)
  refine ⟨.inr rfl, Ent.b ?_⟩
  unfold nformed fits noteForm
  simp only [Bool.and_assoc]

/-- The indexes of the bars, by their IDs. -/
def idxAL (l : List Bar) : List (Int × Int) := (List.range l.length).foldl (fun al i => ins al (l.getD i default).id i) []
def idxALk (l : List Bar) (k : Nat) : List (Int × Int) := (List.range k).foldl (fun al i => ins al (l.getD i default).id i) []
theorem idxAL_succ (l : List Bar) (k : Nat) : idxALk l (k + 1) = ins (idxALk l k) (l.getD k default).id k := by
  unfold idxALk; rw [List.range_succ, List.foldl_append]; rfl
theorem indexes_spec (l : List Bar) (hl : l.length ≤ 9223372036854775807) : PCall Tryd.prog 52 [.sl 4 (l.map encB) .no] (.imap (encM ekI AV.int (idxAL l))) := by
  refine PCall.body Tryd.func52 rfl rfl Tryd.ntmps52 rfl rfl ?_
  repeat' (first | refine AOps.q rfl rfl rfl (fun hg => by first | exact std0 | exact std1) (by exact rfl) ?_ | refine AWP.seq ?_ | refine AWP.regionK (fun K' hK => ?_) | (refine AOps.nil (hK _ _ ?_); clear hK K') | refine AOps.e (EStep.boxW rfl rfl rfl rfl rfl True.intro rfl rfl ?_) | refine AOps.e (EStep.storeW tabOk rfl rfl rfl True.intro rfl rfl True.intro rfl rfl rfl rfl rfl rfl rfl ?_) | refine AOps.e (EStep.allocW tabOk rfl rfl rfl rfl rfl rfl ?_) | refine AOps.e (EStep.makeMapW rfl rfl rfl rfl ?_) | (refine AWP.condW rfl True.intro (fun hc => ?_) (fun hc => ?_) <;> (first | (simp only [decide_eq_true_eq] at hc) | (simp only [decide_eq_false_iff_not, Int.not_lt, Int.not_le] at hc) | skip)) | refine AWP.block ?_ | refine AWP.exit ?_ | refine AWP.skip ?_ | refine AWP.ret ?_ | refine AWP.drawK2 (by decide +kernel) (by kernel_rfl) (by decide +kernel) rfl (fun K' hK => ?_) | refine AWP.drawL2 (by kernel_rfl) (by decide +kernel) rfl (fun K' hK => ?_) | (refine AQ.nil (hK _ ?_); clear hK K') | refine AQ.nil ?_ | refine AQ.q rfl rfl (fun hg => by first | exact std0 | exact std1) (by exact rfl) ?_)
  refine AWP.loopD (ι := Nat) (fun k => [(3, .map 0), (7, .sl 4 (l.map encB) .no), (8, .int l.length), (9, .int k)]) (fun k => [.map (encM ekI AV.int (idxALk l k))])
    (fun k => k ≤ l.length) (fun k => l.length - k) 1 (fun _ => rfl) 0 (Nat.zero_le _) ⟨rfl, rfl, rfl, rfl, True.intro⟩ rfl (fun _ _ => rfl) (fun k _ => by simp [okObj, encM, okRef]) ?_
  intro k hk
  by_cases hlt : k < l.length
  · repeat' (first | refine AOps.q rfl rfl rfl (fun hg => by first | exact std0 | exact std1) (by exact rfl) ?_ | refine AWP.seq ?_ | refine AWP.regionK (fun K' hK => ?_) | (refine AOps.nil (hK _ _ ?_); clear hK K') | refine AOps.e (EStep.boxW rfl rfl rfl rfl rfl True.intro rfl rfl ?_) | refine AOps.e (EStep.storeW tabOk rfl rfl rfl True.intro rfl rfl True.intro rfl rfl rfl rfl rfl rfl rfl ?_) | refine AOps.e (EStep.allocW tabOk rfl rfl rfl rfl rfl rfl ?_) | refine AOps.e (EStep.mapUpd (ek := ekI) (ev := AV.int) (keyLaw_int (LOk.of (tabOk.get rfl))) (LOk.of (tabOk.get rfl)) rfl rfl rfl (Rd.w rfl True.intro) rfl (Rd.w rfl True.intro) rfl (Rd.w rfl True.intro) ?_) | (refine AWP.condW rfl True.intro (fun hc => ?_) (fun hc => ?_) <;> (first | (simp only [decide_eq_true_eq] at hc) | (simp only [decide_eq_false_iff_not, Int.not_lt, Int.not_le] at hc) | skip)) | refine AWP.block ?_ | refine AWP.exit ?_ | refine AWP.skip ?_ | refine AWP.ret ?_ | refine AWP.drawK2 (by decide +kernel) (by kernel_rfl) (by decide +kernel) rfl (fun K' hK => ?_) | refine AWP.drawL2 (by kernel_rfl) (by decide +kernel) rfl (fun K' hK => ?_) | (refine AQ.nil (hK _ ?_); clear hK K') | refine AQ.nil ?_ | refine AQ.q rfl rfl (fun hg => by first | exact std0 | exact std1) (by exact rfl) ?_)
    · refine ⟨k + 1, by omega, by omega, ⟨rfl, rfl, rfl, rfl, True.intro⟩, ?_⟩
      rw [idxAL_succ]; rfl
    · exfalso; omega
  · repeat' (first | refine AOps.q rfl rfl rfl (fun hg => by first | exact std0 | exact std1) (by exact rfl) ?_ | refine AWP.seq ?_ | refine AWP.regionK (fun K' hK => ?_) | (refine AOps.nil (hK _ _ ?_); clear hK K') | refine AOps.e (EStep.boxW rfl rfl rfl rfl rfl True.intro rfl rfl ?_) | refine AOps.e (EStep.storeW tabOk rfl rfl rfl True.intro rfl rfl True.intro rfl rfl rfl rfl rfl rfl rfl ?_) | refine AOps.e (EStep.allocW tabOk rfl rfl rfl rfl rfl rfl ?_) | (refine AWP.condW rfl True.intro (fun hc => ?_) (fun hc => ?_) <;> (first | (simp only [decide_eq_true_eq] at hc) | (simp only [decide_eq_false_iff_not, Int.not_lt, Int.not_le] at hc) | skip)) | refine AWP.block ?_ | refine AWP.exit ?_ | refine AWP.skip ?_ | refine AWP.drawK2 (by decide +kernel) (by kernel_rfl) (by decide +kernel) rfl (fun K' hK => ?_) | refine AWP.drawL2 (by kernel_rfl) (by decide +kernel) rfl (fun K' hK => ?_) | (refine AQ.nil (hK _ ?_); clear hK K') | refine AQ.nil ?_ | refine AQ.q rfl rfl (fun hg => by first | exact std0 | exact std1) (by exact rfl) ?_)
    · exfalso; omega
    · refine AWP.freezeMap (ek := ekI) (ev := AV.int) (l := 0) rfl pureE_int ?_
      refine AWP.ret ⟨.inr rfl, ?_⟩
      rw [show k = l.length by omega]
      exact fun _ _ h => h

def noteOk (bars : List Bar) (n : Note) : Bool := match lk (idxAL bars) n.bar with
  | some i => nformed (bars.getD i.toNat default) n
  | none => false
def notesOk (bars : List Bar) (l : List Note) : Bool := barsOk bars && decide ((l.length : Int) ≤ 20000) && l.all (noteOk bars) && decide ((l.map (·.id)).Nodup)
theorem idxAL_eq (l : List Bar) : idxAL l = idxALk l l.length := rfl
theorem lk_ins' {κ α : Type} [DecidableEq κ] (al : List (κ × α)) (k k' : κ) (v : α) : lk (ins al k v) k' = if k = k' then some v else lk al k' := by
  induction al with
  | nil => simp [ins, lk]
  | cons p r ih =>
    obtain ⟨k2, v2⟩ := p
    simp only [ins]
    by_cases h : k2 = k
    · subst h
      rw [if_pos rfl]
      by_cases h3 : k2 = k' <;> simp [lk, h3]
    · rw [if_neg h]
      by_cases h3 : k2 = k'
      · subst h3
        simp [lk, Ne.symm h]
      · simp [lk, h3, ih]
theorem lk_idx (l : List Bar) (id : Int) : ∀ k i, lk (idxALk l k) id = some i → ∃ j : Nat, i = j ∧ j < k ∧ (l.getD j default).id = id
  | 0, i, h => by simp [idxALk, lk] at h
  | k + 1, i, h => by
    rw [idxAL_succ, lk_ins'] at h
    split at h
    · rename_i e
      simp at h; subst h
      exact ⟨k, rfl, by omega, e⟩
    · obtain ⟨j, h1, h2, h3⟩ := lk_idx l id k i h
      exact ⟨j, h1, by omega, h3⟩
theorem notesOk_bad {bars : List Bar} {l : List Note} {k : Nat} (hk : k < l.length) (h : noteOk bars (l.getD k default) = false) : notesOk bars l = false := by
  unfold notesOk; rw [all_no hk h]; simp
theorem notesOk_dup {bars : List Bar} {l : List Note} {k : Nat} (hk : k < l.length) (h : (l.getD k default).id ∈ (l.take k).map (·.id)) : notesOk bars l = false := by
  unfold notesOk; rw [decide_eq_false (not_nodup (fun b : Note => b.id) l k hk h)]; simp
theorem gsome {s t : Bool} (h : ((!s || t) == false) = true) : s = true := by cases s <;> simp at h ⊢
theorem nvalid_spec (bars : List Bar) (l : List Note) (hb : bars.length ≤ 9223372036854775807) (hl : l.length ≤ 9223372036854775807) :
    PCall Tryd.prog 19 [.sl 4 (bars.map encB) .no, .sl 12 (l.map encN) .no] (.b (notesOk bars l)) := by
  have v := mvalid_spec bars hb
  refine PCall.body Tryd.func19 rfl rfl Tryd.ntmps19 rfl rfl ?_
  repeat' (first | refine AOps.q rfl rfl rfl (fun hg => by first | exact std0 | exact PRun.callW (v) rfl rfl nd rfl nds | exact PRun.callW (indexes_spec bars hb) rfl rfl nd rfl nds | exact std1) (by exact rfl) ?_ | refine AWP.seq ?_ | refine AWP.regionK (fun K' hK => ?_) | (refine AOps.nil (hK _ _ ?_); clear hK K') | refine AOps.e (EStep.boxW rfl rfl rfl rfl rfl True.intro rfl rfl ?_) | refine AOps.e (EStep.storeW tabOk rfl rfl rfl True.intro rfl rfl True.intro rfl rfl rfl rfl rfl rfl rfl ?_) | refine AOps.e (EStep.allocW tabOk rfl rfl rfl rfl rfl rfl ?_) | refine AOps.e (EStep.makeMapW rfl rfl rfl rfl ?_) | (refine AWP.condW rfl True.intro (fun hc => ?_) (fun hc => ?_) <;> (first | (simp only [decide_eq_true_eq] at hc) | (simp only [decide_eq_false_iff_not, Int.not_lt, Int.not_le] at hc) | skip)) | refine AWP.block ?_ | refine AWP.exit ?_ | refine AWP.skip ?_ | refine AWP.ret ?_ | refine AWP.drawK2 (by decide +kernel) (by kernel_rfl) (by decide +kernel) rfl (fun K' hK => ?_) | refine AWP.drawL2 (by kernel_rfl) (by decide +kernel) rfl (fun K' hK => ?_) | (refine AQ.nil (hK _ ?_); clear hK K') | refine AQ.nil ?_ | refine AQ.q rfl rfl (fun hg => by first | exact std0 | exact PRun.callW (v) rfl rfl nd rfl nds | exact PRun.callW (indexes_spec bars hb) rfl rfl nd rfl nds | exact std1) (by exact rfl) ?_)
  · refine ⟨.inr rfl, Ent.b (Eq.symm ?_)⟩
    unfold notesOk
    cases h : barsOk bars with
    | false => simp
    | true =>
      rw [h] at hc; simp at hc
      have : decide ((l.length : Int) ≤ 20000) = false := by simp; omega
      rw [this]; simp
  have h1 : barsOk bars = true ∧ (l.length : Int) ≤ 20000 := by
    simp only [Bool.or_eq_false_iff, Bool.not_eq_false', decide_eq_false_iff_not] at hc
    exact ⟨hc.1, by omega⟩
  clear hc
  refine AWP.loopD (ι := Nat) (fun k => [(0, .sl 4 (bars.map encB) .no), (5, .imap (encM ekI AV.int (idxAL bars))), (6, .map 0), (22, .sl 12 (l.map encN) .no), (23, .int l.length), (24, .int k)]) (fun k => [.map (encM ekI AV.b (seenAL (·.id) (l.take k)))])
    (fun k => k ≤ l.length ∧ (∀ j, j < k → noteOk bars (l.getD j default) = true) ∧ ((l.take k).map (·.id)).Nodup) (fun k => l.length - k) 1 (fun _ => rfl) 0 ⟨Nat.zero_le _, fun j h => absurd h (by omega), by simp⟩ ⟨rfl, rfl, rfl, rfl, rfl, rfl, True.intro⟩ rfl (fun _ _ => rfl) (fun k _ => by simp [okObj, encM, okRef]) ?_
  rintro k ⟨hk, hall, hnd⟩
  by_cases hlt : k < l.length
  · have hs := lk_seen (fun b : Note => b.id) (l.take k) (l.getD k default).id
    have hix := lk_idx bars (l.getD k default).bar bars.length
    rw [← idxAL_eq] at hix
    have hix2 : ∀ i, lk (idxAL bars) (l.getD k default).bar = some i → 0 ≤ i ∧ i < bars.length := fun i hi => by
      obtain ⟨j, h1, h2, _⟩ := hix i hi; omega
    have hidx : (lk (idxAL bars) (l.getD k default).bar).isSome = true → 0 ≤ (lk (idxAL bars) (l.getD k default).bar).getD 0 ∧ (lk (idxAL bars) (l.getD k default).bar).getD 0 < bars.length := fun h => by
      cases hL : lk (idxAL bars) (l.getD k default).bar with
      | none => rw [hL] at h; cases h
      | some i => exact hix2 i hL
    have hno : noteOk bars (l.getD k default) = ((lk (idxAL bars) (l.getD k default).bar).isSome && nformed (bars.getD ((lk (idxAL bars) (l.getD k default).bar).getD 0).toNat default) (l.getD k default)) := by
      unfold noteOk
      cases lk (idxAL bars) (l.getD k default).bar <;> simp
    repeat' (first | refine AOps.q rfl rfl rfl (fun hg => by first | exact std0 | exact PRun.lookup (ek := ekI) (ev := AV.int) (zv := 0) (keyLaw_int (LOk.of (tabOk.get rfl))) (LOk.of (tabOk.get rfl)) (LOk.of (tabOk.get rfl)) rfl rfl (Rd.w rfl nd) (Or.inl rfl) (Rd.w rfl nd) rfl | exact PRun.lookup (ek := ekI) (ev := AV.b) (zv := false) (keyLaw_int (LOk.of (tabOk.get rfl))) (LOk.of (tabOk.get rfl)) (LOk.of (tabOk.get rfl)) rfl rfl (Rd.w rfl nd) (Or.inr ⟨_, rfl, rfl⟩) (Rd.w rfl nd) rfl | exact PRun.indexMW tabOk rfl rfl nd rfl nd rfl rfl (hidx (gsome hg)) | exact PRun.callW (nformed_spec (bars.getD ((lk (idxAL bars) (l.getD k default).bar).getD 0).toNat default) (l.getD k default)) rfl rfl nd rfl nds | exact std1) (by exact rfl) ?_ | refine AWP.seq ?_ | refine AWP.regionK (fun K' hK => ?_) | (refine AOps.nil (hK _ _ ?_); clear hK K') | refine AOps.e (EStep.boxW rfl rfl rfl rfl rfl True.intro rfl rfl ?_) | refine AOps.e (EStep.storeW tabOk rfl rfl rfl True.intro rfl rfl True.intro rfl rfl rfl rfl rfl rfl rfl ?_) | refine AOps.e (EStep.allocW tabOk rfl rfl rfl rfl rfl rfl ?_) | refine AOps.e (EStep.mapUpd (ek := ekI) (ev := AV.b) (v := true) (keyLaw_int (LOk.of (tabOk.get rfl))) (LOk.of (tabOk.get rfl)) rfl rfl rfl (Rd.w rfl True.intro) rfl (Rd.w rfl True.intro) rfl (Rd.w rfl True.intro) ?_) | (refine AWP.condW rfl True.intro (fun hc => ?_) (fun hc => ?_) <;> (first | (simp only [decide_eq_true_eq] at hc) | (simp only [decide_eq_false_iff_not, Int.not_lt, Int.not_le] at hc) | skip)) | refine AWP.block ?_ | refine AWP.exit ?_ | refine AWP.skip ?_ | refine AWP.ret ?_ | refine AWP.drawK2 (by decide +kernel) (by kernel_rfl) (by decide +kernel) rfl (fun K' hK => ?_) | refine AWP.drawL2 (by kernel_rfl) (by decide +kernel) rfl (fun K' hK => ?_) | (refine AQ.nil (hK _ ?_); clear hK K') | refine AQ.nil ?_ | refine AQ.q rfl rfl (fun hg => by first | exact std0 | exact PRun.lookup (ek := ekI) (ev := AV.int) (zv := 0) (keyLaw_int (LOk.of (tabOk.get rfl))) (LOk.of (tabOk.get rfl)) (LOk.of (tabOk.get rfl)) rfl rfl (Rd.w rfl nd) (Or.inl rfl) (Rd.w rfl nd) rfl | exact PRun.lookup (ek := ekI) (ev := AV.b) (zv := false) (keyLaw_int (LOk.of (tabOk.get rfl))) (LOk.of (tabOk.get rfl)) (LOk.of (tabOk.get rfl)) rfl rfl (Rd.w rfl nd) (Or.inr ⟨_, rfl, rfl⟩) (Rd.w rfl nd) rfl | exact PRun.indexMW tabOk rfl rfl nd rfl nd rfl rfl (hidx (gsome hg)) | exact PRun.callW (nformed_spec (bars.getD ((lk (idxAL bars) (l.getD k default).bar).getD 0).toNat default) (l.getD k default)) rfl rfl nd rfl nds | exact std1) (by exact rfl) ?_)
    · refine ⟨.inr rfl, Ent.b (Eq.symm ?_)⟩
      rw [Int.toNat_natCast] at hc
      rw [hs] at hc
      by_cases hm : (l.getD k default).id ∈ (l.take k).map (fun b => b.id)
      · exact notesOk_dup hlt hm
      · refine notesOk_bad hlt ?_
        rw [decide_eq_false hm, Bool.or_false] at hc
        rw [hno]
        revert hc
        cases (lk (idxAL bars) (l.getD k default).bar).isSome <;> simp
    · rw [Int.toNat_natCast] at hc
      rw [hs] at hc
      simp only [Bool.or_eq_false_iff, Bool.not_eq_false'] at hc
      have hm : (l.getD k default).id ∉ (l.take k).map (fun b => b.id) := of_decide_eq_false hc.1.2
      refine ⟨k + 1, ⟨by omega, fun j hj => lt_succ_cases hall (by rw [hno, hc.1.1, hc.2]; rfl) hj, (nodup_succ _ l k hlt).2 ⟨hnd, hm⟩⟩, by omega, ⟨rfl, rfl, rfl, rfl, rfl, rfl, True.intro⟩, ?_⟩
      rw [← seen_succ _ l k hlt hm]; rfl
    · exfalso; omega
  · repeat' (first | refine AOps.q rfl rfl rfl (fun hg => by first | exact std0 | exact std1) (by exact rfl) ?_ | refine AWP.seq ?_ | refine AWP.regionK (fun K' hK => ?_) | (refine AOps.nil (hK _ _ ?_); clear hK K') | refine AOps.e (EStep.boxW rfl rfl rfl rfl rfl True.intro rfl rfl ?_) | refine AOps.e (EStep.storeW tabOk rfl rfl rfl True.intro rfl rfl True.intro rfl rfl rfl rfl rfl rfl rfl ?_) | refine AOps.e (EStep.allocW tabOk rfl rfl rfl rfl rfl rfl ?_) | (refine AWP.condW rfl True.intro (fun hc => ?_) (fun hc => ?_) <;> (first | (simp only [decide_eq_true_eq] at hc) | (simp only [decide_eq_false_iff_not, Int.not_lt, Int.not_le] at hc) | skip)) | refine AWP.block ?_ | refine AWP.exit ?_ | refine AWP.skip ?_ | refine AWP.ret ?_ | (refine AQ.nil (hK _ ?_); clear hK K') | refine AQ.nil ?_ | refine AQ.q rfl rfl (fun hg => by first | exact std0 | exact std1) (by exact rfl) ?_)
    · exfalso; omega
    · refine ⟨.inr rfl, Ent.b ?_⟩
      have htk : l.take k = l := List.take_of_length_le (by omega)
      rw [htk] at hnd
      unfold notesOk
      rw [all_yes fun j hj => hall j (by omega), decide_eq_true hnd, h1.1, decide_eq_true h1.2]; rfl
end Go.Proofs.YtnmdmmfdnnmdfaaDoor
