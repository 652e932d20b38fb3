/- Contracts by content: the reference of parts.  Parts in plain words: the program's maps and the reference's searches say the same.  Contracts by content: the reference's order and sort of notes.  Contracts by content: the reference of scores: Range, Wrong, Same, Valid, Bar, Part, Note.  Contracts by content: score.played, an iterator.  Contracts by content: slices.Clone of bars and parts; score.With. No statement is proved here. -/
import Derived.Test.YtdglbdfdkabjfaaGreatDoorP15
import Derived.Test.YtdglbdfdkabjfaaGreatDoorP17
import Derived.Test.YtdglbdfdkabjfaaGreatDoorP20
set_option linter.unusedVariables false
set_option linter.unusedSimpArgs false
namespace Go.Proofs.YtdglbdfdkabjfaaGreatDoor
open Go.Ab
attribute [local irreducible] AWP AOps EStep AQ PStep PRun PCall TCall VCall
theorem r8in_spec (a b c : Int) : PCall Tryz.prog 116 [.int a, .int b, .int c] (.b (inB a b c)) := by
 refine PCall.body Tryz.func116 rfl rfl Tryz.ntmps116 rfl rfl ?_
 repeat' (first | refine aoQ rfl rfl rfl (fun hg => by exact std0) (by exact rfl) ?_ | refine sqW ?_ | refine rgK (fun K' hK => ?_) | (refine aoN (hK _ _ ?_); clear hK K') | refine rtW ?_)
 exact ⟨.inr rfl, Ent.b rfl⟩
theorem r8shift_spec (i : Interval) : PCall Tryz.prog 199 [.agg (encI i)] (.b (shiftOk i)) := by
 refine PCall.body Tryz.func199 rfl rfl Tryz.ntmps199 rfl rfl ?_
 repeat' (first | refine aoQ rfl rfl rfl (fun hg => by first | exact std0 | exact pcW (r3fifths_spec i) rfl rfl nd rfl nds | exact pcW (r8in_spec _ _ _) rfl rfl nd rfl nds | exact std1) (by exact rfl) ?_ | refine sqW ?_ | refine rgK (fun K' hK => ?_) | (refine aoN (hK _ _ ?_); clear hK K') | refine aoE (bxW rfl rfl rfl rfl rfl tI rfl rfl ?_) | refine rtW ?_)
 exact ⟨.inr rfl, Ent.b rfl⟩
set_option maxHeartbeats 1000000 in
theorem part1_spec (p : Part) : PCall Tryz.prog 162 [.agg (encP p)] (.b (partOk p)) := by
 have h1 := r8shift_spec p.shift
 have h2 := r2valid_spec p.low
 have h3 := r2valid_spec p.high
 refine PCall.body Tryz.func162 rfl rfl Tryz.ntmps162 rfl rfl ?_
 repeat' (first | refine aoQ rfl rfl rfl (fun hg => by first | exact std0 | exact pcW (r8in_spec _ _ _) rfl rfl nd rfl nds | exact pcW (h1) rfl rfl nd rfl nds | exact pcW (h2) rfl rfl nd rfl nds | exact pcW (h3) rfl rfl nd rfl nds | exact std1) (by exact rfl) ?_ | refine sqW ?_ | refine rgK (fun K' hK => ?_) | (refine aoN (hK _ _ ?_); clear hK K') | refine aoE (bxW rfl rfl rfl rfl rfl tI rfl rfl ?_) | refine cdN rfl tI (fun hc => ?_) (fun hc => ?_) | refine skW ?_ | refine rtW ?_ | refine dK2 (by decide +kernel) (by kernel_rfl) (by decide +kernel) rfl (fun K' hK => ?_) | refine aqQ rfl rfl (fun hg => by exact std0) (by exact rfl) ?_)
 · refine ⟨.inr rfl, Ent.b (Eq.symm ?_)⟩
   unfold partOk partBad partNums
   revert hc
   generalize inB p.id 1 1000000 = z1
   generalize inB p.section_ 0 99 = z2
   generalize inB p.of_ 0 1000000 = z3
   generalize inB p.octave (-2) 2 = z4
   generalize inB p.desks 1 40 = z5
   generalize shiftOk p.shift = z6
   generalize pitchOk p.low = z7
   generalize pitchOk p.high = z8
   generalize (p.of_ == p.id) = z9
   generalize (p.of_ == 0 && p.octave != 0) = z10
   generalize decide ((numR2 p.low).1 ≤ (numR2 p.high).1) = z11
   revert z1 z2 z3 z4 z5 z6 z7 z8 z9 z10 z11; decide
 · have hv : pitchOk p.low = true ∧ pitchOk p.high = true := by
    simp only [zAk, zB7] at hc
    exact ⟨hc.1.2, hc.2⟩
   have h4 := sound_spec p.low (pitchIn_ok hv.1)
   have h5 := sound_spec p.high (pitchIn_ok hv.2)
   rw [soundR_num hv.1] at h4
   rw [soundR_num hv.2] at h5
   repeat' (first | refine rtW ?_ | (refine aqN (hK _ ?_); clear hK K') | refine aqQ rfl rfl (fun hg => by first | exact std0 | exact pcW (h4) rfl rfl nd rfl nds | exact pcW (h5) rfl rfl nd rfl nds | exact std1) (by exact rfl) ?_)
   refine ⟨.inr rfl, Ent.b (Eq.symm ?_)⟩
   unfold partOk partBad partNums
   show _ = ((p.of_ != p.id && (p.of_ != 0 || p.octave == 0)) && decide ((numR2 p.low).1 ≤ (numR2 p.high).1))
   simp only [bne]
   revert hc
   generalize inB p.id 1 1000000 = z1
   generalize inB p.section_ 0 99 = z2
   generalize inB p.of_ 0 1000000 = z3
   generalize inB p.octave (-2) 2 = z4
   generalize inB p.desks 1 40 = z5
   generalize shiftOk p.shift = z6
   generalize pitchOk p.low = z7
   generalize pitchOk p.high = z8
   generalize (p.of_ == p.id) = z9
   generalize (p.of_ == 0) = z10
   generalize decide ((numR2 p.low).1 ≤ (numR2 p.high).1) = z11
   generalize (p.octave == 0) = z12
   revert z1 z2 z3 z4 z5 z6 z7 z8 z9 z10 z11 z12; decide
def partAt (l : List Part) (id : Int) : Int := findI (fun b : Part => b.id == id) l
theorem partAt_spec (l : List Part) (id : Int) (hl : l.length ≤ 9223372036854775807) : PCall Tryz.prog 163 [.sl 13 (l.map encP) .no, .int id] (.int (partAt l id)) := by
 refine PCall.body Tryz.func163 rfl rfl Tryz.ntmps163 rfl rfl ?_
 repeat' (first | refine aoQ rfl rfl rfl (fun hg => by exact std0) (by exact rfl) ?_ | refine sqW ?_ | refine rgK (fun K' hK => ?_) | (refine aoN (hK _ _ ?_); clear hK K') | refine blK ?_)
 refine lpW (ι := Nat) (fun k => [(0, .sl 13 (l.map encP) .no), (1, .int id), (5, .int k)]) (fun _ => []) (fun k => k ≤ l.length ∧ ∀ j, j < k → ((l.getD j default).id == id) = false) (fun k => l.length - k) 0 ⟨nZl _, fun j h => absurd h (by omega)⟩ ⟨rfl, rfl, rfl, tI⟩ rfl ?_
 rintro k ⟨hk, hall⟩
 by_cases hlt : k < l.length
 · repeat' (first | refine aoQ rfl rfl rfl (fun hg => by first | exact std0 | exact std1) (by exact rfl) ?_ | refine sqW ?_ | refine rgK (fun K' hK => ?_) | (refine aoN (hK _ _ ?_); clear hK K') | refine cdN rfl tI (fun hc => ?_) (fun hc => ?_) | refine blK ?_ | refine exW ?_ | refine skW ?_ | refine rtW ?_)
   · refine ⟨.inr rfl, Ent.int ?_⟩
     exact (findI_at hlt hc hall).symm
   · exact ⟨k + 1, ⟨by omega, fun j hj => lt_succ_cases hall hc hj⟩, by omega, ⟨rfl, rfl, rfl, tI⟩, rfl⟩
   · exfalso; omega
 · repeat' (first | refine aoQ rfl rfl rfl (fun hg => by first | exact std0 | exact std1) (by exact rfl) ?_ | refine sqW ?_ | refine rgK (fun K' hK => ?_) | (refine aoN (hK _ _ ?_); clear hK K') | refine cdN rfl tI (fun hc => ?_) (fun hc => ?_) | refine blK ?_ | refine exW ?_ | refine skW ?_ | refine rtW ?_)
   all_goals (first | (exfalso; omega) | skip)
   refine ⟨.inr rfl, Ent.int ?_⟩
   exact (findI_no fun j hj => hall j (by omega)).symm
theorem partAt_in (l : List Part) (id : Int) : (partAt l id = -1 ∧ ∀ q ∈ l, q.id ≠ id) ∨ ∃ j : Nat, partAt l id = j ∧ j < l.length ∧ (l.getD j default).id = id ∧ ∀ i, i < j → (l.getD i default).id ≠ id := by
 rcases (show partAt l id < 0 ∨ 0 ≤ partAt l id by omega) with h | h
 · left
   refine ⟨findI_neg.1 h, fun q hq e => ?_⟩
   have h2 := findI_neg.1 h
   unfold findI at h2
   split at h2
   · omega
   · rename_i h3
     rw [zC6] at h3
     have := h3 q hq
     simp [e] at this
 · right
   obtain ⟨k, h1, h2, h3, h4⟩ := findI_lt h
   exact ⟨k, h1, h2, by simpa using h3, fun i hi => by simpa using h4 i hi⟩
def ownX (l : List Part) (n : Note) : Int := if partAt l n.part < 0 then -1 else if (l.getD (partAt l n.part).toNat default).of_ != 0 then -1 else partAt l n.part
theorem own_spec (l : List Part) (n : Note) (hl : l.length ≤ 9223372036854775807) : PCall Tryz.prog 165 [.sl 13 (l.map encP) .no, .agg (encN n)] (.int (ownX l n)) := by
 have h1 := partAt_spec l n.part hl
 have hx : -1 ≤ partAt l n.part ∧ partAt l n.part < l.length := by
  rcases partAt_in l n.part with ⟨h, _⟩ | ⟨j, h, h2, _⟩ <;> omega
 refine PCall.body Tryz.func165 rfl rfl Tryz.ntmps165 rfl rfl ?_
 repeat' (first | refine aoQ rfl rfl rfl (fun hg => by first | exact std0 | exact pcW (h1) rfl rfl nd rfl nds | exact std1) (by exact rfl) ?_ | refine sqW ?_ | refine rgK (fun K' hK => ?_) | (refine aoN (hK _ _ ?_); clear hK K') | refine aoE (bxW rfl rfl rfl rfl rfl tI rfl rfl ?_) | refine cdN rfl tI (fun hc => ?_) (fun hc => ?_) | refine skW ?_ | refine rtW ?_)
 · exact ⟨.inr rfl, Ent.int (by unfold ownX; rw [if_pos hc])⟩
 · exact ⟨.inr rfl, Ent.int (by unfold ownX; rw [if_neg (by omega), if_pos hc])⟩
 · exact ⟨.inr rfl, Ent.int (by unfold ownX; rw [if_neg (by omega), if_neg (by rw [hc]; decide)])⟩
def partX (l : List Part) (i : Nat) : Bool := partOk (l.getD i default) && (partAt l (l.getD i default).id == i) && ((l.getD i default).of_ == 0 || (decide (0 ≤ partAt l (l.getD i default).of_) && (l.getD (partAt l (l.getD i default).of_).toNat default).of_ == 0))
def partsX (l : List Part) : Bool := inB l.length 1 60 && (List.range l.length).all (partX l)
theorem partsX_spec (l : List Part) (hl : l.length ≤ 9223372036854775807) : PCall Tryz.prog 115 [.sl 13 (l.map encP) .no] (.b (partsX l)) := by
 refine PCall.body Tryz.func115 rfl rfl Tryz.ntmps115 rfl rfl ?_
 repeat' (first | refine aoQ rfl rfl rfl (fun hg => by first | exact std0 | exact std1) (by exact rfl) ?_ | refine sqW ?_ | refine rgK (fun K' hK => ?_) | (refine aoN (hK _ _ ?_); clear hK K') | refine cdN rfl tI (fun hc => ?_) (fun hc => ?_) | refine blK ?_ | refine skW ?_ | refine rtW ?_)
 · refine ⟨.inr rfl, Ent.b (Eq.symm ?_)⟩
   unfold partsX inB
   simp at hc
   by_cases h : (1 : Int) ≤ l.length
   · rw [decide_eq_false (show ¬ (l.length : Int) ≤ 60 by omega)]; simp
   · rw [decide_eq_false h]; rfl
 have hn : inB (l.length : Int) 1 60 = true := by simp [inB]; simp at hc; omega
 clear hc
 refine lpW (ι := Nat) (fun k => [(0, .sl 13 (l.map encP) .no), (3, .int k)]) (fun _ => []) (fun k => k ≤ l.length ∧ (∀ j, j < k → partX l j = true)) (fun k => l.length - k) 0 ⟨nZl _, fun j h => absurd h (by omega)⟩ ⟨rfl, rfl, tI⟩ rfl ?_
 rintro k ⟨hk, hall⟩
 by_cases hlt : k < l.length
 · have h1 := part1_spec (l.getD k default)
   have h2 := partAt_spec l (l.getD k default).id hl
   have h3 := partAt_spec l (l.getD k default).of_ hl
   have hx : partAt l (l.getD k default).of_ < l.length := by
    rcases partAt_in l (l.getD k default).of_ with ⟨h, _⟩ | ⟨j, h, h2, _⟩ <;> omega
   have bad : ∀ b, partX l k = false → partsX l = b → b = false := fun b h e => by
    rw [← e]; unfold partsX; rw [allR_no hlt h]; simp
   repeat' (first | refine aoQ rfl rfl rfl (fun hg => by first | exact std0 | exact pcW (h1) rfl rfl nd rfl nds | exact pcW (h2) rfl rfl nd rfl nds | exact pcW (h3) rfl rfl nd rfl nds | exact std1) (by exact rfl) ?_ | refine sqW ?_ | refine rgK (fun K' hK => ?_) | (refine aoN (hK _ _ ?_); clear hK K') | refine cdN rfl tI (fun hc => ?_) (fun hc => ?_) | refine blK ?_ | refine exW ?_ | refine skW ?_ | refine rtW ?_)
   all_goals (first | (exfalso; omega) | skip)
   · refine ⟨.inr rfl, Ent.b (Eq.symm (bad _ ?_ rfl))⟩
     unfold partX
     have h4 : (partOk (l.getD k default) && (partAt l (l.getD k default).id == (k : Int))) = false := by
      revert hc
      show ((!partOk (l.getD k default)) || (partAt l (l.getD k default).id != (k : Int))) = true → _
      unfold bne
      generalize partOk (l.getD k default) = z1
      generalize (partAt l (l.getD k default).id == (k : Int)) = z2
      revert z1 z2; decide
     rw [h4]; rfl
   · rename_i hc1
     have h4 : (partOk (l.getD k default) && (partAt l (l.getD k default).id == (k : Int))) = true := by
      revert hc1
      show ((!partOk (l.getD k default)) || (partAt l (l.getD k default).id != (k : Int))) = false → _
      unfold bne
      generalize partOk (l.getD k default) = z1
      generalize (partAt l (l.getD k default).id == (k : Int)) = z2
      revert z1 z2; decide
     have h5 : ((l.getD k default).of_ == 0) = true := hc
     refine ⟨k + 1, ⟨by omega, fun i hi => lt_succ_cases hall (by unfold partX; rw [h4, h5]; rfl) hi⟩, by omega, ⟨rfl, rfl, tI⟩, rfl⟩
   · refine ⟨.inr rfl, Ent.b (Eq.symm (bad _ ?_ rfl))⟩
     rename_i hc1
     have h5 : ((l.getD k default).of_ == 0) = false := hc1
     have h6 : decide (0 ≤ partAt l (l.getD k default).of_) = false := decide_eq_false (by omega)
     unfold partX
     rw [h5, h6]; simp
   · refine ⟨.inr rfl, Ent.b (Eq.symm (bad _ ?_ rfl))⟩
     rename_i hc2 hc3
     have h5 : ((l.getD k default).of_ == 0) = false := hc2
     have h7 : ((l.getD (partAt l (l.getD k default).of_).toNat default).of_ == 0) = false := by
      revert hc; show ((l.getD (partAt l (l.getD k default).of_).toNat default).of_ != 0) = true → _; unfold bne; simp
     unfold partX
     rw [h5, h7]; simp
   · rename_i hc1 hc2 hc3
     have h4 : (partOk (l.getD k default) && (partAt l (l.getD k default).id == (k : Int))) = true := by
      revert hc1
      show ((!partOk (l.getD k default)) || (partAt l (l.getD k default).id != (k : Int))) = false → _
      unfold bne
      generalize partOk (l.getD k default) = z1
      generalize (partAt l (l.getD k default).id == (k : Int)) = z2
      revert z1 z2; decide
     have h6 : decide (0 ≤ partAt l (l.getD k default).of_) = true := decide_eq_true (by omega)
     have h7 : ((l.getD (partAt l (l.getD k default).of_).toNat default).of_ == 0) = true := by
      revert hc; show ((l.getD (partAt l (l.getD k default).of_).toNat default).of_ != 0) = false → _; unfold bne; simp
     refine ⟨k + 1, ⟨by omega, fun i hi => lt_succ_cases hall (by unfold partX; rw [h4, h6, h7]; simp) hi⟩, by omega, ⟨rfl, rfl, tI⟩, rfl⟩
 · repeat' (first | refine aoQ rfl rfl rfl (fun hg => by first | exact std0 | exact std1) (by exact rfl) ?_ | refine sqW ?_ | refine rgK (fun K' hK => ?_) | (refine aoN (hK _ _ ?_); clear hK K') | refine cdN rfl tI (fun hc => ?_) (fun hc => ?_) | refine blK ?_ | refine exW ?_ | refine skW ?_ | refine rtW ?_)
   all_goals (first | (exfalso; omega) | skip)
   refine ⟨.inr rfl, Ent.b ?_⟩
   unfold partsX
   rw [hn, allR_yes fun j hj => hall j (by omega)]; rfl
end Go.Proofs.YtdglbdfdkabjfaaGreatDoor
namespace Go.Proofs.YtdglbdfdkabjfaaGreatDoor
open Go.Ab
theorem ins_len {α : Type} (al : List (Int × α)) (k : Int) (v : α) : (ins al k v).length = if (lk al k).isSome then al.length else al.length + 1 := by
 induction al with
 | nil => simp [ins, lk]
 | cons p r ih =>
   obtain ⟨k', v'⟩ := p
   simp only [ins, lk]
   by_cases h : k' = k
   · simp [h]
   · simp only [if_neg h, zAe, ih]
     split <;> rfl
theorem partsAL_facts (l : List Part) : ∀ k, k ≤ l.length →
 ((partsAL (l.take k)).length ≤ k ∧ ((partsAL (l.take k)).length = k ↔ ((l.take k).map (·.id)).Nodup)) ∧
 (∀ id, (lk (partsAL (l.take k)) id).isSome = true ↔ ∃ j, j < k ∧ (l.getD j default).id = id) ∧
 (∀ id q, lk (partsAL (l.take k)) id = some q → ∃ j, j < k ∧ l.getD j default = q ∧ q.id = id)
 | 0, _ => by
   refine ⟨⟨by simp [partsAL], by simp [partsAL]⟩, fun id => ?_, fun id q h => ?_⟩
   · simp [partsAL, lk]
   · simp [partsAL, lk] at h
 | k + 1, hk => by
   obtain ⟨⟨a1, a2⟩, b, c⟩ := partsAL_facts l k (by omega)
   rw [partsAL_succ l k (by omega)]
   have hmem : (l.getD k default).id ∈ (l.take k).map (·.id) ↔ (lk (partsAL (l.take k)) (l.getD k default).id).isSome = true := by
    rw [b, mem_take (fun p : Part => p.id) (by omega)]
   refine ⟨⟨?_, ?_⟩, fun id => ?_, fun id q h => ?_⟩
   · rw [ins_len]; split <;> omega
   · rw [ins_len, nodup_succ (fun p : Part => p.id) l k (by omega)]
     split
     · rename_i h
       constructor
       · intro e; omega
       · rintro ⟨_, h2⟩; exact absurd (hmem.2 h) h2
     · rename_i h
       rw [← a2]
       constructor
       · intro e; exact ⟨by omega, fun h2 => h (hmem.1 h2)⟩
       · rintro ⟨e, _⟩; omega
   · rw [lk_ins']
     by_cases e : (l.getD k default).id = id
     · rw [if_pos e]
       exact ⟨fun _ => ⟨k, by omega, e⟩, fun _ => rfl⟩
     · rw [if_neg e, b]
       constructor
       · rintro ⟨j, h1, h2⟩; exact ⟨j, by omega, h2⟩
       · rintro ⟨j, h1, h2⟩
         rcases nLg j k with h3 | h3
         · exact ⟨j, h3, h2⟩
         · have : j = k := by omega
           subst this; exact absurd h2 e
   · rw [lk_ins'] at h
     split at h
     · rename_i e
       simp only [Option.some.injEq] at h; subst h
       exact ⟨k, by omega, rfl, e⟩
     · obtain ⟨j, h1, h2⟩ := c id q h
       exact ⟨j, by omega, h2⟩
theorem take_all {α : Type} (l : List α) : l.take l.length = l := zBl
theorem partsAL_nodup (l : List Part) : (partsAL l).length = l.length ↔ (l.map (·.id)).Nodup := by
 have := (partsAL_facts l l.length (nLr _)).1.2
 rwa [take_all] at this
theorem lk_parts {l : List Part} (hn : (l.map (·.id)).Nodup) (id : Int) (q : Part) : lk (partsAL l) id = some q ↔ q ∈ l ∧ q.id = id := by
 obtain ⟨_, b, c⟩ := partsAL_facts l l.length (nLr _)
 rw [take_all] at b c
 constructor
 · intro h
   obtain ⟨j, h1, h2, h3⟩ := c id q h
   exact ⟨by rw [← h2, getD_lt h1]; exact lGm h1, h3⟩
 · rintro ⟨h1, h2⟩
   obtain ⟨i, hi, rfl⟩ := zB0.1 h1
   have h3 := (b id).2 ⟨i, hi, by rw [getD_lt hi]; exact h2⟩
   cases h4 : lk (partsAL l) id with
   | none => rw [h4] at h3; cases h3
   | some q =>
     obtain ⟨j, h5, h6, h7⟩ := c id q h4
     have : j = i := nodup_at (fun p : Part => p.id) hn h5 hi (by rw [h6, h7, getD_lt hi, h2])
     subst this
     rw [← h6, getD_lt hi]
theorem partAt_lk {l : List Part} (hn : (l.map (·.id)).Nodup) (id : Int) : (lk (partsAL l) id = none ∧ partAt l id = -1) ∨ ∃ j : Nat, lk (partsAL l) id = some (l.getD j default) ∧ partAt l id = j ∧ j < l.length ∧ (l.getD j default).id = id := by
 rcases partAt_in l id with ⟨h1, h2⟩ | ⟨j, h1, h2, h3, h4⟩
 · left
   refine ⟨?_, h1⟩
   cases h : lk (partsAL l) id with
   | none => rfl
   | some q =>
     obtain ⟨h5, h6⟩ := (lk_parts hn id q).1 h
     exact absurd h6 (h2 q h5)
 · right
   refine ⟨j, (lk_parts hn id _).2 ⟨by rw [getD_lt h2]; exact lGm h2, h3⟩, h1, h2, h3⟩
theorem partAt_self {l : List Part} (hn : (l.map (·.id)).Nodup) {i : Nat} (hi : i < l.length) : partAt l (l.getD i default).id = i := by
 rcases partAt_in l (l.getD i default).id with ⟨h1, h2⟩ | ⟨j, h1, h2, h3, h4⟩
 · exact absurd rfl (h2 _ (by rw [getD_lt hi]; exact lGm hi))
 · have := nodup_at (fun p : Part => p.id) hn h2 hi h3
   rw [h1, this]
theorem nodup_partAt {l : List Part} (h : ∀ i, i < l.length → partAt l (l.getD i default).id = i) : (l.map (·.id)).Nodup := by
 rw [List.Nodup, List.pairwise_map, zBr]
 intro i j hi hj hij e
 have h1 := h j hj
 rcases partAt_in l (l.getD j default).id with ⟨h2, _⟩ | ⟨k, h2, h3, h4, h5⟩
 · omega
 · have : k = j := by omega
   subst this
   exact h5 i hij (by rw [getD_lt hi, getD_lt hj, e])
theorem findI_none {α : Type} [Inhabited α] {p : α → Bool} {l : List α} : (!decide (findI p l ≥ 0)) = (List.range l.length).all fun i => !p (l.getD i default) := by
 by_cases h : findI p l ≥ 0
 · obtain ⟨k, _, h2, h3, _⟩ := findI_lt h
   rw [decide_eq_true h, allR_no h2 (by rw [h3]; rfl)]; rfl
 · rw [decide_eq_false h]
   symm
   refine allR_yes fun j hj => ?_
   have h2 := findI_neg.1 (show findI p l < 0 by omega)
   unfold findI at h2
   split at h2
   · omega
   · rename_i h3
     rw [zC6] at h3
     have := h3 (l.getD j default) (by rw [getD_lt hj]; exact lGm hj)
     rw [this]; rfl
theorem all_range {α : Type} [Inhabited α] (p : α → Bool) (l : List α) : l.all p = (List.range l.length).all fun i => p (l.getD i default) := by
 rw [zAl, zA6, zA6]
 constructor
 · intro h i hi
   have := zAu.1 hi
   exact h _ (by rw [getD_lt this]; exact lGm this)
 · intro h x hx
   obtain ⟨i, hi, rfl⟩ := zB0.1 hx
   have := h i (zAu.2 hi)
   rwa [getD_lt hi] at this
theorem partsX_ok (l : List Part) : partsX l = partsOk l := by
 unfold partsX partsOk
 rw [findI_none, all_range partOk l]
 cases inB (l.length : Int) 1 60 with
 | false => rfl
 | true =>
   simp only [zBd]
   by_cases hn : (l.map (·.id)).Nodup
   · have e : (((partsAL l).length : Int) == (l.length : Int)) = true := by rw [(partsAL_nodup l).2 hn]; simp
     rw [e, zBd, zAl, zA0, zA6, zA6, zA6, ← forall_and]
     refine forall_congr' fun i => ?_
     rw [← forall_and]
     refine forall_congr' fun hi => ?_
     have hi := zAu.1 hi
     unfold partX lost
     rw [partAt_self hn hi]
     have e2 : ((l.getD i default).of_ == 0 || (decide (0 ≤ partAt l (l.getD i default).of_) && (l.getD (partAt l (l.getD i default).of_).toNat default).of_ == 0)) =
      !((l.getD i default).of_ != 0 && (!(lk (partsAL l) (l.getD i default).of_).isSome || ((lk (partsAL l) (l.getD i default).of_).getD default).of_ != 0)) := by
      rcases partAt_lk hn (l.getD i default).of_ with ⟨h1, h2⟩ | ⟨j, h1, h2, h3, h4⟩
      · rw [h1, h2]; unfold bne; cases ((l.getD i default).of_ == 0) <;> rfl
      · rw [h1, h2]
        have e3 : decide ((0 : Int) ≤ (j : Int)) = true := decide_eq_true (Int.natCast_nonneg j)
        rw [e3]
        simp only [zAa, Option.isSome_some, zC7]
        unfold bne
        cases ((l.getD i default).of_ == 0) <;> cases ((l.getD j default).of_ == 0) <;> rfl
     rw [← e2]
     simp
   · have e : (((partsAL l).length : Int) == (l.length : Int)) = false := by
      have := mt (partsAL_nodup l).1 hn
      simp; omega
     rw [e, zBq, zCj]
     cases hx : (List.range l.length).all (partX l) with
     | false => rfl
     | true =>
       exfalso
       refine hn (nodup_partAt fun i hi => ?_)
       have h1 := zA6.1 hx i (zAu.2 hi)
       unfold partX at h1
       simp only [zA0, beq_iff_eq] at h1
       exact h1.1.2
theorem partsOk_nodup {l : List Part} (h : partsOk l = true) : (l.map (·.id)).Nodup := by
 unfold partsOk at h
 simp only [zA0, beq_iff_eq] at h
 exact (partsAL_nodup l).1 (by omega)
theorem partsOk_all {l : List Part} (h : partsOk l = true) : ∀ p ∈ l, partOk p = true := by
 unfold partsOk at h
 simp only [zA0, zA6] at h
 exact h.1.2
theorem own_lk {l : List Part} (hn : (l.map (·.id)).Nodup) (n : Note) : (lk (ownAL l) n.part = none ∧ ownX l n = -1) ∨ ∃ j : Nat, lk (ownAL l) n.part = some (l.getD j default) ∧ ownX l n = j ∧ partAt l n.part = j ∧ j < l.length ∧ (l.getD j default).id = n.part ∧ (l.getD j default).of_ = 0 := by
 have hf : (((l.filter fun p => p.of_ == 0)).map (·.id)).Nodup := hn.sublist (List.filter_sublist.map _)
 have key : ∀ q, lk (ownAL l) n.part = some q ↔ (q ∈ l ∧ q.of_ = 0) ∧ q.id = n.part := fun q => by
  unfold ownAL; rw [lk_parts hf]; simp
 have none_of : (∀ q, q ∈ l → q.of_ = 0 → q.id ≠ n.part) → lk (ownAL l) n.part = none := fun h => by
  cases h2 : lk (ownAL l) n.part with
  | none => rfl
  | some q => obtain ⟨⟨h3, h4⟩, h5⟩ := (key q).1 h2; exact absurd h5 (h q h3 h4)
 unfold ownX
 rcases partAt_in l n.part with ⟨h1, h2⟩ | ⟨j, h1, h2, h3, h4⟩
 · left
   rw [h1]
   exact ⟨none_of fun q h3 _ => h2 q h3, rfl⟩
 · rw [h1, if_neg (by omega), zAa]
   by_cases h5 : (l.getD j default).of_ = 0
   · right
     refine ⟨j, (key _).2 ⟨⟨by rw [getD_lt h2]; exact lGm h2, h5⟩, h3⟩, ?_, rfl, h2, h3, h5⟩
     rw [if_neg (by simp only [bne_iff_ne, ne_eq]; exact fun h => h h5)]
   · left
     rw [if_pos (by simpa using h5)]
     refine ⟨none_of fun q h6 h7 h8 => ?_, rfl⟩
     obtain ⟨i, hi, rfl⟩ := zB0.1 h6
     have : i = j := nodup_at (fun p : Part => p.id) hn hi h2 (by rw [getD_lt hi, h8, h3])
     subst this
     rw [getD_lt hi] at h5; exact h5 h7
end Go.Proofs.YtdglbdfdkabjfaaGreatDoor
namespace Go.Proofs.YtdglbdfdkabjfaaGreatDoor
open Go.Ab Go.Sort
attribute [local irreducible] AWP AOps EStep AQ PStep PRun PCall TCall VCall
theorem bneF {a b : Int} (h : (a != b) = false) : (a == b) = true := by simpa using h
theorem bneT {a b : Int} (h : (a != b) = true) : (a == b) = false := by simpa using h
theorem lk0_bar {bars : List Bar} {n : Note} (hb : barsOk bars = true) (h : noteOk bars n = true) : barAt bars n.bar = lk0 (idxAL bars) n.bar := by
 rcases lk_bar (barsOk_nodup hb) n.bar with ⟨h1, h2⟩ | ⟨j, h1, h2, h3, h4⟩
 · unfold noteOk at h; rw [h1] at h; cases h
 · unfold lk0; rw [h1, h2]; rfl
theorem noteOk_form {bars : List Bar} {n : Note} (h : noteOk bars n = true) : durOk n.start = true ∧ pitchOk n.pitch = true := by
 unfold noteOk at h
 split at h
 · unfold nformed fits noteForm noteP at h
   simp only [zA0] at h
   refine ⟨?_, h.2.2.1.1⟩
   have := h.1.1.1.1
   unfold ticksR at this
   by_cases h2 : durOk n.start = true
   · exact h2
   · rw [if_neg h2] at this; cases this
 · cases h
set_option maxHeartbeats 4000000 in
theorem keys_spec (bars : List Bar) (n : Note) (hl : bars.length ≤ 9223372036854775807) (hb : barsOk bars = true) (h : noteOk bars n = true) : PCall Tryz.prog 167 [.sl 4 (bars.map encB) .no, .agg (encN n)] (.sl 1 ((keyN (idxAL bars) n).map fun n => [AV.int n]) .no) := by
 obtain ⟨f1, f2⟩ := noteOk_form h
 have h1 := r7bar_spec bars n.bar hl
 rw [lk0_bar hb h] at h1
 have h2 := ticks6_spec n.start
 have e2 : ticksX n.start = (ticksR n.start).1 := by unfold ticksX ticksR; rw [if_pos f1, if_pos f1]
 rw [e2] at h2
 have h3 := sound_spec n.pitch (pitchIn_ok f2)
 rw [soundR_num f2] at h3
 refine PCall.body Tryz.func167 rfl rfl Tryz.ntmps167 rfl rfl ?_
 repeat' (first | refine aoQ rfl rfl rfl (fun hg => by exact std0) (by exact rfl) ?_ | refine sqW ?_ | refine rgK (fun K' hK => ?_) | (refine aoN (hK _ _ ?_); clear hK K') | refine aoE (bxW rfl rfl rfl rfl rfl tI rfl rfl ?_) | refine rtW ?_ | refine dK2 (by decide +kernel) (by kernel_rfl) (by decide +kernel) rfl (fun K' hK => ?_) | (refine aqN (hK _ ?_); clear hK K') | refine aqQ rfl rfl (fun hg => by first | exact std0 | exact pcW (h1) rfl rfl nd rfl nds | exact pcW (h2) rfl rfl nd rfl nds | exact pcW (h3) rfl rfl nd rfl nds | exact pbS tabOk rfl rfl nds | exact std1) (by exact rfl) ?_)
 exact ⟨.inr rfl, Ent.of rfl⟩
theorem cmpK_diff {a b : List Int} {k : Nat} (hl : a.length = b.length) (hk : k < a.length) (h : ∀ j, j < k → a.getD j default = b.getD j default) (h1 : a.getD k default ≠ b.getD k default) : cmpK a b = a.getD k default - b.getD k default := by
 unfold cmpK
 have hz : ∀ j, j < a.length → (List.zipWith (· - ·) a b).getD j default = a.getD j default - b.getD j default := fun j hj => by
  rw [getD_lt (show j < (List.zipWith (· - ·) a b).length by simp; omega), getD_lt hj, getD_lt (show j < b.length by omega), List.getElem_zipWith]
 rw [orL_first (k := k) (by simp; omega) (fun j hj => by rw [hz j (by omega), h j hj]; show _ - _ = (0 : Int); omega) (by rw [hz k hk]; omega), hz k hk]
theorem cmpK_same {a b : List Int} (hl : a.length = b.length) (h : ∀ j, j < a.length → a.getD j default = b.getD j default) : cmpK a b = 0 := by
 unfold cmpK
 refine orL_zero fun j hj => ?_
 simp only [List.length_zipWith] at hj
 rw [getD_lt (show j < (List.zipWith (· - ·) a b).length by simp; omega), List.getElem_zipWith]
 have := h j (by omega)
 rw [getD_lt (by omega), getD_lt (by omega)] at this
 omega
theorem before_spec (bars : List Bar) (a b : Note) (hl : bars.length ≤ 9223372036854775807) (hb : barsOk bars = true) (ha' : noteOk bars a = true) (hb' : noteOk bars b = true) :
 PCall Tryz.prog 119 [.sl 4 (bars.map encB) .no, .agg (encN a), .agg (encN b)] (.b (bef (idxAL bars) a b)) := by
 have h1 := keys_spec bars a hl hb ha'
 have h2 := keys_spec bars b hl hb hb'
 have l1 : (keyN (idxAL bars) a).length = 6 := rfl
 have l2 : (keyN (idxAL bars) b).length = 6 := rfl
 unfold bef
 generalize keyN (idxAL bars) a = x at *
 generalize keyN (idxAL bars) b = y at *
 refine PCall.body Tryz.func119 rfl rfl Tryz.ntmps119 rfl rfl ?_
 repeat' (first | refine aoQ rfl rfl rfl (fun hg => by first | exact std0 | exact pcW (h1) rfl rfl nd rfl nds | exact pcW (h2) rfl rfl nd rfl nds | exact std1) (by exact rfl) ?_ | refine sqW ?_ | refine rgK (fun K' hK => ?_) | (refine aoN (hK _ _ ?_); clear hK K') | refine aoE (bxW rfl rfl rfl rfl rfl tI rfl rfl ?_) | refine blK ?_)
 refine lpW (ι := Nat) (fun k => [(7, .sl 1 (x.map fun n => [AV.int n]) .no), (8, .sl 1 (y.map fun n => [AV.int n]) .no), (9, .int k)]) (fun _ => [.var (encN a), .var (encN b)]) (fun k => k ≤ x.length ∧ ∀ j, j < k → x.getD j default = y.getD j default) (fun k => x.length - k) 0 ⟨nZl _, fun j h => absurd h (by omega)⟩ ⟨rfl, rfl, rfl, tI⟩ rfl ?_
 rintro k ⟨hk, hall⟩
 by_cases hlt : k < x.length
 · repeat' (first | refine aoQ rfl rfl rfl (fun hg => by first | exact std0 | exact std1) (by exact rfl) ?_ | refine sqW ?_ | refine rgK (fun K' hK => ?_) | (refine aoN (hK _ _ ?_); clear hK K') | refine cdN rfl tI (fun hc => ?_) (fun hc => ?_) | refine blK ?_ | refine exW ?_ | refine skW ?_ | refine rtW ?_ | refine dK2 (by decide +kernel) (by kernel_rfl) (by decide +kernel) rfl (fun K' hK => ?_) | (refine aqN (hK _ ?_); clear hK K') | refine aqQ rfl rfl (fun hg => by first | exact std0 | exact std1) (by exact rfl) ?_)
   all_goals (first | (exfalso; omega) | skip)
   · refine ⟨.inr rfl, Ent.b ?_⟩
     have h5 : x.getD k default ≠ y.getD k default := by
      have := bneT hc
      rw [zAa] at this
      simpa using this
     rw [cmpK_diff (by omega) hlt hall h5, zAa, decide_eq_decide]
     omega
   · refine ⟨k + 1, ⟨by omega, fun j hj => lt_succ_cases hall ?_ hj⟩, by omega, ⟨rfl, rfl, rfl, tI⟩, rfl⟩
     have := bneF hc
     rw [zAa] at this
     simpa using this
 · repeat' (first | refine aoQ rfl rfl rfl (fun hg => by first | exact std0 | exact std1) (by exact rfl) ?_ | refine sqW ?_ | refine rgK (fun K' hK => ?_) | (refine aoN (hK _ _ ?_); clear hK K') | refine cdN rfl tI (fun hc => ?_) (fun hc => ?_) | refine blK ?_ | refine exW ?_ | refine skW ?_ | refine rtW ?_ | refine dK2 (by decide +kernel) (by kernel_rfl) (by decide +kernel) rfl (fun K' hK => ?_) | (refine aqN (hK _ ?_); clear hK K') | refine aqQ rfl rfl (fun hg => by first | exact std0 | exact std1) (by exact rfl) ?_)
   all_goals (first | (exfalso; omega) | skip)
   refine ⟨.inr rfl, Ent.b ?_⟩
   rw [cmpK_same (by omega) fun j hj => hall j (by omega)]; rfl
theorem all_mem {α : Type} [Inhabited α] {p : α → Bool} {l : List α} (h : ∀ x ∈ l, p x = true) {k : Nat} (hk : k < l.length) : p (l.getD k default) = true := h _ (by rw [getD_lt hk]; exact lGm hk)
end Go.Proofs.YtdglbdfdkabjfaaGreatDoor
namespace Go.Proofs.YtdglbdfdkabjfaaGreatDoor
open Go.Ab
attribute [local irreducible] AWP AOps EStep AQ PStep PRun PCall TCall VCall
theorem range_spec (p : Part) (x : Pitch) (h1 : pitchOk p.low = true) (h2 : pitchOk p.high = true) (h3 : pitchOk x = true) : PCall Tryz.prog 166 [.agg (encP p), .agg (encPi x)] (.b (inB (numR2 x).1 (numR2 p.low).1 (numR2 p.high).1)) := by
 have s1 := sound_spec p.low (pitchIn_ok h1)
 have s2 := sound_spec p.high (pitchIn_ok h2)
 have s3 := sound_spec x (pitchIn_ok h3)
 rw [soundR_num h1] at s1
 rw [soundR_num h2] at s2
 rw [soundR_num h3] at s3
 refine PCall.body Tryz.func166 rfl rfl Tryz.ntmps166 rfl rfl ?_
 repeat' (first | refine aoQ rfl rfl rfl (fun hg => by exact std0) (by exact rfl) ?_ | refine sqW ?_ | refine rgK (fun K' hK => ?_) | (refine aoN (hK _ _ ?_); clear hK K') | refine aoE (bxW rfl rfl rfl rfl rfl tI rfl rfl ?_) | refine rtW ?_ | refine dK2 (by decide +kernel) (by kernel_rfl) (by decide +kernel) rfl (fun K' hK => ?_) | (refine aqN (hK _ ?_); clear hK K') | refine aqQ rfl rfl (fun hg => by first | exact std0 | exact pcW (s1) rfl rfl nd rfl nds | exact pcW (s2) rfl rfl nd rfl nds | exact pcW (s3) rfl rfl nd rfl nds | exact pcW (r8in_spec _ _ _) rfl rfl nd rfl nds | exact std1) (by exact rfl) ?_)
 exact ⟨.inr rfl, Ent.b rfl⟩
theorem stranger_own {l : List Part} (hn : (l.map (·.id)).Nodup) (n : Note) : stranger (ownAL l) n = decide (ownX l n < 0) := by
 unfold stranger
 rcases own_lk hn n with ⟨h1, h2⟩ | ⟨j, h1, h2, _⟩
 · rw [h1, h2]; rfl
 · rw [h1, h2]
   rw [decide_eq_false (by omega)]; rfl
theorem farN_own {l : List Part} (hn : (l.map (·.id)).Nodup) {n : Note} (h : ¬ ownX l n < 0) : farN (ownAL l) n = !inB (numR2 n.pitch).1 (numR2 (l.getD (ownX l n).toNat default).low).1 (numR2 (l.getD (ownX l n).toNat default).high).1 := by
 unfold farN
 rcases own_lk hn n with ⟨h1, h2⟩ | ⟨j, h1, h2, _⟩
 · omega
 · rw [h1, h2, zAa]; rfl
theorem ownX_lt (l : List Part) (n : Note) : ownX l n < l.length := by
 unfold ownX
 split
 · omega
 · split
   · omega
   · rcases partAt_in l n.part with ⟨h, _⟩ | ⟨j, h, h2, _⟩ <;> omega
theorem partOk_pitch {p : Part} (h : partOk p = true) : pitchOk p.low = true ∧ pitchOk p.high = true := by
 unfold partOk at h
 simp only [zA0] at h
 exact ⟨h.2.1.1, h.2.1.2⟩
theorem wrong8_spec (l : List Part) (ns : List Note) (hl : l.length ≤ 9223372036854775807) (hns : ns.length ≤ 9223372036854775807) (hp : partsOk l = true) (hq : ∀ n ∈ ns, pitchOk n.pitch = true) :
 PCall Tryz.prog 118 [.sl 13 (l.map encP) .no, .sl 12 (ns.map encN) .no] (.int (wrongR l ns)) := by
 have hn := partsOk_nodup hp
 refine PCall.body Tryz.func118 rfl rfl Tryz.ntmps118 rfl rfl ?_
 repeat' (first | refine aoQ rfl rfl rfl (fun hg => by exact std0) (by exact rfl) ?_ | refine sqW ?_ | refine rgK (fun K' hK => ?_) | (refine aoN (hK _ _ ?_); clear hK K') | refine blK ?_)
 refine lpW (ι := Nat) (fun k => [(0, .sl 13 (l.map encP) .no), (1, .sl 12 (ns.map encN) .no), (5, .int k)]) (fun _ => []) (fun k => k ≤ ns.length ∧ ∀ j, j < k → stranger (ownAL l) (ns.getD j default) = false) (fun k => ns.length - k) 0 ⟨nZl _, fun j h => absurd h (by omega)⟩ ⟨rfl, rfl, rfl, tI⟩ rfl ?_
 rintro k ⟨hk, hall⟩
 by_cases hlt : k < ns.length
 · have ho := own_spec l (ns.getD k default) hl
   have hs := stranger_own hn (ns.getD k default)
   repeat' (first | refine aoQ rfl rfl rfl (fun hg => by first | exact std0 | exact pcW (ho) rfl rfl nd rfl nds | exact std1) (by exact rfl) ?_ | refine sqW ?_ | refine rgK (fun K' hK => ?_) | (refine aoN (hK _ _ ?_); clear hK K') | refine cdN rfl tI (fun hc => ?_) (fun hc => ?_) | refine blK ?_ | refine exW ?_ | refine skW ?_ | refine rtW ?_)
   all_goals (first | (exfalso; omega) | skip)
   · refine ⟨.inr rfl, Ent.int (Eq.symm ?_)⟩
     rw [decide_eq_true hc] at hs
     unfold wrongR
     rw [findI_at hlt hs hall, if_pos (Int.natCast_nonneg k)]
   · rw [decide_eq_false (by omega)] at hs
     exact ⟨k + 1, ⟨by omega, fun j hj => lt_succ_cases hall hs hj⟩, by omega, ⟨rfl, rfl, rfl, tI⟩, rfl⟩
 · have hno : ¬ findI (stranger (ownAL l)) ns ≥ 0 := by rw [findI_no fun j hj => hall j (by omega)]; decide
   have hown : ∀ j, j < ns.length → 0 ≤ ownX l (ns.getD j default) := fun j hj => by
    have h1 := hall j (by omega)
    rw [stranger_own hn] at h1
    have := of_decide_eq_false h1
    omega
   clear hall
   repeat' (first | refine aoQ rfl rfl rfl (fun hg => by first | exact std0 | exact std1) (by exact rfl) ?_ | refine sqW ?_ | refine rgK (fun K' hK => ?_) | (refine aoN (hK _ _ ?_); clear hK K') | refine cdN rfl tI (fun hc => ?_) (fun hc => ?_) | refine blK ?_ | refine exW ?_ | refine skW ?_)
   all_goals (first | (exfalso; omega) | skip)
   refine lpW (ι := Nat) (fun k => [(0, .sl 13 (l.map encP) .no), (1, .sl 12 (ns.map encN) .no), (6, .int k)]) (fun _ => []) (fun k => k ≤ ns.length ∧ ∀ j, j < k → farN (ownAL l) (ns.getD j default) = false) (fun k => ns.length - k) 0 ⟨nZl _, fun j h => absurd h (by omega)⟩ ⟨rfl, rfl, rfl, tI⟩ rfl ?_
   rintro k2 ⟨hk2, hall⟩
   by_cases hlt : k2 < ns.length
   · have ho := own_spec l (ns.getD k2 default) hl
     have h1 := hown k2 hlt
     have h2 := ownX_lt l (ns.getD k2 default)
     have h3 := partsOk_all hp (l.getD (ownX l (ns.getD k2 default)).toNat default) (by rw [getD_lt (by omega)]; exact lGm (by omega))
     obtain ⟨h4, h5⟩ := partOk_pitch h3
     have hr := range_spec (l.getD (ownX l (ns.getD k2 default)).toNat default) (ns.getD k2 default).pitch h4 h5 (hq _ (by rw [getD_lt hlt]; exact lGm hlt))
     have hs := farN_own hn (n := ns.getD k2 default) (by omega)
     repeat' (first | refine aoQ rfl rfl rfl (fun hg => by first | exact std0 | exact std1) (by exact rfl) ?_ | refine sqW ?_ | refine rgK (fun K' hK => ?_) | (refine aoN (hK _ _ ?_); clear hK K') | refine cdN rfl tI (fun hc => ?_) (fun hc => ?_) | refine blK ?_ | refine exW ?_ | refine skW ?_ | refine rtW ?_ | refine dK2 (by decide +kernel) (by kernel_rfl) (by decide +kernel) rfl (fun K' hK => ?_) | (refine aqN (hK _ ?_); clear hK K') | refine aqQ rfl rfl (fun hg => by first | exact std0 | exact pcW (ho) rfl rfl nd rfl nds | exact pcW (hr) rfl rfl nd rfl nds | exact std1) (by exact rfl) ?_)
     all_goals (first | (exfalso; omega) | skip)
     · refine ⟨.inr rfl, Ent.int (Eq.symm ?_)⟩
       have hf : farN (ownAL l) (ns.getD k2 default) = true := hs.trans hc
       unfold wrongR
       rw [if_neg hno, findI_at hlt hf hall, if_pos (Int.natCast_nonneg k2)]
     · have hf : farN (ownAL l) (ns.getD k2 default) = false := hs.trans hc
       exact ⟨k2 + 1, ⟨by omega, fun j hj => lt_succ_cases hall hf hj⟩, by omega, ⟨rfl, rfl, rfl, tI⟩, rfl⟩
   · repeat' (first | refine aoQ rfl rfl rfl (fun hg => by first | exact std0 | exact std1) (by exact rfl) ?_ | refine sqW ?_ | refine rgK (fun K' hK => ?_) | (refine aoN (hK _ _ ?_); clear hK K') | refine cdN rfl tI (fun hc => ?_) (fun hc => ?_) | refine blK ?_ | refine exW ?_ | refine skW ?_ | refine rtW ?_ | refine dK2 (by decide +kernel) (by kernel_rfl) (by decide +kernel) rfl (fun K' hK => ?_) | refine aqQ rfl rfl (fun hg => by first | exact std0 | exact std1) (by exact rfl) ?_)
     all_goals (first | (exfalso; omega) | skip)
     refine ⟨.inr rfl, Ent.int (Eq.symm ?_)⟩
     have hno2 : ¬ findI (farN (ownAL l)) ns ≥ 0 := by rw [findI_no fun j hj => hall j (by omega)]; decide
     unfold wrongR
     rw [if_neg hno, if_neg hno2]
theorem ex4 {σ : Store} (h : σ.length = 4) : σ = [σ.getD 0 .dead, σ.getD 1 .dead, σ.getD 2 .dead, σ.getD 3 .dead] := by
 match σ, h with
 | [a, b, c, d], _ => rfl
end Go.Proofs.YtdglbdfdkabjfaaGreatDoor
namespace Go.Ab
theorem Ent.agg {us vs : List AV} (hl : us.length = vs.length) (h : ∀ (i : Nat) (u v : AV), us[i]? = some u → vs[i]? = some v → Ent u v) : Ent (.agg us) (.agg vs) := fun M x hx => by
 cases hx with
 | agg _ xs h1 h2 =>
   refine .agg vs xs (by rw [h1, hl]) fun i c hi => ?_
   have hlt : i < us.length := by
    rw [hl]
    rcases nLg i vs.length with h | h
    · exact h
    · simp [zA4 h] at hi
   exact h i us[i] c (zA1 hlt) hi M _ (h2 i _ (zA1 hlt))
end Go.Ab
namespace Go.Proofs.YtdglbdfdkabjfaaGreatDoor
open Go.Ab
attribute [local irreducible] AWP AOps EStep AQ PStep PRun PCall TCall VCall
theorem pure_prims {es : List (List AV)} (h : ∀ e ∈ es, e.all pureC = true) : ∀ e ∈ es, ∀ a ∈ e, ∀ M B x, VRel M B a x → VRel M [] a x := fun e he a ha _ _ _ hx => pureC_rel (zA6.1 (h e he) a ha) hx
end Go.Proofs.YtdglbdfdkabjfaaGreatDoor
