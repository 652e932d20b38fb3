/- Contracts by content: notes: isNote, indexes, formed, Valid; cmp.Or.  Contracts by content: the reference of pitches, keys and bars.  Contracts by content: the reference's Bars, Bar, Note, Valid of notes. No statement is proved here. -/
import Derived.Test.YtekfpcgagoidcaaGreatDoorU7
set_option linter.unusedVariables false
set_option linter.unusedSimpArgs false
namespace Go.Proofs.YtekfpcgagoidcaaGreatDoor
open Go.Ab
attribute [local irreducible] AWP AOps EStep AQ PStep PRun PCall TCall VCall
theorem nwithin_spec (a b c : Int) : PCall Tryz.prog 166 [.int a, .int b, .int c] (.b (inB a b c)) := by
 refine PCall.body Tryz.func166 rfl rfl Tryz.ntmps166 rfl rfl ?_
 repeat' (first | refine aoQ rfl rfl rfl (fun hg => by exact std0) (by exact rfl) ?_ | refine sqW ?_ | refine rgK (fun K' hK => ?_) | (refine aoN (hK _ _ ?_); clear hK K') | refine rtW ?_)
 exact ⟨.inr rfl, Ent.b rfl⟩
theorem nisID_spec (a : Int) : PCall Tryz.prog 165 [.int a] (.b (inB a 1 1000000)) := by
 refine PCall.body Tryz.func165 rfl rfl Tryz.ntmps165 rfl rfl ?_
 repeat' (first | refine aoQ rfl rfl rfl (fun hg => by first | exact std0 | exact pcW (nwithin_spec _ _ _) rfl rfl nd rfl nds) (by exact rfl) ?_ | refine sqW ?_ | refine rgK (fun K' hK => ?_) | (refine aoN (hK _ _ ?_); clear hK K') | refine rtW ?_)
 exact ⟨.inr rfl, Ent.b rfl⟩
def noteP (p : Pitch) : Bool := pitchOk p && inB p.alter (-2) 2 && inB p.oct 0 9
theorem isNote_spec (p : Pitch) : PCall Tryz.prog 167 [.agg (encPi p)] (.b (noteP p)) := by
 refine PCall.body Tryz.func167 rfl rfl Tryz.ntmps167 rfl rfl ?_
 repeat' (first | refine aoQ rfl rfl rfl (fun hg => by first | exact std0 | exact pcW (pvalid_spec p) rfl rfl nd rfl nds | exact pcW (nwithin_spec _ _ _) rfl rfl nd rfl nds) (by exact rfl) ?_ | refine sqW ?_ | refine rgK (fun K' hK => ?_) | (refine aoN (hK _ _ ?_); clear hK K') | refine aoE (bxW rfl rfl rfl rfl rfl tI rfl rfl ?_) | refine rtW ?_)
 exact ⟨.inr rfl, Ent.b rfl⟩
def fits (b : Bar) (n : Note) : Bool := (ticksR n.start).2 && (ticksR n.len).2 && decide ((ticksR n.len).1 > 0) && decide ((ticksR n.start).1 + (ticksR n.len).1 ≤ (ticksR b.len).1)
def noteForm (n : Note) : Bool := inB n.id 1 1000000 && inB n.part 1 1000000 && inB n.voice 0 9 && inB n.ossia 0 20 && noteP n.pitch
def nformed (b : Bar) (n : Note) : Bool := fits b n && noteForm n
theorem ticksR_in (r : Rat) : 0 ≤ (ticksR r).1 ∧ (ticksR r).1 ≤ 1680000000000 := by
 unfold ticksR
 split
 · rename_i h
   have h1 := durOk_iff.1 h
   have h2 := ratOk_iff.1 h1.1
   have h3 := tdiv1680 h1.1
   have h4 := mul_in (x := r.n) (y := Int.tdiv 1680 r.d) (A := 1000000000) (B := 1680) (by omega) h3
   exact ⟨Int.mul_nonneg h1.2.1 h3.1, by show ticksV r ≤ _; unfold ticksV; omega⟩
 · exact ⟨by decide, by decide⟩
theorem nformed_spec (b : Bar) (n : Note) : PCall Tryz.prog 143 [.agg (encB b), .agg (encN n)] (.b (nformed b n)) := by
 have q1 := ticksR_in n.start
 have q2 := ticksR_in n.len
 refine PCall.body Tryz.func143 rfl rfl Tryz.ntmps143 rfl rfl ?_
 repeat' (first | refine aoQ rfl rfl rfl (fun hg => by first | exact std0 | exact pcW (ticks_spec n.start) rfl rfl nd rfl nds | exact pcW (ticks_spec n.len) rfl rfl nd rfl nds | exact pcW (ticks_spec b.len) rfl rfl nd rfl nds | exact pcW (nisID_spec _) rfl rfl nd rfl nds | exact pcW (nwithin_spec _ _ _) rfl rfl nd rfl nds | exact pcW (isNote_spec n.pitch) rfl rfl nd rfl nds) (by exact rfl) ?_ | refine sqW ?_ | refine rgK (fun K' hK => ?_) | (refine aoN (hK _ _ ?_); clear hK K') | refine aoE (bxW rfl rfl rfl rfl rfl tI rfl rfl ?_) | refine rtW ?_)
 refine ⟨.inr rfl, Ent.b ?_⟩
 unfold nformed fits noteForm
 simp only [Bool.and_assoc]
def idxAL (l : List Bar) : List (Int × Int) := (List.range l.length).foldl (fun al i => ins al (l.getD i default).id i) []
def idxALk (l : List Bar) (k : Nat) : List (Int × Int) := (List.range k).foldl (fun al i => ins al (l.getD i default).id i) []
theorem idxAL_succ (l : List Bar) (k : Nat) : idxALk l (k + 1) = ins (idxALk l k) (l.getD k default).id k := by
 unfold idxALk; rw [List.range_succ, zBy]; rfl
theorem indexes_spec (l : List Bar) (hl : l.length ≤ 9223372036854775807) : PCall Tryz.prog 142 [.sl 4 (l.map encB) .no] (.imap (encM ekI AV.int (idxAL l))) := by
 refine PCall.body Tryz.func142 rfl rfl Tryz.ntmps142 rfl rfl ?_
 repeat' (first | refine aoQ rfl rfl rfl (fun hg => by first | exact std0 | exact std1) (by exact rfl) ?_ | refine sqW ?_ | refine rgK (fun K' hK => ?_) | (refine aoN (hK _ _ ?_); clear hK K') | refine aoE (EStep.makeMapW rfl rfl rfl rfl ?_) | refine blK ?_)
 refine lpD (ι := Nat) (fun k => [(3, .map 0), (7, .sl 4 (l.map encB) .no), (8, .int l.length), (9, .int k)]) (fun k => [.map (encM ekI AV.int (idxALk l k))])
  (fun k => k ≤ l.length) (fun k => l.length - k) 1 (fun _ => rfl) 0 (nZl _) ⟨rfl, rfl, rfl, rfl, tI⟩ rfl (fun _ _ => rfl) (fun k _ => by simp [okObj, encM, okRef]) ?_
 intro k hk
 by_cases hlt : k < l.length
 · repeat' (first | refine aoQ rfl rfl rfl (fun hg => by first | exact std0 | exact std1) (by exact rfl) ?_ | refine sqW ?_ | refine rgK (fun K' hK => ?_) | (refine aoN (hK _ _ ?_); clear hK K') | refine aoE (stW tabOk rfl rfl rfl tI rfl rfl tI rfl rfl rfl rfl rfl rfl rfl ?_) | refine aoE (alW tabOk rfl rfl rfl rfl rfl rfl ?_) | refine aoE (EStep.mapUpd (ek := ekI) (ev := AV.int) (keyLaw_int (LOk.of (tabOk.get rfl))) (LOk.of (tabOk.get rfl)) rfl rfl rfl (Rd.w rfl tI) rfl (Rd.w rfl tI) rfl (Rd.w rfl tI) ?_) | refine cdN rfl tI (fun hc => ?_) (fun hc => ?_) | refine blK ?_ | refine exW ?_ | refine skW ?_ | refine rtW ?_)
   · refine ⟨k + 1, by omega, by omega, ⟨rfl, rfl, rfl, rfl, tI⟩, ?_⟩
     rw [idxAL_succ]; rfl
   · exfalso; omega
 · repeat' (first | refine aoQ rfl rfl rfl (fun hg => by first | exact std0 | exact std1) (by exact rfl) ?_ | refine sqW ?_ | refine rgK (fun K' hK => ?_) | (refine aoN (hK _ _ ?_); clear hK K') | refine aoE (stW tabOk rfl rfl rfl tI rfl rfl tI rfl rfl rfl rfl rfl rfl rfl ?_) | refine aoE (alW tabOk rfl rfl rfl rfl rfl rfl ?_) | refine cdN rfl tI (fun hc => ?_) (fun hc => ?_) | refine blK ?_ | refine exW ?_ | refine skW ?_)
   · exfalso; omega
   · refine AWP.freezeMap (ek := ekI) (ev := AV.int) (l := 0) rfl pureE_int ?_
     refine rtW ⟨.inr rfl, ?_⟩
     rw [show k = l.length by omega]
     exact fun _ _ h => h
def noteOk (bars : List Bar) (n : Note) : Bool := match lk (idxAL bars) n.bar with
 | some i => nformed (bars.getD i.toNat default) n
 | none => false
def notesOk (bars : List Bar) (l : List Note) : Bool := barsOk bars && decide ((l.length : Int) ≤ 20000) && l.all (noteOk bars) && decide ((l.map (·.id)).Nodup)
theorem idxAL_eq (l : List Bar) : idxAL l = idxALk l l.length := rfl
theorem lk_ins' {κ α : Type} [DecidableEq κ] (al : List (κ × α)) (k k' : κ) (v : α) : lk (ins al k v) k' = if k = k' then some v else lk al k' := by
 induction al with
 | nil => simp [ins, lk]
 | cons p r ih =>
   obtain ⟨k2, v2⟩ := p
   simp only [ins]
   by_cases h : k2 = k
   · subst h
     rw [if_pos rfl]
     by_cases h3 : k2 = k' <;> simp [lk, h3]
   · rw [if_neg h]
     by_cases h3 : k2 = k'
     · subst h3
       simp [lk, Ne.symm h]
     · simp [lk, h3, ih]
theorem lk_idx (l : List Bar) (id : Int) : ∀ k i, lk (idxALk l k) id = some i → ∃ j : Nat, i = j ∧ j < k ∧ (l.getD j default).id = id
 | 0, i, h => by simp [idxALk, lk] at h
 | k + 1, i, h => by
   rw [idxAL_succ, lk_ins'] at h
   split at h
   · rename_i e
     simp at h; subst h
     exact ⟨k, rfl, by omega, e⟩
   · obtain ⟨j, h1, h2, h3⟩ := lk_idx l id k i h
     exact ⟨j, h1, by omega, h3⟩
theorem notesOk_bad {bars : List Bar} {l : List Note} {k : Nat} (hk : k < l.length) (h : noteOk bars (l.getD k default) = false) : notesOk bars l = false := by
 unfold notesOk; rw [all_no hk h]; simp
theorem notesOk_dup {bars : List Bar} {l : List Note} {k : Nat} (hk : k < l.length) (h : (l.getD k default).id ∈ (l.take k).map (·.id)) : notesOk bars l = false := by
 unfold notesOk; rw [decide_eq_false (not_nodup (fun b : Note => b.id) l k hk h)]; simp
theorem gsome {s t : Bool} (h : ((!s || t) == false) = true) : s = true := by cases s <;> simp at h ⊢
theorem nvalid_spec (bars : List Bar) (l : List Note) (hb : bars.length ≤ 9223372036854775807) (hl : l.length ≤ 9223372036854775807) :
 PCall Tryz.prog 110 [.sl 4 (bars.map encB) .no, .sl 12 (l.map encN) .no] (.b (notesOk bars l)) := by
 have v := mvalid_spec bars hb
 refine PCall.body Tryz.func110 rfl rfl Tryz.ntmps110 rfl rfl ?_
 repeat' (first | refine aoQ rfl rfl rfl (fun hg => by first | exact std0 | exact pcW (v) rfl rfl nd rfl nds | exact pcW (indexes_spec bars hb) rfl rfl nd rfl nds | exact std1) (by exact rfl) ?_ | refine sqW ?_ | refine rgK (fun K' hK => ?_) | (refine aoN (hK _ _ ?_); clear hK K') | refine aoE (EStep.makeMapW rfl rfl rfl rfl ?_) | refine cdN rfl tI (fun hc => ?_) (fun hc => ?_) | refine blK ?_ | refine skW ?_ | refine rtW ?_)
 · refine ⟨.inr rfl, Ent.b (Eq.symm ?_)⟩
   unfold notesOk
   cases h : barsOk bars with
   | false => simp
   | true =>
     rw [h] at hc; simp at hc
     have : decide ((l.length : Int) ≤ 20000) = false := by simp; omega
     rw [this]; simp
 have h1 : barsOk bars = true ∧ (l.length : Int) ≤ 20000 := by
  simp only [zA5, zAe, dEf] at hc
  exact ⟨hc.1, by omega⟩
 clear hc
 refine lpD (ι := Nat) (fun k => [(0, .sl 4 (bars.map encB) .no), (5, .imap (encM ekI AV.int (idxAL bars))), (6, .map 0), (22, .sl 12 (l.map encN) .no), (23, .int l.length), (24, .int k)]) (fun k => [.map (encM ekI AV.b (seenAL (·.id) (l.take k)))])
  (fun k => k ≤ l.length ∧ (∀ j, j < k → noteOk bars (l.getD j default) = true) ∧ ((l.take k).map (·.id)).Nodup) (fun k => l.length - k) 1 (fun _ => rfl) 0 ⟨nZl _, fun j h => absurd h (by omega), by simp⟩ ⟨rfl, rfl, rfl, rfl, rfl, rfl, tI⟩ rfl (fun _ _ => rfl) (fun k _ => by simp [okObj, encM, okRef]) ?_
 rintro k ⟨hk, hall, hnd⟩
 by_cases hlt : k < l.length
 · have hs := lk_seen (fun b : Note => b.id) (l.take k) (l.getD k default).id
   have hix := lk_idx bars (l.getD k default).bar bars.length
   rw [← idxAL_eq] at hix
   have hix2 : ∀ i, lk (idxAL bars) (l.getD k default).bar = some i → 0 ≤ i ∧ i < bars.length := fun i hi => by
    obtain ⟨j, h1, h2, _⟩ := hix i hi; omega
   have hidx : (lk (idxAL bars) (l.getD k default).bar).isSome = true → 0 ≤ (lk (idxAL bars) (l.getD k default).bar).getD 0 ∧ (lk (idxAL bars) (l.getD k default).bar).getD 0 < bars.length := fun h => by
    cases hL : lk (idxAL bars) (l.getD k default).bar with
    | none => rw [hL] at h; cases h
    | some i => exact hix2 i hL
   have hno : noteOk bars (l.getD k default) = ((lk (idxAL bars) (l.getD k default).bar).isSome && nformed (bars.getD ((lk (idxAL bars) (l.getD k default).bar).getD 0).toNat default) (l.getD k default)) := by
    unfold noteOk
    cases lk (idxAL bars) (l.getD k default).bar <;> simp
   repeat' (first | refine aoQ rfl rfl rfl (fun hg => by first | exact std0 | exact PRun.lookup (ek := ekI) (ev := AV.int) (zv := 0) (keyLaw_int (LOk.of (tabOk.get rfl))) (LOk.of (tabOk.get rfl)) (LOk.of (tabOk.get rfl)) rfl rfl (Rd.w rfl nd) (Or.inl rfl) (Rd.w rfl nd) rfl | exact std1) (by exact rfl) ?_ | refine sqW ?_ | refine rgK (fun K' hK => ?_) | (refine aoN (hK _ _ ?_); clear hK K') | refine aoE (stW tabOk rfl rfl rfl tI rfl rfl tI rfl rfl rfl rfl rfl rfl rfl ?_) | refine aoE (alW tabOk rfl rfl rfl rfl rfl rfl ?_) | refine aoE (EStep.mapUpd (ek := ekI) (ev := AV.b) (v := true) (keyLaw_int (LOk.of (tabOk.get rfl))) (LOk.of (tabOk.get rfl)) rfl rfl rfl (Rd.w rfl tI) rfl (Rd.w rfl tI) rfl (Rd.w rfl tI) ?_) | refine cdN rfl tI (fun hc => ?_) (fun hc => ?_) | refine blK ?_ | refine exW ?_ | refine skW ?_ | refine rtW ?_ | refine dK2 (by decide +kernel) (by kernel_rfl) (by decide +kernel) rfl (fun K' hK => ?_) | (refine aqN (hK _ ?_); clear hK K') | refine aqQ rfl rfl (fun hg => by first | exact std0 | exact PRun.lookup (ek := ekI) (ev := AV.b) (zv := false) (keyLaw_int (LOk.of (tabOk.get rfl))) (LOk.of (tabOk.get rfl)) (LOk.of (tabOk.get rfl)) rfl rfl (Rd.w rfl nd) (Or.inr ⟨_, rfl, rfl⟩) (Rd.w rfl nd) rfl | exact piW tabOk rfl rfl nd rfl nd rfl rfl (hidx (gsome hg)) | exact pcW (nformed_spec (bars.getD ((lk (idxAL bars) (l.getD k default).bar).getD 0).toNat default) (l.getD k default)) rfl rfl nd rfl nds) (by exact rfl) ?_)
   · refine ⟨.inr rfl, Ent.b (Eq.symm ?_)⟩
     rw [zA2] at hc
     rw [hs] at hc
     by_cases hm : (l.getD k default).id ∈ (l.take k).map (fun b => b.id)
     · exact notesOk_dup hlt hm
     · refine notesOk_bad hlt ?_
       rw [decide_eq_false hm, Bool.or_false] at hc
       rw [hno]
       revert hc
       cases (lk (idxAL bars) (l.getD k default).bar).isSome <;> simp
   · rw [zA2] at hc
     rw [hs] at hc
     simp only [zA5, zAe] at hc
     have hm : (l.getD k default).id ∉ (l.take k).map (fun b => b.id) := of_decide_eq_false hc.1.2
     refine ⟨k + 1, ⟨by omega, fun j hj => lt_succ_cases hall (by rw [hno, hc.1.1, hc.2]; rfl) hj, (nodup_succ _ l k hlt).2 ⟨hnd, hm⟩⟩, by omega, ⟨rfl, rfl, rfl, rfl, rfl, rfl, tI⟩, ?_⟩
     rw [← seen_succ _ l k hlt hm]; rfl
   · exfalso; omega
 · repeat' (first | refine aoQ rfl rfl rfl (fun hg => by first | exact std0 | exact std1) (by exact rfl) ?_ | refine sqW ?_ | refine rgK (fun K' hK => ?_) | (refine aoN (hK _ _ ?_); clear hK K') | refine aoE (stW tabOk rfl rfl rfl tI rfl rfl tI rfl rfl rfl rfl rfl rfl rfl ?_) | refine aoE (alW tabOk rfl rfl rfl rfl rfl rfl ?_) | refine cdN rfl tI (fun hc => ?_) (fun hc => ?_) | refine blK ?_ | refine exW ?_ | refine skW ?_ | refine rtW ?_)
   · exfalso; omega
   · refine ⟨.inr rfl, Ent.b ?_⟩
     have htk : l.take k = l := zAt (by omega)
     rw [htk] at hnd
     unfold notesOk
     rw [all_yes fun j hj => hall j (by omega), decide_eq_true hnd, h1.1, decide_eq_true h1.2]; rfl
theorem r2in_spec (a b c : Int) : PCall Tryz.prog 183 [.int a, .int b, .int c] (.b (inB a b c)) := by
 refine PCall.body Tryz.func183 rfl rfl Tryz.ntmps183 rfl rfl ?_
 repeat' (first | refine aoQ rfl rfl rfl (fun hg => by exact std0) (by exact rfl) ?_ | refine sqW ?_ | refine rgK (fun K' hK => ?_) | (refine aoN (hK _ _ ?_); clear hK K') | refine rtW ?_)
 exact ⟨.inr rfl, Ent.b rfl⟩
theorem r3in_spec (a b c : Int) : PCall Tryz.prog 199 [.int a, .int b, .int c] (.b (inB a b c)) := by
 refine PCall.body Tryz.func199 rfl rfl Tryz.ntmps199 rfl rfl ?_
 repeat' (first | refine aoQ rfl rfl rfl (fun hg => by exact std0) (by exact rfl) ?_ | refine sqW ?_ | refine rgK (fun K' hK => ?_) | (refine aoN (hK _ _ ?_); clear hK K') | refine rtW ?_)
 exact ⟨.inr rfl, Ent.b rfl⟩
theorem r7in_spec (a b c : Int) : PCall Tryz.prog 158 [.int a, .int b, .int c] (.b (inB a b c)) := by
 refine PCall.body Tryz.func158 rfl rfl Tryz.ntmps158 rfl rfl ?_
 repeat' (first | refine aoQ rfl rfl rfl (fun hg => by exact std0) (by exact rfl) ?_ | refine sqW ?_ | refine rgK (fun K' hK => ?_) | (refine aoN (hK _ _ ?_); clear hK K') | refine rtW ?_)
 exact ⟨.inr rfl, Ent.b rfl⟩
theorem r2valid_spec (p : Pitch) : PCall Tryz.prog 154 [.agg (encPi p)] (.b (pitchOk p)) := by
 refine PCall.body Tryz.func154 rfl rfl Tryz.ntmps154 rfl rfl ?_
 repeat' (first | refine aoQ rfl rfl rfl (fun hg => by first | exact std0 | exact pcW (r2in_spec _ _ _) rfl rfl nd rfl nds) (by exact rfl) ?_ | refine sqW ?_ | refine rgK (fun K' hK => ?_) | (refine aoN (hK _ _ ?_); clear hK K') | refine aoE (bxW rfl rfl rfl rfl rfl tI rfl rfl ?_) | refine rtW ?_)
 exact ⟨.inr rfl, Ent.b rfl⟩
theorem r2isNote_spec (p : Pitch) : PCall Tryz.prog 157 [.agg (encPi p)] (.b (noteP p)) := by
 refine PCall.body Tryz.func157 rfl rfl Tryz.ntmps157 rfl rfl ?_
 repeat' (first | refine aoQ rfl rfl rfl (fun hg => by first | exact std0 | exact pcW (r2valid_spec p) rfl rfl nd rfl nds | exact pcW (r2in_spec _ _ _) rfl rfl nd rfl nds) (by exact rfl) ?_ | refine sqW ?_ | refine rgK (fun K' hK => ?_) | (refine aoN (hK _ _ ?_); clear hK K') | refine aoE (bxW rfl rfl rfl rfl rfl tI rfl rfl ?_) | refine rtW ?_)
 exact ⟨.inr rfl, Ent.b rfl⟩
def natR (s : Int) : Int := if s > 2 then 2 * s - 1 else 2 * s
theorem natural_spec (s : Int) (h : -1000 ≤ s ∧ s ≤ 1000) : PCall Tryz.prog 184 [.int s] (.int (natR s)) := by
 refine PCall.body Tryz.func184 rfl rfl Tryz.ntmps184 rfl rfl ?_
 repeat' (first | refine aoQ rfl rfl rfl (fun hg => by exact std0) (by exact rfl) ?_ | refine sqW ?_ | refine rgK (fun K' hK => ?_) | (refine aoN (hK _ _ ?_); clear hK K') | refine cdN rfl tI (fun hc => ?_) (fun hc => ?_) | refine skW ?_ | refine rtW ?_)
 · exact ⟨.inr rfl, Ent.int (by unfold natR; rw [if_pos hc])⟩
 · exact ⟨.inr rfl, Ent.int (by unfold natR; rw [if_neg (by omega)])⟩
def soundR (p : Pitch) : Int := 12 * p.oct + natR p.step + p.alter
def pitchIn (p : Pitch) : Prop := (0 ≤ p.step ∧ p.step ≤ 6) ∧ (-4 ≤ p.alter ∧ p.alter ≤ 4) ∧ -1000 ≤ p.oct ∧ p.oct ≤ 1000
theorem natR_in {s : Int} (h : -1000 ≤ s ∧ s ≤ 1000) : -2001 ≤ natR s ∧ natR s ≤ 2001 := by unfold natR; split <;> omega
theorem sound_spec (p : Pitch) (h : pitchIn p) : PCall Tryz.prog 155 [.agg (encPi p)] (.int (soundR p)) := by
 obtain ⟨h1, h2, h3⟩ := h
 have hn := natR_in (s := p.step) (by omega)
 have hs := natural_spec p.step (by omega)
 refine PCall.body Tryz.func155 rfl rfl Tryz.ntmps155 rfl rfl ?_
 repeat' (first | refine aoQ rfl rfl rfl (fun hg => by exact std0) (by exact rfl) ?_ | refine sqW ?_ | refine rgK (fun K' hK => ?_) | (refine aoN (hK _ _ ?_); clear hK K') | refine aoE (bxW rfl rfl rfl rfl rfl tI rfl rfl ?_) | refine rtW ?_ | refine dK2 (by decide +kernel) (by kernel_rfl) (by decide +kernel) rfl (fun K' hK => ?_) | (refine aqN (hK _ ?_); clear hK K') | refine aqQ rfl rfl (fun hg => by first | exact std0 | exact pcW (hs) rfl rfl nd rfl nds) (by exact rfl) ?_)
 exact ⟨.inr rfl, Ent.int rfl⟩
theorem soundR_num {p : Pitch} (h : pitchOk p = true) : soundR p = (numR2 p).1 := by
 have h1 := pitchOk_iff.1 h
 unfold numR2
 rw [if_pos h]
 show soundR p = pitchNum p
 unfold soundR pitchNum
 have : natR p.step = nat7.getD p.step.toNat 0 := by
  obtain ⟨k, hk⟩ : ∃ k : Nat, p.step = k := ⟨p.step.toNat, by omega⟩
  rw [hk]
  have : k ≤ 6 := by omega
  match k, this with
  | 0, _ | 1, _ | 2, _ | 3, _ | 4, _ | 5, _ | 6, _ => decide
 omega
theorem pitchIn_ok {p : Pitch} (h : pitchOk p = true) : pitchIn p := by
 have h1 := pitchOk_iff.1 h
 unfold pitchIn; omega
theorem r3interval_spec (i : Interval) : PCall Tryz.prog 194 [.agg (encI i)] (.b (intervalOk i)) := by
 refine PCall.body Tryz.func194 rfl rfl Tryz.ntmps194 rfl rfl ?_
 repeat' (first | refine aoQ rfl rfl rfl (fun hg => by first | exact std0 | exact pcW (r3in_spec _ _ _) rfl rfl nd rfl nds) (by exact rfl) ?_ | refine sqW ?_ | refine rgK (fun K' hK => ?_) | (refine aoN (hK _ _ ?_); clear hK K') | refine aoE (bxW rfl rfl rfl rfl rfl tI rfl rfl ?_) | refine rtW ?_)
 exact ⟨.inr rfl, Ent.b rfl⟩
theorem r3fifths_spec (i : Interval) : PCall Tryz.prog 182 [.agg (encI i)] (.tup [.int (fifthsR i).1, .int (fifthsR i).2]) := by
 have v := r3interval_spec i
 refine PCall.body Tryz.func182 rfl rfl Tryz.ntmps182 rfl rfl ?_
 by_cases h : intervalOk i = true
 · have h1 := intervalOk_iff.1 h
   repeat' (first | refine aoQ rfl rfl rfl (fun hg => by first | exact std0 | exact pcW (v) rfl rfl nd rfl nds) (by exact rfl) ?_ | refine sqW ?_ | refine rgK (fun K' hK => ?_) | (refine aoN (hK _ _ ?_); clear hK K') | refine aoE (bxW rfl rfl rfl rfl rfl tI rfl rfl ?_) | refine cdN rfl tI (fun hc => ?_) (fun hc => ?_) | refine skW ?_ | refine rtW ?_)
   · exfalso; simp [h] at hc
   · refine ⟨.inr rfl, Ent.of ?_⟩
     rw [show fifthsR i = (7 * i.semi - 12 * i.steps, 0) from by unfold fifthsR; rw [if_pos h]]; rfl
 · repeat' (first | refine aoQ rfl rfl rfl (fun hg => by first | exact std0 | exact pcW (v) rfl rfl nd rfl nds) (by exact rfl) ?_ | refine sqW ?_ | refine rgK (fun K' hK => ?_) | (refine aoN (hK _ _ ?_); clear hK K') | refine aoE (bxW rfl rfl rfl rfl rfl tI rfl rfl ?_) | refine cdN rfl tI (fun hc => ?_) (fun hc => ?_) | refine skW ?_ | refine rtW ?_)
   · refine ⟨.inr rfl, Ent.of ?_⟩
     rw [show fifthsR i = (0, 1) from by unfold fifthsR; rw [if_neg h]]; rfl
   all_goals (exfalso; simp [h] at hc)
theorem gcd6_nat (a b : Nat) (ha : a ≤ 1000000000) (hb : b ≤ 1000000000) : PCall Tryz.prog 152 [.int a, .int b] (.int (Nat.gcd a b)) := by
 refine PCall.body Tryz.func152 rfl rfl Tryz.ntmps152 rfl rfl ?_
 repeat' (first | refine aoQ rfl rfl rfl (fun hg => by exact std0) (by exact rfl) ?_ | refine sqW ?_ | refine rgK (fun K' hK => ?_) | (refine aoN (hK _ _ ?_); clear hK K') | refine blK ?_)
 refine lpW (ι := Nat × Nat) (fun i => [(0, .int i.1), (1, .int i.2)]) (fun _ => []) (fun i => Nat.gcd i.1 i.2 = Nat.gcd a b ∧ i.1 ≤ 1000000000 ∧ i.2 ≤ 1000000000) (fun i => i.2) (a, b) ⟨rfl, ha, hb⟩ ⟨rfl, rfl, tI⟩ rfl ?_
 rintro ⟨x, y⟩ ⟨g1, g2, g3⟩
 dsimp only at g1 g2 g3 ⊢
 by_cases h0 : y = 0
 · subst h0
   repeat' (first | refine aoQ rfl rfl rfl (fun hg => by exact std0) (by exact rfl) ?_ | refine sqW ?_ | refine rgK (fun K' hK => ?_) | (refine aoN (hK _ _ ?_); clear hK K') | refine cdN rfl tI (fun hc => ?_) (fun hc => ?_) | refine blK ?_ | refine exW ?_ | refine skW ?_ | refine rtW ?_)
   · exfalso; simp at hc
   · exact ⟨.inr rfl, Ent.int (by rw [← g1]; simp)⟩
 · have hm : x % y < y := Nat.mod_lt _ (by omega)
   repeat' (first | refine aoQ rfl rfl rfl (fun hg => by exact std0) (by exact rfl) ?_ | refine sqW ?_ | refine rgK (fun K' hK => ?_) | (refine aoN (hK _ _ ?_); clear hK K') | refine cdN rfl tI (fun hc => ?_) (fun hc => ?_) | refine blK ?_ | refine exW ?_ | refine skW ?_ | refine rtW ?_)
   · refine ⟨(y, x % y), ⟨?_, g3, by omega⟩, hm, ⟨rfl, rfl, tI⟩, rfl⟩
     rw [← g1, Nat.gcd_comm x y, Nat.gcd_rec y x, Nat.gcd_comm]
   · exfalso; simp at hc; omega
theorem gcd6_spec (a b : Int) (h : (0 ≤ a ∧ a ≤ 1000000000) ∧ 0 ≤ b ∧ b ≤ 1000000000) : PCall Tryz.prog 152 [.int a, .int b] (.int (Int.gcd a b)) := by
 have h1 := gcd6_nat a.toNat b.toNat (by omega) (by omega)
 have ea : ((a.toNat : Nat) : Int) = a := by omega
 have eb : ((b.toNat : Nat) : Int) = b := by omega
 rw [ea, eb] at h1
 have : Nat.gcd a.toNat b.toNat = Int.gcd a b := by
  conv => rhs; rw [← ea, ← eb, Int.gcd_natCast_natCast]
 rw [this] at h1; exact h1
def ticksX (r : Rat) : Int := if durOk r then ticksV r else -1
theorem div1680 {d : Int} (h1 : 1 ≤ d) (h : Int.tmod 1680 d = 0) : d ≤ 1680 := Int.le_of_dvd (by decide) (Int.dvd_of_tmod_eq_zero h)
def tickBad (r : Rat) : Bool := ((decide (r.d < 1) || Int.tmod 1680 r.d != 0) || decide (r.n < 0)) || decide (r.n > 1000000000)
theorem tickGood {r : Rat} (h : (tickBad r == false) = true) : (0 ≤ r.n ∧ r.n ≤ 1000000000) ∧ 0 ≤ r.d ∧ r.d ≤ 1000000000 := by
 simp [tickBad] at h
 have := div1680 (d := r.d) (by omega) h.1.1.2
 omega
theorem durOk_tick (r : Rat) : durOk r = !(tickBad r || ((Int.gcd r.n r.d : Nat) : Int) != 1) := by
 rw [zB4, durOk_iff, ratOk_iff]
 simp only [tickBad, zAh, zA5, dEf, bne_eq_false_iff_eq]
 constructor
 · rintro ⟨⟨h1, h2, h3, h4, h5⟩, h6, h7⟩
   exact ⟨⟨⟨⟨by omega, h7⟩, by omega⟩, by omega⟩, by omega⟩
 · rintro ⟨⟨⟨⟨h1, h7⟩, h2⟩, h3⟩, h4⟩
   have := div1680 (d := r.d) (by omega) h7
   exact ⟨⟨by omega, by omega, by omega, by omega, by omega⟩, by omega, h7⟩
theorem ticks6_spec (r : Rat) : PCall Tryz.prog 115 [.agg (encR r)] (.int (ticksX r)) := by
 by_cases h : durOk r = true
 · have h1 := durOk_iff.1 h
   have h2 := ratOk_iff.1 h1.1
   have h3 := tdiv1680 h1.1
   have h4 := mul_in (x := r.n) (y := Int.tdiv 1680 r.d) (A := 1000000000) (B := 1680) (by omega) h3
   refine PCall.body Tryz.func115 rfl rfl Tryz.ntmps115 rfl rfl ?_
   repeat' (first | refine aoQ rfl rfl rfl (fun hg => by first | exact std0 | exact pcW (gcd6_spec r.n r.d ⟨by omega, by omega⟩) rfl rfl nd rfl nds) (by exact rfl) ?_ | refine sqW ?_ | refine rgK (fun K' hK => ?_) | (refine aoN (hK _ _ ?_); clear hK K') | refine aoE (bxW rfl rfl rfl rfl rfl tI rfl rfl ?_) | refine cdN rfl tI (fun hc => ?_) (fun hc => ?_) | refine skW ?_ | refine rtW ?_ | refine dK2 (by decide +kernel) (by kernel_rfl) (by decide +kernel) rfl (fun K' hK => ?_) | (refine aqN (hK _ ?_); clear hK K') | refine aqQ rfl rfl (fun hg => by exact std0) (by exact rfl) ?_)
   · exfalso
     have e := durOk_tick r
     rw [h] at e
     have : (tickBad r || ((Int.gcd r.n r.d : Nat) : Int) != 1) = true := hc
     rw [this] at e; simp at e
   · exact ⟨.inr rfl, Ent.int (by unfold ticksX; rw [if_pos h]; rfl)⟩
 · by_cases hd : r.d < 1
   · have hd' : ∀ {b : Bool}, ((decide (r.d < 1) || b) == false) = true → False := fun h => by simp [hd] at h
     refine PCall.body Tryz.func115 rfl rfl Tryz.ntmps115 rfl rfl ?_
     repeat' (first | refine aoQ rfl rfl rfl (fun hg => by first | exact std0 | exact pcW (gcd6_spec r.n r.d (tickGood hg)) rfl rfl nd rfl nds) (by exact rfl) ?_ | refine sqW ?_ | refine rgK (fun K' hK => ?_) | (refine aoN (hK _ _ ?_); clear hK K') | refine aoE (bxW rfl rfl rfl rfl rfl tI rfl rfl ?_) | refine cdN rfl tI (fun hc => ?_) (fun hc => ?_) | refine skW ?_ | refine rtW ?_)
     · exact ⟨.inr rfl, Ent.int (by unfold ticksX; rw [if_neg h])⟩
     · exfalso
       simp [hd] at hc
   · refine PCall.body Tryz.func115 rfl rfl Tryz.ntmps115 rfl rfl ?_
     repeat' (first | refine aoQ rfl rfl rfl (fun hg => by first | exact std0 | exact pcW (gcd6_spec r.n r.d (tickGood hg)) rfl rfl nd rfl nds) (by exact rfl) ?_ | refine sqW ?_ | refine rgK (fun K' hK => ?_) | (refine aoN (hK _ _ ?_); clear hK K') | refine aoE (bxW rfl rfl rfl rfl rfl tI rfl rfl ?_) | refine cdN rfl tI (fun hc => ?_) (fun hc => ?_) | refine skW ?_ | refine rtW ?_)
     · exact ⟨.inr rfl, Ent.int (by unfold ticksX; rw [if_neg h])⟩
     · exfalso
       have e := durOk_tick r
       have : (tickBad r || ((Int.gcd r.n r.d : Nat) : Int) != 1) = false := hc
       rw [this] at e
       exact h (by simpa using e)
theorem quot1680 {d : Int} (h1 : 1 ≤ d) (h : Int.tmod 1680 d = 0) : d * Int.tdiv 1680 d = 1680 ∧ 1 ≤ Int.tdiv 1680 d := by
 have e := Int.mul_tdiv_add_tmod 1680 d
 rw [h, Int.add_zero] at e
 refine ⟨e, ?_⟩
 rcases (show 0 < Int.tdiv 1680 d ∨ Int.tdiv 1680 d ≤ 0 by omega) with h2 | h2
 · omega
 · exfalso
   have := zCy (a := Int.tdiv 1680 d) (b := 0) (c := d) h2 (by omega)
   omega
theorem barT (b : Bar) : barOk b = !(((((decide (b.id < 1) || decide (b.id > 1000000)) || decide (ticksX b.len < 1)) || decide (ticksX b.len > 40320)) || decide (b.key < -7)) || decide (b.key > 7)) := by
 have key : barC b = (decide (ticksX b.len < 1) || decide (ticksX b.len > 40320)) := by
  unfold barC ticksX
  by_cases h : durOk b.len = true
  · have h1 := durOk_iff.1 h
    have h2 := ratOk_iff.1 h1.1
    obtain ⟨q1, q2⟩ := quot1680 h2.1 h1.2.2
    rw [if_pos h, h]
    have hr : ratCmp ⟨24, 1⟩ b.len = if 24 * b.len.d < b.len.n * 1 then (-1, 0) else if 24 * b.len.d > b.len.n * 1 then (1, 0) else (0, 0) := by
     unfold ratCmp; rw [if_pos (by rw [h1.1]; decide)]
    rw [hr]
    have e1 : (b.len.n == 0) = decide (ticksV b.len < 1) := by
     rw [zB4]; simp only [beq_iff_eq, dEt]
     unfold ticksV
     constructor
     · intro h; rw [h]; omega
     · intro h3
       rcases (show 0 < b.len.n ∨ b.len.n ≤ 0 by omega) with h4 | h4
       · have := zCy (a := 1) (b := Int.tdiv 1680 b.len.d) (c := b.len.n) q2 (by omega)
         omega
       · omega
    have e2 : decide ((if 24 * b.len.d < b.len.n * 1 then ((-1 : Int), (0 : Int)) else if 24 * b.len.d > b.len.n * 1 then (1, 0) else (0, 0)).1 < 0) = decide (ticksV b.len > 40320) := by
     rw [zB4]; simp only [dEt]
     have e3 : 24 * b.len.d * Int.tdiv 1680 b.len.d = 40320 := by rw [Int.mul_assoc, q1]; decide
     unfold ticksV
     split
     · rename_i h3
       have := Int.mul_lt_mul_of_pos_right (a := 24 * b.len.d) (b := b.len.n) (c := Int.tdiv 1680 b.len.d) (by omega) (by omega)
       constructor
       · intro _; omega
       · intro _; decide
     · rename_i h3
       have := zCt (a := b.len.n) (b := 24 * b.len.d) (c := Int.tdiv 1680 b.len.d) (by omega) (by omega)
       constructor
       · intro h; split at h <;> simp at h
       · intro h; omega
    rw [e1, e2]; rfl
  · have : durOk b.len = false := by simpa using h
    rw [this]; simp
 unfold barOk
 rw [key]
 unfold barA
 generalize decide (b.id < 1) = a1
 generalize decide (b.id > 1000000) = a2
 generalize decide (ticksX b.len < 1) = a3
 generalize decide (ticksX b.len > 40320) = a4
 generalize decide (b.key < -7) = a5
 generalize decide (b.key > 7) = a6
 revert a1 a2 a3 a4 a5 a6; decide
theorem mem_take {α : Type} [Inhabited α] (f : α → Int) {l : List α} {k : Nat} (hk : k ≤ l.length) {x : Int} : x ∈ (l.take k).map f ↔ ∃ j, j < k ∧ f (l.getD j default) = x := by
 rw [lMm]
 constructor
 · rintro ⟨a, ha, rfl⟩
   obtain ⟨j, hj, rfl⟩ := zB1.1 ha
   simp only [zAl] at hj
   refine ⟨j, by omega, ?_⟩
   rw [getD_lt (show j < l.length by omega), List.getElem_take]
 · rintro ⟨j, hj, rfl⟩
   refine ⟨l.getD j default, ?_, rfl⟩
   rw [getD_lt (show j < l.length by omega), zB1]
   exact ⟨j, by simp; omega, by rw [List.getElem_take]⟩
theorem r6valid_spec (l : List Bar) (hl : l.length ≤ 9223372036854775807) : PCall Tryz.prog 86 [.sl 4 (l.map encB) .no] (.b (barsOk l)) := by
 refine PCall.body Tryz.func86 rfl rfl Tryz.ntmps86 rfl rfl ?_
 repeat' (first | refine aoQ rfl rfl rfl (fun hg => by first | exact std0 | exact std1) (by exact rfl) ?_ | refine sqW ?_ | refine rgK (fun K' hK => ?_) | (refine aoN (hK _ _ ?_); clear hK K') | refine cdN rfl tI (fun hc => ?_) (fun hc => ?_) | refine blK ?_ | refine skW ?_ | refine rtW ?_)
 · refine ⟨.inr rfl, Ent.b (Eq.symm ?_)⟩
   unfold barsOk
   simp at hc
   by_cases h : 1 ≤ l.length
   · rw [decide_eq_false (show ¬ l.length ≤ 4000 by omega)]; simp
   · rw [decide_eq_false h]; simp
 have hn : 1 ≤ l.length ∧ l.length ≤ 4000 := by simp at hc; omega
 clear hc
 refine lpW (ι := Nat) (fun k => [(0, .sl 4 (l.map encB) .no), (3, .int k)]) (fun _ => []) (fun k => k ≤ l.length ∧ (∀ j, j < k → barOk (l.getD j default) = true) ∧ ((l.take k).map (·.id)).Nodup) (fun k => l.length - k) 0 ⟨nZl _, fun j h => absurd h (by omega), by simp⟩ ⟨rfl, rfl, tI⟩ rfl ?_
 rintro k ⟨hk, hall, hnd⟩
 by_cases hlt : k < l.length
 · have ht := ticks6_spec (l.getD k default).len
   have hb := barT (l.getD k default)
   repeat' (first | refine aoQ rfl rfl rfl (fun hg => by first | exact std0 | exact pcW (ht) rfl rfl nd rfl nds | exact std1) (by exact rfl) ?_ | refine sqW ?_ | refine rgK (fun K' hK => ?_) | (refine aoN (hK _ _ ?_); clear hK K') | refine cdN rfl tI (fun hc => ?_) (fun hc => ?_) | refine blK ?_ | refine exW ?_ | refine skW ?_ | refine rtW ?_)
   · refine ⟨.inr rfl, Ent.b (Eq.symm (barsOk_bad hlt ?_))⟩
     rw [zA2] at hc
     rw [hb, hc]; rfl
   · rw [zA2] at hc
     have hbo : barOk (l.getD k default) = true := by rw [hb, hc]; rfl
     clear hc hb ht
     refine lpW (ι := Nat) (fun j => [(0, .sl 4 (l.map encB) .no), (3, .int k), (5, .int j)]) (fun _ => []) (fun j => j ≤ k ∧ ∀ i, i < j → (l.getD i default).id ≠ (l.getD k default).id) (fun j => k - j) 0 ⟨nZl _, fun j h => absurd h (by omega)⟩ ⟨rfl, rfl, rfl, tI⟩ rfl ?_
     rintro j ⟨hj, hne⟩
     by_cases hjk : j < k
     · repeat' (first | refine aoQ rfl rfl rfl (fun hg => by exact std0) (by exact rfl) ?_ | refine sqW ?_ | refine rgK (fun K' hK => ?_) | (refine aoN (hK _ _ ?_); clear hK K') | refine cdN rfl tI (fun hc => ?_) (fun hc => ?_) | refine blK ?_ | refine exW ?_ | refine skW ?_ | refine rtW ?_ | refine dK2 (by decide +kernel) (by kernel_rfl) (by decide +kernel) rfl (fun K' hK => ?_) | (refine aqN (hK _ ?_); clear hK K') | refine aqQ rfl rfl (fun hg => by first | exact std0 | exact std1) (by exact rfl) ?_)
       · refine ⟨.inr rfl, Ent.b (Eq.symm (barsOk_dup hlt ((mem_take (fun b : Bar => b.id) hk).2 ⟨j, hjk, ?_⟩)))⟩
         simpa using hc
       · exact ⟨j + 1, ⟨by omega, fun i hi => lt_succ_cases hne (by simpa using hc) hi⟩, by omega, ⟨rfl, rfl, rfl, tI⟩, rfl⟩
       · exfalso; omega
     · repeat' (first | refine aoQ rfl rfl rfl (fun hg => by exact std0) (by exact rfl) ?_ | refine sqW ?_ | refine rgK (fun K' hK => ?_) | (refine aoN (hK _ _ ?_); clear hK K') | refine cdN rfl tI (fun hc => ?_) (fun hc => ?_) | refine blK ?_ | refine exW ?_ | refine skW ?_ | refine rtW ?_ | refine dK2 (by decide +kernel) (by kernel_rfl) (by decide +kernel) rfl (fun K' hK => ?_) | (refine aqN (hK _ ?_); clear hK K') | refine aqQ rfl rfl (fun hg => by first | exact std0 | exact std1) (by exact rfl) ?_)
       all_goals (first | (exfalso; omega) | skip)
       · refine ⟨k + 1, ⟨by omega, fun i hi => lt_succ_cases hall hbo hi, (nodup_succ _ l k hlt).2 ⟨hnd, fun hm => ?_⟩⟩, by omega, ⟨rfl, rfl, tI⟩, rfl⟩
         obtain ⟨i, hi, e⟩ := (mem_take (fun b : Bar => b.id) hk).1 hm
         exact hne i (by omega) e
   · exfalso; omega
 · repeat' (first | refine aoQ rfl rfl rfl (fun hg => by first | exact std0 | exact std1) (by exact rfl) ?_ | refine sqW ?_ | refine rgK (fun K' hK => ?_) | (refine aoN (hK _ _ ?_); clear hK K') | refine cdN rfl tI (fun hc => ?_) (fun hc => ?_) | refine blK ?_ | refine exW ?_ | refine skW ?_ | refine rtW ?_)
   · exfalso; omega
   · refine ⟨.inr rfl, Ent.b ?_⟩
     have htk : l.take k = l := zAt (by omega)
     rw [htk] at hnd
     unfold barsOk
     rw [all_yes fun j hj => hall j (by omega), decide_eq_true hnd, decide_eq_true hn.1, decide_eq_true hn.2]; rfl
end Go.Proofs.YtekfpcgagoidcaaGreatDoor
