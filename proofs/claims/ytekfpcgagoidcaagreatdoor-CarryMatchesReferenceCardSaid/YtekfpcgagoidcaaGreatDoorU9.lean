/- Contracts by content: the reference's Bar, Note and Valid of notes.  Contracts by content: cmp.Or, notes.sorted's comparison.  The order of notes: a strict weak order, total where the IDs differ. No statement is proved here. -/
import Derived.Shelf.SlSortCmp.WholeK
import Derived.Test.YtekfpcgagoidcaaGreatDoorU8
set_option linter.unusedVariables false
set_option linter.unusedSimpArgs false
namespace Go.Proofs.YtekfpcgagoidcaaGreatDoor
open Go.Ab
attribute [local irreducible] AWP AOps EStep AQ PStep PRun PCall TCall VCall
def barAt (bars : List Bar) (id : Int) : Int := findI (fun b : Bar => b.id == id) bars
theorem r7bar_spec (l : List Bar) (id : Int) (hl : l.length ≤ 9223372036854775807) : PCall Tryz.prog 156 [.sl 4 (l.map encB) .no, .int id] (.int (barAt l id)) := by
 refine PCall.body Tryz.func156 rfl rfl Tryz.ntmps156 rfl rfl ?_
 repeat' (first | refine aoQ rfl rfl rfl (fun hg => by exact std0) (by exact rfl) ?_ | refine sqW ?_ | refine rgK (fun K' hK => ?_) | (refine aoN (hK _ _ ?_); clear hK K') | refine blK ?_)
 refine lpW (ι := Nat) (fun k => [(0, .sl 4 (l.map encB) .no), (1, .int id), (5, .int k)]) (fun _ => []) (fun k => k ≤ l.length ∧ ∀ j, j < k → ((l.getD j default).id == id) = false) (fun k => l.length - k) 0 ⟨nZl _, fun j h => absurd h (by omega)⟩ ⟨rfl, rfl, rfl, tI⟩ rfl ?_
 rintro k ⟨hk, hall⟩
 by_cases hlt : k < l.length
 · repeat' (first | refine aoQ rfl rfl rfl (fun hg => by first | exact std0 | exact std1) (by exact rfl) ?_ | refine sqW ?_ | refine rgK (fun K' hK => ?_) | (refine aoN (hK _ _ ?_); clear hK K') | refine cdN rfl tI (fun hc => ?_) (fun hc => ?_) | refine blK ?_ | refine exW ?_ | refine skW ?_ | refine rtW ?_)
   · refine ⟨.inr rfl, Ent.int ?_⟩
     exact (findI_at hlt hc hall).symm
   · exact ⟨k + 1, ⟨by omega, fun j hj => lt_succ_cases hall hc hj⟩, by omega, ⟨rfl, rfl, rfl, tI⟩, rfl⟩
   · exfalso; omega
 · repeat' (first | refine aoQ rfl rfl rfl (fun hg => by first | exact std0 | exact std1) (by exact rfl) ?_ | refine sqW ?_ | refine rgK (fun K' hK => ?_) | (refine aoN (hK _ _ ?_); clear hK K') | refine cdN rfl tI (fun hc => ?_) (fun hc => ?_) | refine blK ?_ | refine exW ?_ | refine skW ?_ | refine rtW ?_)
   all_goals (first | (exfalso; omega) | skip)
   refine ⟨.inr rfl, Ent.int ?_⟩
   exact (findI_no fun j hj => hall j (by omega)).symm
theorem lk_idx_none (l : List Bar) (id : Int) : ∀ k, lk (idxALk l k) id = none → ∀ j, j < k → (l.getD j default).id ≠ id
 | 0, _, j, hj => absurd hj (by omega)
 | k + 1, h, j, hj => by
   rw [idxAL_succ, lk_ins'] at h
   split at h
   · cases h
   · rename_i e
     exact lt_succ_cases (lk_idx_none l id k h) e hj
theorem nodup_at {α : Type} [Inhabited α] (f : α → Int) {l : List α} (hn : (l.map f).Nodup) {i j : Nat} (hi : i < l.length) (hj : j < l.length) (e : f (l.getD i default) = f (l.getD j default)) : i = j := by
 rw [getD_lt hi, getD_lt hj] at e
 exact (List.getElem_inj (h₀ := by simpa using hi) (h₁ := by simpa using hj) hn).1 (by simpa using e)
theorem barsOk_nodup {l : List Bar} (h : barsOk l = true) : (l.map (·.id)).Nodup := by
 unfold barsOk at h; simp only [zA0, dEt] at h; exact h.1.1.2
theorem lk_bar {l : List Bar} (hn : (l.map (·.id)).Nodup) (id : Int) : (lk (idxAL l) id = none ∧ barAt l id = -1) ∨ ∃ j : Nat, lk (idxAL l) id = some (j : Int) ∧ barAt l id = j ∧ j < l.length ∧ (l.getD j default).id = id := by
 rw [idxAL_eq]
 cases h : lk (idxALk l l.length) id with
 | none =>
   left
   exact ⟨rfl, findI_no fun j hj => by have := lk_idx_none l id _ h j hj; simpa using this⟩
 | some i =>
   right
   obtain ⟨j, rfl, h2, h3⟩ := lk_idx l id _ _ h
   refine ⟨j, rfl, findI_at h2 (by simpa using h3) fun i hi => ?_, h2, h3⟩
   have : (l.getD i default).id ≠ id := fun e => by
    have := nodup_at (fun b : Bar => b.id) hn (show i < l.length by omega) h2 (by rw [e, h3])
    omega
   simpa using this
def noteX (bars : List Bar) (n : Note) : Bool := !(((((decide (barAt bars n.bar < 0) || !noteP n.pitch) || !inB n.id 1 1000000) || !inB n.part 1 1000000) || !inB n.voice 0 9) || !inB n.ossia 0 20) &&
 ((decide (ticksX n.start ≥ 0) && decide (ticksX n.len > 0)) && decide (ticksX n.start + ticksX n.len ≤ ticksX (bars.getD (barAt bars n.bar).toNat default).len))
theorem ticksX_in (r : Rat) : -1 ≤ ticksX r ∧ ticksX r ≤ 1680000000000 := by
 have := ticksR_in r
 unfold ticksX
 unfold ticksR at this
 split
 · rename_i h; rw [if_pos h] at this; dsimp only at this; omega
 · omega
theorem barAt_in (bars : List Bar) (id : Int) : -1 ≤ barAt bars id ∧ barAt bars id < bars.length := by
 rcases (show barAt bars id < 0 ∨ 0 ≤ barAt bars id by omega) with h | h
 · have := findI_neg.1 h
   unfold barAt at *; omega
 · obtain ⟨k, h1, h2, _⟩ := findI_lt h
   unfold barAt at *; omega
theorem r7note_spec (bars : List Bar) (n : Note) (hb : bars.length ≤ 9223372036854775807) : PCall Tryz.prog 118 [.sl 4 (bars.map encB) .no, .agg (encN n)] (.b (noteX bars n)) := by
 have h1 := r7bar_spec bars n.bar hb
 have h2 := r2isNote_spec n.pitch
 have h3 := ticks6_spec n.start
 have h4 := ticks6_spec n.len
 have h5 := ticks6_spec (bars.getD (barAt bars n.bar).toNat default).len
 have q1 := ticksX_in n.start
 have q2 := ticksX_in n.len
 have q3 := barAt_in bars n.bar
 refine PCall.body Tryz.func118 rfl rfl Tryz.ntmps118 rfl rfl ?_
 repeat' (first | refine aoQ rfl rfl rfl (fun hg => by first | exact std0 | exact pcW (h1) rfl rfl nd rfl nds | exact pcW (h2) rfl rfl nd rfl nds | exact pcW (r7in_spec _ _ _) rfl rfl nd rfl nds) (by exact rfl) ?_ | refine sqW ?_ | refine rgK (fun K' hK => ?_) | (refine aoN (hK _ _ ?_); clear hK K') | refine aoE (bxW rfl rfl rfl rfl rfl tI rfl rfl ?_) | refine cdN rfl tI (fun hc => ?_) (fun hc => ?_) | refine skW ?_ | refine rtW ?_)
 · refine ⟨.inr rfl, Ent.b (Eq.symm ?_)⟩
   unfold noteX; rw [hc]; rfl
 · have hx : 0 ≤ barAt bars n.bar := by
    simp only [zA5, dEf] at hc; omega
   repeat' (first | refine aoQ rfl rfl rfl (fun hg => by first | exact std0 | exact pcW (h3) rfl rfl nd rfl nds | exact pcW (h4) rfl rfl nd rfl nds | exact pcW (h5) rfl rfl nd rfl nds | exact piW tabOk rfl rfl nd rfl nd rfl rfl ⟨hx, q3.2⟩) (by exact rfl) ?_ | refine sqW ?_ | refine rgK (fun K' hK => ?_) | (refine aoN (hK _ _ ?_); clear hK K') | refine rtW ?_)
   refine ⟨.inr rfl, Ent.b (Eq.symm ?_)⟩
   unfold noteX; rw [hc]; rfl
theorem noteX_ok {bars : List Bar} (hb : barsOk bars = true) (n : Note) : noteX bars n = noteOk bars n := by
 have hd : ∀ r : Rat, ((ticksR r).2 = true ∧ ticksX r = (ticksR r).1 ∧ 0 ≤ ticksX r) ∨ ((ticksR r).2 = false ∧ ticksX r = -1 ∧ (ticksR r).1 = 0) := fun r => by
  have := ticksR_in r
  unfold ticksR ticksX at *
  by_cases h : durOk r = true
  · left; rw [if_pos h, if_pos h] at *; exact ⟨rfl, rfl, this.1⟩
  · right; rw [if_neg h, if_neg h]; exact ⟨rfl, rfl, rfl⟩
 unfold noteX noteOk
 rcases lk_bar (barsOk_nodup hb) n.bar with ⟨h1, h2⟩ | ⟨j, h1, h2, h3, h4⟩
 · rw [h1, h2]; simp
 · rw [h1, h2]
   have hlen : (ticksR (bars.getD j default).len).2 = true := by
    have h5 : barOk (bars.getD j default) = true := by
     unfold barsOk at hb; simp only [zA0, zA7] at hb
     exact hb.1.1.1 _ (by rw [getD_lt h3]; exact lGm h3)
    unfold barOk barC at h5
    unfold ticksR
    by_cases h : durOk (bars.getD j default).len = true
    · rw [if_pos h]
    · exfalso
      have : durOk (bars.getD j default).len = false := by simpa using h
      rw [this] at h5; simp at h5
   simp only [zA2]
   have e1 : decide ((j : Int) < 0) = false := by simp
   rw [e1]
   unfold nformed fits noteForm
   rcases hd (bars.getD j default).len with ⟨a1, a2, a3⟩ | ⟨a1, a2, a3⟩
   · simp only [a2]
     have key : (decide (ticksX n.start ≥ 0) && decide (ticksX n.len > 0) && decide (ticksX n.start + ticksX n.len ≤ (ticksR (bars.getD j default).len).1)) =
      ((ticksR n.start).2 && (ticksR n.len).2 && decide ((ticksR n.len).1 > 0) && decide ((ticksR n.start).1 + (ticksR n.len).1 ≤ (ticksR (bars.getD j default).len).1)) := by
      rcases hd n.start with ⟨b1, b2, b3⟩ | ⟨b1, b2, b3⟩ <;> rcases hd n.len with ⟨c1, c2, c3⟩ | ⟨c1, c2, c3⟩ <;> simp only [b1, c1, b2, c2]
      · rw [b2] at b3; rw [decide_eq_true (show (ticksR n.start).1 ≥ 0 from b3)]; rfl
      · simp
      · simp
      · simp
     rw [key]
     generalize noteP n.pitch = z1
     generalize inB n.id 1 1000000 = z2
     generalize inB n.part 1 1000000 = z3
     generalize inB n.voice 0 9 = z4
     generalize inB n.ossia 0 20 = z5
     generalize ((ticksR n.start).2 && (ticksR n.len).2 && decide ((ticksR n.len).1 > 0) && decide ((ticksR n.start).1 + (ticksR n.len).1 ≤ (ticksR (bars.getD j default).len).1)) = z6
     revert z1 z2 z3 z4 z5 z6; decide
   · rw [hlen] at a1; cases a1
theorem r7valid_spec (bars : List Bar) (l : List Note) (hb : bars.length ≤ 9223372036854775807) (hl : l.length ≤ 9223372036854775807) :
 PCall Tryz.prog 89 [.sl 4 (bars.map encB) .no, .sl 12 (l.map encN) .no] (.b (notesOk bars l)) := by
 have v := r6valid_spec bars hb
 refine PCall.body Tryz.func89 rfl rfl Tryz.ntmps89 rfl rfl ?_
 repeat' (first | refine aoQ rfl rfl rfl (fun hg => by first | exact std0 | exact pcW (v) rfl rfl nd rfl nds | exact std1) (by exact rfl) ?_ | refine sqW ?_ | refine rgK (fun K' hK => ?_) | (refine aoN (hK _ _ ?_); clear hK K') | refine cdN rfl tI (fun hc => ?_) (fun hc => ?_) | refine blK ?_ | refine skW ?_ | refine rtW ?_)
 · refine ⟨.inr rfl, Ent.b (Eq.symm ?_)⟩
   unfold notesOk
   cases h : barsOk bars with
   | false => simp
   | true =>
     rw [h] at hc; simp at hc
     have : decide ((l.length : Int) ≤ 20000) = false := by simp; omega
     rw [this]; simp
 have h1 : barsOk bars = true ∧ (l.length : Int) ≤ 20000 := by
  simp only [zA5, zAe, dEf] at hc
  exact ⟨hc.1, by omega⟩
 clear hc
 refine lpW (ι := Nat) (fun k => [(0, .sl 4 (bars.map encB) .no), (1, .sl 12 (l.map encN) .no), (6, .int k)]) (fun _ => []) (fun k => k ≤ l.length ∧ (∀ j, j < k → noteOk bars (l.getD j default) = true) ∧ ((l.take k).map (·.id)).Nodup) (fun k => l.length - k) 0 ⟨nZl _, fun j h => absurd h (by omega), by simp⟩ ⟨rfl, rfl, rfl, tI⟩ rfl ?_
 rintro k ⟨hk, hall, hnd⟩
 by_cases hlt : k < l.length
 · have ht := r7note_spec bars (l.getD k default) hb
   have he := noteX_ok h1.1 (l.getD k default)
   repeat' (first | refine aoQ rfl rfl rfl (fun hg => by first | exact std0 | exact pcW (ht) rfl rfl nd rfl nds | exact std1) (by exact rfl) ?_ | refine sqW ?_ | refine rgK (fun K' hK => ?_) | (refine aoN (hK _ _ ?_); clear hK K') | refine cdN rfl tI (fun hc => ?_) (fun hc => ?_) | refine blK ?_ | refine exW ?_ | refine skW ?_ | refine rtW ?_)
   · refine ⟨.inr rfl, Ent.b (Eq.symm (notesOk_bad hlt ?_))⟩
     rw [← he]; simpa using hc
   · have hbo : noteOk bars (l.getD k default) = true := by rw [← he]; simpa using hc
     clear hc he ht
     refine lpW (ι := Nat) (fun j => [(0, .sl 4 (bars.map encB) .no), (1, .sl 12 (l.map encN) .no), (6, .int k), (8, .int j)]) (fun _ => []) (fun j => j ≤ k ∧ ∀ i, i < j → (l.getD i default).id ≠ (l.getD k default).id) (fun j => k - j) 0 ⟨nZl _, fun j h => absurd h (by omega)⟩ ⟨rfl, rfl, rfl, rfl, tI⟩ rfl ?_
     rintro j ⟨hj, hne⟩
     by_cases hjk : j < k
     · repeat' (first | refine aoQ rfl rfl rfl (fun hg => by exact std0) (by exact rfl) ?_ | refine sqW ?_ | refine rgK (fun K' hK => ?_) | (refine aoN (hK _ _ ?_); clear hK K') | refine cdN rfl tI (fun hc => ?_) (fun hc => ?_) | refine blK ?_ | refine exW ?_ | refine skW ?_ | refine rtW ?_ | refine dK2 (by decide +kernel) (by kernel_rfl) (by decide +kernel) rfl (fun K' hK => ?_) | (refine aqN (hK _ ?_); clear hK K') | refine aqQ rfl rfl (fun hg => by first | exact std0 | exact std1) (by exact rfl) ?_)
       · refine ⟨.inr rfl, Ent.b (Eq.symm (notesOk_dup hlt ((mem_take (fun b : Note => b.id) hk).2 ⟨j, hjk, ?_⟩)))⟩
         simpa using hc
       · exact ⟨j + 1, ⟨by omega, fun i hi => lt_succ_cases hne (by simpa using hc) hi⟩, by omega, ⟨rfl, rfl, rfl, rfl, tI⟩, rfl⟩
       · exfalso; omega
     · repeat' (first | refine aoQ rfl rfl rfl (fun hg => by exact std0) (by exact rfl) ?_ | refine sqW ?_ | refine rgK (fun K' hK => ?_) | (refine aoN (hK _ _ ?_); clear hK K') | refine cdN rfl tI (fun hc => ?_) (fun hc => ?_) | refine blK ?_ | refine exW ?_ | refine skW ?_ | refine rtW ?_ | refine dK2 (by decide +kernel) (by kernel_rfl) (by decide +kernel) rfl (fun K' hK => ?_) | (refine aqN (hK _ ?_); clear hK K') | refine aqQ rfl rfl (fun hg => by first | exact std0 | exact std1) (by exact rfl) ?_)
       all_goals (first | (exfalso; omega) | skip)
       · refine ⟨k + 1, ⟨by omega, fun i hi => lt_succ_cases hall hbo hi, (nodup_succ _ l k hlt).2 ⟨hnd, fun hm => ?_⟩⟩, by omega, ⟨rfl, rfl, rfl, tI⟩, rfl⟩
         obtain ⟨i, hi, e⟩ := (mem_take (fun b : Note => b.id) hk).1 hm
         exact hne i (by omega) e
   · exfalso; omega
 · repeat' (first | refine aoQ rfl rfl rfl (fun hg => by first | exact std0 | exact std1) (by exact rfl) ?_ | refine sqW ?_ | refine rgK (fun K' hK => ?_) | (refine aoN (hK _ _ ?_); clear hK K') | refine cdN rfl tI (fun hc => ?_) (fun hc => ?_) | refine blK ?_ | refine exW ?_ | refine skW ?_ | refine rtW ?_)
   all_goals (first | (exfalso; omega) | skip)
   refine ⟨.inr rfl, Ent.b ?_⟩
   have htk : l.take k = l := zAt (by omega)
   rw [htk] at hnd
   unfold notesOk
   rw [all_yes fun j hj => hall j (by omega), decide_eq_true hnd, h1.1, decide_eq_true h1.2]; rfl
def orL : List Int → Int
 | [] => 0
 | x :: r => if x = 0 then orL r else x
theorem orL_zero : ∀ {l : List Int}, (∀ j, j < l.length → l.getD j default = 0) → orL l = 0
 | [], _ => rfl
 | x :: r, h => by
   have h0 : x = 0 := by simpa using h 0 (by simp)
   rw [orL, if_pos h0]
   exact orL_zero fun j hj => by simpa using h (j + 1) (by simpa using hj)
theorem orL_first : ∀ {l : List Int} {k : Nat}, k < l.length → (∀ j, j < k → l.getD j default = 0) → l.getD k default ≠ 0 → orL l = l.getD k default
 | [], k, hk, _, _ => absurd hk (by simp)
 | x :: r, 0, _, _, h1 => by
   have h2 : x ≠ 0 := by simpa using h1
   simp [orL, h2]
 | x :: r, k + 1, hk, h, h1 => by
   have h0 : x = 0 := by simpa using h 0 (by omega)
   have h2 := orL_first (l := r) (k := k) (by simpa using hk) (fun j hj => by simpa using h (j + 1) (by omega)) (by simpa using h1)
   rw [orL, if_pos h0, h2]; simp
theorem or_spec (l : List Int) (hl : l.length ≤ 9223372036854775807) : PCall Tryz.prog 151 [.sl 1 (l.map fun n => [AV.int n]) .no] (.int (orL l)) := by
 refine PCall.body Tryz.func151 rfl rfl Tryz.ntmps151 rfl rfl ?_
 repeat' (first | refine aoQ rfl rfl rfl (fun hg => by first | exact std0 | exact std1) (by exact rfl) ?_ | refine sqW ?_ | refine rgK (fun K' hK => ?_) | (refine aoN (hK _ _ ?_); clear hK K') | refine blK ?_)
 refine lpD (ι := Nat) (fun k => [(3, .int 0), (6, .sl 1 (l.map fun n => [AV.int n]) .no), (7, .int l.length), (8, .int k)]) (fun _ => [])
  (fun k => k ≤ l.length ∧ ∀ j, j < k → l.getD j default = 0) (fun k => l.length - k) 0 (fun _ => rfl) 0 ⟨nZl _, fun j h => absurd h (by omega)⟩ ⟨rfl, rfl, rfl, rfl, tI⟩ rfl (fun _ _ => rfl) (fun k _ => by simp [okObj, okRef]) ?_
 rintro k ⟨hk, hz⟩
 by_cases hlt : k < l.length
 · repeat' (first | refine aoQ rfl rfl rfl (fun hg => by first | exact std0 | exact std1) (by exact rfl) ?_ | refine sqW ?_ | refine rgK (fun K' hK => ?_) | (refine aoN (hK _ _ ?_); clear hK K') | refine cdN rfl tI (fun hc => ?_) (fun hc => ?_) | refine blK ?_ | refine exW ?_ | refine skW ?_ | refine rtW ?_)
   · refine ⟨.inr rfl, Ent.int ?_⟩
     rw [zA2] at hc ⊢
     exact (orL_first hlt hz (by simpa using hc)).symm
   · rw [zA2] at hc
     exact ⟨k + 1, ⟨by omega, fun j hj => lt_succ_cases hz (by simpa using hc) hj⟩, by omega, ⟨rfl, rfl, rfl, rfl, tI⟩, rfl⟩
   · exfalso; omega
 · repeat' (first | refine aoQ rfl rfl rfl (fun hg => by first | exact std0 | exact std1) (by exact rfl) ?_ | refine sqW ?_ | refine rgK (fun K' hK => ?_) | (refine aoN (hK _ _ ?_); clear hK K') | refine cdN rfl tI (fun hc => ?_) (fun hc => ?_) | refine blK ?_ | refine exW ?_ | refine skW ?_ | refine rtW ?_)
   · exfalso; omega
   · exfalso; omega
   · refine ⟨.inr rfl, Ent.int ?_⟩
     exact (orL_zero fun j hj => hz j (by omega)).symm
theorem numR2_in (p : Pitch) : -1000 ≤ (numR2 p).1 ∧ (numR2 p).1 ≤ 1000 := by
 unfold numR2
 split
 · rename_i h
   have h1 := pitchOk_iff.1 h
   have h2 := nat7_in p.step.toNat
   unfold pitchNum; dsimp only; omega
 · exact ⟨by decide, by decide⟩
def noteIn (n : Note) : Prop := (1 ≤ n.id ∧ n.id ≤ 1000000) ∧ (1 ≤ n.part ∧ n.part ≤ 1000000) ∧ 0 ≤ n.voice ∧ n.voice ≤ 9
def lk0 (al : List (Int × Int)) (k : Int) : Int := (lk al k).getD 0
def cmpN (al : List (Int × Int)) (x y : Note) : Int := orL [lk0 al x.bar - lk0 al y.bar, x.part - y.part, (ticksR x.start).1 - (ticksR y.start).1, x.voice - y.voice, (numR2 x.pitch).1 - (numR2 y.pitch).1, x.id - y.id]
theorem lk0_in {al : List (Int × Int)} (hal : ∀ k i, lk al k = some i → 0 ≤ i ∧ i < 4611686018427387904) (k : Int) : 0 ≤ lk0 al k ∧ lk0 al k < 4611686018427387904 := by
 unfold lk0
 cases h : lk al k with
 | none => exact ⟨by decide, by decide⟩
 | some i => exact hal k i h
set_option maxHeartbeats 2000000 in
theorem cmpN_spec (al : List (Int × Int)) (hal : ∀ k i, lk al k = some i → 0 ≤ i ∧ i < 4611686018427387904) (x y : Note) (hx : noteIn x) (hy : noteIn y) :
 PCall Tryz.prog 171 [.agg (encN x), .agg (encN y), .iptr [.imap (encM ekI AV.int al)]] (.int (cmpN al x y)) := by
 obtain ⟨⟨a1, a2⟩, ⟨a3, a4⟩, a5, a6⟩ := hx
 obtain ⟨⟨b1, b2⟩, ⟨b3, b4⟩, b5, b6⟩ := hy
 have c1 := ticksR_in x.start
 have c2 := ticksR_in y.start
 have d1 := numR2_in x.pitch
 have d2 := numR2_in y.pitch
 have e1 := lk0_in hal x.bar
 have e2 := lk0_in hal y.bar
 unfold lk0 at e1 e2
 have ho := or_spec [lk0 al x.bar - lk0 al y.bar, x.part - y.part, (ticksR x.start).1 - (ticksR y.start).1, x.voice - y.voice, (numR2 x.pitch).1 - (numR2 y.pitch).1, x.id - y.id] (by simp)
 refine PCall.body Tryz.func171 rfl rfl Tryz.ntmps171 rfl rfl ?_
 repeat' (first | refine aoQ rfl rfl rfl (fun hg => by first | exact std0 | exact pcW (ticks_spec x.start) rfl rfl nd rfl nds | exact pcW (ticks_spec y.start) rfl rfl nd rfl nds | exact pcW (pNumber_spec x.pitch) rfl rfl nd rfl nds | exact pcW (pNumber_spec y.pitch) rfl rfl nd rfl nds | exact PRun.lookup (ek := ekI) (ev := AV.int) (zv := 0) (keyLaw_int (LOk.of (tabOk.get rfl))) (LOk.of (tabOk.get rfl)) (LOk.of (tabOk.get rfl)) rfl rfl (Rd.w rfl nd) (Or.inl rfl) (Rd.w rfl nd) rfl | exact pbS tabOk rfl rfl nds | exact pcW (ho) rfl rfl nd rfl nds) (by exact rfl) ?_ | refine sqW ?_ | refine rgK (fun K' hK => ?_) | (refine aoN (hK _ _ ?_); clear hK K') | refine aoE (bxW rfl rfl rfl rfl rfl tI rfl rfl ?_) | refine rtW ?_)
 exact ⟨.inr rfl, Ent.int rfl⟩
end Go.Proofs.YtekfpcgagoidcaaGreatDoor
namespace Go.Proofs.YtekfpcgagoidcaaGreatDoor
open Go.Ab Go.Sort
def cmpK (a b : List Int) : Int := orL (List.zipWith (· - ·) a b)
theorem orL_neg : ∀ l : List Int, orL (l.map fun x => -x) = - orL l
 | [] => rfl
 | x :: r => by
   have := orL_neg r
   by_cases h : x = 0
   · subst h; simp [orL, this]
   · simp [orL, h]
theorem cmpK_anti (a b : List Int) : cmpK b a = - cmpK a b := by
 unfold cmpK
 rw [← orL_neg, List.map_zipWith, List.zipWith_comm]
 congr 1
 exact congrFun (congrFun (congrArg List.zipWith (by funext x y; omega)) a) b
theorem cmpK_nil (a : List Int) : cmpK [] a = 0 := by simp [cmpK, orL]
theorem cmpK_cons (x y : Int) (a b : List Int) : cmpK (x :: a) (y :: b) = if x - y = 0 then cmpK a b else x - y := by simp [cmpK, orL]
theorem cmpK_lt : ∀ {a b c : List Int}, a.length = b.length → b.length = c.length → cmpK a b < 0 → cmpK b c < 0 → cmpK a c < 0
 | [], b, c, _, _, h, _ => by rw [cmpK_nil] at h; omega
 | x :: a, y :: b, z :: c, h1, h2, h3, h4 => by
   have ih := cmpK_lt (a := a) (b := b) (c := c) (by simpa using h1) (by simpa using h2)
   rw [cmpK_cons] at *
   split at h3 <;> split at h4 <;> split <;> first | omega | (exact ih h3 h4)
theorem cmpK_le : ∀ {a b c : List Int}, a.length = b.length → b.length = c.length → cmpK a b ≤ 0 → cmpK b c ≤ 0 → cmpK a c ≤ 0
 | [], b, c, _, _, _, _ => by rw [cmpK_nil]; omega
 | x :: a, y :: b, z :: c, h1, h2, h3, h4 => by
   have ih := cmpK_le (a := a) (b := b) (c := c) (by simpa using h1) (by simpa using h2)
   rw [cmpK_cons] at *
   split at h3 <;> split at h4 <;> split <;> first | omega | (exact ih h3 h4)
def keyN (al : List (Int × Int)) (x : Note) : List Int := [lk0 al x.bar, x.part, (ticksR x.start).1, x.voice, (numR2 x.pitch).1, x.id]
theorem ltN (al : List (Int × Int)) (f : Note → Note) (x y : Note) : Go.Proofs.ltOf (fun x y : Note => cmpN al (f x) (f y)) x y = true ↔ cmpK (keyN al (f x)) (keyN al (f y)) < 0 := decide_eq_true_iff
theorem ltN' (al : List (Int × Int)) (f : Note → Note) (x y : Note) : Go.Proofs.ltOf (fun x y : Note => cmpN al (f x) (f y)) x y = false ↔ ¬ cmpK (keyN al (f x)) (keyN al (f y)) < 0 := dEf
theorem swoN (al : List (Int × Int)) (f : Note → Note) : SWO (Go.Proofs.ltOf fun x y : Note => cmpN al (f x) (f y)) where
 irrefl x := by
  have := cmpK_anti (keyN al (f x)) (keyN al (f x))
  rw [ltN']; omega
 trans x y z h1 h2 := by
  rw [ltN] at *
  exact cmpK_lt (a := keyN al (f x)) (b := keyN al (f y)) (c := keyN al (f z)) rfl rfl h1 h2
 ntrans x y z h1 h2 := by
  have a1 := cmpK_anti (keyN al (f x)) (keyN al (f y))
  have a2 := cmpK_anti (keyN al (f y)) (keyN al (f z))
  have a3 := cmpK_anti (keyN al (f x)) (keyN al (f z))
  rw [ltN'] at *
  have := cmpK_le (a := keyN al (f z)) (b := keyN al (f y)) (c := keyN al (f x)) rfl rfl (by omega) (by omega)
  omega
end Go.Proofs.YtekfpcgagoidcaaGreatDoor
