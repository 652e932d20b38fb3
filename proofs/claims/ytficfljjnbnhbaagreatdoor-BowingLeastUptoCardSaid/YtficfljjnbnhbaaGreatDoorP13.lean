/- Contracts by content: the reference's Bars, Bar, Note, Valid of notes.  Contracts by content: the reference's Bar, Note and Valid of notes.  Contracts by content: slices.IndexFunc, ContainsFunc; score.index.  Contracts by content: score.index at bars, parts and notes.  Contracts by content: score.areParts.  Contracts by content: score.wrong.  Contracts by content: score.Valid. No statement is proved here. -/
import Derived.Test.YtficfljjnbnhbaaGreatDoorP11
import Derived.Test.YtficfljjnbnhbaaGreatDoorP12
set_option linter.unusedVariables false
set_option linter.unusedSimpArgs false
namespace Go.Proofs.YtficfljjnbnhbaaGreatDoor
open Go.Ab
attribute [local irreducible] AWP AOps EStep AQ PStep PRun PCall TCall VCall
theorem quot1680 {d : Int} (h1 : 1 ≤ d) (h : Int.tmod 1680 d = 0) : d * Int.tdiv 1680 d = 1680 ∧ 1 ≤ Int.tdiv 1680 d := by
 have e := Int.mul_tdiv_add_tmod 1680 d
 rw [h, Int.add_zero] at e
 refine ⟨e, ?_⟩
 rcases (show 0 < Int.tdiv 1680 d ∨ Int.tdiv 1680 d ≤ 0 by omega) with h2 | h2
 · omega
 · exfalso
   have := zD4 (a := Int.tdiv 1680 d) (b := 0) (c := d) h2 (by omega)
   omega
theorem barT (b : Bar) : barOk b = !(((((decide (b.id < 1) || decide (b.id > 1000000)) || decide (ticksX b.len < 1)) || decide (ticksX b.len > 40320)) || decide (b.key < -7)) || decide (b.key > 7)) := by
 have key : barC b = (decide (ticksX b.len < 1) || decide (ticksX b.len > 40320)) := by
  unfold barC ticksX
  by_cases h : durOk b.len = true
  · have h1 := durOk_iff.1 h
    have h2 := ratOk_iff.1 h1.1
    obtain ⟨q1, q2⟩ := quot1680 h2.1 h1.2.2
    rw [if_pos h, h]
    have hr : ratCmp ⟨24, 1⟩ b.len = if 24 * b.len.d < b.len.n * 1 then (-1, 0) else if 24 * b.len.d > b.len.n * 1 then (1, 0) else (0, 0) := by
     unfold ratCmp; rw [if_pos (by rw [h1.1]; decide)]
    rw [hr]
    have e1 : (b.len.n == 0) = decide (ticksV b.len < 1) := by
     rw [zAs]; simp only [beq_iff_eq, dEt]
     unfold ticksV
     constructor
     · intro h; rw [h]; omega
     · intro h3
       rcases (show 0 < b.len.n ∨ b.len.n ≤ 0 by omega) with h4 | h4
       · have := zD4 (a := 1) (b := Int.tdiv 1680 b.len.d) (c := b.len.n) q2 (by omega)
         omega
       · omega
    have e2 : decide ((if 24 * b.len.d < b.len.n * 1 then ((-1 : Int), (0 : Int)) else if 24 * b.len.d > b.len.n * 1 then (1, 0) else (0, 0)).1 < 0) = decide (ticksV b.len > 40320) := by
     rw [zAs]; simp only [dEt]
     have e3 : 24 * b.len.d * Int.tdiv 1680 b.len.d = 40320 := by rw [Int.mul_assoc, q1]; decide
     unfold ticksV
     split
     · rename_i h3
       have := Int.mul_lt_mul_of_pos_right (a := 24 * b.len.d) (b := b.len.n) (c := Int.tdiv 1680 b.len.d) (by omega) (by omega)
       constructor
       · intro _; omega
       · intro _; decide
     · rename_i h3
       have := zD2 (a := b.len.n) (b := 24 * b.len.d) (c := Int.tdiv 1680 b.len.d) (by omega) (by omega)
       constructor
       · intro h; split at h <;> simp at h
       · intro h; omega
    rw [e1, e2]; rfl
  · have : durOk b.len = false := by simpa using h
    rw [this]; simp
 unfold barOk
 rw [key]
 unfold barA
 generalize decide (b.id < 1) = a1
 generalize decide (b.id > 1000000) = a2
 generalize decide (ticksX b.len < 1) = a3
 generalize decide (ticksX b.len > 40320) = a4
 generalize decide (b.key < -7) = a5
 generalize decide (b.key > 7) = a6
 revert a1 a2 a3 a4 a5 a6; decide
theorem mem_take {α : Type} [Inhabited α] (f : α → Int) {l : List α} {k : Nat} (hk : k ≤ l.length) {x : Int} : x ∈ (l.take k).map f ↔ ∃ j, j < k ∧ f (l.getD j default) = x := by
 rw [lMm]
 constructor
 · rintro ⟨a, ha, rfl⟩
   obtain ⟨j, hj, rfl⟩ := zAq.1 ha
   simp only [zAc] at hj
   refine ⟨j, by omega, ?_⟩
   rw [getD_lt (show j < l.length by omega), List.getElem_take]
 · rintro ⟨j, hj, rfl⟩
   refine ⟨l.getD j default, ?_, rfl⟩
   rw [getD_lt (show j < l.length by omega), zAq]
   exact ⟨j, by simp; omega, by rw [List.getElem_take]⟩
theorem r6valid_spec (l : List Bar) (hl : l.length ≤ 9223372036854775807) : PCall Tryz.prog 132 [.sl 4 (l.map encB) .no] (.b (barsOk l)) := by
 refine PCall.body Tryz.func132 rfl rfl Tryz.ntmps132 rfl rfl ?_
 repeat' (first | refine aoQ rfl rfl rfl (fun hg => by first | exact std0 | exact std1) (by exact rfl) ?_ | refine sqW ?_ | refine rgK (fun K' hK => ?_) | (refine aoN (hK _ _ ?_); clear hK K') | refine cdN rfl tI (fun hc => ?_) (fun hc => ?_) | refine blK ?_ | refine skW ?_ | refine rtW ?_)
 · refine ⟨.inr rfl, Ent.b (Eq.symm ?_)⟩
   unfold barsOk
   simp at hc
   by_cases h : 1 ≤ l.length
   · rw [decide_eq_false (show ¬ l.length ≤ 4000 by omega)]; simp
   · rw [decide_eq_false h]; simp
 have hn : 1 ≤ l.length ∧ l.length ≤ 4000 := by simp at hc; omega
 clear hc
 refine lpW (ι := Nat) (fun k => [(0, .sl 4 (l.map encB) .no), (3, .int k)]) (fun _ => []) (fun k => k ≤ l.length ∧ (∀ j, j < k → barOk (l.getD j default) = true) ∧ ((l.take k).map (·.id)).Nodup) (fun k => l.length - k) 0 ⟨nZl _, fun j h => absurd h (by omega), by simp⟩ ⟨rfl, rfl, tI⟩ rfl ?_
 rintro k ⟨hk, hall, hnd⟩
 by_cases hlt : k < l.length
 · have ht := ticks6_spec (l.getD k default).len
   have hb := barT (l.getD k default)
   repeat' (first | refine aoQ rfl rfl rfl (fun hg => by first | exact std0 | exact pcW (ht) rfl rfl nd rfl nds | exact std1) (by exact rfl) ?_ | refine sqW ?_ | refine rgK (fun K' hK => ?_) | (refine aoN (hK _ _ ?_); clear hK K') | refine cdN rfl tI (fun hc => ?_) (fun hc => ?_) | refine blK ?_ | refine exW ?_ | refine skW ?_ | refine rtW ?_)
   · refine ⟨.inr rfl, Ent.b (Eq.symm (barsOk_bad hlt ?_))⟩
     rw [zAj] at hc
     rw [hb, hc]; rfl
   · rw [zAj] at hc
     have hbo : barOk (l.getD k default) = true := by rw [hb, hc]; rfl
     clear hc hb ht
     refine lpW (ι := Nat) (fun j => [(0, .sl 4 (l.map encB) .no), (3, .int k), (5, .int j)]) (fun _ => []) (fun j => j ≤ k ∧ ∀ i, i < j → (l.getD i default).id ≠ (l.getD k default).id) (fun j => k - j) 0 ⟨nZl _, fun j h => absurd h (by omega)⟩ ⟨rfl, rfl, rfl, tI⟩ rfl ?_
     rintro j ⟨hj, hne⟩
     by_cases hjk : j < k
     · repeat' (first | refine aoQ rfl rfl rfl (fun hg => by exact std0) (by exact rfl) ?_ | refine sqW ?_ | refine rgK (fun K' hK => ?_) | (refine aoN (hK _ _ ?_); clear hK K') | refine cdN rfl tI (fun hc => ?_) (fun hc => ?_) | refine blK ?_ | refine exW ?_ | refine skW ?_ | refine rtW ?_ | refine dK2 (by decide +kernel) (by kernel_rfl) (by decide +kernel) rfl (fun K' hK => ?_) | (refine aqN (hK _ ?_); clear hK K') | refine aqQ rfl rfl (fun hg => by first | exact std0 | exact std1) (by exact rfl) ?_)
       · refine ⟨.inr rfl, Ent.b (Eq.symm (barsOk_dup hlt ((mem_take (fun b : Bar => b.id) hk).2 ⟨j, hjk, ?_⟩)))⟩
         simpa using hc
       · exact ⟨j + 1, ⟨by omega, fun i hi => lt_succ_cases hne (by simpa using hc) hi⟩, by omega, ⟨rfl, rfl, rfl, tI⟩, rfl⟩
       · exfalso; omega
     · repeat' (first | refine aoQ rfl rfl rfl (fun hg => by exact std0) (by exact rfl) ?_ | refine sqW ?_ | refine rgK (fun K' hK => ?_) | (refine aoN (hK _ _ ?_); clear hK K') | refine cdN rfl tI (fun hc => ?_) (fun hc => ?_) | refine blK ?_ | refine exW ?_ | refine skW ?_ | refine rtW ?_ | refine dK2 (by decide +kernel) (by kernel_rfl) (by decide +kernel) rfl (fun K' hK => ?_) | (refine aqN (hK _ ?_); clear hK K') | refine aqQ rfl rfl (fun hg => by first | exact std0 | exact std1) (by exact rfl) ?_)
       all_goals (first | (exfalso; omega) | skip)
       · refine ⟨k + 1, ⟨by omega, fun i hi => lt_succ_cases hall hbo hi, (nodup_succ _ l k hlt).2 ⟨hnd, fun hm => ?_⟩⟩, by omega, ⟨rfl, rfl, tI⟩, rfl⟩
         obtain ⟨i, hi, e⟩ := (mem_take (fun b : Bar => b.id) hk).1 hm
         exact hne i (by omega) e
   · exfalso; omega
 · repeat' (first | refine aoQ rfl rfl rfl (fun hg => by first | exact std0 | exact std1) (by exact rfl) ?_ | refine sqW ?_ | refine rgK (fun K' hK => ?_) | (refine aoN (hK _ _ ?_); clear hK K') | refine cdN rfl tI (fun hc => ?_) (fun hc => ?_) | refine blK ?_ | refine exW ?_ | refine skW ?_ | refine rtW ?_)
   · exfalso; omega
   · refine ⟨.inr rfl, Ent.b ?_⟩
     have htk : l.take k = l := zAu (by omega)
     rw [htk] at hnd
     unfold barsOk
     rw [all_yes fun j hj => hall j (by omega), decide_eq_true hnd, decide_eq_true hn.1, decide_eq_true hn.2]; rfl
def barAt (bars : List Bar) (id : Int) : Int := findI (fun b : Bar => b.id == id) bars
theorem r7bar_spec (l : List Bar) (id : Int) (hl : l.length ≤ 9223372036854775807) : PCall Tryz.prog 141 [.sl 4 (l.map encB) .no, .int id] (.int (barAt l id)) := by
 refine PCall.body Tryz.func141 rfl rfl Tryz.ntmps141 rfl rfl ?_
 repeat' (first | refine aoQ rfl rfl rfl (fun hg => by exact std0) (by exact rfl) ?_ | refine sqW ?_ | refine rgK (fun K' hK => ?_) | (refine aoN (hK _ _ ?_); clear hK K') | refine blK ?_)
 refine lpW (ι := Nat) (fun k => [(0, .sl 4 (l.map encB) .no), (1, .int id), (5, .int k)]) (fun _ => []) (fun k => k ≤ l.length ∧ ∀ j, j < k → ((l.getD j default).id == id) = false) (fun k => l.length - k) 0 ⟨nZl _, fun j h => absurd h (by omega)⟩ ⟨rfl, rfl, rfl, tI⟩ rfl ?_
 rintro k ⟨hk, hall⟩
 by_cases hlt : k < l.length
 · repeat' (first | refine aoQ rfl rfl rfl (fun hg => by first | exact std0 | exact std1) (by exact rfl) ?_ | refine sqW ?_ | refine rgK (fun K' hK => ?_) | (refine aoN (hK _ _ ?_); clear hK K') | refine cdN rfl tI (fun hc => ?_) (fun hc => ?_) | refine blK ?_ | refine exW ?_ | refine skW ?_ | refine rtW ?_)
   · refine ⟨.inr rfl, Ent.int ?_⟩
     exact (findI_at hlt hc hall).symm
   · exact ⟨k + 1, ⟨by omega, fun j hj => lt_succ_cases hall hc hj⟩, by omega, ⟨rfl, rfl, rfl, tI⟩, rfl⟩
   · exfalso; omega
 · repeat' (first | refine aoQ rfl rfl rfl (fun hg => by first | exact std0 | exact std1) (by exact rfl) ?_ | refine sqW ?_ | refine rgK (fun K' hK => ?_) | (refine aoN (hK _ _ ?_); clear hK K') | refine cdN rfl tI (fun hc => ?_) (fun hc => ?_) | refine blK ?_ | refine exW ?_ | refine skW ?_ | refine rtW ?_)
   all_goals (first | (exfalso; omega) | skip)
   refine ⟨.inr rfl, Ent.int ?_⟩
   exact (findI_no fun j hj => hall j (by omega)).symm
theorem lk_idx_none (l : List Bar) (id : Int) : ∀ k, lk (idxALk l k) id = none → ∀ j, j < k → (l.getD j default).id ≠ id
 | 0, _, j, hj => absurd hj (by omega)
 | k + 1, h, j, hj => by
   rw [idxAL_succ, lk_ins'] at h
   split at h
   · cases h
   · rename_i e
     exact lt_succ_cases (lk_idx_none l id k h) e hj
theorem nodup_at {α : Type} [Inhabited α] (f : α → Int) {l : List α} (hn : (l.map f).Nodup) {i j : Nat} (hi : i < l.length) (hj : j < l.length) (e : f (l.getD i default) = f (l.getD j default)) : i = j := by
 rw [getD_lt hi, getD_lt hj] at e
 exact (List.getElem_inj (h₀ := by simpa using hi) (h₁ := by simpa using hj) hn).1 (by simpa using e)
theorem barsOk_nodup {l : List Bar} (h : barsOk l = true) : (l.map (·.id)).Nodup := by
 unfold barsOk at h; simp only [zA0, dEt] at h; exact h.1.1.2
theorem lk_bar {l : List Bar} (hn : (l.map (·.id)).Nodup) (id : Int) : (lk (idxAL l) id = none ∧ barAt l id = -1) ∨ ∃ j : Nat, lk (idxAL l) id = some (j : Int) ∧ barAt l id = j ∧ j < l.length ∧ (l.getD j default).id = id := by
 rw [idxAL_eq]
 cases h : lk (idxALk l l.length) id with
 | none =>
   left
   exact ⟨rfl, findI_no fun j hj => by have := lk_idx_none l id _ h j hj; simpa using this⟩
 | some i =>
   right
   obtain ⟨j, rfl, h2, h3⟩ := lk_idx l id _ _ h
   refine ⟨j, rfl, findI_at h2 (by simpa using h3) fun i hi => ?_, h2, h3⟩
   have : (l.getD i default).id ≠ id := fun e => by
    have := nodup_at (fun b : Bar => b.id) hn (show i < l.length by omega) h2 (by rw [e, h3])
    omega
   simpa using this
def noteX (bars : List Bar) (n : Note) : Bool := !(((((decide (barAt bars n.bar < 0) || !noteP n.pitch) || !inB n.id 1 1000000) || !inB n.part 1 1000000) || !inB n.voice 0 9) || !inB n.ossia 0 20) &&
 ((decide (ticksX n.start ≥ 0) && decide (ticksX n.len > 0)) && decide (ticksX n.start + ticksX n.len ≤ ticksX (bars.getD (barAt bars n.bar).toNat default).len))
theorem ticksX_in (r : Rat) : -1 ≤ ticksX r ∧ ticksX r ≤ 1680000000000 := by
 have := ticksR_in r
 unfold ticksX
 unfold ticksR at this
 split
 · rename_i h; rw [if_pos h] at this; dsimp only at this; omega
 · omega
theorem barAt_in (bars : List Bar) (id : Int) : -1 ≤ barAt bars id ∧ barAt bars id < bars.length := by
 rcases (show barAt bars id < 0 ∨ 0 ≤ barAt bars id by omega) with h | h
 · have := findI_neg.1 h
   unfold barAt at *; omega
 · obtain ⟨k, h1, h2, _⟩ := findI_lt h
   unfold barAt at *; omega
theorem r7note_spec (bars : List Bar) (n : Note) (hb : bars.length ≤ 9223372036854775807) : PCall Tryz.prog 169 [.sl 4 (bars.map encB) .no, .agg (encN n)] (.b (noteX bars n)) := by
 have h1 := r7bar_spec bars n.bar hb
 have h2 := r2isNote_spec n.pitch
 have h3 := ticks6_spec n.start
 have h4 := ticks6_spec n.len
 have h5 := ticks6_spec (bars.getD (barAt bars n.bar).toNat default).len
 have q1 := ticksX_in n.start
 have q2 := ticksX_in n.len
 have q3 := barAt_in bars n.bar
 refine PCall.body Tryz.func169 rfl rfl Tryz.ntmps169 rfl rfl ?_
 repeat' (first | refine aoQ rfl rfl rfl (fun hg => by first | exact std0 | exact pcW (h1) rfl rfl nd rfl nds | exact pcW (h2) rfl rfl nd rfl nds | exact pcW (r7in_spec _ _ _) rfl rfl nd rfl nds | exact std1) (by exact rfl) ?_ | refine sqW ?_ | refine rgK (fun K' hK => ?_) | (refine aoN (hK _ _ ?_); clear hK K') | refine aoE (bxW rfl rfl rfl rfl rfl tI rfl rfl ?_) | refine cdN rfl tI (fun hc => ?_) (fun hc => ?_) | refine skW ?_ | refine rtW ?_)
 · refine ⟨.inr rfl, Ent.b (Eq.symm ?_)⟩
   unfold noteX; rw [hc]; rfl
 · have hx : 0 ≤ barAt bars n.bar := by
    simp only [zAh, dEf] at hc; omega
   repeat' (first | refine aoQ rfl rfl rfl (fun hg => by first | exact std0 | exact pcW (h3) rfl rfl nd rfl nds | exact pcW (h4) rfl rfl nd rfl nds | exact pcW (h5) rfl rfl nd rfl nds | exact piW tabOk rfl rfl nd rfl nd rfl rfl ⟨hx, q3.2⟩ | exact std1) (by exact rfl) ?_ | refine sqW ?_ | refine rgK (fun K' hK => ?_) | (refine aoN (hK _ _ ?_); clear hK K') | refine rtW ?_)
   refine ⟨.inr rfl, Ent.b (Eq.symm ?_)⟩
   unfold noteX; rw [hc]; rfl
theorem noteX_ok {bars : List Bar} (hb : barsOk bars = true) (n : Note) : noteX bars n = noteOk bars n := by
 have hd : ∀ r : Rat, ((ticksR r).2 = true ∧ ticksX r = (ticksR r).1 ∧ 0 ≤ ticksX r) ∨ ((ticksR r).2 = false ∧ ticksX r = -1 ∧ (ticksR r).1 = 0) := fun r => by
  have := ticksR_in r
  unfold ticksR ticksX at *
  by_cases h : durOk r = true
  · left; rw [if_pos h, if_pos h] at *; exact ⟨rfl, rfl, this.1⟩
  · right; rw [if_neg h, if_neg h]; exact ⟨rfl, rfl, rfl⟩
 unfold noteX noteOk
 rcases lk_bar (barsOk_nodup hb) n.bar with ⟨h1, h2⟩ | ⟨j, h1, h2, h3, h4⟩
 · rw [h1, h2]; simp
 · rw [h1, h2]
   have hlen : (ticksR (bars.getD j default).len).2 = true := by
    have h5 : barOk (bars.getD j default) = true := by
     unfold barsOk at hb; simp only [zA0, zA8] at hb
     exact hb.1.1.1 _ (by rw [getD_lt h3]; exact lGm h3)
    unfold barOk barC at h5
    unfold ticksR
    by_cases h : durOk (bars.getD j default).len = true
    · rw [if_pos h]
    · exfalso
      have : durOk (bars.getD j default).len = false := by simpa using h
      rw [this] at h5; simp at h5
   simp only [zAj]
   have e1 : decide ((j : Int) < 0) = false := by simp
   rw [e1]
   unfold nformed fits noteForm
   rcases hd (bars.getD j default).len with ⟨a1, a2, a3⟩ | ⟨a1, a2, a3⟩
   · simp only [a2]
     have key : (decide (ticksX n.start ≥ 0) && decide (ticksX n.len > 0) && decide (ticksX n.start + ticksX n.len ≤ (ticksR (bars.getD j default).len).1)) =
      ((ticksR n.start).2 && (ticksR n.len).2 && decide ((ticksR n.len).1 > 0) && decide ((ticksR n.start).1 + (ticksR n.len).1 ≤ (ticksR (bars.getD j default).len).1)) := by
      rcases hd n.start with ⟨b1, b2, b3⟩ | ⟨b1, b2, b3⟩ <;> rcases hd n.len with ⟨c1, c2, c3⟩ | ⟨c1, c2, c3⟩ <;> simp only [b1, c1, b2, c2]
      · rw [b2] at b3; rw [decide_eq_true (show (ticksR n.start).1 ≥ 0 from b3)]; rfl
      · simp
      · simp
      · simp
     rw [key]
     generalize noteP n.pitch = z1
     generalize inB n.id 1 1000000 = z2
     generalize inB n.part 1 1000000 = z3
     generalize inB n.voice 0 9 = z4
     generalize inB n.ossia 0 20 = z5
     generalize ((ticksR n.start).2 && (ticksR n.len).2 && decide ((ticksR n.len).1 > 0) && decide ((ticksR n.start).1 + (ticksR n.len).1 ≤ (ticksR (bars.getD j default).len).1)) = z6
     revert z1 z2 z3 z4 z5 z6; decide
   · rw [hlen] at a1; cases a1
theorem r7valid_spec (bars : List Bar) (l : List Note) (hb : bars.length ≤ 9223372036854775807) (hl : l.length ≤ 9223372036854775807) :
 PCall Tryz.prog 135 [.sl 4 (bars.map encB) .no, .sl 12 (l.map encN) .no] (.b (notesOk bars l)) := by
 have v := r6valid_spec bars hb
 refine PCall.body Tryz.func135 rfl rfl Tryz.ntmps135 rfl rfl ?_
 repeat' (first | refine aoQ rfl rfl rfl (fun hg => by first | exact std0 | exact pcW (v) rfl rfl nd rfl nds | exact std1) (by exact rfl) ?_ | refine sqW ?_ | refine rgK (fun K' hK => ?_) | (refine aoN (hK _ _ ?_); clear hK K') | refine cdN rfl tI (fun hc => ?_) (fun hc => ?_) | refine blK ?_ | refine skW ?_ | refine rtW ?_)
 · refine ⟨.inr rfl, Ent.b (Eq.symm ?_)⟩
   unfold notesOk
   cases h : barsOk bars with
   | false => simp
   | true =>
     rw [h] at hc; simp at hc
     have : decide ((l.length : Int) ≤ 20000) = false := by simp; omega
     rw [this]; simp
 have h1 : barsOk bars = true ∧ (l.length : Int) ≤ 20000 := by
  simp only [zAh, zAp, dEf] at hc
  exact ⟨hc.1, by omega⟩
 clear hc
 refine lpW (ι := Nat) (fun k => [(0, .sl 4 (bars.map encB) .no), (1, .sl 12 (l.map encN) .no), (6, .int k)]) (fun _ => []) (fun k => k ≤ l.length ∧ (∀ j, j < k → noteOk bars (l.getD j default) = true) ∧ ((l.take k).map (·.id)).Nodup) (fun k => l.length - k) 0 ⟨nZl _, fun j h => absurd h (by omega), by simp⟩ ⟨rfl, rfl, rfl, tI⟩ rfl ?_
 rintro k ⟨hk, hall, hnd⟩
 by_cases hlt : k < l.length
 · have ht := r7note_spec bars (l.getD k default) hb
   have he := noteX_ok h1.1 (l.getD k default)
   repeat' (first | refine aoQ rfl rfl rfl (fun hg => by first | exact std0 | exact pcW (ht) rfl rfl nd rfl nds | exact std1) (by exact rfl) ?_ | refine sqW ?_ | refine rgK (fun K' hK => ?_) | (refine aoN (hK _ _ ?_); clear hK K') | refine cdN rfl tI (fun hc => ?_) (fun hc => ?_) | refine blK ?_ | refine exW ?_ | refine skW ?_ | refine rtW ?_)
   · refine ⟨.inr rfl, Ent.b (Eq.symm (notesOk_bad hlt ?_))⟩
     rw [← he]; simpa using hc
   · have hbo : noteOk bars (l.getD k default) = true := by rw [← he]; simpa using hc
     clear hc he ht
     refine lpW (ι := Nat) (fun j => [(0, .sl 4 (bars.map encB) .no), (1, .sl 12 (l.map encN) .no), (6, .int k), (8, .int j)]) (fun _ => []) (fun j => j ≤ k ∧ ∀ i, i < j → (l.getD i default).id ≠ (l.getD k default).id) (fun j => k - j) 0 ⟨nZl _, fun j h => absurd h (by omega)⟩ ⟨rfl, rfl, rfl, rfl, tI⟩ rfl ?_
     rintro j ⟨hj, hne⟩
     by_cases hjk : j < k
     · repeat' (first | refine aoQ rfl rfl rfl (fun hg => by exact std0) (by exact rfl) ?_ | refine sqW ?_ | refine rgK (fun K' hK => ?_) | (refine aoN (hK _ _ ?_); clear hK K') | refine cdN rfl tI (fun hc => ?_) (fun hc => ?_) | refine blK ?_ | refine exW ?_ | refine skW ?_ | refine rtW ?_ | refine dK2 (by decide +kernel) (by kernel_rfl) (by decide +kernel) rfl (fun K' hK => ?_) | (refine aqN (hK _ ?_); clear hK K') | refine aqQ rfl rfl (fun hg => by first | exact std0 | exact std1) (by exact rfl) ?_)
       · refine ⟨.inr rfl, Ent.b (Eq.symm (notesOk_dup hlt ((mem_take (fun b : Note => b.id) hk).2 ⟨j, hjk, ?_⟩)))⟩
         simpa using hc
       · exact ⟨j + 1, ⟨by omega, fun i hi => lt_succ_cases hne (by simpa using hc) hi⟩, by omega, ⟨rfl, rfl, rfl, rfl, tI⟩, rfl⟩
       · exfalso; omega
     · repeat' (first | refine aoQ rfl rfl rfl (fun hg => by exact std0) (by exact rfl) ?_ | refine sqW ?_ | refine rgK (fun K' hK => ?_) | (refine aoN (hK _ _ ?_); clear hK K') | refine cdN rfl tI (fun hc => ?_) (fun hc => ?_) | refine blK ?_ | refine exW ?_ | refine skW ?_ | refine rtW ?_ | refine dK2 (by decide +kernel) (by kernel_rfl) (by decide +kernel) rfl (fun K' hK => ?_) | (refine aqN (hK _ ?_); clear hK K') | refine aqQ rfl rfl (fun hg => by first | exact std0 | exact std1) (by exact rfl) ?_)
       all_goals (first | (exfalso; omega) | skip)
       · refine ⟨k + 1, ⟨by omega, fun i hi => lt_succ_cases hall hbo hi, (nodup_succ _ l k hlt).2 ⟨hnd, fun hm => ?_⟩⟩, by omega, ⟨rfl, rfl, rfl, tI⟩, rfl⟩
         obtain ⟨i, hi, e⟩ := (mem_take (fun b : Note => b.id) hk).1 hm
         exact hne i (by omega) e
   · exfalso; omega
 · repeat' (first | refine aoQ rfl rfl rfl (fun hg => by first | exact std0 | exact std1) (by exact rfl) ?_ | refine sqW ?_ | refine rgK (fun K' hK => ?_) | (refine aoN (hK _ _ ?_); clear hK K') | refine cdN rfl tI (fun hc => ?_) (fun hc => ?_) | refine blK ?_ | refine exW ?_ | refine skW ?_ | refine rtW ?_)
   all_goals (first | (exfalso; omega) | skip)
   refine ⟨.inr rfl, Ent.b ?_⟩
   have htk : l.take k = l := zAu (by omega)
   rw [htk] at hnd
   unfold notesOk
   rw [all_yes fun j hj => hall j (by omega), decide_eq_true hnd, h1.1, decide_eq_true h1.2]; rfl
theorem getD_mem {α : Type} [Inhabited α] {l : List α} {k : Nat} (h : k < l.length) : l.getD k default ∈ l := by
 rw [show l.getD k default = l[k] by simp [List.getD, h]]; exact lGm h
theorem idxPart_spec (l : List Part) (fv : AV) (p : Part → Bool) (hp : ∀ x ∈ l, FnCall Tryz.prog fv [.agg (encP x)] (.b (p x))) (hl : l.length ≤ 9223372036854775807) :
 PCall Tryz.prog 145 [.sl 13 (l.map encP) .no, fv] (.int (findI p l)) := by
 refine PCall.bodyX [1] Tryz.func145 rfl rfl Tryz.ntmps145 rfl rfl ?_
 repeat' (first | refine aoQ rfl rfl rfl (fun hg => by first | exact std0 | exact std1) (by exact rfl) ?_ | refine sqW ?_ | refine rgK (fun K' hK => ?_) | (refine aoN (hK _ _ ?_); clear hK K') | refine blK ?_)
 refine lpW (ι := Nat) (fun k => [(0, .sl 13 (l.map encP) .no), (1, .ext fv), (7, .int l.length), (8, .int k)]) (fun _ => []) (fun k => k ≤ l.length ∧ ∀ j, j < k → p (l.getD j default) = false) (fun k => l.length - k) 0 ⟨nZl _, fun j h => absurd h (by omega)⟩ ⟨rfl, rfl, rfl, rfl, tI⟩ rfl ?_
 rintro k ⟨hk, hall⟩
 by_cases hlt : k < l.length
 · repeat' (first | refine aoQ rfl rfl rfl (fun hg => by first | exact std0 | exact PRun.callV (hp _ (getD_mem hlt)) rfl rfl nd rfl nds | exact std1) (by exact rfl) ?_ | refine sqW ?_ | refine rgK (fun K' hK => ?_) | (refine aoN (hK _ _ ?_); clear hK K') | refine cdN rfl tI (fun hc => ?_) (fun hc => ?_) | refine blK ?_ | refine exW ?_ | refine skW ?_ | refine rtW ?_)
   · refine ⟨.inr rfl, ?_⟩
     rw [show findI p l = k from findI_at hlt hc hall]
     exact fun _ _ h => h
   · exact ⟨k + 1, ⟨by omega, fun j hj => lt_succ_cases hall hc hj⟩, by omega, ⟨rfl, rfl, rfl, rfl, tI⟩, rfl⟩
   · exfalso; omega
 · repeat' (first | refine aoQ rfl rfl rfl (fun hg => by first | exact std0 | exact std1) (by exact rfl) ?_ | refine sqW ?_ | refine rgK (fun K' hK => ?_) | (refine aoN (hK _ _ ?_); clear hK K') | refine cdN rfl tI (fun hc => ?_) (fun hc => ?_) | refine blK ?_ | refine exW ?_ | refine skW ?_ | refine rtW ?_)
   · exfalso; omega
   · refine ⟨.inr rfl, ?_⟩
     rw [show findI p l = -1 from findI_no fun j hj => hall j (by omega)]
     exact fun _ _ h => h
theorem idxNote_spec (l : List Note) (fv : AV) (p : Note → Bool) (hp : ∀ x ∈ l, FnCall Tryz.prog fv [.agg (encN x)] (.b (p x))) (hl : l.length ≤ 9223372036854775807) :
 PCall Tryz.prog 157 [.sl 12 (l.map encN) .no, fv] (.int (findI p l)) := by
 refine PCall.bodyX [1] Tryz.func157 rfl rfl Tryz.ntmps157 rfl rfl ?_
 repeat' (first | refine aoQ rfl rfl rfl (fun hg => by first | exact std0 | exact std1) (by exact rfl) ?_ | refine sqW ?_ | refine rgK (fun K' hK => ?_) | (refine aoN (hK _ _ ?_); clear hK K') | refine blK ?_)
 refine lpW (ι := Nat) (fun k => [(0, .sl 12 (l.map encN) .no), (1, .ext fv), (7, .int l.length), (8, .int k)]) (fun _ => []) (fun k => k ≤ l.length ∧ ∀ j, j < k → p (l.getD j default) = false) (fun k => l.length - k) 0 ⟨nZl _, fun j h => absurd h (by omega)⟩ ⟨rfl, rfl, rfl, rfl, tI⟩ rfl ?_
 rintro k ⟨hk, hall⟩
 by_cases hlt : k < l.length
 · repeat' (first | refine aoQ rfl rfl rfl (fun hg => by first | exact std0 | exact PRun.callV (hp _ (getD_mem hlt)) rfl rfl nd rfl nds | exact std1) (by exact rfl) ?_ | refine sqW ?_ | refine rgK (fun K' hK => ?_) | (refine aoN (hK _ _ ?_); clear hK K') | refine cdN rfl tI (fun hc => ?_) (fun hc => ?_) | refine blK ?_ | refine exW ?_ | refine skW ?_ | refine rtW ?_)
   · refine ⟨.inr rfl, ?_⟩
     rw [show findI p l = k from findI_at hlt hc hall]
     exact fun _ _ h => h
   · exact ⟨k + 1, ⟨by omega, fun j hj => lt_succ_cases hall hc hj⟩, by omega, ⟨rfl, rfl, rfl, rfl, tI⟩, rfl⟩
   · exfalso; omega
 · repeat' (first | refine aoQ rfl rfl rfl (fun hg => by first | exact std0 | exact std1) (by exact rfl) ?_ | refine sqW ?_ | refine rgK (fun K' hK => ?_) | (refine aoN (hK _ _ ?_); clear hK K') | refine cdN rfl tI (fun hc => ?_) (fun hc => ?_) | refine blK ?_ | refine exW ?_ | refine skW ?_ | refine rtW ?_)
   · exfalso; omega
   · refine ⟨.inr rfl, ?_⟩
     rw [show findI p l = -1 from findI_no fun j hj => hall j (by omega)]
     exact fun _ _ h => h
theorem contPart_spec (l : List Part) (fv : AV) (p : Part → Bool) (hp : ∀ x ∈ l, FnCall Tryz.prog fv [.agg (encP x)] (.b (p x))) (hl : l.length ≤ 9223372036854775807) :
 PCall Tryz.prog 113 [.sl 13 (l.map encP) .no, fv] (.b (decide (findI p l ≥ 0))) := by
 refine PCall.bodyX [1] Tryz.func113 rfl rfl Tryz.ntmps113 rfl rfl ?_
 repeat' (first | refine aoQ rfl rfl rfl (fun hg => by first | exact std0 | exact pcW (idxPart_spec l fv p hp hl) rfl rfl nd rfl nds | exact std1) (by exact rfl) ?_ | refine sqW ?_ | refine rgK (fun K' hK => ?_) | (refine aoN (hK _ _ ?_); clear hK K') | refine rtW ?_)
 exact ⟨.inr rfl, fun _ _ h => h⟩
theorem contNote_spec (l : List Note) (fv : AV) (p : Note → Bool) (hp : ∀ x ∈ l, FnCall Tryz.prog fv [.agg (encN x)] (.b (p x))) (hl : l.length ≤ 9223372036854775807) :
 PCall Tryz.prog 119 [.sl 12 (l.map encN) .no, fv] (.b (decide (findI p l ≥ 0))) := by
 refine PCall.bodyX [1] Tryz.func119 rfl rfl Tryz.ntmps119 rfl rfl ?_
 repeat' (first | refine aoQ rfl rfl rfl (fun hg => by first | exact std0 | exact pcW (idxNote_spec l fv p hp hl) rfl rfl nd rfl nds | exact std1) (by exact rfl) ?_ | refine sqW ?_ | refine rgK (fun K' hK => ?_) | (refine aoN (hK _ _ ?_); clear hK K') | refine rtW ?_)
 exact ⟨.inr rfl, fun _ _ h => h⟩
def idxR (i : Int) : Int × Bool := (max i 0, decide (i ≥ 0))
theorem indexPart1_spec (x : Part) (id : Int) : PCall Tryz.prog 146 [.agg (encP x), .iptr [(.fn (.func 98) [] [])], .iptr [.int id]] (.b (x.id == id)) := by
 refine PCall.body Tryz.func146 rfl rfl Tryz.ntmps146 rfl rfl ?_
 repeat' (first | refine aoQ rfl rfl rfl (fun hg => by exact std0) (by exact rfl) ?_ | refine sqW ?_ | refine rgK (fun K' hK => ?_) | (refine aoN (hK _ _ ?_); clear hK K') | refine aoE (bxW rfl rfl rfl rfl rfl tI rfl rfl ?_) | refine rtW ?_ | refine dK2 (by decide +kernel) (by kernel_rfl) (by decide +kernel) rfl (fun K' hK => ?_) | (refine aqN (hK _ ?_); clear hK K') | refine aqQ rfl rfl (fun hg => by first | exact std0 | exact pcW (partID_spec x) rfl rfl nd rfl nds) (by exact rfl) ?_)
 exact ⟨.inr rfl, Ent.b rfl⟩
theorem indexPart_spec (l : List Part) (id : Int) (hl : l.length ≤ 9223372036854775807) : PCall Tryz.prog 97 [.sl 13 (l.map encP) .no, .int id, (.fn (.func 98) [] [])]
 (.tup [.int (idxR (findI (fun x : Part => x.id == id) l)).1, .b (idxR (findI (fun x : Part => x.id == id) l)).2]) := by
 have hf : ∀ x : Part, FnCall Tryz.prog (.fn (.func 146) [] [.iptr [(.fn (.func 98) [] [])], .iptr [.int id]]) [.agg (encP x)] (.b (x.id == id)) := fun x => ⟨_, [], _, rfl, indexPart1_spec x id⟩
 have h := idxPart_spec l _ (fun x : Part => x.id == id) (fun x _ => hf x) hl
 refine PCall.body Tryz.func97 rfl rfl Tryz.ntmps97 rfl rfl ?_
 repeat' (first | refine aoQ rfl rfl rfl (fun hg => by first | exact std0 | exact pbW (h) rfl rfl nd rfl rfl nds) (by exact rfl) ?_ | refine sqW ?_ | refine rgK (fun K' hK => ?_) | (refine aoN (hK _ _ ?_); clear hK K') | refine aoE (bxW rfl rfl rfl rfl rfl tI rfl rfl ?_) | refine rtW ?_)
 exact ⟨.inr rfl, Ent.t2 rfl rfl⟩
abbrev evP (p : Part) : AV := .agg (encP p)
def lost (al : List (Int × Part)) (p : Part) : Bool := p.of_ != 0 && (!(lk al p.of_).isSome || ((lk al p.of_).getD default).of_ != 0)
theorem lost_spec (al : List (Int × Part)) (x : Part) : PCall Tryz.prog 112 [.agg (encP x), .iptr [.imap (encM ekI evP al)]] (.b (lost al x)) := by
 refine PCall.body Tryz.func112 rfl rfl Tryz.ntmps112 rfl rfl ?_
 repeat' (first | refine aoQ rfl rfl rfl (fun hg => by first | exact std0 | exact PRun.lookup (ek := ekI) (ev := evP) (zv := (default : Part)) (keyLaw_int (LOk.of (tabOk.get rfl))) (LOk.of (tabOk.get rfl)) (LOk.of (tabOk.get rfl)) rfl rfl (Rd.w rfl nd) (Or.inl rfl) (Rd.w rfl nd) rfl | exact std1) (by exact rfl) ?_ | refine sqW ?_ | refine rgK (fun K' hK => ?_) | (refine aoN (hK _ _ ?_); clear hK K') | refine aoE (bxW rfl rfl rfl rfl rfl tI rfl rfl ?_) | refine aoE (stW tabOk rfl rfl rfl tI rfl rfl tI rfl rfl rfl rfl rfl rfl rfl ?_) | refine aoE (alW tabOk rfl rfl rfl rfl rfl rfl ?_) | refine rtW ?_)
 exact ⟨.inr rfl, Ent.b rfl⟩
def partsAL (l : List Part) : List (Int × Part) := l.foldl (fun al p => ins al p.id p) []
theorem partsAL_succ (l : List Part) (k : Nat) (h : k < l.length) : partsAL (l.take (k + 1)) = ins (partsAL (l.take k)) (l.getD k default).id (l.getD k default) := by
 have e : l.take (k + 1) = l.take k ++ [l.getD k default] := by
  rw [zBt, show l[k]? = some (l.getD k default) by simp [List.getD, h]]; rfl
 rw [e]; unfold partsAL; rw [zC7]; rfl
def partsOk (l : List Part) : Bool := inB l.length 1 60 && l.all partOk && (((partsAL l).length : Int) == (l.length : Int) && !decide (findI (lost (partsAL l)) l ≥ 0))
theorem areParts_spec (l : List Part) (hl : l.length ≤ 9223372036854775807) : PCall Tryz.prog 74 [.sl 13 (l.map encP) .no] (.b (partsOk l)) := by
 have hf : ∀ x : Part, FnCall Tryz.prog (.fn (.func 112) [] [.iptr [.imap (encM ekI evP (partsAL l))]]) [.agg (encP x)] (.b (lost (partsAL l) x)) := fun x => ⟨_, [], _, rfl, lost_spec (partsAL l) x⟩
 have h := contPart_spec l _ (lost (partsAL l)) (fun x _ => hf x) hl
 refine PCall.body Tryz.func74 rfl rfl Tryz.ntmps74 rfl rfl ?_
 repeat' (first | refine aoQ rfl rfl rfl (fun hg => by first | exact std0 | exact pcW (swithin_spec _ _ _) rfl rfl nd rfl nds | exact std1) (by exact rfl) ?_ | refine sqW ?_ | refine rgK (fun K' hK => ?_) | (refine aoN (hK _ _ ?_); clear hK K') | refine aoE (stW tabOk rfl rfl rfl tI rfl rfl tI rfl rfl rfl rfl rfl rfl rfl ?_) | refine aoE (alW tabOk rfl rfl rfl rfl rfl rfl ?_) | refine aoE (EStep.makeMapW rfl rfl rfl rfl ?_) | refine cdN rfl tI (fun hc => ?_) (fun hc => ?_) | refine blK ?_ | refine skW ?_ | refine rtW ?_)
 · refine ⟨.inr rfl, Ent.b (Eq.symm ?_)⟩
   unfold partsOk
   rw [show inB (l.length : Int) 1 60 = false by simpa using hc]; rfl
 have h0 : inB (l.length : Int) 1 60 = true := by simpa using hc
 clear hc
 refine lpD (ι := Nat) (fun k => [(0, .sl 13 (l.map encP) .no), (3, .ptr 1 0), (12, .sl 13 (l.map encP) .no), (13, .int l.length), (14, .int k)]) (fun k => [.map (encM ekI evP (partsAL (l.take k))), .var [.map 0]])
  (fun k => k ≤ l.length ∧ ∀ j, j < k → partOk (l.getD j default) = true) (fun k => l.length - k) 2 (fun _ => rfl) 0 ⟨nZl _, fun j h => absurd h (by omega)⟩ ⟨rfl, rfl, rfl, rfl, rfl, tI⟩ rfl (fun _ _ => rfl) (fun k _ => by simp [okObj, encM, okRef, encP]) ?_
 rintro k ⟨hk, hall⟩
 by_cases hlt : k < l.length
 · repeat' (first | refine aoQ rfl rfl rfl (fun hg => by first | exact std0 | exact pcW (isPart_spec (l.getD k default)) rfl rfl nd rfl nds | exact std1) (by exact rfl) ?_ | refine sqW ?_ | refine rgK (fun K' hK => ?_) | (refine aoN (hK _ _ ?_); clear hK K') | refine aoE (stW tabOk rfl rfl rfl tI rfl rfl tI rfl rfl rfl rfl rfl rfl rfl ?_) | refine aoE (alW tabOk rfl rfl rfl rfl rfl rfl ?_) | refine aoE (EStep.mapUpd (ek := ekI) (ev := evP) (v := l.getD k default) (keyLaw_int (LOk.of (tabOk.get rfl))) (LOk.of (tabOk.get rfl)) rfl rfl rfl (Rd.w rfl tI) rfl (Rd.w rfl tI) rfl (Rd.w rfl tI) ?_) | refine cdN rfl tI (fun hc => ?_) (fun hc => ?_) | refine blK ?_ | refine exW ?_ | refine skW ?_ | refine rtW ?_)
   · refine ⟨.inr rfl, Ent.b (Eq.symm ?_)⟩
     unfold partsOk
     rw [h0, all_no hlt (by simpa using hc)]; rfl
   · refine ⟨k + 1, ⟨by omega, fun j hj => lt_succ_cases hall (by simpa using hc) hj⟩, by omega, ⟨rfl, rfl, rfl, rfl, rfl, tI⟩, ?_⟩
     rw [partsAL_succ l k hlt]; rfl
   · exfalso; omega
 · have htk : l.take k = l := zAu (by omega)
   have e : partsAL l = partsAL (l.take k) := by rw [htk]
   rw [e] at h
   refine AWP.freezeMapV (ek := ekI) (ev := evP) (l := 0) (al := partsAL (l.take k)) rfl (pureE_flat fun _ => rfl) ?_
   refine AWP.keep [(0, .sl 13 (l.map encP) .no), (3, .ptr 1 0), (12, .sl 13 (l.map encP) .no), (13, .int l.length), (14, .int k)] ⟨rfl, rfl, rfl, rfl, rfl, tI⟩ ?_
   repeat' (first | refine aoQ rfl rfl rfl (fun hg => by first | exact std0 | exact pbW (h) rfl rfl nd rfl rfl nds | exact PRun.lenMap (ek := ekI) (ev := evP) (al := partsAL (l.take k)) rfl (Rd.w rfl nd) (Or.inl rfl) (LOk.of (tabOk.get rfl)) | exact std1) (by exact rfl) ?_ | refine sqW ?_ | refine rgK (fun K' hK => ?_) | (refine aoN (hK _ _ ?_); clear hK K') | refine aoE (stW tabOk rfl rfl rfl tI rfl rfl tI rfl rfl rfl rfl rfl rfl rfl ?_) | refine aoE (alW tabOk rfl rfl rfl rfl rfl rfl ?_) | refine cdN rfl tI (fun hc => ?_) (fun hc => ?_) | refine blK ?_ | refine exW ?_ | refine skW ?_ | refine rtW ?_)
   · exfalso; omega
   all_goals (first | (exfalso; omega) | skip)
   refine ⟨.inr rfl, Ent.b (Eq.symm ?_)⟩
   unfold partsOk
   rw [h0, all_yes fun j hj => hall j (by omega), e]; rfl
def stranger (al : List (Int × Part)) (n : Note) : Bool := !(lk al n.part).isSome
def farN (al : List (Int × Part)) (n : Note) : Bool := !inB (numR2 n.pitch).1 (numR2 ((lk al n.part).getD default).low).1 (numR2 ((lk al n.part).getD default).high).1
theorem stranger_spec (al : List (Int × Part)) (x : Note) : PCall Tryz.prog 116 [.agg (encN x), .iptr [.imap (encM ekI evP al)]] (.b (stranger al x)) := by
 refine PCall.body Tryz.func116 rfl rfl Tryz.ntmps116 rfl rfl ?_
 repeat' (first | refine aoQ rfl rfl rfl (fun hg => by first | exact std0 | exact PRun.lookup (ek := ekI) (ev := evP) (zv := (default : Part)) (keyLaw_int (LOk.of (tabOk.get rfl))) (LOk.of (tabOk.get rfl)) (LOk.of (tabOk.get rfl)) rfl rfl (Rd.w rfl nd) (Or.inl rfl) (Rd.w rfl nd) rfl | exact std1) (by exact rfl) ?_ | refine sqW ?_ | refine rgK (fun K' hK => ?_) | (refine aoN (hK _ _ ?_); clear hK K') | refine aoE (bxW rfl rfl rfl rfl rfl tI rfl rfl ?_) | refine aoE (stW tabOk rfl rfl rfl tI rfl rfl tI rfl rfl rfl rfl rfl rfl rfl ?_) | refine aoE (alW tabOk rfl rfl rfl rfl rfl rfl ?_) | refine rtW ?_)
 exact ⟨.inr rfl, Ent.b rfl⟩
theorem farN_spec (al : List (Int × Part)) (x : Note) : PCall Tryz.prog 117 [.agg (encN x), .iptr [.imap (encM ekI evP al)]] (.b (farN al x)) := by
 refine PCall.body Tryz.func117 rfl rfl Tryz.ntmps117 rfl rfl ?_
 repeat' (first | refine aoQ rfl rfl rfl (fun hg => by first | exact std0 | exact PRun.lookup (ek := ekI) (ev := evP) (zv := (default : Part)) (keyLaw_int (LOk.of (tabOk.get rfl))) (LOk.of (tabOk.get rfl)) (LOk.of (tabOk.get rfl)) rfl rfl (Rd.w rfl nd) (Or.inl rfl) (Rd.w rfl nd) rfl | exact std1) (by exact rfl) ?_ | refine sqW ?_ | refine rgK (fun K' hK => ?_) | (refine aoN (hK _ _ ?_); clear hK K') | refine aoE (bxW rfl rfl rfl rfl rfl tI rfl rfl ?_) | refine aoE (stW tabOk rfl rfl rfl tI rfl rfl tI rfl rfl rfl rfl rfl rfl rfl ?_) | refine aoE (alW tabOk rfl rfl rfl rfl rfl rfl ?_) | refine rtW ?_ | refine dK2 (by decide +kernel) (by kernel_rfl) (by decide +kernel) rfl (fun K' hK => ?_) | (refine aqN (hK _ ?_); clear hK K') | refine aqQ rfl rfl (fun hg => by first | exact std0 | exact pcW (height_spec x.pitch) rfl rfl nd rfl nds | exact pcW (height_spec ((lk al x.part).getD default).low) rfl rfl nd rfl nds | exact pcW (height_spec ((lk al x.part).getD default).high) rfl rfl nd rfl nds | exact pcW (swithin_spec _ _ _) rfl rfl nd rfl nds | exact std1) (by exact rfl) ?_)
 exact ⟨.inr rfl, Ent.b rfl⟩
def ownAL (l : List Part) : List (Int × Part) := partsAL (l.filter fun p => p.of_ == 0)
theorem ownAL_succ (l : List Part) (k : Nat) (h : k < l.length) : ownAL (l.take (k + 1)) = if (l.getD k default).of_ == 0 then ins (ownAL (l.take k)) (l.getD k default).id (l.getD k default) else ownAL (l.take k) := by
 have e : l.take (k + 1) = l.take k ++ [l.getD k default] := by
  rw [zBt, show l[k]? = some (l.getD k default) by simp [List.getD, h]]; rfl
 unfold ownAL
 rw [e, zBa]
 by_cases h2 : ((l.getD k default).of_ == 0) = true
 · rw [if_pos h2, zB3 (p := fun p : Part => p.of_ == 0) h2]
   unfold partsAL; rw [zC0, zC7]; rfl
 · rw [if_neg h2, zB8 (p := fun p : Part => p.of_ == 0) h2, zC0, zBh]
def wrongR (parts : List Part) (l : List Note) : Int := if findI (stranger (ownAL parts)) l ≥ 0 then 22 else if findI (farN (ownAL parts)) l ≥ 0 then 20 else 0
theorem wrong_spec (parts : List Part) (l : List Note) (hp : parts.length ≤ 9223372036854775807) (hl : l.length ≤ 9223372036854775807) : PCall Tryz.prog 76 [.sl 13 (parts.map encP) .no, .sl 12 (l.map encN) .no] (.int (wrongR parts l)) := by
 have hf1 : ∀ x : Note, FnCall Tryz.prog (.fn (.func 116) [] [.iptr [.imap (encM ekI evP (ownAL parts))]]) [.agg (encN x)] (.b (stranger (ownAL parts) x)) := fun x => ⟨_, [], _, rfl, stranger_spec (ownAL parts) x⟩
 have hf2 : ∀ x : Note, FnCall Tryz.prog (.fn (.func 117) [] [.iptr [.imap (encM ekI evP (ownAL parts))]]) [.agg (encN x)] (.b (farN (ownAL parts) x)) := fun x => ⟨_, [], _, rfl, farN_spec (ownAL parts) x⟩
 have h1 := contNote_spec l _ (stranger (ownAL parts)) (fun x _ => hf1 x) hl
 have h2 := contNote_spec l _ (farN (ownAL parts)) (fun x _ => hf2 x) hl
 refine PCall.body Tryz.func76 rfl rfl Tryz.ntmps76 rfl rfl ?_
 repeat' (first | refine aoQ rfl rfl rfl (fun hg => by first | exact std0 | exact std1) (by exact rfl) ?_ | refine sqW ?_ | refine rgK (fun K' hK => ?_) | (refine aoN (hK _ _ ?_); clear hK K') | refine aoE (stW tabOk rfl rfl rfl tI rfl rfl tI rfl rfl rfl rfl rfl rfl rfl ?_) | refine aoE (alW tabOk rfl rfl rfl rfl rfl rfl ?_) | refine aoE (EStep.makeMapW rfl rfl rfl rfl ?_) | refine blK ?_)
 refine lpD (ι := Nat) (fun k => [(1, .sl 12 (l.map encN) .no), (5, .ptr 1 0), (11, .sl 13 (parts.map encP) .no), (12, .int parts.length), (13, .int k)]) (fun k => [.map (encM ekI evP (ownAL (parts.take k))), .var [.map 0]])
  (fun k => k ≤ parts.length) (fun k => parts.length - k) 2 (fun _ => rfl) 0 (nZl _) ⟨rfl, rfl, rfl, rfl, rfl, tI⟩ rfl (fun _ _ => rfl) (fun k _ => by simp [okObj, encM, okRef, encP]) ?_
 intro k hk
 by_cases hlt : k < parts.length
 · repeat' (first | refine aoQ rfl rfl rfl (fun hg => by first | exact std0 | exact std1) (by exact rfl) ?_ | refine sqW ?_ | refine rgK (fun K' hK => ?_) | (refine aoN (hK _ _ ?_); clear hK K') | refine aoE (stW tabOk rfl rfl rfl tI rfl rfl tI rfl rfl rfl rfl rfl rfl rfl ?_) | refine aoE (alW tabOk rfl rfl rfl rfl rfl rfl ?_) | refine aoE (EStep.mapUpd (ek := ekI) (ev := evP) (v := parts.getD k default) (keyLaw_int (LOk.of (tabOk.get rfl))) (LOk.of (tabOk.get rfl)) rfl rfl rfl (Rd.w rfl tI) rfl (Rd.w rfl tI) rfl (Rd.w rfl tI) ?_) | refine cdN rfl tI (fun hc => ?_) (fun hc => ?_) | refine blK ?_ | refine exW ?_ | refine skW ?_)
   · refine ⟨k + 1, by omega, by omega, ⟨rfl, rfl, rfl, rfl, rfl, tI⟩, ?_⟩
     rw [ownAL_succ parts k hlt, if_pos (by simpa using hc)]; rfl
   · refine ⟨k + 1, by omega, by omega, ⟨rfl, rfl, rfl, rfl, rfl, tI⟩, ?_⟩
     rw [ownAL_succ parts k hlt, if_neg (by simpa using hc)]; rfl
   · exfalso; omega
 · have htk : parts.take k = parts := zAu (by omega)
   have e : ownAL parts = ownAL (parts.take k) := by rw [htk]
   rw [e] at h1 h2
   refine AWP.freezeMapV (ek := ekI) (ev := evP) (l := 0) (al := ownAL (parts.take k)) rfl (pureE_flat fun _ => rfl) ?_
   refine AWP.keep [(1, .sl 12 (l.map encN) .no), (5, .ptr 1 0), (11, .sl 13 (parts.map encP) .no), (12, .int parts.length), (13, .int k)] ⟨rfl, rfl, rfl, rfl, rfl, tI⟩ ?_
   repeat' (first | refine aoQ rfl rfl rfl (fun hg => by first | exact std0 | exact pbW (h1) rfl rfl nd rfl rfl nds | exact pbW (h2) rfl rfl nd rfl rfl nds | exact std1) (by exact rfl) ?_ | refine sqW ?_ | refine rgK (fun K' hK => ?_) | (refine aoN (hK _ _ ?_); clear hK K') | refine aoE (stW tabOk rfl rfl rfl tI rfl rfl tI rfl rfl rfl rfl rfl rfl rfl ?_) | refine aoE (alW tabOk rfl rfl rfl rfl rfl rfl ?_) | refine cdN rfl tI (fun hc => ?_) (fun hc => ?_) | refine blK ?_ | refine exW ?_ | refine skW ?_ | refine rtW ?_)
   all_goals (first | (exfalso; omega) | skip)
   · refine ⟨.inr rfl, Ent.int (Eq.symm ?_)⟩
     unfold wrongR; rw [e, if_pos (by simpa using hc)]
   · rename_i hc0
     refine ⟨.inr rfl, Ent.int (Eq.symm ?_)⟩
     unfold wrongR; rw [e, if_neg (by simpa using hc0), if_pos (by simpa using hc)]
   · rename_i hc0
     refine ⟨.inr rfl, Ent.int (Eq.symm ?_)⟩
     unfold wrongR; rw [e, if_neg (by simpa using hc0), if_neg (by simpa using hc)]
structure Score where
 version : Int
 bars : List Bar
 parts : List Part
 notes : List Note
 deriving DecidableEq, Inhabited
def encS (s : Score) : List AV := [.int s.version, .sl 4 (s.bars.map encB) .no, .sl 13 (s.parts.map encP) .no, .sl 12 (s.notes.map encN) .no]
def Score.Small (s : Score) : Prop := s.bars.length ≤ 1000000000 ∧ s.parts.length ≤ 1000000000 ∧ s.notes.length ≤ 1000000000
def scoreBad (s : Score) : Bool := !inB s.version 1 1000000 || !barsOk s.bars || !partsOk s.parts || !notesOk s.bars s.notes || wrongR s.parts s.notes != 0
def scoreOk (s : Score) : Bool := !scoreBad s && ((sortR s.bars s.notes).2 == 0 && (sortR s.bars s.notes).1 == s.notes)
theorem sortR_len (bars : List Bar) (l : List Note) : (sortR bars l).1.length ≤ l.length := by
 unfold sortR; split
 · simp [sortN_len]
 · simp
theorem svalid_spec (s : Score) (hs : s.Small) : PCall Tryz.prog 33 [.agg (encS s)] (.b (scoreOk s)) := by
 obtain ⟨h1, h2, h3⟩ := hs
 have v1 := mvalid_spec s.bars (by omega)
 have v2 := areParts_spec s.parts (by omega)
 have v3 := nvalid_spec s.bars s.notes (by omega) (by omega)
 have v4 := wrong_spec s.parts s.notes (by omega) (by omega)
 have v5 := Sort_spec s.bars s.notes h1 h3
 have hq := sortR_len s.bars s.notes
 have v6 := equalN_spec (sortR s.bars s.notes).1 s.notes (by omega) (by omega)
 refine PCall.body Tryz.func33 rfl rfl Tryz.ntmps33 rfl rfl ?_
 repeat' (first | refine aoQ rfl rfl rfl (fun hg => by first | exact std0 | exact pcW (sisID_spec _) rfl rfl nd rfl nds | exact pcW (v1) rfl rfl nd rfl nds | exact pcW (v2) rfl rfl nd rfl nds | exact pcW (v3) rfl rfl nd rfl nds | exact pcW (v4) rfl rfl nd rfl nds | exact pcW (v5) rfl rfl nd rfl nds | exact pcW (v6) rfl rfl nd rfl nds | exact std1) (by exact rfl) ?_ | refine sqW ?_ | refine rgK (fun K' hK => ?_) | (refine aoN (hK _ _ ?_); clear hK K') | refine aoE (bxW rfl rfl rfl rfl rfl tI rfl rfl ?_) | refine cdN rfl tI (fun hc => ?_) (fun hc => ?_) | refine skW ?_ | refine rtW ?_)
 · refine ⟨.inr rfl, Ent.b (Eq.symm ?_)⟩
   unfold scoreOk
   rw [show scoreBad s = true from hc]; rfl
 · refine ⟨.inr rfl, Ent.b (Eq.symm ?_)⟩
   unfold scoreOk
   rw [show scoreBad s = false from hc]; rfl
end Go.Proofs.YtficfljjnbnhbaaGreatDoor
