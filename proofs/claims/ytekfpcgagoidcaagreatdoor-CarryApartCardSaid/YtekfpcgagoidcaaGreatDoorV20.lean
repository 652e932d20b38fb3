/- Contracts by content: the reference of scores: Valid, Bar, Part, Note, Plays, With.  Alignments in plain words: well-formed scores, a score and itself, a score without a bar.  Alignments in plain words: notes that belong together, in the order of their score.  Contracts by content: align: the iterator over free notes. No statement is proved here. -/
import Derived.Test.YtekfpcgagoidcaaGreatDoorV12
import Derived.Test.YtekfpcgagoidcaaGreatDoorV18
import Derived.Test.YtekfpcgagoidcaaGreatDoorV19
set_option linter.unusedVariables false
set_option linter.unusedSimpArgs false
namespace Go.Proofs.YtekfpcgagoidcaaGreatDoor
open Go.Ab
attribute [local irreducible] AWP AOps EStep AQ PStep PRun PCall TCall VCall
def Score.Sized (s : Score) : Prop := s.bars.length ≤ 9223372036854775807 ∧ s.parts.length ≤ 9223372036854775807 ∧ s.notes.length ≤ 9223372036854775807
theorem notesOk_all {bars : List Bar} {l : List Note} (h : notesOk bars l = true) : barsOk bars = true ∧ l.length ≤ 20000 ∧ ∀ x ∈ l, noteOk bars x = true := by
  unfold notesOk at h
  simp only [zA2, dEt, zA5] at h
  exact ⟨h.1.1.1, by omega, h.1.2⟩
def scoreX (s : Score) : Bool := !scoreBad s && stepsOk (idxAL s.bars) s.notes
theorem scoreOk_eq (s : Score) : scoreOk s = scoreX s := by
  unfold scoreOk scoreX
  cases h : scoreBad s with
  | true => rfl
  | false =>
    have : notesOk s.bars s.notes = true := by
      unfold scoreBad at h
      simp only [zAh, zAr] at h
      exact h.1.2
    rw [sort_steps this]
set_option maxRecDepth 20000 in
theorem valid8_spec (s : Score) (hs : s.Small) : PCall Tryz.prog 45 [.agg (encS s)] (.b (scoreOk s)) := by
  obtain ⟨h1, h2, h3⟩ := hs
  have v1 := r6valid_spec s.bars (by omega)
  have v2 := partsX_spec s.parts (by omega)
  rw [partsX_ok] at v2
  have v3 := r7valid_spec s.bars s.notes (by omega) (by omega)
  rw [scoreOk_eq]
  refine PCall.body Tryz.func45 rfl rfl Tryz.ntmps45 rfl rfl ?_
  repeat' (first | refine aoQ rfl rfl rfl (fun hg => by first | exact std0 | exact pcW (v1) rfl rfl nd rfl nds | exact pcW (v2) rfl rfl nd rfl nds | exact pcW (r8in_spec _ _ _) rfl rfl nd rfl nds) (by exact rfl) ?_ | refine sqW ?_ | refine rgK (fun K' hK => ?_) | (refine aoN (hK _ _ ?_); clear hK K') | refine aoE (bxW rfl rfl rfl rfl rfl tI rfl rfl ?_) | (refine cdW rfl tI (fun hc => ?_) (fun hc => ?_) <;> (first | (simp only [dEt] at hc) | (simp only [dEf, zA0, zA1] at hc) | skip)) | refine skW ?_ | refine rtW ?_)
  · refine ⟨.inr rfl, Ent.b (Eq.symm ?_)⟩
    unfold scoreX scoreBad
    have : (!inB s.version 1 1000000 || !barsOk s.bars || !partsOk s.parts) = true := hc
    rw [this]; rfl
  have b1 : (!inB s.version 1 1000000 || !barsOk s.bars || !partsOk s.parts) = false := hc
  have hp : barsOk s.bars = true ∧ partsOk s.parts = true := by
    simp only [zAh, zAr] at b1
    exact ⟨b1.1.2, b1.2⟩
  clear hc v1 v2
  repeat' (first | refine aoQ rfl rfl rfl (fun hg => by first | exact std0 | exact pcW (v3) rfl rfl nd rfl nds) (by exact rfl) ?_ | refine sqW ?_ | refine rgK (fun K' hK => ?_) | (refine aoN (hK _ _ ?_); clear hK K') | (refine cdW rfl tI (fun hc => ?_) (fun hc => ?_) <;> (first | (simp only [dEt] at hc) | (simp only [dEf, zA0, zA1] at hc) | skip)) | refine skW ?_ | refine rtW ?_)
  · refine ⟨.inr rfl, Ent.b (Eq.symm ?_)⟩
    unfold scoreX scoreBad
    rw [b1, show notesOk s.bars s.notes = false by simpa using hc]; rfl
  have hn : notesOk s.bars s.notes = true := by simpa using hc
  clear hc v3
  obtain ⟨n1, n2, n3⟩ := notesOk_all hn
  have v4 := wrong8_spec s.parts s.notes (by omega) (by omega) hp.2 (fun n hn => (noteOk_form (n3 n hn)).2)
  repeat' (first | refine aoQ rfl rfl rfl (fun hg => by first | exact std0 | exact pcW (v4) rfl rfl nd rfl nds) (by exact rfl) ?_ | refine sqW ?_ | refine rgK (fun K' hK => ?_) | (refine aoN (hK _ _ ?_); clear hK K') | (refine cdW rfl tI (fun hc => ?_) (fun hc => ?_) <;> (first | (simp only [dEt] at hc) | (simp only [dEf, zA0, zA1] at hc) | skip)) | refine blK ?_ | refine skW ?_ | refine rtW ?_)
  · refine ⟨.inr rfl, Ent.b (Eq.symm ?_)⟩
    unfold scoreX scoreBad
    rw [b1, hn, show (wrongR s.parts s.notes != 0) = true from hc]; rfl
  have hw : (wrongR s.parts s.notes != 0) = false := hc
  clear hc v4
  have hbad : scoreBad s = false := by unfold scoreBad; rw [b1, hn, hw]; rfl
  refine lpW (ι := Nat) (fun k => [(1, .ptr 0 0), (6, .int k)]) (fun _ => [.var (encS s)]) (fun k => 1 ≤ k ∧ (k ≤ s.notes.length ∨ k = 1) ∧ ∀ j, j < k → (j == 0 || bef (idxAL s.bars) (s.notes.getD (j - 1) default) (s.notes.getD j default)) = true) (fun k => s.notes.length - k) 1 ⟨nLr _, .inr rfl, fun j h => by (obtain rfl : j = 0 := by omega); rfl⟩ ⟨rfl, rfl, tI⟩ rfl ?_
  rintro k ⟨hk0, hk, hall⟩
  by_cases hlt : k < s.notes.length
  · have hb := before_spec s.bars (s.notes.getD ((k : Int) - 1).toNat default) (s.notes.getD k default) (by omega) n1 (all_mem n3 (by omega)) (all_mem n3 hlt)
    have e : ((k : Int) - 1).toNat = k - 1 := by omega
    repeat' (first | refine aoQ rfl rfl rfl (fun hg => by first | exact std0 | exact std1) (by exact rfl) ?_ | refine sqW ?_ | refine rgK (fun K' hK => ?_) | (refine aoN (hK _ _ ?_); clear hK K') | (refine cdW rfl tI (fun hc => ?_) (fun hc => ?_) <;> (first | (simp only [dEt] at hc) | (simp only [dEf, zA0, zA1] at hc) | skip)) | refine blK ?_ | refine exW ?_ | refine skW ?_ | refine rtW ?_ | refine dK2 (by decide +kernel) (by kernel_rfl) (by decide +kernel) rfl (fun K' hK => ?_) | (refine aqN (hK _ ?_); clear hK K') | refine aqQ rfl rfl (fun hg => by first | exact std0 | exact pcW (hb) rfl rfl nd rfl nds | exact std1) (by exact rfl) ?_)
    all_goals (first | (exfalso; omega) | skip)
    · refine ⟨.inr rfl, Ent.b (Eq.symm ?_)⟩
      unfold scoreX stepsOk
      rw [e] at hc
      rw [allR_no hlt (by
        have h5 : (k == 0) = false := by simp; omega
        rw [h5, zDe]; simpa using hc)]; simp
    · rw [e] at hc
      refine ⟨k + 1, ⟨by omega, .inl (by omega), fun j hj => lt_succ_cases hall ?_ hj⟩, by omega, ⟨rfl, rfl, tI⟩, rfl⟩
      rw [show bef (idxAL s.bars) (s.notes.getD (k - 1) default) (s.notes.getD k default) = true by simpa using hc]; simp
  · repeat' (first | refine aoQ rfl rfl rfl (fun hg => by first | exact std0 | exact std1) (by exact rfl) ?_ | refine sqW ?_ | refine rgK (fun K' hK => ?_) | (refine aoN (hK _ _ ?_); clear hK K') | (refine cdW rfl tI (fun hc => ?_) (fun hc => ?_) <;> (first | (simp only [dEt] at hc) | (simp only [dEf, zA0, zA1] at hc) | skip)) | refine blK ?_ | refine exW ?_ | refine skW ?_ | refine rtW ?_ | refine dK2 (by decide +kernel) (by kernel_rfl) (by decide +kernel) rfl (fun K' hK => ?_) | refine aqQ rfl rfl (fun hg => by first | exact std0 | exact std1) (by exact rfl) ?_)
    all_goals (first | (exfalso; omega) | skip)
    refine ⟨.inr rfl, Ent.b (Eq.symm ?_)⟩
    unfold scoreX stepsOk
    rw [hbad, allR_yes fun j hj => hall j (by omega)]; rfl
end Go.Proofs.YtekfpcgagoidcaaGreatDoor
namespace Go.Proofs.YtekfpcgagoidcaaGreatDoor.Al
open Go.Ab Go.Sort
theorem ok_parts {s : Score} (h : scoreOk s = true) : inB s.version 1 1000000 = true ∧ barsOk s.bars = true ∧ partsOk s.parts = true ∧ notesOk s.bars s.notes = true ∧ wrongR s.parts s.notes = 0 := by
  unfold scoreOk scoreBad at h
  simp only [zA2, zB0, zAh, zAr, bne_eq_false_iff_eq] at h
  exact ⟨h.1.1.1.1.1, h.1.1.1.1.2, h.1.1.1.2, h.1.1.2, h.1.2⟩
theorem ticks_rat {r : Rat} (h : (ticksR r).2 = true) : ratOk r = true := by
  unfold ticksR at h
  split at h
  · rename_i h1; exact (durOk_iff.1 h1).1
  · cases h
theorem formed_bIn {b : Bar} {n : Note} (h : nformed b n = true) : bIn n := by
  unfold nformed fits noteForm noteP pitchOk inB at h
  simp only [zA2, dEt] at h
  have r1 := ratOk_iff.1 (ticks_rat h.1.1.1.1)
  have r2 := ratOk_iff.1 (ticks_rat h.1.1.1.2)
  intro x hx
  simp only [keyB, zB6, zCc, or_false] at hx
  rcases hx with rfl | rfl | rfl | rfl | rfl | rfl | rfl | rfl | rfl | rfl <;> omega
theorem note_bar {bars : List Bar} {n : Note} (h : noteOk bars n = true) : ∃ j : Nat, j < bars.length ∧ (bars.getD j default).id = n.bar ∧ nformed (bars.getD j default) n = true := by
  unfold noteOk at h
  split at h
  · rename_i i hi
    obtain ⟨j, rfl, h2, h3⟩ := lk_idx bars n.bar _ _ hi
    exact ⟨j, h2, h3, h⟩
  · cases h
theorem ok_sc {s : Score} (h : scoreOk s = true) : Sc s := by
  obtain ⟨_, h2, _, h4, _⟩ := ok_parts h
  exact ⟨notesOk_nodup h4, barsOk_nodup h2⟩
theorem ok_nts {s : Score} (h : scoreOk s = true) : Nts s := by
  obtain ⟨_, h2, _, h4, _⟩ := ok_parts h
  obtain ⟨_, h5, h6⟩ := notesOk_all h4
  refine ⟨by omega, ?_, fun n hn => ?_⟩
  · unfold barsOk at h2
    simp only [zA2, dEt] at h2
    omega
  · obtain ⟨j, _, _, h7⟩ := note_bar (h6 n hn)
    exact formed_bIn h7
theorem ok_bar {s : Score} (h : scoreOk s = true) {n : Note} (hn : n ∈ s.notes) : ∃ j : Nat, j < s.bars.length ∧ n.bar = (barI s j).id := by
  obtain ⟨_, _, _, h4, _⟩ := ok_parts h
  obtain ⟨_, _, h6⟩ := notesOk_all h4
  obtain ⟨j, h7, h8, _⟩ := note_bar (h6 n hn)
  exact ⟨j, h7, h8.symm⟩
theorem filterMap_own {α β : Type} {f : α → Option β} {q : α → Bool} {g : α → β} : ∀ {l : List α}, (∀ n ∈ l, f n = if q n = true then some (g n) else none) → l.filterMap f = (l.filter q).map g
  | [], _ => rfl
  | x :: l, h => by
    have ih := filterMap_own (l := l) fun n hn => h n (zAj _ hn)
    have hx := h x (zAk ..)
    cases hq : q x with
    | true => rw [hq, if_pos rfl] at hx; rw [List.filterMap_cons, hx, zBa hq, zBi, ih]
    | false => rw [hq, if_neg (by decide)] at hx; rw [List.filterMap_cons, hx, zBh (by rw [hq]; decide), ih]
theorem notes_own {a b : Score} (ha : Sc a) (hb : Sc b) {l : List (Nat × Nat)} (hp : Pairs a b l) (q : Note → Bool) (hq : b.notes = a.notes.filter q) (h1 : ∀ n ∈ a.notes, q n = true → ∃ p ∈ l, n.bar = (barI a p.1).id ∧ n.bar = (barI b p.2).id) (h2 : ∀ n ∈ a.notes, q n = false → ∀ p ∈ l, n.bar ≠ (barI a p.1).id) :
    notesM a b l = b.notes.map fun n => (n.id, n.id) := by
  have hm := pairsM_spec ha hb hp
  unfold notesM outM
  rw [hq]
  refine filterMap_own fun n hn => ?_
  cases hqn : q n with
  | true =>
    obtain ⟨p, hpl, e1, e2⟩ := h1 n hn hqn
    have hnb : n ∈ b.notes := by rw [hq]; exact zC0.2 ⟨hn, hqn⟩
    have := hm.one p hpl n (inBar_mem.2 ⟨hn, e1⟩) n (inBar_mem.2 ⟨hnb, e2⟩) (by simp [f1])
    rw [lk_of_mem hm.fst this]; rfl
  | false =>
    cases hl : lk (pairsM a b l []) n.id with
    | none => rfl
    | some v =>
      obtain ⟨x, hx, y, hy, e, _, r, hr, e3, _⟩ := hm.of _ (lk_mem hl)
      simp only [Prod.mk.injEq] at e
      have := inj_of_nodup ha.notes hn hx e.1
      subst this
      exact absurd e3 (h2 n hn hqn r hr)
theorem same_align {a : Score} : T (costR a a) a.bars.length a.bars.length = 0 ∧ alignR (costR a a) a.bars.length a.bars.length = (List.range a.bars.length).map (fun j : Nat => ((j : Int), (j : Int))) := by
  have hc : ∀ i k, 0 ≤ costR a a i k := fun i k => (costR_in a a i k).1
  refine ⟨T_diag hc (costR_self a) _, ?_⟩
  unfold alignR ip
  rw [back_diag hc (costR_self a), ← List.map_reverse, List.reverse_reverse, zCr]; rfl
theorem np_map {n : Nat} (f g : Nat → Nat) : np ((List.range n).map (fun j : Nat => ((f j : Int), (g j : Int)))) = (List.range n).map (fun j : Nat => (f j, g j)) := by
  unfold np; rw [zCr]; rfl
theorem same_notes {a : Score} (h : scoreOk a = true) : notesM a a (np (alignR (costR a a) a.bars.length a.bars.length)) = a.notes.map fun n => (n.id, n.id) := by
  rw [same_align.2, np_map (fun j => j) (fun j => j)]
  have hs := ok_sc h
  refine notes_own hs hs ⟨?_, fun p hp => ?_⟩ (fun _ => true) (List.filter_eq_self.2 fun _ _ => rfl).symm (fun n hn _ => ?_) (fun n hn hq => by cases hq)
  · rw [List.pairwise_map]
    exact List.pairwise_lt_range.imp fun h => ⟨h, h⟩
  · obtain ⟨j, hj, rfl⟩ := zAp.1 hp
    have := zAt.1 hj
    exact ⟨this, this⟩
  · obtain ⟨j, hj, e⟩ := ok_bar h hn
    exact ⟨(j, j), zAp.2 ⟨j, zAt.2 hj, rfl⟩, e, e⟩
theorem findI_exA {α : Type} [Inhabited α] {p : α → Bool} {l : List α} : findI p l ≥ 0 ↔ ∃ x ∈ l, p x = true := by
  constructor
  · intro h
    obtain ⟨k, _, h2, h3, _⟩ := findI_lt h
    exact ⟨_, by rw [getD_lt h2]; exact lGm h2, h3⟩
  · rintro ⟨x, hx, hp⟩
    rcases (show findI p l ≥ 0 ∨ findI p l < 0 by omega) with h | h
    · exact h
    · exfalso
      have h2 := findI_neg.1 h
      unfold findI at h2
      split at h2
      · omega
      · rename_i h3
        rw [zCv] at h3
        rw [h3 x hx] at hp; cases hp
theorem find_id {l : List Note} (hn : (l.map (·.id)).Nodup) {i : Nat} (hi : i < l.length) : findI (fun x : Note => x.id == (l.getD i default).id) l = i :=
  findI_at hi (by simp) fun j hj => by
    have : (l.getD j default).id ≠ (l.getD i default).id := fun e => by
      have := nodup_at (fun b : Note => b.id) hn (show j < l.length by omega) hi e
      omega
    simpa using this
theorem noteAt_of {l : List Note} (hn : (l.map (·.id)).Nodup) {n : Note} (h : n ∈ l) : ∃ i : Nat, i < l.length ∧ l.getD i default = n ∧ noteAt l n.id = i := by
  obtain ⟨i, hi, e⟩ := zAz.1 h
  have e2 : l.getD i default = n := by rw [getD_lt hi]; exact e
  exact ⟨i, hi, e2, by rw [← e2]; exact find_id hn hi⟩
theorem outM_mem {a : Score} {ps : PL} {p : Int × Int} : p ∈ outM a ps ↔ ∃ n ∈ a.notes, n.id = p.1 ∧ lk ps p.1 = some p.2 := by
  unfold outM
  rw [List.mem_filterMap]
  constructor
  · rintro ⟨n, hn, e⟩
    cases h : lk ps n.id with
    | none => rw [h] at e; cases e
    | some v =>
      rw [h] at e
      cases e
      exact ⟨n, hn, rfl, h⟩
  · rintro ⟨n, hn, e, h⟩
    refine ⟨n, hn, ?_⟩
    rw [e, h]; rfl
theorem pairwise_nodup {l : PL} {f : Int × Int → Int} (h : l.Pairwise fun p q => f p ≠ f q) : (l.map f).Nodup := by
  rw [List.Nodup, List.pairwise_map]; exact h
structure OutF (a b : Score) (l : List (Nat × Nat)) (o : PL) : Prop where
  fst : (o.map (·.1)).Nodup
  snd : (o.map (·.2)).Nodup
  ord : o.Pairwise fun p q => noteAt a.notes p.1 < noteAt a.notes q.1
  of : ∀ p ∈ o, ∃ i k : Nat, i < a.notes.length ∧ k < b.notes.length ∧ noteAt a.notes p.1 = i ∧ noteAt b.notes p.2 = k ∧ (a.notes.getD i default).part = (b.notes.getD k default).part ∧ ∃ q ∈ l, (a.notes.getD i default).bar = (barI a q.1).id ∧ (b.notes.getD k default).bar = (barI b q.2).id
  one : ∀ x ∈ a.notes, ∀ y ∈ b.notes, y.id = x.id → y.part = x.part → (∃ q ∈ l, x.bar = (barI a q.1).id ∧ y.bar = (barI b q.2).id) → (x.id, x.id) ∈ o
theorem out_facts {a b : Score} (ha : Sc a) (hb : Sc b) {l : List (Nat × Nat)} (hp : Pairs a b l) : OutF a b l (notesM a b l) := by
  have hm := pairsM_spec ha hb hp
  unfold notesM
  generalize pairsM a b l [] = ps at hm
  have hord : (outM a ps).Pairwise fun p q => noteAt a.notes p.1 < noteAt a.notes q.1 := by
    unfold outM
    rw [List.pairwise_filterMap]
    have h0 : a.notes.Pairwise fun x y => noteAt a.notes x.id < noteAt a.notes y.id := by
      rw [zBu]
      intro i j hi hj hij
      have e1 := find_id ha.notes hi
      have e2 := find_id ha.notes hj
      rw [getD_lt hi] at e1
      rw [getD_lt hj] at e2
      show findI _ _ < findI _ _
      rw [e1, e2]; omega
    refine h0.imp fun {x y} h p hp q hq => ?_
    cases hx : lk ps x.id with
    | none => rw [hx] at hp; cases hp
    | some u =>
      cases hy : lk ps y.id with
      | none => rw [hy] at hq; cases hq
      | some v =>
        rw [hx] at hp; rw [hy] at hq
        cases hp; cases hq
        exact h
  have hfst : ((outM a ps).map (·.1)).Nodup := pairwise_nodup (f := (·.1)) (hord.imp fun {p q} h e => by
    have e : p.1 = q.1 := e
    rw [e] at h; omega)
  refine ⟨hfst, pairwise_nodup (f := (·.2)) ?_, hord, fun p hp => ?_, fun x hx y hy e1 e2 h => ?_⟩
  · refine hord.imp_of_mem fun {p q} hp hq h e => ?_
    obtain ⟨_, _, _, h1⟩ := outM_mem.1 hp
    obtain ⟨_, _, _, h2⟩ := outM_mem.1 hq
    have e3 := inj_of_nodup (f := (·.2)) hm.snd (lk_mem h1) (lk_mem h2) e
    have e4 : p.1 = q.1 := congrArg (·.1) e3
    rw [e4] at h; omega
  · obtain ⟨n, hn, h1, h2⟩ := outM_mem.1 hp
    obtain ⟨x, hx, y, hy, e, e2, q, hq, e3, e4⟩ := hm.of _ (lk_mem h2)
    have e5 : p.1 = x.id := congrArg (·.1) e
    have e6 : p.2 = y.id := congrArg (·.2) e
    obtain ⟨i, i1, i2, i3⟩ := noteAt_of ha.notes hx
    obtain ⟨k, k1, k2, k3⟩ := noteAt_of hb.notes hy
    exact ⟨i, k, i1, k1, by rw [e5]; exact i3, by rw [e6]; exact k3, by rw [i2, k2]; exact e2, q, hq, by rw [i2]; exact e3, by rw [k2]; exact e4⟩
  · obtain ⟨q, hq, g1, g2⟩ := h
    have := hm.one q hq x (inBar_mem.2 ⟨hx, g1⟩) y (inBar_mem.2 ⟨hy, g2⟩) (by simp [f1, e1, e2])
    exact outM_mem.2 ⟨x, hx, rfl, lk_of_mem hm.fst this⟩
theorem back_pair {c : Nat → Nat → Int} {i k : Nat} (h : T c (i + 1) (k + 1) = T c i k + c i k) : back c (i + 1) (k + 1) = (i, k) :: back c i k := by rw [back, if_pos h]
theorem back_up {c : Nat → Nat → Int} {i k : Nat} (h : k = 0 ∨ ∃ j, k = j + 1 ∧ T c (i + 1) k ≠ T c i j + c i j) (h2 : T c (i + 1) k = T c i k + 2) : back c (i + 1) k = back c i k := by
  rcases h with rfl | ⟨j, rfl, h⟩
  · rw [back]
  · rw [back, if_neg h, if_pos h2]
theorem back_side {c : Nat → Nat → Int} {i k : Nat} (h : i = 0 ∨ ∃ j, i = j + 1 ∧ T c i (k + 1) ≠ T c j k + c j k ∧ T c i (k + 1) ≠ T c j (k + 1) + 2) : back c i (k + 1) = back c i k := by
  rcases h with rfl | ⟨j, rfl, h1, h2⟩
  · rw [back]
  · rw [back, if_neg h1, if_neg h2]
theorem back_nil {c : Nat → Nat → Int} : back c 0 0 = [] := by rw [back]
end Go.Proofs.YtekfpcgagoidcaaGreatDoor.Al
namespace Go.Ab
theorem gOf_yesB {ops : Array Oper} {o : Oper} {env : Env} {j d : Nat} {want t : Bool} (h1 : o.guard = some (j, want)) (h2 : (ops[j]?).bind (·.dst) = some d) (h3 : env d = .prim (.bool t)) : gOf ops env o = some (.yes (t == want)) := by
  unfold gOf; rw [h1]; simp only; rw [h2]; simp only; rw [h3]
end Go.Ab
namespace Go.Proofs.YtekfpcgagoidcaaGreatDoor.Al
open Go.Ab Go.Sort
attribute [local irreducible] AWP AOps EStep AQ PStep PRun PCall TCall VCall
def MB (p : Nat → AObj) (ps : PL) : Store := [p 0, p 1, p 2, p 3, p 4, p 5, p 6, p 7, .map (Go.Ab.encM ekI AV.int ps), .map (Go.Ab.encM ekI AV.int (swp ps))]
def MO (p : Nat → AObj) (a b : List Note) (g : Nat) (ps : PL) : Store := [p 0, p 1, p 2, p 3, p 4, p 5, p 6, p 7, .map (Go.Ab.encM ekI AV.int ps), .map (Go.Ab.encM ekI AV.int (swp ps)), .var [.sl 12 (b.map encN) .no], .var [.map 8], .var [.map 9], .var [.fn (.func g) [] []], .var [.sl 12 (a.map encN) .no], .var [.map 8]]
def MI (p : Nat → AObj) (a b : List Note) (g : Nat) (ps : PL) (m : Note) : Store := [p 0, p 1, p 2, p 3, p 4, p 5, p 6, p 7, .map (Go.Ab.encM ekI AV.int ps), .map (Go.Ab.encM ekI AV.int (swp ps)), .var [.sl 12 (b.map encN) .no], .var [.map 8], .var [.map 9], .var [.fn (.func g) [] []], .var [.sl 12 (a.map encN) .no], .var [.map 8], .var (encN m), .var [.sl 12 (b.map encN) .no], .var [.map 9]]
def evN1 (n : Note) : List AV := [.agg (encN n)]
theorem all_len {s : Store} {L : Nat} (h : s.length = L ∧ s.all (okObj L) = true) : s.all (okObj s.length) = true := by rw [h.1]; exact h.2
theorem free_spec (l : List Note) (ix : Nat) (σ : Store) (hix : ix < σ.length) (hok : σ.all (okObj σ.length) = true) : TCall Tryz.prog 94 [.sl 12 (l.map encN) .no, .map ix] σ
    (fun r s => r = .fn (.func 123) [] [.ptr σ.length 0, .ptr (σ ++ [AObj.var [.sl 12 (l.map encN) .no]]).length 0] ∧ s = σ ++ [.var [.sl 12 (l.map encN) .no]] ++ [.var [.map ix]]) := by
  refine TCall.body Tryz.func94 rfl rfl Tryz.ntmps94 rfl rfl ?_
  repeat' (first | refine aoQ rfl rfl rfl (fun hg => by exact std0) (by exact rfl) ?_ | refine sqW ?_ | refine rgK (fun K' hK => ?_) | (refine aoN (hK _ _ ?_); clear hK K') | refine aoE (bxW rfl rfl rfl rfl rfl tI rfl rfl ?_) | refine rtW ?_)
  refine ⟨.inr rfl, _, _, ⟨rfl, rfl⟩, zBt .., by simp only [lLa, zAd, zAi]; omega, ?_, ?_, rfl⟩
  · simp only [zCp, zBg, zBm, lLa, zAd, zAi]
    rw [okObjs_mono (show σ.length ≤ σ.length + (0 + 1) + (0 + 1) by omega) hok]
    have h1 : decide (ix < σ.length + (0 + 1) + (0 + 1)) = true := decide_eq_true (by omega)
    show (true && (true && true) && ((decide (ix < σ.length + (0 + 1) + (0 + 1)) && true) && true)) = true
    rw [h1]; rfl
  · show ((decide (σ.length < _) && (decide (_ < _) && true))) = true
    rw [decide_eq_true (by simp only [lLa, zAd, zAi]; omega), decide_eq_true (by simp only [lLa, zAd, zAi]; omega)]; rfl
set_option maxHeartbeats 8000000 in
set_option maxRecDepth 20000 in
theorem free_outer (p : Nat → AObj) (f : Note → Note → Bool) (a b : List Note) (g : Nat) (ps : PL) (hnd : (a.map (·.id)).Nodup) (hl : a.length ≤ 1000000000) (rc : Loop) (E : List (Nat × AV)) (Pj : Nat → Prop) :
    IterP Tryz.prog 123 [] [.ptr 14 0, .ptr 15 0] ((freeA a ps).map evN1) 17 (fun j => MO p a b g (psAt f a b ps j) ++ [.loop rc E]) Pj := by
  intro yv R hP0 hS hR hy hyield
  rw [lLm] at *
  have hyc : ∀ (c : Nat) (n : Note), (freeA a ps)[c]? = some n → Pj c → VCall Tryz.prog (.opq yv) [.agg (encN n)] ((MO p a b g (psAt f a b ps c) ++ [.loop rc E]) ++ [.var (encN n)]) (fun r t => ∃ t', t = t' ++ [.var (encN n)] ∧ ((r = .b true ∧ t' = MO p a b g (psAt f a b ps (c + 1)) ++ [.loop rc E] ∧ Pj (c + 1)) ∨ (r = .b false ∧ R c t'))) := fun c n hc hp => by
    have hlt : c < (freeA a ps).length := by
      rcases nLg c (freeA a ps).length with h | h
      · exact h
      · rw [zA3 h] at hc; cases hc
    have hv := VCall.frame (hyield c [.agg (encN n)] (by rw [zA9, hc]; rfl) hp) [.var (encN n)] (by have h9 := (hS c (by omega)).2; exact h9) (by show okRef _ 3 yv = true; exact hy) rfl (by
      rintro rv s' (⟨_, rfl, _⟩ | ⟨_, hh⟩)
      · exact ((hS (c + 1) (by omega)).1).trans ((hS c (by omega)).1).symm
      · exact ((hR _ _ hh).1).trans ((hS c (by omega)).1).symm)
    exact hv
  show TCall _ _ [.opq yv, .ptr 14 0, .ptr 15 0] (MO p a b g (psAt f a b ps 0) ++ [.loop rc E]) _
  refine TCall.body Tryz.func123 rfl rfl Tryz.ntmps123 rfl rfl ?_
  repeat' (first | refine aoQ rfl rfl rfl (fun hg => by first | exact std0 | exact std1) (by exact rfl) ?_ | refine sqW ?_ | refine rgK (fun K' hK => ?_) | (refine aoN (hK _ _ ?_); clear hK K') | refine blK ?_)
  refine lpD (ι := Nat) (fun k => [(0, .opq yv), (1, .ptr 14 0), (2, .ptr 15 0), (8, .sl 12 (a.map encN) .no), (9, .int a.length), (10, .int k)]) (fun k => MO p a b g (psAt f a b ps (((a.take k).filter fun x => !fstIn ps x.id).length)) ++ [.loop rc E])
    (fun k => k ≤ a.length ∧ Pj (((a.take k).filter fun x => !fstIn ps x.id).length)) (fun k => a.length - k) 17 (fun _ => rfl) 0 ⟨nZl _, hP0⟩ ⟨rfl, rfl, rfl, rfl, rfl, rfl, tI⟩ rfl (fun k _ => by
      simp only [zBg, zBm, Bool.and_true, zA2]
      exact ⟨hy, rfl, rfl, rfl, rfl, rfl⟩) (fun k hk => (hS (((a.take k).filter fun x => !fstIn ps x.id).length) (filter_len_le (fun x : Note => !fstIn ps x.id) a k)).2) ?_
  rintro k ⟨hk, hPk⟩
  have hcl : ((a.take k).filter fun x => !fstIn ps x.id).length ≤ (freeA a ps).length := filter_len_le (fun x : Note => !fstIn ps x.id) a k
  by_cases hlt : k < a.length
  · obtain ⟨n, hn⟩ : ∃ n, a.getD k default = n := ⟨_, rfl⟩
    have hlk := psAt_lk (f := f) (b := b) (ps := ps) hnd hlt
    rw [hn] at hlk
    by_cases hfr : fstIn ps n.id = true
    · rw [hfr] at hlk
      have hc1 := filter_not (fun x : Note => !fstIn ps x.id) a hlt (by rw [hn, hfr]; rfl)
      generalize ((a.take k).filter fun x => !fstIn ps x.id).length = c at *
      clear hyc hyield
      repeat' (first | refine aoQ rfl rfl rfl (fun hg => by first | exact PRun.eq (v := .tup [.int ((lk (psAt f a b ps c) n.id).getD 0), .b (lk (psAt f a b ps c) n.id).isSome]) (PRun.lookup (ok := true) (ek := ekI) (ev := AV.int) (al := psAt f a b ps c) (key := n.id) (zv := 0) (keyLaw_int (LOk.of (tabOk.get rfl))) (LOk.of (tabOk.get rfl)) (LOk.of (tabOk.get rfl)) rfl rfl (Rd.w rfl nd) (Or.inr ⟨_, rfl, rfl⟩) (Rd.w rfl nd) rfl) (show AV.tup [.int ((lk (psAt f a b ps c) n.id).getD 0), .b (lk (psAt f a b ps c) n.id).isSome] = AV.tup [.int ((lk (psAt f a b ps c) n.id).getD 0), .b true] by rw [hlk]) | exact iX encN a ((k : Nat) : Int) hn (hb := by omega) | exact std0 | exact (Bool.noConfusion (show false = true from hg) : PRun _ _ _ _ (.b false))) (by exact rfl) ?_ | refine sqW ?_ | refine rgK (fun K' hK => ?_) | (refine aoN (hK _ _ ?_); clear hK K') | refine aoE (stW tabOk rfl rfl rfl tI rfl rfl tI rfl rfl rfl rfl rfl rfl rfl ?_) | refine aoE (alW tabOk rfl rfl rfl rfl rfl rfl ?_) | (refine cdW rfl tI (fun hc => ?_) (fun hc => ?_) <;> (first | (simp only [dEt] at hc) | (simp only [dEf, zA0, zA1] at hc) | skip)) | refine blK ?_ | refine exW ?_ | refine skW ?_ | refine rtW ?_)
      all_goals (first | (exfalso; omega) | (exfalso; simp at hc; done) | (exfalso; simp at hc; omega) | (exfalso; simp only [dEf, dEt] at hc; omega) | (rename_i h0; exfalso; simp at h0; done) | (rename_i h0; exfalso; simp at h0; omega) | skip)
      exact ⟨k + 1, ⟨hlt, by rw [hc1]; exact hPk⟩, by omega, ⟨rfl, rfl, rfl, rfl, rfl, rfl, tI⟩, by rw [hc1]; rfl⟩
    · have hfr' : fstIn ps n.id = false := by simpa using hfr
      rw [hfr'] at hlk
      obtain ⟨hc0, hc1⟩ := filter_at (fun x : Note => !fstIn ps x.id) a hlt (by rw [hn, hfr']; rfl)
      rw [hn] at hc0
      have hc2 : ((a.take (k + 1)).filter fun x => !fstIn ps x.id).length ≤ (freeA a ps).length := filter_len_le (fun x : Note => !fstIn ps x.id) a (k + 1)
      rw [hc1] at hc2
      generalize ((a.take k).filter fun x => !fstIn ps x.id).length = c at *
      have hv := hyc c n hc0 hPk
      clear hyc hyield
      repeat' (first | refine aoQ rfl rfl rfl (fun hg => by first | exact PRun.eq (v := .tup [.int ((lk (psAt f a b ps c) n.id).getD 0), .b (lk (psAt f a b ps c) n.id).isSome]) (PRun.lookup (ok := true) (ek := ekI) (ev := AV.int) (al := psAt f a b ps c) (key := n.id) (zv := 0) (keyLaw_int (LOk.of (tabOk.get rfl))) (LOk.of (tabOk.get rfl)) (LOk.of (tabOk.get rfl)) rfl rfl (Rd.w rfl nd) (Or.inr ⟨_, rfl, rfl⟩) (Rd.w rfl nd) rfl) (show AV.tup [.int ((lk (psAt f a b ps c) n.id).getD 0), .b (lk (psAt f a b ps c) n.id).isSome] = AV.tup [.int ((lk (psAt f a b ps c) n.id).getD 0), .b false] by rw [hlk]) | exact iX encN a ((k : Nat) : Int) hn (hb := by omega) | exact std0) (by exact rfl) ?_ | refine sqW ?_ | refine rgK (fun K' hK => ?_) | (refine aoN (hK _ _ ?_); clear hK K') | refine aoE (stW tabOk rfl rfl rfl tI rfl rfl tI rfl rfl rfl rfl rfl rfl rfl ?_) | refine aoE (alW tabOk rfl rfl rfl rfl rfl rfl ?_) | refine aoE (EStep.gd (gOf_yesB rfl rfl rfl) rfl <| scT hv rfl rfl rfl rfl rfl (by exact rfl) rfl rfl (by repeat' (first | exact tI | exact rfl | refine ⟨?_, ?_⟩)) ?_) | (refine cdW rfl tI (fun hc => ?_) (fun hc => ?_) <;> (first | (simp only [dEt] at hc) | (simp only [dEf, zA0, zA1] at hc) | skip)) | refine blK ?_ | refine exW ?_ | refine skW ?_)
      all_goals (first | (exfalso; omega) | (exfalso; simp at hc; done) | (exfalso; simp at hc; omega) | (exfalso; simp only [dEf, dEt] at hc; omega) | (rename_i h0; exfalso; simp at h0; done) | (rename_i h0; exfalso; simp at h0; omega) | skip)
      rintro r t ⟨t', rfl, (⟨rfl, rfl, hp1⟩ | ⟨rfl, hh⟩)⟩
      · repeat' (first | refine aoQ rfl rfl rfl (fun hg => by exact std0) (by exact rfl) ?_ | refine rgK (fun K' hK => ?_) | (refine aoN (hK _ _ ?_); clear hK K') | (refine cdW rfl tI (fun hc => ?_) (fun hc => ?_) <;> (first | (simp only [dEt] at hc) | (simp only [dEf, zA0, zA1] at hc) | skip)) | refine skW ?_ | refine rtW ?_)
        all_goals (first | (exfalso; omega) | (exfalso; simp at hc; done) | (exfalso; simp at hc; omega) | (exfalso; simp only [dEf, dEt] at hc; omega) | (rename_i h0; exfalso; simp at h0; done) | (rename_i h0; exfalso; simp at h0; omega) | skip)
        exact ⟨k + 1, ⟨hlt, by rw [hc1]; exact hp1⟩, by omega, ⟨rfl, rfl, rfl, rfl, rfl, rfl, tI⟩, by rw [hc1]; rfl⟩
      · obtain ⟨k1, k2⟩ := hR _ _ hh
        repeat' (first | refine aoQ rfl rfl rfl (fun hg => by exact std0) (by exact rfl) ?_ | refine rgK (fun K' hK => ?_) | (refine aoN (hK _ _ ?_); clear hK K') | (refine cdW rfl tI (fun hc => ?_) (fun hc => ?_) <;> (first | (simp only [dEt] at hc) | (simp only [dEf, zA0, zA1] at hc) | skip)) | refine skW ?_ | refine rtW ?_)
        all_goals (first | (exfalso; omega) | (exfalso; simp at hc; done) | (exfalso; simp at hc; omega) | (exfalso; simp only [dEf, dEt] at hc; omega) | (rename_i h0; exfalso; simp at h0; done) | (rename_i h0; exfalso; simp at h0; omega) | skip)
        exact ⟨.inr rfl, .tup [], t', .inr ⟨c, by omega, hh⟩, by simp, by rw [k1]; exact nLr _, by rw [k1]; exact k2, rfl, rfl⟩
  · have hce : ((a.take k).filter fun x => !fstIn ps x.id).length = (freeA a ps).length := by rw [zAs (by omega)]; rfl
    rw [hce] at hPk
    have hend := all_len (L := 17) (hS (((a.take k).filter fun x => !fstIn ps x.id).length) hcl)
    have hend2 : MO p a b g (psAt f a b ps (((a.take k).filter fun x => !fstIn ps x.id).length)) ++ [AObj.loop rc E] = MO p a b g (psAt f a b ps (freeA a ps).length) ++ [AObj.loop rc E] := by first | rw [hce] | rfl
    generalize ((a.take k).filter fun x => !fstIn ps x.id).length = c at *
    clear hyc hyield
    repeat' (first | refine aoQ rfl rfl rfl (fun hg => by first | exact std0 | exact std1) (by exact rfl) ?_ | refine sqW ?_ | refine rgK (fun K' hK => ?_) | (refine aoN (hK _ _ ?_); clear hK K') | refine aoE (stW tabOk rfl rfl rfl tI rfl rfl tI rfl rfl rfl rfl rfl rfl rfl ?_) | refine aoE (alW tabOk rfl rfl rfl rfl rfl rfl ?_) | (refine cdW rfl tI (fun hc => ?_) (fun hc => ?_) <;> (first | (simp only [dEt] at hc) | (simp only [dEf, zA0, zA1] at hc) | skip)) | refine blK ?_ | refine exW ?_ | refine skW ?_)
    all_goals (first | (exfalso; omega) | (exfalso; simp at hc; done) | (exfalso; simp at hc; omega) | (exfalso; simp only [dEf, dEt] at hc; omega) | (rename_i h0; exfalso; simp at h0; done) | (rename_i h0; exfalso; simp at h0; omega) | skip)
    exact ⟨.inl rfl, .tup [], MO p a b g (psAt f a b ps c) ++ [.loop rc E], .inl ⟨hend2, hPk⟩, rfl, nLr _, hend, rfl, rfl⟩
set_option maxHeartbeats 8000000 in
set_option maxRecDepth 20000 in
theorem free_inner (p : Nat → AObj) (a b : List Note) (g : Nat) (ps : PL) (m : Note) (hl : b.length ≤ 1000000000) (rc : Loop) (E : List (Nat × AV)) (Pj : Nat → Prop) :
    IterP Tryz.prog 123 [] [.ptr 17 0, .ptr 18 0] ((freeB b ps).map evN1) 20 (fun j => MI p a b g ps m ++ [.loop rc E]) Pj := by
  intro yv R hP0 hS hR hy hyield
  rw [lLm] at *
  have hyc : ∀ (c : Nat) (n : Note), (freeB b ps)[c]? = some n → Pj c → VCall Tryz.prog (.opq yv) [.agg (encN n)] ((MI p a b g ps m ++ [.loop rc E]) ++ [.var (encN n)]) (fun r t => ∃ t', t = t' ++ [.var (encN n)] ∧ ((r = .b true ∧ t' = MI p a b g ps m ++ [.loop rc E] ∧ Pj (c + 1)) ∨ (r = .b false ∧ R c t'))) := fun c n hc hp => by
    have hlt : c < (freeB b ps).length := by
      rcases nLg c (freeB b ps).length with h | h
      · exact h
      · rw [zA3 h] at hc; cases hc
    have hv := VCall.frame (hyield c [.agg (encN n)] (by rw [zA9, hc]; rfl) hp) [.var (encN n)] (by have h9 := (hS c (by omega)).2; exact h9) (by show okRef _ 3 yv = true; exact hy) rfl (by
      rintro rv s' (⟨_, rfl, _⟩ | ⟨_, hh⟩)
      · exact ((hS (c + 1) (by omega)).1).trans ((hS c (by omega)).1).symm
      · exact ((hR _ _ hh).1).trans ((hS c (by omega)).1).symm)
    exact hv
  show TCall _ _ [.opq yv, .ptr 17 0, .ptr 18 0] (MI p a b g ps m ++ [.loop rc E]) _
  refine TCall.body Tryz.func123 rfl rfl Tryz.ntmps123 rfl rfl ?_
  repeat' (first | refine aoQ rfl rfl rfl (fun hg => by first | exact std0 | exact std1) (by exact rfl) ?_ | refine sqW ?_ | refine rgK (fun K' hK => ?_) | (refine aoN (hK _ _ ?_); clear hK K') | refine blK ?_)
  refine lpD (ι := Nat) (fun k => [(0, .opq yv), (1, .ptr 17 0), (2, .ptr 18 0), (8, .sl 12 (b.map encN) .no), (9, .int b.length), (10, .int k)]) (fun k => MI p a b g ps m ++ [.loop rc E])
    (fun k => k ≤ b.length ∧ Pj (((b.take k).filter fun x => !sndIn ps x.id).length)) (fun k => b.length - k) 20 (fun _ => rfl) 0 ⟨nZl _, hP0⟩ ⟨rfl, rfl, rfl, rfl, rfl, rfl, tI⟩ rfl (fun k _ => by
      simp only [zBg, zBm, Bool.and_true, zA2]
      exact ⟨hy, rfl, rfl, rfl, rfl, rfl⟩) (fun k hk => (hS (((b.take k).filter fun x => !sndIn ps x.id).length) (filter_len_le (fun x : Note => !sndIn ps x.id) b k)).2) ?_
  rintro k ⟨hk, hPk⟩
  have hcl : ((b.take k).filter fun x => !sndIn ps x.id).length ≤ (freeB b ps).length := filter_len_le (fun x : Note => !sndIn ps x.id) b k
  by_cases hlt : k < b.length
  · obtain ⟨n, hn⟩ : ∃ n, b.getD k default = n := ⟨_, rfl⟩
    have hlk := sndIn_swp ps (b.getD k default).id
    rw [hn] at hlk
    by_cases hfr : sndIn ps n.id = true
    · rw [hfr] at hlk
      have hc1 := filter_not (fun x : Note => !sndIn ps x.id) b hlt (by rw [hn, hfr]; rfl)
      generalize ((b.take k).filter fun x => !sndIn ps x.id).length = c at *
      clear hyc hyield
      repeat' (first | refine aoQ rfl rfl rfl (fun hg => by first | exact PRun.eq (v := .tup [.int ((lk (swp ps) n.id).getD 0), .b (lk (swp ps) n.id).isSome]) (PRun.lookup (ok := true) (ek := ekI) (ev := AV.int) (al := swp ps) (key := n.id) (zv := 0) (keyLaw_int (LOk.of (tabOk.get rfl))) (LOk.of (tabOk.get rfl)) (LOk.of (tabOk.get rfl)) rfl rfl (Rd.w rfl nd) (Or.inr ⟨_, rfl, rfl⟩) (Rd.w rfl nd) rfl) (show AV.tup [.int ((lk (swp ps) n.id).getD 0), .b (lk (swp ps) n.id).isSome] = AV.tup [.int ((lk (swp ps) n.id).getD 0), .b true] by rw [hlk]) | exact iX encN b ((k : Nat) : Int) hn (hb := by omega) | exact std0 | exact (Bool.noConfusion (show false = true from hg) : PRun _ _ _ _ (.b false))) (by exact rfl) ?_ | refine sqW ?_ | refine rgK (fun K' hK => ?_) | (refine aoN (hK _ _ ?_); clear hK K') | refine aoE (stW tabOk rfl rfl rfl tI rfl rfl tI rfl rfl rfl rfl rfl rfl rfl ?_) | refine aoE (alW tabOk rfl rfl rfl rfl rfl rfl ?_) | (refine cdW rfl tI (fun hc => ?_) (fun hc => ?_) <;> (first | (simp only [dEt] at hc) | (simp only [dEf, zA0, zA1] at hc) | skip)) | refine blK ?_ | refine exW ?_ | refine skW ?_ | refine rtW ?_)
      all_goals (first | (exfalso; omega) | (exfalso; simp at hc; done) | (exfalso; simp at hc; omega) | (exfalso; simp only [dEf, dEt] at hc; omega) | (rename_i h0; exfalso; simp at h0; done) | (rename_i h0; exfalso; simp at h0; omega) | skip)
      exact ⟨k + 1, ⟨hlt, by rw [hc1]; exact hPk⟩, by omega, ⟨rfl, rfl, rfl, rfl, rfl, rfl, tI⟩, rfl⟩
    · have hfr' : sndIn ps n.id = false := by simpa using hfr
      rw [hfr'] at hlk
      obtain ⟨hc0, hc1⟩ := filter_at (fun x : Note => !sndIn ps x.id) b hlt (by rw [hn, hfr']; rfl)
      rw [hn] at hc0
      have hc2 : ((b.take (k + 1)).filter fun x => !sndIn ps x.id).length ≤ (freeB b ps).length := filter_len_le (fun x : Note => !sndIn ps x.id) b (k + 1)
      rw [hc1] at hc2
      generalize ((b.take k).filter fun x => !sndIn ps x.id).length = c at *
      have hv := hyc c n hc0 hPk
      clear hyc hyield
      repeat' (first | refine aoQ rfl rfl rfl (fun hg => by first | exact PRun.eq (v := .tup [.int ((lk (swp ps) n.id).getD 0), .b (lk (swp ps) n.id).isSome]) (PRun.lookup (ok := true) (ek := ekI) (ev := AV.int) (al := swp ps) (key := n.id) (zv := 0) (keyLaw_int (LOk.of (tabOk.get rfl))) (LOk.of (tabOk.get rfl)) (LOk.of (tabOk.get rfl)) rfl rfl (Rd.w rfl nd) (Or.inr ⟨_, rfl, rfl⟩) (Rd.w rfl nd) rfl) (show AV.tup [.int ((lk (swp ps) n.id).getD 0), .b (lk (swp ps) n.id).isSome] = AV.tup [.int ((lk (swp ps) n.id).getD 0), .b false] by rw [hlk]) | exact iX encN b ((k : Nat) : Int) hn (hb := by omega) | exact std0) (by exact rfl) ?_ | refine sqW ?_ | refine rgK (fun K' hK => ?_) | (refine aoN (hK _ _ ?_); clear hK K') | refine aoE (stW tabOk rfl rfl rfl tI rfl rfl tI rfl rfl rfl rfl rfl rfl rfl ?_) | refine aoE (alW tabOk rfl rfl rfl rfl rfl rfl ?_) | refine aoE (EStep.gd (gOf_yesB rfl rfl rfl) rfl <| scT hv rfl rfl rfl rfl rfl (by exact rfl) rfl rfl (by repeat' (first | exact tI | exact rfl | refine ⟨?_, ?_⟩)) ?_) | (refine cdW rfl tI (fun hc => ?_) (fun hc => ?_) <;> (first | (simp only [dEt] at hc) | (simp only [dEf, zA0, zA1] at hc) | skip)) | refine blK ?_ | refine exW ?_ | refine skW ?_)
      all_goals (first | (exfalso; omega) | (exfalso; simp at hc; done) | (exfalso; simp at hc; omega) | (exfalso; simp only [dEf, dEt] at hc; omega) | (rename_i h0; exfalso; simp at h0; done) | (rename_i h0; exfalso; simp at h0; omega) | skip)
      rintro r t ⟨t', rfl, (⟨rfl, rfl, hp1⟩ | ⟨rfl, hh⟩)⟩
      · repeat' (first | refine aoQ rfl rfl rfl (fun hg => by exact std0) (by exact rfl) ?_ | refine rgK (fun K' hK => ?_) | (refine aoN (hK _ _ ?_); clear hK K') | (refine cdW rfl tI (fun hc => ?_) (fun hc => ?_) <;> (first | (simp only [dEt] at hc) | (simp only [dEf, zA0, zA1] at hc) | skip)) | refine skW ?_ | refine rtW ?_)
        all_goals (first | (exfalso; omega) | (exfalso; simp at hc; done) | (exfalso; simp at hc; omega) | (exfalso; simp only [dEf, dEt] at hc; omega) | (rename_i h0; exfalso; simp at h0; done) | (rename_i h0; exfalso; simp at h0; omega) | skip)
        exact ⟨k + 1, ⟨hlt, by rw [hc1]; exact hp1⟩, by omega, ⟨rfl, rfl, rfl, rfl, rfl, rfl, tI⟩, rfl⟩
      · obtain ⟨k1, k2⟩ := hR _ _ hh
        repeat' (first | refine aoQ rfl rfl rfl (fun hg => by exact std0) (by exact rfl) ?_ | refine rgK (fun K' hK => ?_) | (refine aoN (hK _ _ ?_); clear hK K') | (refine cdW rfl tI (fun hc => ?_) (fun hc => ?_) <;> (first | (simp only [dEt] at hc) | (simp only [dEf, zA0, zA1] at hc) | skip)) | refine skW ?_ | refine rtW ?_)
        all_goals (first | (exfalso; omega) | (exfalso; simp at hc; done) | (exfalso; simp at hc; omega) | (exfalso; simp only [dEf, dEt] at hc; omega) | (rename_i h0; exfalso; simp at h0; done) | (rename_i h0; exfalso; simp at h0; omega) | skip)
        exact ⟨.inr rfl, .tup [], t', .inr ⟨c, by omega, hh⟩, by simp, by rw [k1]; exact nLr _, by rw [k1]; exact k2, rfl, rfl⟩
  · have hce : ((b.take k).filter fun x => !sndIn ps x.id).length = (freeB b ps).length := by rw [zAs (by omega)]; rfl
    rw [hce] at hPk
    have hend := all_len (L := 20) (hS (((b.take k).filter fun x => !sndIn ps x.id).length) hcl)
    have hend2 : MI p a b g ps m ++ [AObj.loop rc E] = MI p a b g ps m ++ [AObj.loop rc E] := by first | rw [hce] | rfl
    generalize ((b.take k).filter fun x => !sndIn ps x.id).length = c at *
    clear hyc hyield
    repeat' (first | refine aoQ rfl rfl rfl (fun hg => by first | exact std0 | exact std1) (by exact rfl) ?_ | refine sqW ?_ | refine rgK (fun K' hK => ?_) | (refine aoN (hK _ _ ?_); clear hK K') | refine aoE (stW tabOk rfl rfl rfl tI rfl rfl tI rfl rfl rfl rfl rfl rfl rfl ?_) | refine aoE (alW tabOk rfl rfl rfl rfl rfl rfl ?_) | (refine cdW rfl tI (fun hc => ?_) (fun hc => ?_) <;> (first | (simp only [dEt] at hc) | (simp only [dEf, zA0, zA1] at hc) | skip)) | refine blK ?_ | refine exW ?_ | refine skW ?_)
    all_goals (first | (exfalso; omega) | (exfalso; simp at hc; done) | (exfalso; simp at hc; omega) | (exfalso; simp only [dEf, dEt] at hc; omega) | (rename_i h0; exfalso; simp at h0; done) | (rename_i h0; exfalso; simp at h0; omega) | skip)
    exact ⟨.inl rfl, .tup [], MI p a b g ps m ++ [.loop rc E], .inl ⟨hend2, hPk⟩, rfl, nLr _, hend, rfl, rfl⟩
end Go.Proofs.YtekfpcgagoidcaaGreatDoor.Al
