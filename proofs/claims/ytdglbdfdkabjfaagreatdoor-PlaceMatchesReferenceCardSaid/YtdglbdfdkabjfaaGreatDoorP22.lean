/- Contracts by content: the reference of scores: Valid, Bar, Part, Note, Plays, With.  Visits of a form in plain words: which bars, which times. No program is in sight. Contracts by content: Few, Room, usable, moment.  Contracts by content: calls: Valid, of the program and of the reference.  Contracts by content: the example and the head of the laws: the head is true. No statement is proved here. -/
import Derived.Test.YtdglbdfdkabjfaaGreatDoorP8
import Derived.Test.YtdglbdfdkabjfaaGreatDoorP11
import Derived.Test.YtdglbdfdkabjfaaGreatDoorP15
import Derived.Test.YtdglbdfdkabjfaaGreatDoorP19
import Derived.Test.YtdglbdfdkabjfaaGreatDoorP20
import Derived.Test.YtdglbdfdkabjfaaGreatDoorP21
set_option linter.unusedVariables false
set_option linter.unusedSimpArgs false
namespace Go.Proofs.YtdglbdfdkabjfaaGreatDoor
open Go.Ab
attribute [local irreducible] AWP AOps EStep AQ PStep PRun PCall TCall VCall
def Score.Sized (s : Score) : Prop := s.bars.length ≤ 9223372036854775807 ∧ s.parts.length ≤ 9223372036854775807 ∧ s.notes.length ≤ 9223372036854775807
def Score.few (s : Score) : Bool := decide ((s.bars.length : Int) ≤ 60) && decide ((s.parts.length : Int) ≤ 61) && decide ((s.notes.length : Int) ≤ 60)
theorem few8_spec (s : Score) (hs : s.Sized) : PCall Tryz.prog 29 [.agg (encS s)] (.b s.few) := by
 obtain ⟨h1, h2, h3⟩ := hs
 refine PCall.body Tryz.func29 rfl rfl Tryz.ntmps29 rfl rfl ?_
 repeat' (first | refine aoQ rfl rfl rfl (fun hg => by first | exact std0 | exact std1) (by exact rfl) ?_ | refine sqW ?_ | refine rgK (fun K' hK => ?_) | (refine aoN (hK _ _ ?_); clear hK K') | refine aoE (bxW rfl rfl rfl rfl rfl tI rfl rfl ?_) | refine aoE (stW tabOk rfl rfl rfl tI rfl rfl tI rfl rfl rfl rfl rfl rfl rfl ?_) | refine aoE (alW tabOk rfl rfl rfl rfl rfl rfl ?_) | refine cdN rfl tI (fun hc => ?_) (fun hc => ?_) | refine blK ?_ | refine exW ?_ | refine skW ?_ | refine rtW ?_ | refine dK2 (by decide +kernel) (by kernel_rfl) (by decide +kernel) rfl (fun K' hK => ?_) | refine dL2 (by kernel_rfl) (by decide +kernel) rfl (fun K' hK => ?_) | (refine aqN (hK _ ?_); clear hK K') | refine aqN ?_ | refine aqQ rfl rfl (fun hg => by first | exact std0 | exact std1) (by exact rfl) ?_)
 exact ⟨.inr rfl, Ent.b rfl⟩
theorem notesOk_all {bars : List Bar} {l : List Note} (h : notesOk bars l = true) : barsOk bars = true ∧ l.length ≤ 20000 ∧ ∀ x ∈ l, noteOk bars x = true := by
 unfold notesOk at h
 simp only [zA0, dEt, zA6] at h
 exact ⟨h.1.1.1, by omega, h.1.2⟩
def scoreX (s : Score) : Bool := !scoreBad s && stepsOk (idxAL s.bars) s.notes
theorem scoreOk_eq (s : Score) : scoreOk s = scoreX s := by
 unfold scoreOk scoreX
 cases h : scoreBad s with
 | true => rfl
 | false =>
   have : notesOk s.bars s.notes = true := by
    unfold scoreBad at h
    simp only [zAk, zB7] at h
    exact h.1.2
   rw [sort_steps this]
set_option maxRecDepth 20000 in
theorem valid8_spec (s : Score) (hs : s.Small) : PCall Tryz.prog 60 [.agg (encS s)] (.b (scoreOk s)) := by
 obtain ⟨h1, h2, h3⟩ := hs
 have v1 := r6valid_spec s.bars (by omega)
 have v2 := partsX_spec s.parts (by omega)
 rw [partsX_ok] at v2
 have v3 := r7valid_spec s.bars s.notes (by omega) (by omega)
 rw [scoreOk_eq]
 refine PCall.body Tryz.func60 rfl rfl Tryz.ntmps60 rfl rfl ?_
 repeat' (first | refine aoQ rfl rfl rfl (fun hg => by first | exact std0 | exact pcW (v1) rfl rfl nd rfl nds | exact pcW (v2) rfl rfl nd rfl nds | exact pcW (r8in_spec _ _ _) rfl rfl nd rfl nds | exact std1) (by exact rfl) ?_ | refine sqW ?_ | refine rgK (fun K' hK => ?_) | (refine aoN (hK _ _ ?_); clear hK K') | refine aoE (bxW rfl rfl rfl rfl rfl tI rfl rfl ?_) | refine cdN rfl tI (fun hc => ?_) (fun hc => ?_) | refine skW ?_ | refine rtW ?_)
 · refine ⟨.inr rfl, Ent.b (Eq.symm ?_)⟩
   unfold scoreX scoreBad
   have : (!inB s.version 1 1000000 || !barsOk s.bars || !partsOk s.parts) = true := hc
   rw [this]; rfl
 have b1 : (!inB s.version 1 1000000 || !barsOk s.bars || !partsOk s.parts) = false := hc
 have hp : barsOk s.bars = true ∧ partsOk s.parts = true := by
  simp only [zAk, zB7] at b1
  exact ⟨b1.1.2, b1.2⟩
 clear hc v1 v2
 repeat' (first | refine aoQ rfl rfl rfl (fun hg => by first | exact std0 | exact pcW (v3) rfl rfl nd rfl nds | exact std1) (by exact rfl) ?_ | refine sqW ?_ | refine rgK (fun K' hK => ?_) | (refine aoN (hK _ _ ?_); clear hK K') | refine cdN rfl tI (fun hc => ?_) (fun hc => ?_) | refine skW ?_ | refine rtW ?_)
 · refine ⟨.inr rfl, Ent.b (Eq.symm ?_)⟩
   unfold scoreX scoreBad
   rw [b1, show notesOk s.bars s.notes = false by simpa using hc]; rfl
 have hn : notesOk s.bars s.notes = true := by simpa using hc
 clear hc v3
 obtain ⟨n1, n2, n3⟩ := notesOk_all hn
 have v4 := wrong8_spec s.parts s.notes (by omega) (by omega) hp.2 (fun n hn => (noteOk_form (n3 n hn)).2)
 repeat' (first | refine aoQ rfl rfl rfl (fun hg => by first | exact std0 | exact pcW (v4) rfl rfl nd rfl nds | exact std1) (by exact rfl) ?_ | refine sqW ?_ | refine rgK (fun K' hK => ?_) | (refine aoN (hK _ _ ?_); clear hK K') | refine cdN rfl tI (fun hc => ?_) (fun hc => ?_) | refine blK ?_ | refine skW ?_ | refine rtW ?_)
 · refine ⟨.inr rfl, Ent.b (Eq.symm ?_)⟩
   unfold scoreX scoreBad
   rw [b1, hn, show (wrongR s.parts s.notes != 0) = true from hc]; rfl
 have hw : (wrongR s.parts s.notes != 0) = false := hc
 clear hc v4
 have hbad : scoreBad s = false := by unfold scoreBad; rw [b1, hn, hw]; rfl
 refine lpW (ι := Nat) (fun k => [(1, .ptr 0 0), (6, .int k)]) (fun _ => [.var (encS s)]) (fun k => 1 ≤ k ∧ (k ≤ s.notes.length ∨ k = 1) ∧ ∀ j, j < k → (j == 0 || bef (idxAL s.bars) (s.notes.getD (j - 1) default) (s.notes.getD j default)) = true) (fun k => s.notes.length - k) 1 ⟨nLr _, .inr rfl, fun j h => by (obtain rfl : j = 0 := by omega); rfl⟩ ⟨rfl, rfl, tI⟩ rfl ?_
 rintro k ⟨hk0, hk, hall⟩
 by_cases hlt : k < s.notes.length
 · have hb := before_spec s.bars (s.notes.getD ((k : Int) - 1).toNat default) (s.notes.getD k default) (by omega) n1 (all_mem n3 (by omega)) (all_mem n3 hlt)
   have e : ((k : Int) - 1).toNat = k - 1 := by omega
   repeat' (first | refine aoQ rfl rfl rfl (fun hg => by first | exact std0 | exact std1) (by exact rfl) ?_ | refine sqW ?_ | refine rgK (fun K' hK => ?_) | (refine aoN (hK _ _ ?_); clear hK K') | refine cdN rfl tI (fun hc => ?_) (fun hc => ?_) | refine blK ?_ | refine exW ?_ | refine skW ?_ | refine rtW ?_ | refine dK2 (by decide +kernel) (by kernel_rfl) (by decide +kernel) rfl (fun K' hK => ?_) | (refine aqN (hK _ ?_); clear hK K') | refine aqQ rfl rfl (fun hg => by first | exact std0 | exact pcW (hb) rfl rfl nd rfl nds | exact std1) (by exact rfl) ?_)
   all_goals (first | (exfalso; omega) | skip)
   · refine ⟨.inr rfl, Ent.b (Eq.symm ?_)⟩
     unfold scoreX stepsOk
     rw [e] at hc
     rw [allR_no hlt (by
      have h5 : (k == 0) = false := by simp; omega
      rw [h5, zD5]; simpa using hc)]; simp
   · rw [e] at hc
     refine ⟨k + 1, ⟨by omega, .inl (by omega), fun j hj => lt_succ_cases hall ?_ hj⟩, by omega, ⟨rfl, rfl, tI⟩, rfl⟩
     rw [show bef (idxAL s.bars) (s.notes.getD (k - 1) default) (s.notes.getD k default) = true by simpa using hc]; simp
 · repeat' (first | refine aoQ rfl rfl rfl (fun hg => by first | exact std0 | exact std1) (by exact rfl) ?_ | refine sqW ?_ | refine rgK (fun K' hK => ?_) | (refine aoN (hK _ _ ?_); clear hK K') | refine cdN rfl tI (fun hc => ?_) (fun hc => ?_) | refine blK ?_ | refine exW ?_ | refine skW ?_ | refine rtW ?_ | refine dK2 (by decide +kernel) (by kernel_rfl) (by decide +kernel) rfl (fun K' hK => ?_) | refine aqQ rfl rfl (fun hg => by first | exact std0 | exact std1) (by exact rfl) ?_)
   all_goals (first | (exfalso; omega) | skip)
   refine ⟨.inr rfl, Ent.b (Eq.symm ?_)⟩
   unfold scoreX stepsOk
   rw [hbad, allR_yes fun j hj => hall j (by omega)]; rfl
theorem findI_ge {α : Type} (p : α → Bool) (l : List α) : -1 ≤ findI p l := by unfold findI; split <;> omega
end Go.Proofs.YtdglbdfdkabjfaaGreatDoor
namespace Go.Pl
theorem upTo_mem {a b x : Int} (h : x ∈ upTo a b) : a ≤ x ∧ x < b := by
 unfold upTo at h
 obtain ⟨i, hi, rfl⟩ := zB4.1 h
 have := zAu.1 hi
 omega
theorem rep_mem {f : PForm} {r : PRep} {all : Bool} {x : Int} (h : x ∈ repL f r all) : r.from_ ≤ x ∧ x < r.until_ := by
 unfold repL at h
 obtain ⟨p, _, hx⟩ := List.mem_flatMap.1 h
 unfold passL at hx
 exact upTo_mem (zBk.1 hx).1
theorem partF_mem {f : PForm} {M : Int} (hr : ∀ r ∈ f.reps, 0 ≤ r.from_ ∧ r.from_ < r.until_ ∧ r.until_ ≤ M) {u : Int} (hu : u ≤ M) {all : Bool} : ∀ (k : Nat) (bar x : Int), 0 ≤ bar → x ∈ partF f u all k bar → 0 ≤ x ∧ x < M
 | 0, _, _, _, h => by cases h
 | k + 1, bar, x, hb, h => by
   unfold partF at h
   by_cases hlt : bar < u
   · rw [if_pos hlt] at h
     cases hs : startsR f.reps bar with
     | none =>
       rw [hs] at h
       simp only [zB3] at h
       rcases h with rfl | h
       · omega
       · exact partF_mem hr hu k (bar + 1) x (by omega) h
     | some r =>
       rw [hs] at h
       simp only [zC1] at h
       have hm := hr r (zB1 hs)
       rcases h with h | h
       · have := rep_mem h; omega
       · exact partF_mem hr hu k r.until_ x (by omega) h
   · rw [if_neg hlt] at h; cases h
theorem form_jump {f : PForm} (h : formOk f = true) : 0 ≤ f.jump.to ∧ f.jump.at_ ≤ f.bars ∧ f.jump.fine ≤ f.bars := by
 unfold formOk at h
 simp only [zA0, dEt] at h
 have hj := h.1.1.2
 have hb := h.1.1.1.1.1.1
 unfold jumpOk at hj
 rw [zB6] at hj
 rcases hj with hj | hj
 · rw [of_decide_eq_true hj]; exact ⟨zBh _, by show (0 : Int) ≤ _; omega, by show (0 : Int) ≤ _; omega⟩
 · simp only [zA0, zB8, zAk, dEf] at hj
   omega
theorem whole_mem {f : PForm} (h : formOk f = true) {x : Int} (hx : x ∈ wholeL f) : 0 ≤ x ∧ x < f.bars := by
 obtain ⟨j1, j2, j3⟩ := form_jump h
 have hr : ∀ r ∈ f.reps, 0 ≤ r.from_ ∧ r.from_ < r.until_ ∧ r.until_ ≤ f.bars := fun r hm => by
  unfold formOk at h
  simp only [zA0, dEt] at h
  have := reps_all h.1.1.1.1.2.1 r hm
  omega
 unfold wholeL partL at hx
 split at hx
 · rcases zC1.1 hx with hx | hx
   · exact partF_mem hr (zBh _) _ _ _ (zBh _) hx
   · exact partF_mem hr j3 _ _ _ j1 hx
 · rcases zC1.1 hx with hx | hx
   · exact partF_mem hr j2 _ _ _ (zBh _) hx
   · exact partF_mem hr j3 _ _ _ j1 hx
theorem visL_mem {l : List Int} {v : PVis} (h : v ∈ visL l) : v.bar ∈ l ∧ 1 ≤ v.pass ∧ v.pass ≤ (l.length : Int) := by
 unfold visL at h
 obtain ⟨i, hi, rfl⟩ := zB4.1 h
 have hi := zAu.1 hi
 have e1 : l.getD i 0 = l[i] := by simp [List.getD, hi]
 have hm : l.getD i 0 ∈ l.take (i + 1) := by
  rw [e1, List.mem_take_iff_getElem]
  exact ⟨i, by omega, rfl⟩
 refine ⟨by rw [e1]; exact zBs hi, ?_, ?_⟩
 · have := List.count_pos_iff.2 hm
   show (1 : Int) ≤ ((l.take (i + 1)).count (l.getD i 0) : Int)
   omega
 · have h1 : (l.take (i + 1)).count (l.getD i 0) ≤ (l.take (i + 1)).length := List.count_le_length ..
   rw [zC4] at h1
   show ((l.take (i + 1)).count (l.getD i 0) : Int) ≤ _
   omega
theorem vis_in {f : PForm} (h : formOk f = true) {v : PVis} (hv : v ∈ visits f) : (0 ≤ v.bar ∧ v.bar < f.bars) ∧ 1 ≤ v.pass ∧ v.pass ≤ 20000 := by
 unfold visits at hv
 obtain ⟨h1, h2, h3⟩ := visL_mem (zBk.1 hv).1
 have hl : (wholeL f).length ≤ 20000 := by
  unfold formOk at h
  simp only [zA0, dEt] at h
  exact h.2
 exact ⟨whole_mem h h1, h2, by omega⟩
end Go.Pl
namespace Go.Proofs.YtdglbdfdkabjfaaGreatDoor.Pl
open Go.Ab Go.Pl
attribute [local irreducible] AWP AOps EStep AQ PStep PRun PCall TCall VCall
def ratQ (n : Int) : Rat := ⟨n.tdiv (redG n 1680), (1680 : Int).tdiv (redG n 1680)⟩
theorem ratQ_nat (m : Nat) : ratQ (m : Int) = ⟨((m / Nat.gcd m 1680 : Nat) : Int), ((1680 / Nat.gcd m 1680 : Nat) : Int)⟩ := by
 have e : redG (m : Int) 1680 = ((Nat.gcd m 1680 : Nat) : Int) := rfl
 unfold ratQ
 rw [e]
 congr 1
theorem ticksQ {n : Int} (h : 0 ≤ n ∧ n ≤ 1000000) : durOk (ratQ n) = true ∧ ticksV (ratQ n) = n := by
 obtain ⟨m, rfl⟩ := zAy h.1
 rw [ratQ_nat]
 have hg : 0 < Nat.gcd m 1680 := Nat.gcd_pos_of_pos_right _ (by decide)
 have h1 : Nat.gcd m 1680 ∣ m := Nat.gcd_dvd_left _ _
 have h2 : Nat.gcd m 1680 ∣ 1680 := Nat.gcd_dvd_right _ _
 have h3 : Nat.gcd (m / Nat.gcd m 1680) (1680 / Nat.gcd m 1680) = 1 := Nat.gcd_div_gcd_div_gcd_of_pos_right (by decide)
 have hle : Nat.gcd m 1680 ≤ 1680 := Nat.le_of_dvd (by decide) h2
 have d1 : 1 ≤ 1680 / Nat.gcd m 1680 := (Nat.one_le_div_iff hg).2 hle
 have d2 : 1680 / Nat.gcd m 1680 ≤ 1680 := Nat.div_le_self _ _
 have d3 : m / Nat.gcd m 1680 ≤ m := Nat.div_le_self _ _
 have d4 : 1680 / (1680 / Nat.gcd m 1680) = Nat.gcd m 1680 := Nat.div_div_self h2 (by decide)
 have d5 : m / Nat.gcd m 1680 * Nat.gcd m 1680 = m := Nat.div_mul_cancel h1
 have d6 : 1680 % (1680 / Nat.gcd m 1680) = 0 := Nat.mod_eq_zero_of_dvd (Nat.div_dvd_of_dvd h2)
 generalize m / Nat.gcd m 1680 = a at *
 generalize 1680 / Nat.gcd m 1680 = b at *
 constructor
 · unfold durOk ratOk
   simp only [zA0, dEt, beq_iff_eq]
   refine ⟨⟨⟨⟨⟨⟨by omega, by omega⟩, by omega⟩, by omega⟩, ?_⟩, by omega⟩, ?_⟩
   · show Int.gcd (a : Int) (b : Int) = 1
     rw [Int.gcd_natCast_natCast]; exact h3
   · show Int.tmod ((1680 : Nat) : Int) (b : Int) = 0
     rw [← Int.ofNat_tmod, d6]; rfl
 · unfold ticksV
   show (a : Int) * Int.tdiv ((1680 : Nat) : Int) (b : Int) = m
   rw [← Int.ofNat_tdiv, d4, ← Int.natCast_mul, d5]
theorem of6_spec (n : Int) (h : 0 ≤ n ∧ n ≤ 1000000) : PCall Tryz.prog 64 [.int n] (.agg (encR (ratQ n))) := by
 have gg := gcd6_spec n 1680 ⟨⟨h.1, by omega⟩, by decide, by decide⟩
 have hg0 : 0 < Int.gcd n 1680 := zCw n (by decide)
 have er : ratQ n = ⟨n.tdiv (Int.gcd n 1680 : Nat), (1680 : Int).tdiv (Int.gcd n 1680 : Nat)⟩ := rfl
 rw [er]
 have q1 := tdiv_le n (Int.gcd n 1680 : Nat)
 have q2 := tdiv_le 1680 (Int.gcd n 1680 : Nat)
 generalize Int.gcd n 1680 = g at *
 refine PCall.bodyS tabOk Tryz.func64 rfl rfl Tryz.ntmps64 rfl ?_
 repeat' (first | refine aoQ rfl rfl rfl (fun hg => by first | exact std0 | exact pcW (gg) rfl rfl nd rfl nds) (by exact rfl) ?_ | refine sqW ?_ | refine rgK (fun K' hK => ?_) | (refine aoN (hK _ _ ?_); clear hK K') | refine aoE (stW tabOk rfl rfl rfl tI rfl rfl tI rfl rfl rfl rfl rfl rfl rfl ?_) | refine aoE (alW tabOk rfl rfl rfl rfl rfl rfl ?_) | refine rtW ?_ | refine dL2 (by kernel_rfl) (by decide +kernel) rfl (fun K' hK => ?_) | refine aqN ?_ | refine aqQ rfl rfl (fun hg => by first | exact std0 | exact pbD tabOk rfl rfl nds) (by exact rfl) ?_)
 exact ⟨.inr rfl, _, rfl, Ent.of rfl⟩
def fewF (f : PForm) : Bool := decide (f.bars ≤ 60) && decide ((f.reps.length : Int) ≤ 110) && decide ((f.ends.length : Int) ≤ 60) && decide ((f.cuts.length : Int) ≤ 110)
structure FSized (f : PForm) : Prop where
 reps : f.reps.length ≤ 9223372036854775807
 ends : f.ends.length ≤ 9223372036854775807
 cuts : f.cuts.length ≤ 9223372036854775807
theorem few9_spec (f : PForm) (hz : FSized f) : PCall Tryz.prog 31 [.agg (encF f)] (.b (fewF f)) := by
 obtain ⟨h1, h2, h3⟩ := hz
 refine PCall.body Tryz.func31 rfl rfl Tryz.ntmps31 rfl rfl ?_
 repeat' (first | refine aoQ rfl rfl rfl (fun hg => by first | exact std0 | exact std1) (by exact rfl) ?_ | refine sqW ?_ | refine rgK (fun K' hK => ?_) | (refine aoN (hK _ _ ?_); clear hK K') | refine aoE (bxW rfl rfl rfl rfl rfl tI rfl rfl ?_) | refine rtW ?_)
 exact ⟨.inr rfl, Ent.b rfl⟩
def fewE (e : Ed.Edition) : Bool := decide ((e.bars.length : Int) ≤ 80) && decide ((e.letters.length : Int) ≤ 60)
def fewB (s : Score) (e : Ed.Edition) (r : Room) : Bool := s.few && fewE e && fewF r.form
theorem few31_spec (s : Score) (hs : s.Sized) (e : Ed.Edition) (r : Room) (hz : FSized r.form) : PCall Tryz.prog 10 [.agg (encS s), .agg (Ed.encE e), .agg (encRm r)] (.b (fewB s e r)) := by
 have h1 := few8_spec s hs
 have h2 := Ed.few_spec e
 have h3 := few9_spec r.form hz
 refine PCall.body Tryz.func10 rfl rfl Tryz.ntmps10 rfl rfl ?_
 repeat' (first | refine aoQ rfl rfl rfl (fun hg => by first | exact std0 | exact pcW (h1) rfl rfl nd rfl nds | exact pcW (h2) rfl rfl nd rfl nds | exact pcW (h3) rfl rfl nd rfl nds) (by exact rfl) ?_ | refine sqW ?_ | refine rgK (fun K' hK => ?_) | (refine aoN (hK _ _ ?_); clear hK K') | refine aoE (bxW rfl rfl rfl rfl rfl tI rfl rfl ?_) | refine rtW ?_)
 exact ⟨.inr rfl, Ent.b rfl⟩
theorem fewB_in {s : Score} {e : Ed.Edition} {r : Room} (h : fewB s e r = true) : s.Small ∧ FIn r.form := by
 unfold fewB fewF Score.few at h
 simp only [zA0, dEt] at h
 exact ⟨⟨by omega, by omega, by omega⟩, ⟨by omega, by omega, by omega⟩⟩
theorem room31_spec (s : Score) (hs : s.Small) (r : Room) (hf : FIn r.form) : PCall Tryz.prog 62 [.agg (encS s), .agg (encRm r)] (.b (formOk r.form && r.version == s.version && r.form.bars == (s.bars.length : Int))) := by
 have hb := hs.1
 have h1 := valid9_spec r.form hf
 refine PCall.body Tryz.func62 rfl rfl Tryz.ntmps62 rfl rfl ?_
 repeat' (first | refine aoQ rfl rfl rfl (fun hg => by first | exact std0 | exact pcW (h1) rfl rfl nd rfl nds | exact std1) (by exact rfl) ?_ | refine sqW ?_ | refine rgK (fun K' hK => ?_) | (refine aoN (hK _ _ ?_); clear hK K') | refine aoE (bxW rfl rfl rfl rfl rfl tI rfl rfl ?_) | refine rtW ?_)
 exact ⟨.inr rfl, Ent.b rfl⟩
theorem room_eq (s : Score) (r : Room) : (formOk r.form && r.version == s.version && r.form.bars == (s.bars.length : Int)) = roomB s r := by
 unfold roomB
 generalize formOk r.form = a
 generalize (r.version == s.version) = b
 generalize (r.form.bars == (s.bars.length : Int)) = c
 revert a b c; decide
def usableB (s : Score) (e : Ed.Edition) (r : Room) : Bool := fewB s e r && rightB s e r
theorem usable_spec (s : Score) (hs : s.Sized) (e : Ed.Edition) (r : Room) (hz : FSized r.form) : PCall Tryz.prog 15 [.agg (encS s), .agg (Ed.encE e), .agg (encRm r)] (.b (usableB s e r)) := by
 have h1 := few31_spec s hs e r hz
 by_cases hfew : fewB s e r = true
 · obtain ⟨hsm, hf⟩ := fewB_in hfew
   have h2 := valid8_spec s hsm
   have h3 := Ed.form_spec e
   have h4 := room31_spec s hsm r hf
   rw [room_eq] at h4
   rw [hfew] at h1
   refine PCall.body Tryz.func15 rfl rfl Tryz.ntmps15 rfl rfl ?_
   repeat' (first | refine aoQ rfl rfl rfl (fun hg => by first | exact std0 | exact pcW (h1) rfl rfl nd rfl nds | exact pcW (h2) rfl rfl nd rfl nds | exact pcW (h3) rfl rfl nd rfl nds | exact pcW (h4) rfl rfl nd rfl nds) (by exact rfl) ?_ | refine sqW ?_ | refine rgK (fun K' hK => ?_) | (refine aoN (hK _ _ ?_); clear hK K') | refine aoE (bxW rfl rfl rfl rfl rfl tI rfl rfl ?_) | refine rtW ?_)
   refine ⟨.inr rfl, Ent.b ?_⟩
   unfold usableB rightB
   rw [hfew]
   generalize scoreOk s = a
   generalize Ed.formB e = b
   generalize roomB s r = c
   revert a b c; decide
 · have hfew : fewB s e r = false := by simpa using hfew
   rw [hfew] at h1
   have hu : usableB s e r = false := by unfold usableB; rw [hfew]; rfl
   rw [hu]
   refine PCall.body Tryz.func15 rfl rfl Tryz.ntmps15 rfl rfl ?_
   repeat' (first | refine aoQ rfl rfl rfl (fun hg => by first | exact std0 | exact pcW (h1) rfl rfl nd rfl nds | exact (Bool.noConfusion (show false = true from hg) : PRun _ _ _ _ (.b false)) | fail) (by exact rfl) ?_ | refine sqW ?_ | refine rgK (fun K' hK => ?_) | (refine aoN (hK _ _ ?_); clear hK K') | refine aoE (bxW rfl rfl rfl rfl rfl tI rfl rfl ?_) | refine rtW ?_)
   exact ⟨.inr rfl, Ent.b rfl⟩
def momJ (s : Score) (r : Room) (w a : Int) : Mom × Bool :=
 if visits r.form = [] then (noMom, false)
 else (⟨(s.bars.getD ((visits r.form).getD (w.toNat % (visits r.form).length) default).bar.toNat default).id, ((visits r.form).getD (w.toNat % (visits r.form).length) default).pass,
  ratQ (a.tmod (ticksX (s.bars.getD ((visits r.form).getD (w.toNat % (visits r.form).length) default).bar.toNat default).len))⟩, true)
theorem bar_ticks {s : Score} (h : scoreOk s = true) {k : Nat} (hk : k < s.bars.length) : durOk (s.bars.getD k default).len = true ∧ 1 ≤ ticksX (s.bars.getD k default).len ∧ ticksX (s.bars.getD k default).len ≤ 40320 := by
 have hbar : barsOk s.bars = true := by
  unfold scoreOk scoreBad at h
  simp only [zA0, zB8, zAk, zB7] at h
  exact h.1.1.1.1.2
 unfold barsOk at hbar
 simp only [zA0, zA6] at hbar
 have hb := hbar.1.1.1 _ (getD_in hk)
 have hb2 := hb
 rw [barT] at hb2
 simp only [zB8, zAk, dEf] at hb2
 refine ⟨?_, by omega, by omega⟩
 unfold barOk barC at hb
 simp only [zA0, zB8, zAk, zB7] at hb
 exact hb.2.1.1
theorem wrap64P {w : Int} (h : 0 ≤ w ∧ w ≤ 65535) : IntKind.i64.wrap w = w := by rw [IntKind.wrap_i64]; omega
set_option maxHeartbeats 2000000 in
set_option maxRecDepth 20000 in
theorem moment_spec (s : Score) (hs : s.Small) (hsc : scoreOk s = true) (r : Room) (hf : FIn r.form) (hform : formOk r.form = true) (hbars : r.form.bars = (s.bars.length : Int)) (w a : Int) (hw : 0 ≤ w ∧ w ≤ 65535) (ha : 0 ≤ a ∧ a ≤ 65535) :
 PCall Tryz.prog 16 [.agg (encS s), .agg (encRm r), .prim (.int .u16 w), .prim (.int .u16 a)] (.tup [.agg (encMo (momJ s r w a).1), .b (momJ s r w a).2]) := by
 have hu := unfold_spec r.form hf
 rw [show unfR r.form = (visits r.form, 0) by unfold unfR; rw [if_pos hform]] at hu
 change PCall _ _ _ (.tup [.sl 2 ((visits r.form).map encV) .no, .int 0]) at hu
 have hcw : IntKind.i64.wrap w = w := wrap64P ⟨by omega, by omega⟩
 have hca : IntKind.i64.wrap a = a := wrap64P ⟨by omega, by omega⟩
 have hvl : (visits r.form).length ≤ 20000 := by
  have h1 : (wholeL r.form).length ≤ 20000 := by rw [formOk_eq, zA0] at hform; simpa using hform.2
  have h2 := outL_len r.form (visL (wholeL r.form)).length
  unfold outL at h2
  rw [zBl] at h2
  show ((visL (wholeL r.form)).filter _).length ≤ _
  omega
 by_cases hv : visits r.form = []
 · have e1 : momJ s r w a = (noMom, false) := by unfold momJ; rw [if_pos hv]
   rw [e1]
   rw [hv] at hu
   refine PCall.bodyS tabOk Tryz.func16 rfl rfl Tryz.ntmps16 rfl ?_
   repeat' (first | refine aoQ rfl rfl rfl (fun hg => by first | exact std0 | exact pcW (hu) rfl rfl nd rfl nds | exact pbD tabOk rfl rfl nds | exact std1) (by exact rfl) ?_ | refine sqW ?_ | refine rgK (fun K' hK => ?_) | (refine aoN (hK _ _ ?_); clear hK K') | refine aoE (bxW rfl rfl rfl rfl rfl tI rfl rfl ?_) | refine aoE (stW tabOk rfl rfl rfl tI rfl rfl tI rfl rfl rfl rfl rfl rfl rfl ?_) | refine aoE (alW tabOk rfl rfl rfl rfl rfl rfl ?_) | (refine cdN rfl tI (fun hc => ?_) (fun hc => ?_) <;> try dsimp only at hc) | refine skW ?_ | refine rtW ?_)
   · exact ⟨.inr rfl, _, rfl, Ent.of rfl⟩
   all_goals (exfalso; simp at hc; done)
 · have hn : 0 < (visits r.form).length := zDa.2 hv
   obtain ⟨j, hj⟩ : ∃ j, w.toNat % (visits r.form).length = j := ⟨_, rfl⟩
   have hjl : j < (visits r.form).length := by rw [← hj]; exact zCv _ hn
   have hrem : w.tmod ((visits r.form).length : Int) = (j : Int) := by
    rw [zCd hw.1, ← hj, Int.natCast_emod, Int.toNat_of_nonneg hw.1]
   obtain ⟨V, hV⟩ : ∃ V, (visits r.form).getD j default = V := ⟨_, rfl⟩
   obtain ⟨⟨hb0, hb1⟩, _⟩ := vis_in hform (hV ▸ getD_in hjl : V ∈ visits r.form)
   obtain ⟨i, hi⟩ : ∃ i : Nat, V.bar = i := ⟨V.bar.toNat, by omega⟩
   have hil : i < s.bars.length := by omega
   obtain ⟨B, hB⟩ : ∃ B, s.bars.getD i default = B := ⟨_, rfl⟩
   obtain ⟨_, ht1, ht2⟩ := bar_ticks hsc hil
   rw [hB] at ht1 ht2
   have hbl := hs.1
   have htk := ticks6_spec B.len
   have hr2 : 0 ≤ a.tmod (ticksX B.len) ∧ a.tmod (ticksX B.len) ≤ 1000000 := by
    rw [zCd ha.1]
    have := Int.emod_nonneg a (b := ticksX B.len) (by omega)
    have := Int.emod_lt_of_pos a (b := ticksX B.len) (by omega)
    omega
   have hof := of6_spec (a.tmod (ticksX B.len)) hr2
   have e1 : momJ s r w a = (⟨B.id, V.pass, ratQ (a.tmod (ticksX B.len))⟩, true) := by
    unfold momJ
    rw [if_neg hv, hj, hV, hi, zAa, hB]
   rw [e1]
   obtain ⟨vb, vp⟩ := V
   have hi : vb = i := hi
   subst hi
   generalize hq : ticksX B.len = T at *
   generalize hq2 : a.tmod T = A at *
   generalize hR : ratQ A = R at *
   generalize hVV : visits r.form = VV at *
   refine PCall.bodyS tabOk Tryz.func16 rfl rfl Tryz.ntmps16 rfl ?_
   repeat' (first | refine aoQ rfl rfl rfl (fun hg => by first | exact iX encB s.bars ((i : Nat) : Int) hB (hb := by omega) | exact iX encV VV ((j : Nat) : Int) hV (hb := by omega) | exact PRun.remV hrem (by omega) rfl rfl nd rfl nd | exact PRun.convV tabOk hcw rfl rfl nd rfl rfl | exact std0 | exact pcW (hu) rfl rfl nd rfl nds | exact pbD tabOk rfl rfl nds | exact std1) (by exact rfl) ?_ | refine sqW ?_ | refine rgK (fun K' hK => ?_) | (refine aoN (hK _ _ ?_); clear hK K') | refine aoE (bxW rfl rfl rfl rfl rfl tI rfl rfl ?_) | refine aoE (stW tabOk rfl rfl rfl tI rfl rfl tI rfl rfl rfl rfl rfl rfl rfl ?_) | refine aoE (alW tabOk rfl rfl rfl rfl rfl rfl ?_) | (refine cdN rfl tI (fun hc => ?_) (fun hc => ?_) <;> try dsimp only at hc) | refine skW ?_ | refine rtW ?_ | refine dL2 (by kernel_rfl) (by decide +kernel) rfl (fun K' hK => ?_) | refine aqN ?_ | refine aqQ rfl rfl (fun hg => by first | exact PRun.remV hq2 (by omega) rfl rfl nd rfl nd | exact PRun.convV tabOk hca rfl rfl nd rfl rfl | exact std0 | exact pcW (htk) rfl rfl nd rfl nds | exact pcW (hof) rfl rfl nd rfl nds | exact pbD tabOk rfl rfl nds) (by exact rfl) ?_)
   · exfalso
     rw [show ((VV.length : Int) == 0) = false by simp; exact hv] at hc
     exact absurd hc (by decide)
   exact ⟨.inr rfl, _, rfl, Ent.of rfl⟩
theorem cwithin_spec (a b c : Int) : PCall Tryz.prog 65 [.int a, .int b, .int c] (.b (inB a b c)) := by
 refine PCall.body Tryz.func65 rfl rfl Tryz.ntmps65 rfl rfl ?_
 repeat' (first | refine aoQ rfl rfl rfl (fun hg => by exact std0) (by exact rfl) ?_ | refine sqW ?_ | refine rgK (fun K' hK => ?_) | (refine aoN (hK _ _ ?_); clear hK K') | refine rtW ?_)
 exact ⟨.inr rfl, fun _ _ h => h⟩
theorem in29_spec (a b c : Int) : PCall Tryz.prog 69 [.int a, .int b, .int c] (.b (inB a b c)) := by
 refine PCall.body Tryz.func69 rfl rfl Tryz.ntmps69 rfl rfl ?_
 repeat' (first | refine aoQ rfl rfl rfl (fun hg => by exact std0) (by exact rfl) ?_ | refine sqW ?_ | refine rgK (fun K' hK => ?_) | (refine aoN (hK _ _ ?_); clear hK K') | refine rtW ?_)
 exact ⟨.inr rfl, fun _ _ h => h⟩
theorem cother_spec (c : Int) : PCall Tryz.prog 125 [.prim (.int .i32 c)] (.b (Ed.otherB c)) := by
 refine PCall.body Tryz.func125 rfl rfl Tryz.ntmps125 rfl rfl ?_
 repeat' (first | refine aoQ rfl rfl rfl (fun hg => by exact std0) (by exact rfl) ?_ | refine sqW ?_ | refine rgK (fun K' hK => ?_) | (refine aoN (hK _ _ ?_); clear hK K') | refine rtW ?_)
 exact ⟨.inr rfl, fun _ _ h => h⟩
theorem cother_call (c : Nat) : FnCall Tryz.prog (.fn (.func 125) [] []) [.prim (.int .i32 c)] (.b (Ed.otherB c)) := ⟨125, [], [], rfl, cother_spec c⟩
theorem size0 {s : ByteArray} (h : s.size = 0) : s = ⟨#[]⟩ := by
 obtain ⟨d⟩ := s
 have : d.size = 0 := h
 rw [zBo this]
theorem emptyB (s : ByteArray) : (s.toList == ByteArray.toList ⟨#[]⟩) = (s.size == 0) := by
 rw [zAl, Lib.bytes_beq_iff, beq_iff_eq]
 exact ⟨fun h => by rw [h]; rfl, size0⟩
theorem cisName_spec (s : ByteArray) (hs : s.size ≤ 9223372036854775807) : PCall Tryz.prog 66 [.str s] (.b (Ed.nameB s)) := by
 by_cases h0 : 0 < s.size
 · refine PCall.body Tryz.func66 rfl rfl Tryz.ntmps66 rfl rfl ?_
   repeat' (first | refine aoQ rfl rfl rfl (fun hg => by first | exact std0 | exact pcW (Ed.runes1_spec s (.fn (.func 125) [] []) Ed.otherB cother_call Ed.other_high hs) rfl rfl nd rfl nds) (by exact rfl) ?_ | refine sqW ?_ | refine rgK (fun K' hK => ?_) | (refine aoN (hK _ _ ?_); clear hK K') | refine rtW ?_)
   refine ⟨.inr rfl, ?_⟩
   rw [← Ed.isName_eq s h0]
   exact fun _ _ h => h
 · have e : s = ⟨#[]⟩ := size0 (by omega)
   subst e
   refine PCall.body Tryz.func66 rfl rfl Tryz.ntmps66 rfl rfl ?_
   repeat' (first | refine aoQ rfl rfl rfl (fun hg => by first | exact std0 | exact pcW (Ed.runes1_spec _ (.fn (.func 125) [] []) Ed.otherB cother_call Ed.other_high hs) rfl rfl nd rfl nds) (by exact rfl) ?_ | refine sqW ?_ | refine rgK (fun K' hK => ?_) | (refine aoN (hK _ _ ?_); clear hK K') | refine rtW ?_)
   refine ⟨.inr rfl, ?_⟩
   show Ent (AV.b ((!ByteArray.toList ⟨#[]⟩ == ByteArray.toList ⟨#[]⟩) && _ && _ && _)) _
   rw [show (!ByteArray.toList ⟨#[]⟩ == ByteArray.toList ⟨#[]⟩) = false by simp, zBq, zBq, zBq, show Ed.nameB ⟨#[]⟩ = false by decide]
   exact fun _ _ h => h
theorem name29_spec (s : ByteArray) : PCall Tryz.prog 67 [.str s] (.b (Ed.nameB s)) := by
 refine PCall.body Tryz.func67 rfl rfl Tryz.ntmps67 rfl rfl ?_
 repeat' (first | refine aoQ rfl rfl rfl (fun hg => by exact std0) (by exact rfl) ?_ | refine sqW ?_ | refine rgK (fun K' hK => ?_) | (refine aoN (hK _ _ ?_); clear hK K') | (refine cdN rfl tI (fun hc => ?_) (fun hc => ?_) <;> try dsimp only at hc) | refine blK ?_ | refine skW ?_ | refine rtW ?_)
 · have e : Ed.nameB s = false := by
    simp at hc
    rcases hc with h | h
    · have : s.size = 0 := by omega
      simp [Ed.nameB, this]
    · have : ¬ s.size ≤ 12 := by omega
      simp [Ed.nameB, this]
   rw [e]; exact ⟨.inr rfl, fun _ _ h => h⟩
 · simp at hc
   have hs1 : 1 ≤ s.size := by omega
   have hs2 : s.size ≤ 12 := by omega
   clear hc
   refine lpW (ι := Nat) (fun k => [(0, .str s), (3, .int k)]) (fun _ => []) (fun k => k ≤ s.size ∧ ∀ j, j < k → Ed.nameAt s j = true) (fun k => s.size - k) 0 ⟨nZl _, fun j h => absurd h (by omega)⟩ ⟨rfl, rfl, tI⟩ rfl ?_
   rintro k ⟨hk, hall⟩
   repeat' (first | refine aoQ rfl rfl rfl (fun hg => by exact std0) (by exact rfl) ?_ | refine sqW ?_ | refine rgK (fun K' hK => ?_) | (refine aoN (hK _ _ ?_); clear hK K') | (refine cdN rfl tI (fun hc => ?_) (fun hc => ?_) <;> try dsimp only at hc) | refine blK ?_ | refine exW ?_ | refine skW ?_ | refine rtW ?_)
   · have e : Ed.nameB s = false := Ed.nameB_false (k := k) (by omega) (by simp [Ed.nameAt] at hc ⊢; omega)
     rw [e]; exact ⟨.inr rfl, fun _ _ h => h⟩
   · refine ⟨k + 1, ⟨by omega, fun j hj => ?_⟩, by omega, ⟨rfl, rfl, tI⟩, rfl⟩
     rcases nLg j k with h | h
     · exact hall j h
     · have : j = k := by omega
       subst this
       simp [Ed.nameAt] at hc ⊢; omega
   · rw [Ed.nameB_true hs1 hs2 fun j hj => hall j (by omega)]
     exact ⟨.inr rfl, fun _ _ h => h⟩
theorem cvalid_spec (c : Call) (hs : c.letter.size ≤ 9223372036854775807) : PCall Tryz.prog 17 [.agg (encCl c)] (.b (callOk c)) := by
 have v := rvalid_spec c.beat
 have n := cisName_spec c.letter hs
 have w := cwithin_spec
 by_cases hb : ratOk c.beat = true
 · obtain ⟨h1, h2, h3, h4, _⟩ := ratOk_iff.1 hb
   rw [hb] at v
   refine PCall.body Tryz.func17 rfl rfl Tryz.ntmps17 rfl rfl ?_
   repeat' (first | refine aoQ rfl rfl rfl (fun hg => by first | exact std0 | exact pcW (v) rfl rfl nd rfl nds | exact pcW (n) rfl rfl nd rfl nds | exact pcW (w _ _ _) rfl rfl nd rfl nds) (by exact rfl) ?_ | refine sqW ?_ | refine rgK (fun K' hK => ?_) | (refine aoN (hK _ _ ?_); clear hK K') | refine aoE (bxW rfl rfl rfl rfl rfl tI rfl rfl ?_) | refine rtW ?_)
   refine ⟨.inr rfl, Ent.b ?_⟩
   unfold callOk placeOk durOk
   rw [hb, emptyB]
 · have hb : ratOk c.beat = false := by simpa using hb
   rw [hb] at v
   refine PCall.body Tryz.func17 rfl rfl Tryz.ntmps17 rfl rfl ?_
   repeat' (first | refine aoQ rfl rfl rfl (fun hg => by first | exact std0 | exact pcW (v) rfl rfl nd rfl nds | exact pcW (n) rfl rfl nd rfl nds | exact pcW (w _ _ _) rfl rfl nd rfl nds) (by exact rfl) ?_ | refine sqW ?_ | refine rgK (fun K' hK => ?_) | (refine aoN (hK _ _ ?_); clear hK K') | refine aoE (bxW rfl rfl rfl rfl rfl tI rfl rfl ?_) | refine rtW ?_)
   refine ⟨.inr rfl, Ent.b ?_⟩
   unfold callOk placeOk durOk
   rw [hb, emptyB]
theorem abs1_spec (n : Int) (h : -1000000000 ≤ n ∧ n ≤ 1000000000) : PCall Tryz.prog 174 [.int n] (.int (n.natAbs : Nat)) := by
 refine PCall.body Tryz.func174 rfl rfl Tryz.ntmps174 rfl rfl ?_
 repeat' (first | refine aoQ rfl rfl rfl (fun hg => by exact std0) (by exact rfl) ?_ | refine sqW ?_ | refine rgK (fun K' hK => ?_) | (refine aoN (hK _ _ ?_); clear hK K') | (refine cdN rfl tI (fun hc => ?_) (fun hc => ?_) <;> try dsimp only at hc) | refine skW ?_ | refine rtW ?_)
 · exact ⟨.inr rfl, Ent.int (by omega)⟩
 · exact ⟨.inr rfl, Ent.int (by omega)⟩
theorem gcd1_nat (a b : Nat) (ha : a ≤ 1000000000) (hb : b ≤ 1000000000) : PCall Tryz.prog 173 [.int a, .int b] (.int (Nat.gcd a b)) := by
 refine PCall.body Tryz.func173 rfl rfl Tryz.ntmps173 rfl rfl ?_
 repeat' (first | refine aoQ rfl rfl rfl (fun hg => by exact std0) (by exact rfl) ?_ | refine sqW ?_ | refine rgK (fun K' hK => ?_) | (refine aoN (hK _ _ ?_); clear hK K') | refine blK ?_)
 refine lpW (ι := Nat × Nat) (fun i => [(0, .int i.1), (1, .int i.2)]) (fun _ => []) (fun i => Nat.gcd i.1 i.2 = Nat.gcd a b ∧ i.1 ≤ 1000000000 ∧ i.2 ≤ 1000000000) (fun i => i.2) (a, b) ⟨rfl, ha, hb⟩ ⟨rfl, rfl, tI⟩ rfl ?_
 rintro ⟨x, y⟩ ⟨g1, g2, g3⟩
 dsimp only at g1 g2 g3 ⊢
 by_cases h0 : y = 0
 · subst h0
   repeat' (first | refine aoQ rfl rfl rfl (fun hg => by exact std0) (by exact rfl) ?_ | refine sqW ?_ | refine rgK (fun K' hK => ?_) | (refine aoN (hK _ _ ?_); clear hK K') | (refine cdN rfl tI (fun hc => ?_) (fun hc => ?_) <;> try dsimp only at hc) | refine blK ?_ | refine exW ?_ | refine skW ?_ | refine rtW ?_)
   · exfalso; simp at hc
   · exact ⟨.inr rfl, Ent.int (by rw [← g1]; simp)⟩
 · have hm : x % y < y := zCv _ (by omega)
   repeat' (first | refine aoQ rfl rfl rfl (fun hg => by exact std0) (by exact rfl) ?_ | refine sqW ?_ | refine rgK (fun K' hK => ?_) | (refine aoN (hK _ _ ?_); clear hK K') | (refine cdN rfl tI (fun hc => ?_) (fun hc => ?_) <;> try dsimp only at hc) | refine blK ?_ | refine exW ?_ | refine skW ?_ | refine rtW ?_)
   · refine ⟨(y, x % y), ⟨?_, g3, by omega⟩, hm, ⟨rfl, rfl, tI⟩, rfl⟩
     rw [← g1, Nat.gcd_comm x y, Nat.gcd_rec y x, Nat.gcd_comm]
   · exfalso; simp at hc; omega
theorem rvalid1_spec (r : Rat) : PCall Tryz.prog 127 [.agg (encR r)] (.b (ratOk r)) := by
 by_cases hb : 1 ≤ r.d ∧ r.d ≤ 1000000 ∧ -1000000000 ≤ r.n ∧ r.n ≤ 1000000000
 · obtain ⟨h1, h2, h3, h4⟩ := hb
   have ha := abs1_spec r.n ⟨h3, h4⟩
   have ed : ((r.d.toNat : Nat) : Int) = r.d := by omega
   have hg := gcd1_nat r.n.natAbs r.d.toNat (by omega) (by omega)
   rw [ed, show Nat.gcd r.n.natAbs r.d.toNat = Int.gcd r.n r.d by unfold Int.gcd; congr 1; omega] at hg
   have hx := hg
   clear hg
   refine PCall.body Tryz.func127 rfl rfl Tryz.ntmps127 rfl rfl ?_
   repeat' (first | refine aoQ rfl rfl rfl (fun hg => by exact std0) (by exact rfl) ?_ | refine sqW ?_ | refine rgK (fun K' hK => ?_) | (refine aoN (hK _ _ ?_); clear hK K') | refine aoE (bxW rfl rfl rfl rfl rfl tI rfl rfl ?_) | (refine cdN rfl tI (fun hc => ?_) (fun hc => ?_) <;> try dsimp only at hc) | refine skW ?_ | refine rtW ?_ | refine dK2 (by decide +kernel) (by kernel_rfl) (by decide +kernel) rfl (fun K' hK => ?_) | (refine aqN (hK _ ?_); clear hK K') | refine aqQ rfl rfl (fun hg => by first | exact std0 | exact pcW (ha) rfl rfl nd rfl nds | exact pcW (hx) rfl rfl nd rfl nds) (by exact rfl) ?_)
   · exfalso; simp at hc; omega
   · refine ⟨.inr rfl, Ent.b ?_⟩
     rw [zAl, ratOk_iff]
     constructor
     · intro h
       have h := eq_of_beq h
       exact ⟨h1, h2, h3, h4, by omega⟩
     · intro h
       rw [h.2.2.2.2]; rfl
 · refine PCall.body Tryz.func127 rfl rfl Tryz.ntmps127 rfl rfl ?_
   repeat' (first | refine aoQ rfl rfl rfl (fun hg => by exact std0) (by exact rfl) ?_ | refine sqW ?_ | refine rgK (fun K' hK => ?_) | (refine aoN (hK _ _ ?_); clear hK K') | refine aoE (bxW rfl rfl rfl rfl rfl tI rfl rfl ?_) | (refine cdN rfl tI (fun hc => ?_) (fun hc => ?_) <;> try dsimp only at hc) | refine skW ?_ | refine rtW ?_ | refine dK2 (by decide +kernel) (by kernel_rfl) (by decide +kernel) rfl (fun K' hK => ?_) | refine aqQ rfl rfl (fun hg => by exact std0) (by exact rfl) ?_)
   · refine ⟨.inr rfl, Ent.b ?_⟩
     cases h : ratOk r with
     | false => rfl
     | true => rw [ratOk_iff] at h; omega
   all_goals (exfalso; simp at hc; omega)
theorem dur1_spec (r : Rat) : PCall Tryz.prog 68 [.agg (encR r)] (.b (durOk r)) := by
 have v := rvalid1_spec r
 have hd : ratOk r = true → r.d ≠ 0 := fun h => by have := ratOk_iff.1 h; omega
 refine PCall.body Tryz.func68 rfl rfl Tryz.ntmps68 rfl rfl ?_
 repeat' (first | refine aoQ rfl rfl rfl (fun hg => by first | exact std0 | exact pcW (v) rfl rfl nd rfl nds) (by exact rfl) ?_ | refine sqW ?_ | refine rgK (fun K' hK => ?_) | (refine aoN (hK _ _ ?_); clear hK K') | refine aoE (bxW rfl rfl rfl rfl rfl tI rfl rfl ?_) | refine rtW ?_)
 exact ⟨.inr rfl, Ent.b rfl⟩
theorem cvalid29_spec (c : Call) : PCall Tryz.prog 18 [.agg (encCl c)] (.b (callOk c)) := by
 have v := dur1_spec c.beat
 have n := name29_spec c.letter
 have w := in29_spec
 have hz : (Ed.nameB c.letter && (c.letter.size == 0)) = false := by
  unfold Ed.nameB
  cases h : c.letter.size == 0
  · exact zCj _
  · rw [eq_of_beq h]; rfl
 have hi : (!(c.number == 0) || inB c.number 0 100000) = true := by
  cases h : c.number == 0
  · rfl
  · rw [eq_of_beq h]; rfl
 by_cases hb : durOk c.beat = true
 · obtain ⟨h1, h2, h3, h4, _⟩ := ratOk_iff.1 (durOk_iff.1 hb).1
   rw [hb] at v
   refine PCall.body Tryz.func18 rfl rfl Tryz.ntmps18 rfl rfl ?_
   repeat' (first | refine aoQ rfl rfl rfl (fun hg => by first | exact std0 | exact pcW (v) rfl rfl nd rfl nds | exact pcW (n) rfl rfl nd rfl nds | exact pcW (w _ _ _) rfl rfl nd rfl nds) (by exact rfl) ?_ | refine sqW ?_ | refine rgK (fun K' hK => ?_) | (refine aoN (hK _ _ ?_); clear hK K') | refine aoE (bxW rfl rfl rfl rfl rfl tI rfl rfl ?_) | (refine cdN rfl tI (fun hc => ?_) (fun hc => ?_) <;> try dsimp only at hc) | refine skW ?_ | refine rtW ?_)
   all_goals
    refine ⟨.inr rfl, Ent.b ?_⟩
    rw [emptyB] at hc
    unfold bne at hc
    unfold callOk placeOk
    rw [hb]
    revert hc hz hi
    generalize Ed.nameB c.letter = a
    generalize (c.letter.size == 0) = b
    generalize (c.number == 0) = d
    generalize inB c.number 0 100000 = e
    generalize inB c.bars (-1000) 1000 = x
    generalize inB c.pass 0 20000 = y
    generalize decide (c.beat.n < 24 * c.beat.d) = z
    revert a b d e x y z
    decide
 · have hb : durOk c.beat = false := by simpa using hb
   rw [hb] at v
   refine PCall.body Tryz.func18 rfl rfl Tryz.ntmps18 rfl rfl ?_
   repeat' (first | refine aoQ rfl rfl rfl (fun hg => by first | exact std0 | exact pcW (v) rfl rfl nd rfl nds | exact pcW (n) rfl rfl nd rfl nds | exact pcW (w _ _ _) rfl rfl nd rfl nds) (by exact rfl) ?_ | refine sqW ?_ | refine rgK (fun K' hK => ?_) | (refine aoN (hK _ _ ?_); clear hK K') | refine aoE (bxW rfl rfl rfl rfl rfl tI rfl rfl ?_) | (refine cdN rfl tI (fun hc => ?_) (fun hc => ?_) <;> try dsimp only at hc) | refine skW ?_ | refine rtW ?_)
   all_goals
    refine ⟨.inr rfl, Ent.b ?_⟩
    rw [emptyB] at hc
    unfold bne at hc
    unfold callOk placeOk
    rw [hb]
    revert hc hz hi
    generalize Ed.nameB c.letter = a
    generalize (c.letter.size == 0) = b
    generalize (c.number == 0) = d
    generalize inB c.number 0 100000 = e
    generalize inB c.bars (-1000) 1000 = x
    generalize inB c.pass 0 20000 = y
    generalize decide (c.beat.n < 24 * c.beat.d) = z
    revert a b d e x y z
    decide
end Go.Proofs.YtdglbdfdkabjfaaGreatDoor.Pl
/- The example of the chapter. -/
namespace Go.Proofs.YtdglbdfdkabjfaaGreatDoor.Ed
open Go.Ab
attribute [local irreducible] AWP AOps EStep AQ PStep PRun PCall TCall VCall
def exE : Edition := ⟨1, 1, [⟨1, 11, 0⟩, ⟨2, 12, 1⟩, ⟨2, 12, 2⟩, ⟨3, 13, 0⟩], [⟨⟨#[65]⟩, 3⟩]⟩
end Go.Proofs.YtdglbdfdkabjfaaGreatDoor.Ed
