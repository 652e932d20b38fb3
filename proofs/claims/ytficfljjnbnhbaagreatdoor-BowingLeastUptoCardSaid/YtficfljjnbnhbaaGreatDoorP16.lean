/- Notes in order, in plain words: the sort and the insertion give the same.  Contracts by content: the reference's order and sort of notes.  Contracts by content: the reference of scores: Range, Wrong, Same, Valid, Bar, Part, Note.  Contracts by content: the reference of scores: Valid, Bar, Part, Note, Plays, With.  Small rules: a value told otherwise, conversions, arguments told more closely, an array that is built.  Contracts by content: the marks that a reader sees, in plain words. No statement is proved here. -/
import Derived.Test.YtficfljjnbnhbaaGreatDoorP3
import Derived.Test.YtficfljjnbnhbaaGreatDoorP7
import Derived.Test.YtficfljjnbnhbaaGreatDoorP11
import Derived.Test.YtficfljjnbnhbaaGreatDoorP13
import Derived.Test.YtficfljjnbnhbaaGreatDoorP14
import Derived.Test.YtficfljjnbnhbaaGreatDoorP15
set_option linter.unusedVariables false
set_option linter.unusedSimpArgs false
namespace Go.Proofs.YtficfljjnbnhbaaGreatDoor
open Go.Ab Go.Sort
theorem orL_zero_iff : ∀ {l : List Int}, orL l = 0 ↔ ∀ x ∈ l, x = 0
 | [] => by simp [orL]
 | x :: r => by
   have := orL_zero_iff (l := r)
   by_cases h : x = 0
   · subst h; simp [orL, this]
   · simp [orL, h]
def bef (al : List (Int × Int)) (a b : Note) : Bool := decide (cmpK (keyN al a) (keyN al b) < 0)
theorem bef_iff {al : List (Int × Int)} {a b : Note} : bef al a b = true ↔ cmpK (keyN al a) (keyN al b) < 0 := decide_eq_true_iff
theorem bef_irr (al : List (Int × Int)) (a : Note) : bef al a a = false := by
 have := cmpK_anti (keyN al a) (keyN al a)
 refine decide_eq_false ?_; omega
theorem bef_trans {al : List (Int × Int)} {a b c : Note} (h : bef al a b = true) (h' : bef al b c = true) : bef al a c = true := by
 rw [bef_iff] at *
 exact cmpK_lt (a := keyN al a) (b := keyN al b) (c := keyN al c) rfl rfl h h'
theorem bef_asymm {al : List (Int × Int)} {a b : Note} (h : bef al a b = true) : bef al b a = false := by
 cases h2 : bef al b a with
 | false => rfl
 | true => have := bef_trans h h2; rw [bef_irr] at this; cases this
theorem bef_total {al : List (Int × Int)} {a b : Note} (h : a.id ≠ b.id) (h' : bef al a b = false) : bef al b a = true := by
 rw [bef_iff]
 have h1 : ¬ cmpK (keyN al a) (keyN al b) < 0 := by simpa [bef] using h'
 have h2 := cmpK_anti (keyN al a) (keyN al b)
 rcases (show cmpK (keyN al a) (keyN al b) = 0 ∨ cmpK (keyN al b) (keyN al a) < 0 by omega) with h3 | h3
 · exfalso
   have := orL_zero_iff.1 h3 (a.id - b.id) (by simp [keyN])
   omega
 · exact h3
theorem ord_unique {al : List (Int × Int)} {l m : List Note} (hp : l.Perm m) (hl : l.Pairwise fun a b => bef al a b = true) (hm : m.Pairwise fun a b => bef al a b = true) : l = m := by
 refine List.Perm.eq_of_pairwise (le := fun a b => bef al a b = true) (fun a b _ _ h1 h2 => ?_) hl hm hp
 rw [bef_asymm h1] at h2; cases h2
theorem sortN_ord {al : List (Int × Int)} {l : List Note} (hin : ∀ n ∈ l, noteIn n) (hn : (l.map (·.id)).Nodup) : (sortN al l).Pairwise fun a b => bef al a b = true := by
 have hs := (sortL_spec _ (swoN al fixN) l).2
 have hp := sortN_perm al l
 have hlen := sortN_len al l
 rw [zC1]
 intro i j hi hj hij
 have h1 := hs i j (nZl _) hij (by omega)
 have e : ∀ k (hk : k < (sortN al l).length), (sortL (fun x y => cmpN al (fixN x) (fixN y)) l).toArray[k]! = (sortN al l)[k] := fun k hk => by
  unfold sortN at hk ⊢
  simp [hk]
 rw [e i hi, e j hj] at h1
 have m1 := hin _ (hp.mem_iff.1 (lGm hi))
 have m2 := hin _ (hp.mem_iff.1 (lGm hj))
 have h2 : bef al (sortN al l)[j] (sortN al l)[i] = false := by
  have h3 := (ltN' al fixN _ _).1 h1
  rw [fixN_eq m1, fixN_eq m2] at h3
  exact decide_eq_false h3
 refine bef_total (fun e2 => ?_) h2
 have hnd : ((sortN al l).map (·.id)).Nodup := (hp.map _).nodup_iff.2 hn
 have := (List.getElem_inj (h₀ := by simpa using hj) (h₁ := by simpa using hi) hnd).1 (by simpa using e2)
 omega
theorem sortN_self {al : List (Int × Int)} {l : List Note} (hin : ∀ n ∈ l, noteIn n) (hn : (l.map (·.id)).Nodup) (h : l.Pairwise fun a b => bef al a b = true) : sortN al l = l :=
 ord_unique (sortN_perm al l) (sortN_ord hin hn) h
theorem notesOk_nodup {bars : List Bar} {l : List Note} (h : notesOk bars l = true) : (l.map (·.id)).Nodup := by
 unfold notesOk at h; simp only [zA0, dEt] at h; exact h.2
def stepsOk (al : List (Int × Int)) (l : List Note) : Bool := (List.range l.length).all fun i => i == 0 || bef al (l.getD (i - 1) default) (l.getD i default)
theorem steps_ord {al : List (Int × Int)} {l : List Note} : stepsOk al l = true ↔ l.Pairwise fun a b => bef al a b = true := by
 unfold stepsOk
 rw [zA8, zC1]
 constructor
 · intro h i j hi hj hij
   induction j with
   | zero => omega
   | succ j ih =>
     have h1 := h (j + 1) (zBd.2 hj)
     simp only [Nat.add_sub_cancel, zBe, beq_iff_eq] at h1
     rcases h1 with h1 | h1
     · omega
     · rw [getD_lt (by omega), getD_lt hj] at h1
       rcases nLg i j with h2 | h2
       · exact bef_trans (ih (by omega) h2) h1
       · have : i = j := by omega
         subst this; exact h1
 · intro h i hi
   have hi := zBd.1 hi
   cases i with
   | zero => rfl
   | succ i =>
     simp only [Nat.add_sub_cancel, zBe]
     right
     rw [getD_lt (by omega), getD_lt hi]
     exact h i (i + 1) (by omega) hi (by omega)
theorem sort_steps {bars : List Bar} {l : List Note} (h : notesOk bars l = true) : ((sortR bars l).2 == 0 && (sortR bars l).1 == l) = stepsOk (idxAL bars) l := by
 unfold sortR
 rw [if_pos h]
 simp only [beq_self_eq_true, zBl]
 rw [zAs, steps_ord, beq_iff_eq]
 constructor
 · intro e; rw [← e]; exact sortN_ord (notesOk_in h) (notesOk_nodup h)
 · exact sortN_self (notesOk_in h) (notesOk_nodup h)
end Go.Proofs.YtficfljjnbnhbaaGreatDoor
namespace Go.Ab
theorem AWP.nilNo {P : Program} {n : Nat} {c : Code} {K : Exit → Env → Store → Prop} {env : Env} {σ : Store} (d sz : Nat) (hd : env d = .nils) (hk : AWP P n c K (env.put d (.sl sz [] .no)) σ) : AWP P n c K env σ :=
 AWP.weaken (fun M B i x hx => by
  unfold Env.put
  by_cases hi : i = d
  · subst hi
    rw [hd] at hx
    rw [if_pos rfl]
    cases hx; exact .slz sz .no trivial
  · rw [if_neg hi]; exact hx) hk
end Go.Ab
namespace Go.Proofs.YtficfljjnbnhbaaGreatDoor
open Go.Ab Go.Sort
attribute [local irreducible] AWP AOps EStep AQ PStep PRun PCall TCall VCall
theorem bneF {a b : Int} (h : (a != b) = false) : (a == b) = true := by simpa using h
theorem bneT {a b : Int} (h : (a != b) = true) : (a == b) = false := by simpa using h
theorem lk0_bar {bars : List Bar} {n : Note} (hb : barsOk bars = true) (h : noteOk bars n = true) : barAt bars n.bar = lk0 (idxAL bars) n.bar := by
 rcases lk_bar (barsOk_nodup hb) n.bar with ⟨h1, h2⟩ | ⟨j, h1, h2, h3, h4⟩
 · unfold noteOk at h; rw [h1] at h; cases h
 · unfold lk0; rw [h1, h2]; rfl
theorem noteOk_form {bars : List Bar} {n : Note} (h : noteOk bars n = true) : durOk n.start = true ∧ pitchOk n.pitch = true := by
 unfold noteOk at h
 split at h
 · unfold nformed fits noteForm noteP at h
   simp only [zA0] at h
   refine ⟨?_, h.2.2.1.1⟩
   have := h.1.1.1.1
   unfold ticksR at this
   by_cases h2 : durOk n.start = true
   · exact h2
   · rw [if_neg h2] at this; cases this
 · cases h
set_option maxHeartbeats 4000000 in
theorem keys_spec (bars : List Bar) (n : Note) (hl : bars.length ≤ 9223372036854775807) (hb : barsOk bars = true) (h : noteOk bars n = true) : PCall Tryz.prog 172 [.sl 4 (bars.map encB) .no, .agg (encN n)] (.sl 1 ((keyN (idxAL bars) n).map fun n => [AV.int n]) .no) := by
 obtain ⟨f1, f2⟩ := noteOk_form h
 have h1 := r7bar_spec bars n.bar hl
 rw [lk0_bar hb h] at h1
 have h2 := ticks6_spec n.start
 have e2 : ticksX n.start = (ticksR n.start).1 := by unfold ticksX ticksR; rw [if_pos f1, if_pos f1]
 rw [e2] at h2
 have h3 := sound_spec n.pitch (pitchIn_ok f2)
 rw [soundR_num f2] at h3
 refine PCall.body Tryz.func172 rfl rfl Tryz.ntmps172 rfl rfl ?_
 repeat' (first | refine aoQ rfl rfl rfl (fun hg => by exact std0) (by exact rfl) ?_ | refine sqW ?_ | refine rgK (fun K' hK => ?_) | (refine aoN (hK _ _ ?_); clear hK K') | refine aoE (bxW rfl rfl rfl rfl rfl tI rfl rfl ?_) | refine rtW ?_ | refine dK2 (by decide +kernel) (by kernel_rfl) (by decide +kernel) rfl (fun K' hK => ?_) | (refine aqN (hK _ ?_); clear hK K') | refine aqQ rfl rfl (fun hg => by first | exact std0 | exact pcW (h1) rfl rfl nd rfl nds | exact pcW (h2) rfl rfl nd rfl nds | exact pcW (h3) rfl rfl nd rfl nds | exact pbS tabOk rfl rfl nds | exact std1) (by exact rfl) ?_)
 exact ⟨.inr rfl, Ent.of rfl⟩
theorem cmpK_diff {a b : List Int} {k : Nat} (hl : a.length = b.length) (hk : k < a.length) (h : ∀ j, j < k → a.getD j default = b.getD j default) (h1 : a.getD k default ≠ b.getD k default) : cmpK a b = a.getD k default - b.getD k default := by
 unfold cmpK
 have hz : ∀ j, j < a.length → (List.zipWith (· - ·) a b).getD j default = a.getD j default - b.getD j default := fun j hj => by
  rw [getD_lt (show j < (List.zipWith (· - ·) a b).length by simp; omega), getD_lt hj, getD_lt (show j < b.length by omega), List.getElem_zipWith]
 rw [orL_first (k := k) (by simp; omega) (fun j hj => by rw [hz j (by omega), h j hj]; show _ - _ = (0 : Int); omega) (by rw [hz k hk]; omega), hz k hk]
theorem cmpK_same {a b : List Int} (hl : a.length = b.length) (h : ∀ j, j < a.length → a.getD j default = b.getD j default) : cmpK a b = 0 := by
 unfold cmpK
 refine orL_zero fun j hj => ?_
 simp only [List.length_zipWith] at hj
 rw [getD_lt (show j < (List.zipWith (· - ·) a b).length by simp; omega), List.getElem_zipWith]
 have := h j (by omega)
 rw [getD_lt (by omega), getD_lt (by omega)] at this
 omega
theorem before_spec (bars : List Bar) (a b : Note) (hl : bars.length ≤ 9223372036854775807) (hb : barsOk bars = true) (ha' : noteOk bars a = true) (hb' : noteOk bars b = true) :
 PCall Tryz.prog 137 [.sl 4 (bars.map encB) .no, .agg (encN a), .agg (encN b)] (.b (bef (idxAL bars) a b)) := by
 have h1 := keys_spec bars a hl hb ha'
 have h2 := keys_spec bars b hl hb hb'
 have l1 : (keyN (idxAL bars) a).length = 6 := rfl
 have l2 : (keyN (idxAL bars) b).length = 6 := rfl
 unfold bef
 generalize keyN (idxAL bars) a = x at *
 generalize keyN (idxAL bars) b = y at *
 refine PCall.body Tryz.func137 rfl rfl Tryz.ntmps137 rfl rfl ?_
 repeat' (first | refine aoQ rfl rfl rfl (fun hg => by first | exact std0 | exact pcW (h1) rfl rfl nd rfl nds | exact pcW (h2) rfl rfl nd rfl nds | exact std1) (by exact rfl) ?_ | refine sqW ?_ | refine rgK (fun K' hK => ?_) | (refine aoN (hK _ _ ?_); clear hK K') | refine aoE (bxW rfl rfl rfl rfl rfl tI rfl rfl ?_) | refine blK ?_)
 refine lpW (ι := Nat) (fun k => [(7, .sl 1 (x.map fun n => [AV.int n]) .no), (8, .sl 1 (y.map fun n => [AV.int n]) .no), (9, .int k)]) (fun _ => [.var (encN a), .var (encN b)]) (fun k => k ≤ x.length ∧ ∀ j, j < k → x.getD j default = y.getD j default) (fun k => x.length - k) 0 ⟨nZl _, fun j h => absurd h (by omega)⟩ ⟨rfl, rfl, rfl, tI⟩ rfl ?_
 rintro k ⟨hk, hall⟩
 by_cases hlt : k < x.length
 · repeat' (first | refine aoQ rfl rfl rfl (fun hg => by first | exact std0 | exact std1) (by exact rfl) ?_ | refine sqW ?_ | refine rgK (fun K' hK => ?_) | (refine aoN (hK _ _ ?_); clear hK K') | refine cdN rfl tI (fun hc => ?_) (fun hc => ?_) | refine blK ?_ | refine exW ?_ | refine skW ?_ | refine rtW ?_ | refine dK2 (by decide +kernel) (by kernel_rfl) (by decide +kernel) rfl (fun K' hK => ?_) | (refine aqN (hK _ ?_); clear hK K') | refine aqQ rfl rfl (fun hg => by first | exact std0 | exact std1) (by exact rfl) ?_)
   all_goals (first | (exfalso; omega) | skip)
   · refine ⟨.inr rfl, Ent.b ?_⟩
     have h5 : x.getD k default ≠ y.getD k default := by
      have := bneT hc
      rw [zAj] at this
      simpa using this
     rw [cmpK_diff (by omega) hlt hall h5, zAj, decide_eq_decide]
     omega
   · refine ⟨k + 1, ⟨by omega, fun j hj => lt_succ_cases hall ?_ hj⟩, by omega, ⟨rfl, rfl, rfl, tI⟩, rfl⟩
     have := bneF hc
     rw [zAj] at this
     simpa using this
 · repeat' (first | refine aoQ rfl rfl rfl (fun hg => by first | exact std0 | exact std1) (by exact rfl) ?_ | refine sqW ?_ | refine rgK (fun K' hK => ?_) | (refine aoN (hK _ _ ?_); clear hK K') | refine cdN rfl tI (fun hc => ?_) (fun hc => ?_) | refine blK ?_ | refine exW ?_ | refine skW ?_ | refine rtW ?_ | refine dK2 (by decide +kernel) (by kernel_rfl) (by decide +kernel) rfl (fun K' hK => ?_) | (refine aqN (hK _ ?_); clear hK K') | refine aqQ rfl rfl (fun hg => by first | exact std0 | exact std1) (by exact rfl) ?_)
   all_goals (first | (exfalso; omega) | skip)
   refine ⟨.inr rfl, Ent.b ?_⟩
   rw [cmpK_same (by omega) fun j hj => hall j (by omega)]; rfl
theorem all_mem {α : Type} [Inhabited α] {p : α → Bool} {l : List α} (h : ∀ x ∈ l, p x = true) {k : Nat} (hk : k < l.length) : p (l.getD k default) = true := h _ (by rw [getD_lt hk]; exact lGm hk)
end Go.Proofs.YtficfljjnbnhbaaGreatDoor
namespace Go.Proofs.YtficfljjnbnhbaaGreatDoor
open Go.Ab
attribute [local irreducible] AWP AOps EStep AQ PStep PRun PCall TCall VCall
theorem range_spec (p : Part) (x : Pitch) (h1 : pitchOk p.low = true) (h2 : pitchOk p.high = true) (h3 : pitchOk x = true) : PCall Tryz.prog 171 [.agg (encP p), .agg (encPi x)] (.b (inB (numR2 x).1 (numR2 p.low).1 (numR2 p.high).1)) := by
 have s1 := sound_spec p.low (pitchIn_ok h1)
 have s2 := sound_spec p.high (pitchIn_ok h2)
 have s3 := sound_spec x (pitchIn_ok h3)
 rw [soundR_num h1] at s1
 rw [soundR_num h2] at s2
 rw [soundR_num h3] at s3
 refine PCall.body Tryz.func171 rfl rfl Tryz.ntmps171 rfl rfl ?_
 repeat' (first | refine aoQ rfl rfl rfl (fun hg => by exact std0) (by exact rfl) ?_ | refine sqW ?_ | refine rgK (fun K' hK => ?_) | (refine aoN (hK _ _ ?_); clear hK K') | refine aoE (bxW rfl rfl rfl rfl rfl tI rfl rfl ?_) | refine rtW ?_ | refine dK2 (by decide +kernel) (by kernel_rfl) (by decide +kernel) rfl (fun K' hK => ?_) | (refine aqN (hK _ ?_); clear hK K') | refine aqQ rfl rfl (fun hg => by first | exact std0 | exact pcW (s1) rfl rfl nd rfl nds | exact pcW (s2) rfl rfl nd rfl nds | exact pcW (s3) rfl rfl nd rfl nds | exact pcW (r8in_spec _ _ _) rfl rfl nd rfl nds | exact std1) (by exact rfl) ?_)
 exact ⟨.inr rfl, Ent.b rfl⟩
theorem stranger_own {l : List Part} (hn : (l.map (·.id)).Nodup) (n : Note) : stranger (ownAL l) n = decide (ownX l n < 0) := by
 unfold stranger
 rcases own_lk hn n with ⟨h1, h2⟩ | ⟨j, h1, h2, _⟩
 · rw [h1, h2]; rfl
 · rw [h1, h2]
   rw [decide_eq_false (by omega)]; rfl
theorem farN_own {l : List Part} (hn : (l.map (·.id)).Nodup) {n : Note} (h : ¬ ownX l n < 0) : farN (ownAL l) n = !inB (numR2 n.pitch).1 (numR2 (l.getD (ownX l n).toNat default).low).1 (numR2 (l.getD (ownX l n).toNat default).high).1 := by
 unfold farN
 rcases own_lk hn n with ⟨h1, h2⟩ | ⟨j, h1, h2, _⟩
 · omega
 · rw [h1, h2, zAj]; rfl
theorem ownX_lt (l : List Part) (n : Note) : ownX l n < l.length := by
 unfold ownX
 split
 · omega
 · split
   · omega
   · rcases partAt_in l n.part with ⟨h, _⟩ | ⟨j, h, h2, _⟩ <;> omega
theorem partOk_pitch {p : Part} (h : partOk p = true) : pitchOk p.low = true ∧ pitchOk p.high = true := by
 unfold partOk at h
 simp only [zA0] at h
 exact ⟨h.2.1.1, h.2.1.2⟩
theorem wrong8_spec (l : List Part) (ns : List Note) (hl : l.length ≤ 9223372036854775807) (hns : ns.length ≤ 9223372036854775807) (hp : partsOk l = true) (hq : ∀ n ∈ ns, pitchOk n.pitch = true) :
 PCall Tryz.prog 136 [.sl 13 (l.map encP) .no, .sl 12 (ns.map encN) .no] (.int (wrongR l ns)) := by
 have hn := partsOk_nodup hp
 refine PCall.body Tryz.func136 rfl rfl Tryz.ntmps136 rfl rfl ?_
 repeat' (first | refine aoQ rfl rfl rfl (fun hg => by exact std0) (by exact rfl) ?_ | refine sqW ?_ | refine rgK (fun K' hK => ?_) | (refine aoN (hK _ _ ?_); clear hK K') | refine blK ?_)
 refine lpW (ι := Nat) (fun k => [(0, .sl 13 (l.map encP) .no), (1, .sl 12 (ns.map encN) .no), (5, .int k)]) (fun _ => []) (fun k => k ≤ ns.length ∧ ∀ j, j < k → stranger (ownAL l) (ns.getD j default) = false) (fun k => ns.length - k) 0 ⟨nZl _, fun j h => absurd h (by omega)⟩ ⟨rfl, rfl, rfl, tI⟩ rfl ?_
 rintro k ⟨hk, hall⟩
 by_cases hlt : k < ns.length
 · have ho := own_spec l (ns.getD k default) hl
   have hs := stranger_own hn (ns.getD k default)
   repeat' (first | refine aoQ rfl rfl rfl (fun hg => by first | exact std0 | exact pcW (ho) rfl rfl nd rfl nds | exact std1) (by exact rfl) ?_ | refine sqW ?_ | refine rgK (fun K' hK => ?_) | (refine aoN (hK _ _ ?_); clear hK K') | refine cdN rfl tI (fun hc => ?_) (fun hc => ?_) | refine blK ?_ | refine exW ?_ | refine skW ?_ | refine rtW ?_)
   all_goals (first | (exfalso; omega) | skip)
   · refine ⟨.inr rfl, Ent.int (Eq.symm ?_)⟩
     rw [decide_eq_true hc] at hs
     unfold wrongR
     rw [findI_at hlt hs hall, if_pos (zCv k)]
   · rw [decide_eq_false (by omega)] at hs
     exact ⟨k + 1, ⟨by omega, fun j hj => lt_succ_cases hall hs hj⟩, by omega, ⟨rfl, rfl, rfl, tI⟩, rfl⟩
 · have hno : ¬ findI (stranger (ownAL l)) ns ≥ 0 := by rw [findI_no fun j hj => hall j (by omega)]; decide
   have hown : ∀ j, j < ns.length → 0 ≤ ownX l (ns.getD j default) := fun j hj => by
    have h1 := hall j (by omega)
    rw [stranger_own hn] at h1
    have := of_decide_eq_false h1
    omega
   clear hall
   repeat' (first | refine aoQ rfl rfl rfl (fun hg => by first | exact std0 | exact std1) (by exact rfl) ?_ | refine sqW ?_ | refine rgK (fun K' hK => ?_) | (refine aoN (hK _ _ ?_); clear hK K') | refine cdN rfl tI (fun hc => ?_) (fun hc => ?_) | refine blK ?_ | refine exW ?_ | refine skW ?_)
   all_goals (first | (exfalso; omega) | skip)
   refine lpW (ι := Nat) (fun k => [(0, .sl 13 (l.map encP) .no), (1, .sl 12 (ns.map encN) .no), (6, .int k)]) (fun _ => []) (fun k => k ≤ ns.length ∧ ∀ j, j < k → farN (ownAL l) (ns.getD j default) = false) (fun k => ns.length - k) 0 ⟨nZl _, fun j h => absurd h (by omega)⟩ ⟨rfl, rfl, rfl, tI⟩ rfl ?_
   rintro k2 ⟨hk2, hall⟩
   by_cases hlt : k2 < ns.length
   · have ho := own_spec l (ns.getD k2 default) hl
     have h1 := hown k2 hlt
     have h2 := ownX_lt l (ns.getD k2 default)
     have h3 := partsOk_all hp (l.getD (ownX l (ns.getD k2 default)).toNat default) (by rw [getD_lt (by omega)]; exact lGm (by omega))
     obtain ⟨h4, h5⟩ := partOk_pitch h3
     have hr := range_spec (l.getD (ownX l (ns.getD k2 default)).toNat default) (ns.getD k2 default).pitch h4 h5 (hq _ (by rw [getD_lt hlt]; exact lGm hlt))
     have hs := farN_own hn (n := ns.getD k2 default) (by omega)
     repeat' (first | refine aoQ rfl rfl rfl (fun hg => by first | exact std0 | exact std1) (by exact rfl) ?_ | refine sqW ?_ | refine rgK (fun K' hK => ?_) | (refine aoN (hK _ _ ?_); clear hK K') | refine cdN rfl tI (fun hc => ?_) (fun hc => ?_) | refine blK ?_ | refine exW ?_ | refine skW ?_ | refine rtW ?_ | refine dK2 (by decide +kernel) (by kernel_rfl) (by decide +kernel) rfl (fun K' hK => ?_) | (refine aqN (hK _ ?_); clear hK K') | refine aqQ rfl rfl (fun hg => by first | exact std0 | exact pcW (ho) rfl rfl nd rfl nds | exact pcW (hr) rfl rfl nd rfl nds | exact std1) (by exact rfl) ?_)
     all_goals (first | (exfalso; omega) | skip)
     · refine ⟨.inr rfl, Ent.int (Eq.symm ?_)⟩
       have hf : farN (ownAL l) (ns.getD k2 default) = true := hs.trans hc
       unfold wrongR
       rw [if_neg hno, findI_at hlt hf hall, if_pos (zCv k2)]
     · have hf : farN (ownAL l) (ns.getD k2 default) = false := hs.trans hc
       exact ⟨k2 + 1, ⟨by omega, fun j hj => lt_succ_cases hall hf hj⟩, by omega, ⟨rfl, rfl, rfl, tI⟩, rfl⟩
   · repeat' (first | refine aoQ rfl rfl rfl (fun hg => by first | exact std0 | exact std1) (by exact rfl) ?_ | refine sqW ?_ | refine rgK (fun K' hK => ?_) | (refine aoN (hK _ _ ?_); clear hK K') | refine cdN rfl tI (fun hc => ?_) (fun hc => ?_) | refine blK ?_ | refine exW ?_ | refine skW ?_ | refine rtW ?_ | refine dK2 (by decide +kernel) (by kernel_rfl) (by decide +kernel) rfl (fun K' hK => ?_) | refine aqQ rfl rfl (fun hg => by first | exact std0 | exact std1) (by exact rfl) ?_)
     all_goals (first | (exfalso; omega) | skip)
     refine ⟨.inr rfl, Ent.int (Eq.symm ?_)⟩
     have hno2 : ¬ findI (farN (ownAL l)) ns ≥ 0 := by rw [findI_no fun j hj => hall j (by omega)]; decide
     unfold wrongR
     rw [if_neg hno, if_neg hno2]
def Score.Sized (s : Score) : Prop := s.bars.length ≤ 9223372036854775807 ∧ s.parts.length ≤ 9223372036854775807 ∧ s.notes.length ≤ 9223372036854775807
theorem notesOk_all {bars : List Bar} {l : List Note} (h : notesOk bars l = true) : barsOk bars = true ∧ l.length ≤ 20000 ∧ ∀ x ∈ l, noteOk bars x = true := by
 unfold notesOk at h
 simp only [zA0, dEt, zA8] at h
 exact ⟨h.1.1.1, by omega, h.1.2⟩
def scoreX (s : Score) : Bool := !scoreBad s && stepsOk (idxAL s.bars) s.notes
theorem scoreOk_eq (s : Score) : scoreOk s = scoreX s := by
 unfold scoreOk scoreX
 cases h : scoreBad s with
 | true => rfl
 | false =>
   have : notesOk s.bars s.notes = true := by
    unfold scoreBad at h
    simp only [zAh, zAp] at h
    exact h.1.2
   rw [sort_steps this]
set_option maxRecDepth 20000 in
theorem valid8_spec (s : Score) (hs : s.Small) : PCall Tryz.prog 87 [.agg (encS s)] (.b (scoreOk s)) := by
 obtain ⟨h1, h2, h3⟩ := hs
 have v1 := r6valid_spec s.bars (by omega)
 have v2 := partsX_spec s.parts (by omega)
 rw [partsX_ok] at v2
 have v3 := r7valid_spec s.bars s.notes (by omega) (by omega)
 rw [scoreOk_eq]
 refine PCall.body Tryz.func87 rfl rfl Tryz.ntmps87 rfl rfl ?_
 repeat' (first | refine aoQ rfl rfl rfl (fun hg => by first | exact std0 | exact pcW (v1) rfl rfl nd rfl nds | exact pcW (v2) rfl rfl nd rfl nds | exact pcW (r8in_spec _ _ _) rfl rfl nd rfl nds | exact std1) (by exact rfl) ?_ | refine sqW ?_ | refine rgK (fun K' hK => ?_) | (refine aoN (hK _ _ ?_); clear hK K') | refine aoE (bxW rfl rfl rfl rfl rfl tI rfl rfl ?_) | refine cdN rfl tI (fun hc => ?_) (fun hc => ?_) | refine skW ?_ | refine rtW ?_)
 · refine ⟨.inr rfl, Ent.b (Eq.symm ?_)⟩
   unfold scoreX scoreBad
   have : (!inB s.version 1 1000000 || !barsOk s.bars || !partsOk s.parts) = true := hc
   rw [this]; rfl
 have b1 : (!inB s.version 1 1000000 || !barsOk s.bars || !partsOk s.parts) = false := hc
 have hp : barsOk s.bars = true ∧ partsOk s.parts = true := by
  simp only [zAh, zAp] at b1
  exact ⟨b1.1.2, b1.2⟩
 clear hc v1 v2
 repeat' (first | refine aoQ rfl rfl rfl (fun hg => by first | exact std0 | exact pcW (v3) rfl rfl nd rfl nds | exact std1) (by exact rfl) ?_ | refine sqW ?_ | refine rgK (fun K' hK => ?_) | (refine aoN (hK _ _ ?_); clear hK K') | refine cdN rfl tI (fun hc => ?_) (fun hc => ?_) | refine skW ?_ | refine rtW ?_)
 · refine ⟨.inr rfl, Ent.b (Eq.symm ?_)⟩
   unfold scoreX scoreBad
   rw [b1, show notesOk s.bars s.notes = false by simpa using hc]; rfl
 have hn : notesOk s.bars s.notes = true := by simpa using hc
 clear hc v3
 obtain ⟨n1, n2, n3⟩ := notesOk_all hn
 have v4 := wrong8_spec s.parts s.notes (by omega) (by omega) hp.2 (fun n hn => (noteOk_form (n3 n hn)).2)
 repeat' (first | refine aoQ rfl rfl rfl (fun hg => by first | exact std0 | exact pcW (v4) rfl rfl nd rfl nds | exact std1) (by exact rfl) ?_ | refine sqW ?_ | refine rgK (fun K' hK => ?_) | (refine aoN (hK _ _ ?_); clear hK K') | refine cdN rfl tI (fun hc => ?_) (fun hc => ?_) | refine blK ?_ | refine skW ?_ | refine rtW ?_)
 · refine ⟨.inr rfl, Ent.b (Eq.symm ?_)⟩
   unfold scoreX scoreBad
   rw [b1, hn, show (wrongR s.parts s.notes != 0) = true from hc]; rfl
 have hw : (wrongR s.parts s.notes != 0) = false := hc
 clear hc v4
 have hbad : scoreBad s = false := by unfold scoreBad; rw [b1, hn, hw]; rfl
 refine lpW (ι := Nat) (fun k => [(1, .ptr 0 0), (6, .int k)]) (fun _ => [.var (encS s)]) (fun k => 1 ≤ k ∧ (k ≤ s.notes.length ∨ k = 1) ∧ ∀ j, j < k → (j == 0 || bef (idxAL s.bars) (s.notes.getD (j - 1) default) (s.notes.getD j default)) = true) (fun k => s.notes.length - k) 1 ⟨nLr _, .inr rfl, fun j h => by (obtain rfl : j = 0 := by omega); rfl⟩ ⟨rfl, rfl, tI⟩ rfl ?_
 rintro k ⟨hk0, hk, hall⟩
 by_cases hlt : k < s.notes.length
 · have hb := before_spec s.bars (s.notes.getD ((k : Int) - 1).toNat default) (s.notes.getD k default) (by omega) n1 (all_mem n3 (by omega)) (all_mem n3 hlt)
   have e : ((k : Int) - 1).toNat = k - 1 := by omega
   repeat' (first | refine aoQ rfl rfl rfl (fun hg => by first | exact std0 | exact std1) (by exact rfl) ?_ | refine sqW ?_ | refine rgK (fun K' hK => ?_) | (refine aoN (hK _ _ ?_); clear hK K') | refine cdN rfl tI (fun hc => ?_) (fun hc => ?_) | refine blK ?_ | refine exW ?_ | refine skW ?_ | refine rtW ?_ | refine dK2 (by decide +kernel) (by kernel_rfl) (by decide +kernel) rfl (fun K' hK => ?_) | (refine aqN (hK _ ?_); clear hK K') | refine aqQ rfl rfl (fun hg => by first | exact std0 | exact pcW (hb) rfl rfl nd rfl nds | exact std1) (by exact rfl) ?_)
   all_goals (first | (exfalso; omega) | skip)
   · refine ⟨.inr rfl, Ent.b (Eq.symm ?_)⟩
     unfold scoreX stepsOk
     rw [e] at hc
     rw [allR_no hlt (by
      have h5 : (k == 0) = false := by simp; omega
      rw [h5, zDn]; simpa using hc)]; simp
   · rw [e] at hc
     refine ⟨k + 1, ⟨by omega, .inl (by omega), fun j hj => lt_succ_cases hall ?_ hj⟩, by omega, ⟨rfl, rfl, tI⟩, rfl⟩
     rw [show bef (idxAL s.bars) (s.notes.getD (k - 1) default) (s.notes.getD k default) = true by simpa using hc]; simp
 · repeat' (first | refine aoQ rfl rfl rfl (fun hg => by first | exact std0 | exact std1) (by exact rfl) ?_ | refine sqW ?_ | refine rgK (fun K' hK => ?_) | (refine aoN (hK _ _ ?_); clear hK K') | refine cdN rfl tI (fun hc => ?_) (fun hc => ?_) | refine blK ?_ | refine exW ?_ | refine skW ?_ | refine rtW ?_ | refine dK2 (by decide +kernel) (by kernel_rfl) (by decide +kernel) rfl (fun K' hK => ?_) | refine aqQ rfl rfl (fun hg => by first | exact std0 | exact std1) (by exact rfl) ?_)
   all_goals (first | (exfalso; omega) | skip)
   refine ⟨.inr rfl, Ent.b (Eq.symm ?_)⟩
   unfold scoreX stepsOk
   rw [hbad, allR_yes fun j hj => hall j (by omega)]; rfl
theorem source_spec (p : Part) : PCall Tryz.prog 67 [.agg (encP p)] (.int (srcOf p)) := by
 unfold srcOf
 refine PCall.body Tryz.func67 rfl rfl Tryz.ntmps67 rfl rfl ?_
 repeat' (first | refine aoQ rfl rfl rfl (fun hg => by first | exact std0 | exact std1) (by exact rfl) ?_ | refine sqW ?_ | refine rgK (fun K' hK => ?_) | (refine aoN (hK _ _ ?_); clear hK K') | refine aoE (bxW rfl rfl rfl rfl rfl tI rfl rfl ?_) | refine aoE (stW tabOk rfl rfl rfl tI rfl rfl tI rfl rfl rfl rfl rfl rfl rfl ?_) | refine aoE (alW tabOk rfl rfl rfl rfl rfl rfl ?_) | refine cdN rfl tI (fun hc => ?_) (fun hc => ?_) | refine blK ?_ | refine exW ?_ | refine skW ?_ | refine rtW ?_ | refine dK2 (by decide +kernel) (by kernel_rfl) (by decide +kernel) rfl (fun K' hK => ?_) | refine dL2 (by kernel_rfl) (by decide +kernel) rfl (fun K' hK => ?_) | (refine aqN (hK _ ?_); clear hK K') | refine aqN ?_ | refine aqQ rfl rfl (fun hg => by first | exact std0 | exact std1) (by exact rfl) ?_)
 · exact ⟨.inr rfl, Ent.int (by rw [if_pos hc])⟩
 · exact ⟨.inr rfl, Ent.int (by rw [if_neg (by rw [hc]; decide)])⟩
theorem played_take {l : List Note} {p : Part} {k : Nat} (h : k < l.length) : playedL (l.take (k + 1)) p = if (l.getD k default).part == srcOf p then playedL (l.take k) p ++ [playN p (l.getD k default)] else playedL (l.take k) p := by
 rw [take_snoc h]; unfold playedL
 rw [zBa, zAe]
 split
 · rename_i h2; rw [zB3 (by exact h2)]; rfl
 · rename_i h2; rw [zB8 (by exact h2)]; simp
set_option maxRecDepth 20000 in
theorem played8_spec (s : Score) (p : Part) (hl : s.notes.length ≤ 1000000000) (ho : octIn s.notes) (hp : -1000 ≤ p.octave ∧ p.octave ≤ 1000) :
 PCall Tryz.prog 23 [.agg (encS s), .agg (encP p)] (.sl 12 ((playedL s.notes p).map encN) .no) := by
 have hsrc := source_spec p
 refine PCall.body Tryz.func23 rfl rfl Tryz.ntmps23 rfl rfl ?_
 repeat' (first | refine aoQ rfl rfl rfl (fun hg => by first | exact std0 | exact std1) (by exact rfl) ?_ | refine sqW ?_ | refine rgK (fun K' hK => ?_) | (refine aoN (hK _ _ ?_); clear hK K') | refine aoE (bxW rfl rfl rfl rfl rfl tI rfl rfl ?_) | refine aoE (stW tabOk rfl rfl rfl tI rfl rfl tI rfl rfl rfl rfl rfl rfl rfl ?_) | refine aoE (alW tabOk rfl rfl rfl rfl rfl rfl ?_) | refine cdN rfl tI (fun hc => ?_) (fun hc => ?_) | refine blK ?_ | refine exW ?_ | refine skW ?_ | refine rtW ?_ | refine dK2 (by decide +kernel) (by kernel_rfl) (by decide +kernel) rfl (fun K' hK => ?_) | refine dL2 (by kernel_rfl) (by decide +kernel) rfl (fun K' hK => ?_) | (refine aqN (hK _ ?_); clear hK K') | refine aqN ?_ | refine aqQ rfl rfl (fun hg => by first | exact std0 | exact std1) (by exact rfl) ?_)
 refine AWP.ownNil (d := 5) (sz := 12) rfl ?_
 refine lpD (ι := Nat) (fun k => [(2, .ptr 0 0), (3, .ptr 1 0), (5, .sl 12 ((playedL (s.notes.take k) p).map encN) (.own 2)), (6, .int k)]) (fun k => [.var (encS s), .var (encP p), .own 12 ((playedL (s.notes.take k) p).map encN).length])
  (fun k => k ≤ s.notes.length) (fun k => s.notes.length - k) 3 (fun _ => rfl) 0 (nZl _) ⟨rfl, rfl, rfl, rfl, tI⟩ rfl (fun _ _ => rfl) (fun _ _ => rfl) ?_
 intro k hk
 have hlen := played_len (s.notes.take k) p
 rw [zAc] at hlen
 by_cases hlt : k < s.notes.length
 · have hq := ho (s.notes.getD k default) (by rw [getD_lt hlt]; exact lGm hlt)
   have ht := played_take (p := p) hlt
   repeat' (first | refine aoQ rfl rfl rfl (fun hg => by first | exact std0 | exact pcW (hsrc) rfl rfl nd rfl nds | exact pbS tabOk rfl rfl nds | exact std1) (by exact rfl) ?_ | refine sqW ?_ | refine rgK (fun K' hK => ?_) | (refine aoN (hK _ _ ?_); clear hK K') | refine aoE (bxW rfl rfl rfl rfl rfl tI rfl rfl ?_) | refine aoE (stW tabOk rfl rfl rfl tI rfl rfl tI rfl rfl rfl rfl rfl rfl rfl ?_) | refine aoE (alW tabOk rfl rfl rfl rfl rfl rfl ?_) | refine aoE (apO tabOk rfl rfl rfl (by decide) (Rd.w rfl tI) rfl (Rd.w rfl tI) (.sl rfl (by first | (intro x hx; rcases zAl.1 hx with rfl; rfl) | exact one_encN _)) (LOk.of (tabOk.get rfl)) (LOk.of (tabOk.get rfl)) rfl rfl (by simp only [lLm, lLa, zA5, zAb, zAc, zAx]; omega) (by simp only [lLm, lLa, zA5, zAb, zAc, zAx]; omega) ?_) | refine cdN rfl tI (fun hc => ?_) (fun hc => ?_) | refine blK ?_ | refine exW ?_ | refine skW ?_ | refine rtW ?_ | refine dK2 (by decide +kernel) (by kernel_rfl) (by decide +kernel) rfl (fun K' hK => ?_) | refine dL2 (by kernel_rfl) (by decide +kernel) rfl (fun K' hK => ?_) | (refine aqN (hK _ ?_); clear hK K') | refine aqN ?_ | refine aqQ rfl rfl (fun hg => by first | exact std0 | exact pcW (hsrc) rfl rfl nd rfl nds | exact pbS tabOk rfl rfl nds | exact std1) (by exact rfl) ?_)
   all_goals (first | (exfalso; omega) | skip)
   · have h5 := bneT hc
     rw [zAj] at h5
     rw [if_neg (by rw [h5]; decide)] at ht
     refine ⟨k + 1, by omega, by omega, ⟨rfl, rfl, ?_, rfl, tI⟩, ?_⟩
     · rw [ht]; rfl
     · rw [ht]; rfl
   · have h5 := bneF hc
     rw [zAj] at h5
     rw [if_pos h5] at ht
     refine ⟨k + 1, by omega, by omega, ⟨rfl, rfl, ?_, rfl, tI⟩, ?_⟩
     · rw [ht, zAe]; rfl
     · rw [ht, zAe]; rfl
 · repeat' (first | refine aoQ rfl rfl rfl (fun hg => by first | exact std0 | exact std1) (by exact rfl) ?_ | refine sqW ?_ | refine rgK (fun K' hK => ?_) | (refine aoN (hK _ _ ?_); clear hK K') | refine aoE (bxW rfl rfl rfl rfl rfl tI rfl rfl ?_) | refine aoE (stW tabOk rfl rfl rfl tI rfl rfl tI rfl rfl rfl rfl rfl rfl rfl ?_) | refine aoE (alW tabOk rfl rfl rfl rfl rfl rfl ?_) | refine cdN rfl tI (fun hc => ?_) (fun hc => ?_) | refine blK ?_ | refine exW ?_ | refine skW ?_ | refine rtW ?_ | refine dK2 (by decide +kernel) (by kernel_rfl) (by decide +kernel) rfl (fun K' hK => ?_) | refine dL2 (by kernel_rfl) (by decide +kernel) rfl (fun K' hK => ?_) | (refine aqN (hK _ ?_); clear hK K') | refine aqN ?_ | refine aqQ rfl rfl (fun hg => by first | exact std0 | exact std1) (by exact rfl) ?_)
   all_goals (first | (exfalso; omega) | skip)
   refine ⟨.inr rfl, Ent.of ?_⟩
   rw [zAu (by omega)]; rfl
end Go.Proofs.YtficfljjnbnhbaaGreatDoor
namespace Go.Ab
theorem PRun.eq {P : Program} {o : Oper} {env : Env} {σ : Store} {v v' : AV} (h : PRun P o env σ v) (e : v = v') : PRun P o env σ v' := e ▸ h
def buildAF (T : Tab) (env : Env) (t : TypeId) (parts : List (Nat × Operand)) : Option AV := match T.get t, partsF env parts with
 | some ⟨.arr _ e, _, _, zs⟩, some ps => match T.get e with
   | some le => match fillA (fun i => some (i * le.size, le.size)) (zs.map Z.av) ps with
     | some r => (forceL r).map .agg
     | none => none
   | none => none
 | _, _ => none
theorem PRun.buildAW {P : Program} {T : Tab} {o : Oper} {env : Env} {σ : Store} (hT : T.Ok P) {t : TypeId} {parts : Array (Nat × Operand)} {r : AV} (ho : o.op = .build t parts) (h : buildAF T env t parts.toList = some r) (hn : rdns env (parts.toList.map (·.2))) : PRun P o env σ r := by
 unfold buildAF at h
 split at h
 · rename_i nn e s b zs ps hg hp
   split at h
   · rename_i le he
     split at h
     · rename_i r' hf
       simp only [zA6] at h
       obtain ⟨r2, h2, rfl⟩ := h
       rw [← forceL_eq h2]
       exact PRun.buildA ho (LOk.of (hT.get hg)) (LOk.of (hT.get he)) hp hn hf
     · simp at h
   · simp at h
 · simp at h
end Go.Ab
namespace Go.Proofs.YtficfljjnbnhbaaGreatDoor.Mk
open Go.Ab Go.Jo
attribute [local irreducible] AWP AOps EStep AQ PStep PRun PCall TCall VCall DStep TDies AWD DCall
abbrev evM (m : Jo.Mark) : AV := .agg (encMk m)
theorem one_encMk (l : List Jo.Mark) : ∀ x ∈ l.map encMk, x.all oneAV = true := fun x hx => by
 obtain ⟨c, _, rfl⟩ := zAi.1 hx; rfl
abbrev kinds : List Int := [1, 2, 3, 4, 5]
def shownL (f : Int → Int → Option Jo.Mark) (ns : List Note) : List Jo.Mark := ns.flatMap fun n => kinds.filterMap (f n.id)
def shownF (s : Score) (l : List Jo.Mark) (p : Part) (r : Rdr) : Int → Int → Option Jo.Mark := fun n k => bestM (okFor s.version n k p.section_ r) l
def partI (s : Score) (id : Int) : Int := findI (fun x : Part => x.id == id) s.parts
def shownR (s : Score) (l : List Jo.Mark) (r : Rdr) : List Jo.Mark × Int :=
 if (scoreOk s && marksOk l) && isRdr r then
  (if partI s r.part ≥ 0 then
   (if (s.parts.getD (partI s r.part).toNat default).desks < r.desk then ([], 22) else (shownL (shownF s l (s.parts.getD (partI s r.part).toNat default) r) (playedL s.notes (s.parts.getD (partI s r.part).toNat default)), 0))
   else ([], 22))
 else ([], 1)
abbrev tupM (r : List Jo.Mark × Int) : AV := .tup [.sl 10 (r.1.map encMk) .no, .int r.2]
theorem rdr_part {r : Rdr} (h : isRdr r = true) : inB r.part 1 1000000 = true := by
 unfold isRdr isId at h; simp only [zA0] at h; exact h.1.1
theorem partR_yes {s : Score} {r : Rdr} (hok : scoreOk s = true) (hr : isRdr r = true) {k : Nat} (e : partI s r.part = k) : partR s r.part = ((k : Int), true, 0) := by
 unfold partI at e
 unfold partR idR askedB; rw [hok, rdr_part hr, e]; simp [Go.Proofs.YtficfljjnbnhbaaGreatDoor.idxR]
theorem partR_no {s : Score} {r : Rdr} (hok : scoreOk s = true) (hr : isRdr r = true) (h : ¬ partI s r.part ≥ 0) : partR s r.part = (0, false, 0) := by
 unfold partI at h
 unfold partR idR askedB; rw [hok, rdr_part hr]; simp [Go.Proofs.YtficfljjnbnhbaaGreatDoor.idxR]; omega
theorem filterMap_len {α β : Type} (f : α → Option β) (l : List α) : (l.filterMap f).length ≤ l.length := List.length_filterMap_le f l
theorem shownL_len (f : Int → Int → Option Jo.Mark) : ∀ ns : List Note, (shownL f ns).length ≤ 5 * ns.length
 | [] => by simp [shownL]
 | n :: t => by
   have ih := shownL_len f t
   have h1 := filterMap_len (f n.id) kinds
   unfold shownL at ih ⊢
   rw [zD1, lLa, zA5]
   have h2 : kinds.length = 5 := rfl
   omega
theorem shownL_snoc (f : Int → Int → Option Jo.Mark) {ns : List Note} {j : Nat} (h : j < ns.length) : shownL f (ns.take (j + 1)) = shownL f (ns.take j) ++ kinds.filterMap (f (ns.getD j default).id) := by
 rw [take_snoc h]; unfold shownL; rw [zC2]; simp
theorem kinds_at {kd : Nat} (h : kd < 5) (g : Int → Option Jo.Mark) : (kinds.take (kd + 1)).filterMap g = (kinds.take kd).filterMap g ++ (match g ((kd : Int) + 1) with | none => [] | some m => [m]) := by
 have h5 : kd = 0 ∨ kd = 1 ∨ kd = 2 ∨ kd = 3 ∨ kd = 4 := by omega
 rcases h5 with rfl | rfl | rfl | rfl | rfl
 · show List.filterMap g [1] = _ ++ (match g 1 with | none => [] | some m => [m]); cases h : g 1 <;> simp [h]
 · show List.filterMap g ([1] ++ [2]) = List.filterMap g [1] ++ (match g 2 with | none => [] | some m => [m]); rw [zCw]; congr 1; cases h : g 2 <;> simp [h]
 · show List.filterMap g ([1, 2] ++ [3]) = List.filterMap g [1, 2] ++ (match g 3 with | none => [] | some m => [m]); rw [zCw]; congr 1; cases h : g 3 <;> simp [h]
 · show List.filterMap g ([1, 2, 3] ++ [4]) = List.filterMap g [1, 2, 3] ++ (match g 4 with | none => [] | some m => [m]); rw [zCw]; congr 1; cases h : g 4 <;> simp [h]
 · show List.filterMap g ([1, 2, 3, 4] ++ [5]) = List.filterMap g [1, 2, 3, 4] ++ (match g 5 with | none => [] | some m => [m]); rw [zCw]; congr 1; cases h : g 5 <;> simp [h]
theorem okObj_mapM (m : Nat) (al : List ((Int × Int) × Jo.Mark)) : okObj m (.map (Go.Ab.encM ekP evM al)) = true := by
 simp [okObj, Go.Ab.encM, okRef, encMk]
theorem marksOk_at {l : List Jo.Mark} (h : marksOk l = true) {k : Nat} (hk : k < l.length) : markOk (l.getD k default) = true := by
 unfold marksOk at h
 simp only [zA0, zA8] at h
 exact h.1.1 _ (by rw [getD_lt hk]; exact lGm hk)
end Go.Proofs.YtficfljjnbnhbaaGreatDoor.Mk
