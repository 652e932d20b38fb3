/- Notes in order, in plain words: the sort and the insertion give the same.  Alignments in plain words: the notes of a bar, the same music, what it costs to pair two bars, which notes belong together.  Alignments in plain words: the notes of all paired bars.  Regions that draw their order, with chains of effects: which pairs may be exchanged. No statement is proved here. -/
import Derived.Test.YtekfpcgagoidcaaGreatDoorU5
import Derived.Test.YtekfpcgagoidcaaGreatDoorU9
import Derived.Test.YtekfpcgagoidcaaGreatDoorU10
import Derived.Test.YtekfpcgagoidcaaGreatDoorU11
set_option linter.unusedVariables false
set_option linter.unusedSimpArgs false
namespace Go.Proofs.YtekfpcgagoidcaaGreatDoor
open Go.Ab Go.Sort
theorem orL_zero_iff : ∀ {l : List Int}, orL l = 0 ↔ ∀ x ∈ l, x = 0
 | [] => by simp [orL]
 | x :: r => by
   have := orL_zero_iff (l := r)
   by_cases h : x = 0
   · subst h; simp [orL, this]
   · simp [orL, h]
def bef (al : List (Int × Int)) (a b : Note) : Bool := decide (cmpK (keyN al a) (keyN al b) < 0)
theorem bef_iff {al : List (Int × Int)} {a b : Note} : bef al a b = true ↔ cmpK (keyN al a) (keyN al b) < 0 := decide_eq_true_iff
theorem bef_irr (al : List (Int × Int)) (a : Note) : bef al a a = false := by
 have := cmpK_anti (keyN al a) (keyN al a)
 refine decide_eq_false ?_; omega
theorem bef_trans {al : List (Int × Int)} {a b c : Note} (h : bef al a b = true) (h' : bef al b c = true) : bef al a c = true := by
 rw [bef_iff] at *
 exact cmpK_lt (a := keyN al a) (b := keyN al b) (c := keyN al c) rfl rfl h h'
theorem bef_asymm {al : List (Int × Int)} {a b : Note} (h : bef al a b = true) : bef al b a = false := by
 cases h2 : bef al b a with
 | false => rfl
 | true => have := bef_trans h h2; rw [bef_irr] at this; cases this
theorem bef_total {al : List (Int × Int)} {a b : Note} (h : a.id ≠ b.id) (h' : bef al a b = false) : bef al b a = true := by
 rw [bef_iff]
 have h1 : ¬ cmpK (keyN al a) (keyN al b) < 0 := by simpa [bef] using h'
 have h2 := cmpK_anti (keyN al a) (keyN al b)
 rcases (show cmpK (keyN al a) (keyN al b) = 0 ∨ cmpK (keyN al b) (keyN al a) < 0 by omega) with h3 | h3
 · exfalso
   have := orL_zero_iff.1 h3 (a.id - b.id) (by simp [keyN])
   omega
 · exact h3
theorem ord_unique {al : List (Int × Int)} {l m : List Note} (hp : l.Perm m) (hl : l.Pairwise fun a b => bef al a b = true) (hm : m.Pairwise fun a b => bef al a b = true) : l = m := by
 refine List.Perm.eq_of_pairwise (le := fun a b => bef al a b = true) (fun a b _ _ h1 h2 => ?_) hl hm hp
 rw [bef_asymm h1] at h2; cases h2
theorem sortN_ord {al : List (Int × Int)} {l : List Note} (hin : ∀ n ∈ l, noteIn n) (hn : (l.map (·.id)).Nodup) : (sortN al l).Pairwise fun a b => bef al a b = true := by
 have hs := (sortL_spec _ (swoN al fixN) l).2
 have hp := sortN_perm al l
 have hlen := sortN_len al l
 rw [zC7]
 intro i j hi hj hij
 have h1 := hs i j (nZl _) hij (by omega)
 have e : ∀ k (hk : k < (sortN al l).length), (sortL (fun x y => cmpN al (fixN x) (fixN y)) l).toArray[k]! = (sortN al l)[k] := fun k hk => by
  unfold sortN at hk ⊢
  simp [hk]
 rw [e i hi, e j hj] at h1
 have m1 := hin _ (hp.mem_iff.1 (lGm hi))
 have m2 := hin _ (hp.mem_iff.1 (lGm hj))
 have h2 : bef al (sortN al l)[j] (sortN al l)[i] = false := by
  have h3 := (ltN' al fixN _ _).1 h1
  rw [fixN_eq m1, fixN_eq m2] at h3
  exact decide_eq_false h3
 refine bef_total (fun e2 => ?_) h2
 have hnd : ((sortN al l).map (·.id)).Nodup := (hp.map _).nodup_iff.2 hn
 have := (List.getElem_inj (h₀ := by simpa using hj) (h₁ := by simpa using hi) hnd).1 (by simpa using e2)
 omega
theorem sortN_self {al : List (Int × Int)} {l : List Note} (hin : ∀ n ∈ l, noteIn n) (hn : (l.map (·.id)).Nodup) (h : l.Pairwise fun a b => bef al a b = true) : sortN al l = l :=
 ord_unique (sortN_perm al l) (sortN_ord hin hn) h
theorem notesOk_nodup {bars : List Bar} {l : List Note} (h : notesOk bars l = true) : (l.map (·.id)).Nodup := by
 unfold notesOk at h; simp only [zA0, dEt] at h; exact h.2
def stepsOk (al : List (Int × Int)) (l : List Note) : Bool := (List.range l.length).all fun i => i == 0 || bef al (l.getD (i - 1) default) (l.getD i default)
theorem steps_ord {al : List (Int × Int)} {l : List Note} : stepsOk al l = true ↔ l.Pairwise fun a b => bef al a b = true := by
 unfold stepsOk
 rw [zA7, zC7]
 constructor
 · intro h i j hi hj hij
   induction j with
   | zero => omega
   | succ j ih =>
     have h1 := h (j + 1) (zB2.2 hj)
     simp only [Nat.add_sub_cancel, zAi, beq_iff_eq] at h1
     rcases h1 with h1 | h1
     · omega
     · rw [getD_lt (by omega), getD_lt hj] at h1
       rcases nLg i j with h2 | h2
       · exact bef_trans (ih (by omega) h2) h1
       · have : i = j := by omega
         subst this; exact h1
 · intro h i hi
   have hi := zB2.1 hi
   cases i with
   | zero => rfl
   | succ i =>
     simp only [Nat.add_sub_cancel, zAi]
     right
     rw [getD_lt (by omega), getD_lt hi]
     exact h i (i + 1) (by omega) hi (by omega)
theorem sort_steps {bars : List Bar} {l : List Note} (h : notesOk bars l = true) : ((sortR bars l).2 == 0 && (sortR bars l).1 == l) = stepsOk (idxAL bars) l := by
 unfold sortR
 rw [if_pos h]
 simp only [beq_self_eq_true, zC6]
 rw [zB4, steps_ord, beq_iff_eq]
 constructor
 · intro e; rw [← e]; exact sortN_ord (notesOk_in h) (notesOk_nodup h)
 · exact sortN_self (notesOk_in h) (notesOk_nodup h)
end Go.Proofs.YtekfpcgagoidcaaGreatDoor
namespace Go.Proofs.YtekfpcgagoidcaaGreatDoor.Al
open Go.Ab Go.Sort
deriving instance DecidableEq for Score
def bareN (n : Note) : Note := { n with id := 0, bar := 0 }
def inBar (s : Score) (id : Int) : List Note := s.notes.filter fun n => n.bar == id
def barI (s : Score) (i : Nat) : Bar := s.bars.getD i default
def alike (x y : Note) : Bool := bareN x == bareN y
def sameMu (l m : List Note) : Bool := (l.map bareN).isPerm (m.map bareN)
theorem sameMu_iff {l m : List Note} : sameMu l m = true ↔ (l.map bareN).Perm (m.map bareN) := List.isPerm_iff
def costR (a b : Score) (i k : Nat) : Int :=
 let x := barI a i
 let y := barI b k
 let same := x.len == y.len && sameMu (inBar a x.id) (inBar b y.id)
 if x == y && same then 0 else if x.id == y.id || (same && !(inBar a x.id).isEmpty) then 1 else 5
theorem costR_in (a b : Score) (i k : Nat) : 0 ≤ costR a b i k ∧ costR a b i k ≤ 5 := by
 unfold costR; dsimp only
 split
 · omega
 · split <;> omega
theorem perm_of_count {α : Type} [DecidableEq α] : ∀ {a b : List α}, a.length = b.length → (∀ x ∈ a, a.count x = b.count x) → a.Perm b
 | [], b, h, _ => by
   have : b = [] := List.length_eq_zero_iff.1 h.symm
   rw [this]
 | x :: a, b, h, hc => by
   have hx := hc x (zAp ..)
   have hm : x ∈ b := by
    rw [List.count_cons_self] at hx
    exact List.count_pos_iff.1 (by omega)
   have hp := List.perm_cons_erase hm
   refine (List.Perm.cons x (perm_of_count (a := a) (b := b.erase x) ?_ fun y hy => ?_)).trans hp.symm
   · have := hp.length_eq
     simp only [zA8] at this h
     omega
   · have h1 := hc y (zAm _ hy)
     have h2 := hp.count_eq y
     rw [List.count_cons] at h1 h2
     omega
def cntL (l : List Note) (n : Note) : Nat := l.countP fun x => alike x n
theorem cntL_count (l : List Note) (n : Note) : cntL l n = (l.map bareN).count (bareN n) := by
 unfold cntL List.count
 rw [List.countP_map]
 rfl
theorem music_eq (a b : List Note) : (decide (a.length = b.length) && a.all fun x => decide (cntL a x = cntL b x)) = sameMu a b := by
 rw [zB4, sameMu_iff]
 simp only [zA0, dEt, zA7]
 constructor
 · rintro ⟨h1, h2⟩
   refine perm_of_count (by simpa using h1) fun x hx => ?_
   obtain ⟨y, hy, rfl⟩ := zAu.1 hx
   have := h2 y hy
   rwa [cntL_count, cntL_count] at this
 · intro h
   refine ⟨by simpa using h.length_eq, fun x _ => ?_⟩
   rw [cntL_count, cntL_count]
   exact h.count_eq _
abbrev PL := List (Int × Int)
def fstIn (ps : PL) (i : Int) : Bool := ps.any fun p => p.1 == i
def sndIn (ps : PL) (i : Int) : Bool := ps.any fun p => p.2 == i
def stepM (f : Note → Note → Bool) (b : List Note) (ps : PL) (x : Note) : PL :=
 if fstIn ps x.id then ps else match b.find? (fun y => !sndIn ps y.id && f x y) with
  | some y => ps ++ [(x.id, y.id)]
  | none => ps
def matchL (f : Note → Note → Bool) (a b : List Note) (ps : PL) : PL := a.foldl (stepM f b) ps
def f1 (x y : Note) : Bool := x.id == y.id && x.part == y.part
def f2 (x y : Note) : Bool := alike x y
def f3 (x y : Note) : Bool := x.part == y.part && (x.voice == y.voice && (x.ossia == y.ossia && x.start == y.start))
def three (a b : List Note) (ps : PL) : PL := matchL f3 a b (matchL f2 a b (matchL f1 a b ps))
def pairsM (a b : Score) (l : List (Nat × Nat)) (ps : PL) : PL := l.foldl (fun ps y => three (inBar a (barI a y.1).id) (inBar b (barI b y.2).id) ps) ps
def outM (a : Score) (al : PL) : PL := a.notes.filterMap fun n => (lk al n.id).map fun y => (n.id, y)
def notesM (a b : Score) (l : List (Nat × Nat)) : PL := outM a (pairsM a b l [])
theorem fstIn_append (p q : PL) (i : Int) : fstIn (p ++ q) i = (fstIn p i || fstIn q i) := List.any_append
theorem sndIn_append (p q : PL) (i : Int) : sndIn (p ++ q) i = (sndIn p i || sndIn q i) := List.any_append
theorem fstIn_iff {p : PL} {i : Int} : fstIn p i = true ↔ ∃ k, (i, k) ∈ p := by
 unfold fstIn
 rw [zDa]
 constructor
 · rintro ⟨⟨x, y⟩, h1, h2⟩
   exact ⟨y, by rw [← (beq_iff_eq.1 h2 : x = i)]; exact h1⟩
 · rintro ⟨k, h⟩; exact ⟨_, h, beq_self_eq_true _⟩
theorem sndIn_iff {p : PL} {k : Int} : sndIn p k = true ↔ ∃ i, (i, k) ∈ p := by
 unfold sndIn
 rw [zDa]
 constructor
 · rintro ⟨⟨x, y⟩, h1, h2⟩
   exact ⟨x, by rw [← (beq_iff_eq.1 h2 : y = k)]; exact h1⟩
 · rintro ⟨i, h⟩; exact ⟨_, h, beq_self_eq_true _⟩
theorem find_congr {α : Type} {p q : α → Bool} : ∀ {l : List α}, (∀ x ∈ l, p x = q x) → l.find? p = l.find? q
 | [], _ => rfl
 | x :: l, h => by
   rw [zC9, zC9, h x (zAp ..), find_congr fun y hy => h y (zAm _ hy)]
theorem stepM_local {f : Note → Note → Bool} {b : List Note} {ps qs : PL} {x : Note} (h1 : fstIn ps x.id = false) (h2 : ∀ y ∈ b, sndIn ps y.id = false) : stepM f b (ps ++ qs) x = ps ++ stepM f b qs x := by
 unfold stepM
 rw [fstIn_append, h1, zDe]
 split
 · rfl
 · rw [find_congr (q := fun y => !sndIn qs y.id && f x y) fun y hy => by rw [sndIn_append, h2 y hy, zDe]]
   split
   · rw [zBj]
   · rfl
theorem matchL_local {f : Note → Note → Bool} {b : List Note} {ps : PL} (h2 : ∀ y ∈ b, sndIn ps y.id = false) : ∀ {a : List Note} {qs : PL}, (∀ x ∈ a, fstIn ps x.id = false) → matchL f a b (ps ++ qs) = ps ++ matchL f a b qs
 | [], _, _ => rfl
 | x :: a, qs, h1 => by
   show matchL f a b (stepM f b (ps ++ qs) x) = ps ++ matchL f a b (stepM f b qs x)
   rw [stepM_local (h1 x (zAp ..)) h2, matchL_local h2 fun y hy => h1 y (zAm _ hy)]
theorem three_local {a b : List Note} {ps : PL} (h1 : ∀ x ∈ a, fstIn ps x.id = false) (h2 : ∀ y ∈ b, sndIn ps y.id = false) : three a b ps = ps ++ three a b [] := by
 unfold three
 have e := fun f qs => matchL_local (f := f) (qs := qs) h2 h1
 have e1 := e f1 []
 rw [zCg] at e1
 rw [e1, e f2, e f3]
structure PairsOk (a b : List Note) (ps : PL) : Prop where
 fst : (ps.map (·.1)).Nodup
 snd : (ps.map (·.2)).Nodup
 of : ∀ p ∈ ps, ∃ x ∈ a, ∃ y ∈ b, p = (x.id, y.id) ∧ x.part = y.part
theorem PairsOk.nil (a b : List Note) : PairsOk a b [] := ⟨zD8, zD8, fun p h => by cases h⟩
theorem nodup_snoc {α : Type} {l : List α} {x : α} (h : l.Nodup) (hx : x ∉ l) : (l ++ [x]).Nodup := by
 rw [zD7]
 exact ⟨h, by simp, fun a ha b hb => by rw [zAn.1 hb]; rintro rfl; exact hx ha⟩
theorem PairsOk.add {a b : List Note} {ps : PL} (h : PairsOk a b ps) {x y : Note} (hx : x ∈ a) (hy : y ∈ b) (h1 : fstIn ps x.id = false) (h2 : sndIn ps y.id = false) (hp : x.part = y.part) : PairsOk a b (ps ++ [(x.id, y.id)]) := by
 refine ⟨?_, ?_, fun p hm => ?_⟩
 · rw [zAs]
   refine nodup_snoc h.fst fun hm => ?_
   obtain ⟨p, hp, e⟩ := zAu.1 hm
   have : fstIn ps x.id = true := fstIn_iff.2 ⟨p.2, by rw [← (show p.1 = x.id from e)]; exact hp⟩
   rw [h1] at this; cases this
 · rw [zAs]
   refine nodup_snoc h.snd fun hm => ?_
   obtain ⟨p, hp, e⟩ := zAu.1 hm
   have : sndIn ps y.id = true := sndIn_iff.2 ⟨p.1, by rw [← (show p.2 = y.id from e)]; exact hp⟩
   rw [h2] at this; cases this
 · rcases zBv.1 hm with hm | hm
   · exact h.of p hm
   · rw [zAn.1 hm]; exact ⟨x, hx, y, hy, rfl, hp⟩
theorem stepM_ok {f : Note → Note → Bool} (hf : ∀ x y, f x y = true → x.part = y.part) {a b : List Note} {ps : PL} (h : PairsOk a b ps) {x : Note} (hx : x ∈ a) : PairsOk a b (stepM f b ps x) := by
 unfold stepM
 split
 · exact h
 · rename_i h1
   split
   · rename_i y hy
     have h2 := zD2 hy
     simp only [zA0, zAh] at h2
     exact h.add hx (zC5 hy) (by simpa using h1) h2.1 (hf _ _ h2.2)
   · exact h
theorem matchL_ok {f : Note → Note → Bool} (hf : ∀ x y, f x y = true → x.part = y.part) {a b : List Note} : ∀ {l : List Note} {ps : PL}, (∀ x ∈ l, x ∈ a) → PairsOk a b ps → PairsOk a b (matchL f l b ps)
 | [], _, _, h => h
 | x :: l, ps, hl, h => by
   show PairsOk a b (matchL f l b (stepM f b ps x))
   exact matchL_ok hf (fun y hy => hl y (zAm _ hy)) (stepM_ok hf h (hl x (zAp ..)))
theorem f1_part (x y : Note) (h : f1 x y = true) : x.part = y.part := by unfold f1 at h; simp only [zA0, beq_iff_eq] at h; exact h.2
theorem f2_part (x y : Note) (h : f2 x y = true) : x.part = y.part := by
 unfold f2 alike at h
 have := congrArg Note.part (eq_of_beq h)
 exact this
theorem f3_part (x y : Note) (h : f3 x y = true) : x.part = y.part := by unfold f3 at h; simp only [zA0, beq_iff_eq] at h; exact h.1
theorem three_ok {a b : List Note} {ps : PL} (h : PairsOk a b ps) : PairsOk a b (three a b ps) :=
 matchL_ok f3_part (fun _ h => h) (matchL_ok f2_part (fun _ h => h) (matchL_ok f1_part (fun _ h => h) h))
theorem stepM_sub {f : Note → Note → Bool} {b : List Note} {ps : PL} {x : Note} {p : Int × Int} (h : p ∈ ps) : p ∈ stepM f b ps x := by
 unfold stepM
 split
 · exact h
 · split
   · exact zCn _ h
   · exact h
theorem matchL_sub {f : Note → Note → Bool} {b : List Note} {p : Int × Int} : ∀ {l : List Note} {ps : PL}, p ∈ ps → p ∈ matchL f l b ps
 | [], _, h => h
 | x :: l, ps, h => by
   show p ∈ matchL f l b (stepM f b ps x)
   exact matchL_sub (stepM_sub h)
theorem first_rule {b : List Note} (hb : (b.map (·.id)).Nodup) : ∀ {l : List Note} {ps : PL}, (l.map (·.id)).Nodup → (∀ p ∈ ps, p.1 = p.2) → (∀ p ∈ matchL f1 l b ps, p.1 = p.2) ∧ ∀ x ∈ l, ∀ y ∈ b, f1 x y = true → (x.id, x.id) ∈ matchL f1 l b ps
 | [], ps, _, h => ⟨h, fun x hx => by cases hx⟩
 | x :: l, ps, hn, h => by
   rw [zBk, zCe] at hn
   have hst : ∀ p ∈ stepM f1 b ps x, p.1 = p.2 := by
    unfold stepM
    split
    · exact h
    · split
      · rename_i y hy
        have h2 := zD2 hy
        simp only [zA0, f1, beq_iff_eq] at h2
        intro p hp
        rcases zBv.1 hp with hp | hp
        · exact h p hp
        · rw [zAn.1 hp]; exact h2.2.1
      · exact h
   obtain ⟨r1, r2⟩ := first_rule hb hn.2 hst
   show (∀ p ∈ matchL f1 l b (stepM f1 b ps x), p.1 = p.2) ∧ ∀ z ∈ x :: l, ∀ y ∈ b, f1 z y = true → (z.id, z.id) ∈ matchL f1 l b (stepM f1 b ps x)
   refine ⟨r1, fun z hz y hy hf => ?_⟩
   rcases zB6.1 hz with rfl | hz
   · refine matchL_sub ?_
     unfold stepM
     split
     · rename_i h1
       obtain ⟨k, hk⟩ := fstIn_iff.1 h1
       have e : z.id = k := h _ hk
       rw [e] at hk ⊢; exact hk
     · rename_i h1
       split
       · rename_i y' hy'
         have h2 := zD2 hy'
         simp only [zA0, f1, beq_iff_eq] at h2
         rw [← h2.2.1]; exact zC8 _ (zAn.2 rfl)
       · rename_i hno
         exfalso
         have := List.find?_eq_none.1 hno y hy
         simp only [zA0, zAh, not_and] at this
         refine this ?_ hf
         cases hs : sndIn ps y.id with
         | false => rfl
         | true =>
           obtain ⟨i, hi⟩ := sndIn_iff.1 hs
           have e : i = y.id := h _ hi
           have e2 : z.id = y.id := by unfold f1 at hf; simp only [zA0, beq_iff_eq] at hf; exact hf.1
           exfalso
           refine h1 (fstIn_iff.2 ⟨y.id, ?_⟩)
           rw [e2, ← e]; rw [← e] at hi; exact hi
   · exact r2 z hz y hy hf
theorem inBar_mem {s : Score} {id : Int} {x : Note} : x ∈ inBar s id ↔ x ∈ s.notes ∧ x.bar = id := by
 unfold inBar; rw [zCf, beq_iff_eq]
theorem inBar_nodup {s : Score} (hn : (s.notes.map (·.id)).Nodup) (id : Int) : ((inBar s id).map (·.id)).Nodup := (List.filter_sublist.map _).nodup hn
theorem inj_of_nodup {α : Type} {f : α → Int} : ∀ {l : List α}, (l.map f).Nodup → ∀ {x y : α}, x ∈ l → y ∈ l → f x = f y → x = y
 | [], _, _, _, h, _, _ => by cases h
 | z :: l, hn, x, y, hx, hy, e => by
   rw [zBk, zCe] at hn
   rcases zB6.1 hx with rfl | hx1 <;> rcases zB6.1 hy with rfl | hy1
   · rfl
   · exact (hn.1 (zAu.2 ⟨y, hy1, e.symm⟩)).elim
   · exact (hn.1 (zAu.2 ⟨x, hx1, e⟩)).elim
   · exact inj_of_nodup hn.2 hx1 hy1 e
theorem barI_lt {s : Score} {i : Nat} (h : i < s.bars.length) : barI s i = s.bars[i] := by unfold barI; simp [List.getD, h]
theorem bar_inj {s : Score} (hb : (s.bars.map (·.id)).Nodup) {i j : Nat} (hi : i < s.bars.length) (hj : j < s.bars.length) (e : (barI s i).id = (barI s j).id) : i = j := by
 rw [barI_lt hi, barI_lt hj] at e
 have h1 : (s.bars.map (·.id))[i]'(by simpa using hi) = (s.bars.map (·.id))[j]'(by simpa using hj) := by simpa using e
 exact (List.getElem_inj hb).1 h1
structure PM (a b : Score) (l : List (Nat × Nat)) (ps : PL) : Prop where
 fst : (ps.map (·.1)).Nodup
 snd : (ps.map (·.2)).Nodup
 of : ∀ p ∈ ps, ∃ x ∈ a.notes, ∃ y ∈ b.notes, p = (x.id, y.id) ∧ x.part = y.part ∧ ∃ q ∈ l, x.bar = (barI a q.1).id ∧ y.bar = (barI b q.2).id
 flat : ps = (l.map fun q => three (inBar a (barI a q.1).id) (inBar b (barI b q.2).id) []).flatten
 one : ∀ q ∈ l, ∀ x ∈ inBar a (barI a q.1).id, ∀ y ∈ inBar b (barI b q.2).id, f1 x y = true → (x.id, x.id) ∈ ps
theorem PM.nil (a b : Score) : PM a b [] [] := ⟨zD8, zD8, fun p h => (by cases h), rfl, fun q h => by cases h⟩
structure Sc (s : Score) : Prop where
 notes : (s.notes.map (·.id)).Nodup
 bars : (s.bars.map (·.id)).Nodup
theorem PM.add {a b : Score} (ha : Sc a) (hb : Sc b) {l : List (Nat × Nat)} {ps : PL} (h : PM a b l ps) (hl : ∀ p ∈ l, p.1 < a.bars.length ∧ p.2 < b.bars.length) {q : Nat × Nat} (hq : q.1 < a.bars.length ∧ q.2 < b.bars.length) (hne : ∀ p ∈ l, p.1 ≠ q.1 ∧ p.2 ≠ q.2) :
 PM a b (l ++ [q]) (three (inBar a (barI a q.1).id) (inBar b (barI b q.2).id) ps) := by
 have h1 : ∀ x ∈ inBar a (barI a q.1).id, fstIn ps x.id = false := fun x hx => by
  cases hh : fstIn ps x.id with
  | false => rfl
  | true =>
    obtain ⟨k, hk⟩ := fstIn_iff.1 hh
    obtain ⟨z, hz, y, _, e, _, p, hp, e2, _⟩ := h.of _ hk
    simp only [Prod.mk.injEq] at e
    obtain ⟨hx1, hx2⟩ := inBar_mem.1 hx
    have := inj_of_nodup ha.notes hx1 hz e.1
    subst this
    exact absurd (bar_inj ha.bars (hl p hp).1 hq.1 (e2.symm.trans hx2)) (hne p hp).1
 have h2 : ∀ y ∈ inBar b (barI b q.2).id, sndIn ps y.id = false := fun y hy => by
  cases hh : sndIn ps y.id with
  | false => rfl
  | true =>
    obtain ⟨k, hk⟩ := sndIn_iff.1 hh
    obtain ⟨x, _, z, hz, e, _, p, hp, _, e2⟩ := h.of _ hk
    simp only [Prod.mk.injEq] at e
    obtain ⟨hy1, hy2⟩ := inBar_mem.1 hy
    have := inj_of_nodup hb.notes hy1 hz e.2
    subst this
    exact absurd (bar_inj hb.bars (hl p hp).2 hq.2 (e2.symm.trans hy2)) (hne p hp).2
 have hok := three_ok (PairsOk.nil (inBar a (barI a q.1).id) (inBar b (barI b q.2).id))
 rw [three_local h1 h2]
 refine ⟨?_, ?_, fun p hp => ?_, ?_, fun r hr x hx y hy hf => ?_⟩
 · rw [zAs, zD7]
   refine ⟨h.fst, hok.fst, fun u hu v hv => ?_⟩
   rintro rfl
   obtain ⟨p, hp, rfl⟩ := zAu.1 hu
   obtain ⟨p2, hp2, e⟩ := zAu.1 hv
   obtain ⟨x, hx, y, _, rfl, _⟩ := hok.of _ hp2
   have := h1 x hx
   rw [fstIn_iff.2 ⟨p.2, by rw [show x.id = p.1 from e]; exact hp⟩] at this; cases this
 · rw [zAs, zD7]
   refine ⟨h.snd, hok.snd, fun u hu v hv => ?_⟩
   rintro rfl
   obtain ⟨p, hp, rfl⟩ := zAu.1 hu
   obtain ⟨p2, hp2, e⟩ := zAu.1 hv
   obtain ⟨x, _, y, hy, rfl, _⟩ := hok.of _ hp2
   have := h2 y hy
   rw [sndIn_iff.2 ⟨p.1, by rw [show y.id = p.2 from e]; exact hp⟩] at this; cases this
 · rcases zBv.1 hp with hp | hp
   · obtain ⟨x, hx, y, hy, e, e2, r, hr, e3⟩ := h.of p hp
     exact ⟨x, hx, y, hy, e, e2, r, zCn _ hr, e3⟩
   · obtain ⟨x, hx, y, hy, e, e2⟩ := hok.of p hp
     obtain ⟨k1, k2⟩ := inBar_mem.1 hx
     obtain ⟨k3, k4⟩ := inBar_mem.1 hy
     exact ⟨x, k1, y, k3, e, e2, q, zC8 _ (zAn.2 rfl), k2, k4⟩
 · rw [zAs, List.flatten_append, ← h.flat]; simp
 · rcases zBv.1 hr with hr | hr
   · exact zCn _ (h.one r hr x hx y hy hf)
   · rw [zAn.1 hr] at hx hy
     refine zC8 _ ?_
     unfold three
     exact matchL_sub (matchL_sub ((first_rule (inBar_nodup hb.notes _) (inBar_nodup ha.notes _) (fun p h => by cases h)).2 x hx y hy hf))
def Pairs (a b : Score) (l : List (Nat × Nat)) : Prop := l.Pairwise (fun p q => p.1 < q.1 ∧ p.2 < q.2) ∧ ∀ p ∈ l, p.1 < a.bars.length ∧ p.2 < b.bars.length
theorem pairsM_from {a b : Score} (ha : Sc a) (hb : Sc b) : ∀ (r l : List (Nat × Nat)) (ps : PL), Pairs a b (l ++ r) → PM a b l ps → PM a b (l ++ r) (pairsM a b r ps)
 | [], l, ps, _, h => by rw [zCg]; exact h
 | q :: r, l, ps, hp, h => by
   have e : l ++ q :: r = (l ++ [q]) ++ r := by simp
   have hpw := hp.1
   rw [List.pairwise_append] at hpw
   have hadd := h.add ha hb (fun p hm => hp.2 p (zCn _ hm)) (hp.2 q (zC8 _ (zAp ..))) fun p hm => by
    have := hpw.2.2 p hm q (zAp ..)
    exact ⟨Nat.ne_of_lt this.1, Nat.ne_of_lt this.2⟩
   rw [e] at hp ⊢
   exact pairsM_from ha hb r (l ++ [q]) _ hp hadd
theorem pairsM_spec {a b : Score} (ha : Sc a) (hb : Sc b) {l : List (Nat × Nat)} (hp : Pairs a b l) : PM a b l (pairsM a b l []) := pairsM_from ha hb l [] [] hp (PM.nil a b)
theorem lk_mem {ps : PL} : ∀ {u v : Int}, lk ps u = some v → (u, v) ∈ ps := by
 induction ps with
 | nil => intro u v h; simp [lk] at h
 | cons p r ih =>
   intro u v h
   obtain ⟨x, y⟩ := p
   simp only [lk] at h
   split at h
   · rename_i e; simp at h; subst h; subst e; exact zAp ..
   · exact zAm _ (ih h)
theorem lk_of_mem {ps : PL} : (ps.map (·.1)).Nodup → ∀ {u v : Int}, (u, v) ∈ ps → lk ps u = some v := by
 induction ps with
 | nil => intro _ u v h; cases h
 | cons p r ih =>
   intro hn u v h
   obtain ⟨x, y⟩ := p
   rw [zBk, zCe] at hn
   simp only [lk]
   rcases zB6.1 h with e | h
   · cases e; rw [if_pos rfl]
   · rw [if_neg, ih hn.2 h]
     rintro rfl
     exact hn.1 (zAu.2 ⟨_, h, rfl⟩)
theorem lk_fst {ps : PL} {u : Int} : (lk ps u).isSome = fstIn ps u := by
 induction ps with
 | nil => rfl
 | cons p r ih =>
   obtain ⟨x, y⟩ := p
   simp only [lk]
   unfold fstIn at ih ⊢
   rw [List.any_cons, ← ih]
   by_cases e : x = u
   · rw [if_pos e]; simp [e]
   · rw [if_neg e]; simp [e]
theorem filter_lk {ps : PL} : (ps.map (·.1)).Nodup → ∀ u : Int, ps.filter (fun p => p.1 == u) = ((lk ps u).map fun v => (u, v)).toList := by
 induction ps with
 | nil => intro _ u; rfl
 | cons p r ih =>
   intro hn u
   obtain ⟨x, y⟩ := p
   rw [zBk, zCe] at hn
   simp only [lk]
   by_cases e : x = u
   · subst e
     rw [if_pos rfl, zBh (by simp)]
     have : r.filter (fun p => p.1 == x) = [] := List.filter_eq_nil_iff.2 fun p hp h => hn.1 (zAu.2 ⟨p, hp, by simpa using h⟩)
     rw [this]; rfl
   · rw [if_neg e, zBi (by simpa using e), ih hn.2 u]
theorem outM_flat {a : Score} {ps : PL} (hn : (ps.map (·.1)).Nodup) : (a.notes.map fun n => ps.filter fun p => p.1 == n.id).flatten = outM a ps := by
 unfold outM
 induction a.notes with
 | nil => rfl
 | cons n r ih =>
   rw [zBk, List.flatten_cons, ih, filter_lk hn, List.filterMap_cons]
   cases lk ps n.id with
   | none => rfl
   | some v => rfl
end Go.Proofs.YtekfpcgagoidcaaGreatDoor.Al
namespace Go.Ab
section
variable {cls : Oper → Nat} {lo hi rank : Nat → Nat → Nat}
def pairC (cls : Oper → Nat) (lo hi rank : Nat → Nat → Nat) (c i k : Nat) (oi ok : Oper) : Prop :=
 ¬ (cls oi = c ∧ cls ok = c) ∧ (cls oi ≠ c → cls ok = c → rank c k ≤ hi c i) ∧ (cls oi = c → cls ok ≠ c → lo c k < rank c i)
def rngC (cls : Oper → Nat) (lo hi rank : Nat → Nat → Nat) (c i k : Nat) (o o' : Oper) : Bool :=
 !(cls o == c && cls o' == c) && (cls o == c || !(cls o' == c) || decide (rank c k ≤ hi c i)) && (!(cls o == c) || cls o' == c || decide (lo c k < rank c i))
theorem rngC_spec {c i k : Nat} {o o' : Oper} (h : rngC cls lo hi rank c i k o o' = true) : pairC cls lo hi rank c i k o o' := by
 unfold rngC at h
 simp only [zA0, zAi, zAh, zAf, beq_iff_eq, beq_eq_false_iff_ne, dEt, ne_eq] at h
 obtain ⟨⟨h1, h2⟩, h3⟩ := h
 refine ⟨fun ⟨a, b⟩ => ?_, fun a b => ?_, fun a b => ?_⟩
 · rcases h1 with h1 | h1
   · exact h1 a
   · exact h1 b
 · rcases h2 with (h2 | h2) | h2
   · exact absurd h2 a
   · exact absurd b h2
   · exact h2
 · rcases h3 with (h3 | h3) | h3
   · exact absurd a h3
   · exact absurd h3 b
   · exact h3
abbrev cOf (cls : Oper → Nat) (c : Nat) (o : Oper) : Bool := cls o == c
end
end Go.Ab
