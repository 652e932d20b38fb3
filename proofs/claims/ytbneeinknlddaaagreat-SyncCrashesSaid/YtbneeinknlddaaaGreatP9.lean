/- Two lists of events merged, in plain words, and a further event put from behind. No program is in sight. Tablets, in plain words: what bytes say, tablets that write, crash, wake and exchange. No program is in sight. The laws of tablets in plain words: what is written, lost, found again and exchanged. No program is in sight. Tablets that exchange, in plain words. No program is in sight. No statement is proved here. -/
import Derived.Test.YtbneeinknlddaaaGreatP8
set_option linter.unusedVariables false
set_option linter.unusedSimpArgs false
namespace Go.Sy
open Go.Jo
abbrev Wk (l : List Ev) : Prop := l.Pairwise fun a b => before b a = false
theorem wk_cons {x : Ev} {r : List Ev} : Wk (x :: r) ↔ (∀ b ∈ r, before b x = false) ∧ Wk r := List.pairwise_cons
theorem wk_app {a b : List Ev} : Wk (a ++ b) ↔ Wk a ∧ Wk b ∧ ∀ x ∈ a, ∀ y ∈ b, before y x = false := List.pairwise_append
theorem srt_wk {l : List Ev} (h : Srt l) : Wk l := List.Pairwise.imp before_asym h
def mergeF : Nat → List Ev → List Ev → List Ev
 | 0, a, b => a ++ b
 | _ + 1, [], b => b
 | _ + 1, a, [] => a
 | k + 1, x :: a, y :: b => if before y x then y :: mergeF k (x :: a) b else x :: mergeF k a (y :: b)
def mergeW (a b : List Ev) : List Ev := mergeF (a.length + b.length) a b
theorem merge_perm : ∀ (k : Nat) (a b : List Ev), (mergeF k a b).Perm (a ++ b)
 | 0, a, b => List.Perm.refl _
 | k + 1, [], b => by cases b <;> exact List.Perm.refl _
 | k + 1, x :: a, [] => by rw [zBd]; exact List.Perm.refl _
 | k + 1, x :: a, y :: b => by
   unfold mergeF
   split
   · exact ((merge_perm k (x :: a) b).cons y).trans (List.perm_middle (l₁ := x :: a) (l₂ := b) (a := y)).symm
   · exact (merge_perm k a (y :: b)).cons x
theorem merge_wk : ∀ (k : Nat) (a b : List Ev), a.length + b.length ≤ k → Wk a → Wk b → Wk (mergeF k a b)
 | 0, a, b, hk, ha, hb => by
   have h1 : a = [] := zAy (by omega)
   have h2 : b = [] := zAy (by omega)
   subst h1; subst h2; exact List.Pairwise.nil
 | k + 1, [], b, _, _, hb => by cases b <;> exact hb
 | k + 1, x :: a, [], _, ha, _ => ha
 | k + 1, x :: a, y :: b, hk, ha, hb => by
   simp only [zA2] at hk
   unfold mergeF
   split
   · rename_i h
     rw [wk_cons] at hb
     refine wk_cons.2 ⟨fun z hz => ?_, merge_wk k (x :: a) b (by simp only [zA2]; omega) ha hb.2⟩
     rcases zAh.1 ((merge_perm k (x :: a) b).mem_iff.1 hz) with hz | hz
     · rcases zB3.1 hz with rfl | hz
       · exact before_asym h
       · exact nb_trans (before_asym h) ((wk_cons.1 ha).1 z hz)
     · exact hb.1 z hz
   · rename_i h
     have h : before y x = false := by cases g : before y x with | false => rfl | true => exact absurd g h
     rw [wk_cons] at ha
     refine wk_cons.2 ⟨fun z hz => ?_, merge_wk k a (y :: b) (by simp only [zA2]; omega) ha.2 hb⟩
     rcases zAh.1 ((merge_perm k a (y :: b)).mem_iff.1 hz) with hz | hz
     · exact ha.1 z hz
     · rcases zB3.1 hz with rfl | hz
       · exact h
       · exact nb_trans h ((wk_cons.1 hb).1 z hz)
instance (a b : Ev) : Decidable (stamp a b) := by unfold stamp; infer_instance
def ddStep (o : Option (List Ev)) (e : Ev) : Option (List Ev) := match o with
 | none => none
 | some out => match out.getLast? with
   | none => some [e]
   | some z => if stamp z e then (if z = e then some out else none) else some (out ++ [e])
def ddL (m : List Ev) : Option (List Ev) := m.foldl ddStep (some [])
theorem dd_snoc (m : List Ev) (e : Ev) : ddL (m ++ [e]) = ddStep (ddL m) e := by unfold ddL; rw [zCh]; rfl
theorem srt_last {l : List Ev} (h : Srt l) {z : Ev} (hz : l.getLast? = some z) : ∀ x ∈ l, x = z ∨ before x z = true := fun x hx => by
 obtain ⟨r, rfl⟩ : ∃ r, l = r ++ [z] := by
  have hne : l ≠ [] := fun e => by rw [e] at hz; cases hz
  refine ⟨l.dropLast, ?_⟩
  have h1 := zCp hne
  rw [List.getLast?_eq_some_getLast hne] at hz
  rw [← Option.some.inj hz]; exact h1.symm
 rcases zAh.1 hx with hx | hx
 · exact .inr ((srt_app.1 h).2.2 x hx z (zA9.2 rfl))
 · exact .inl (zA9.1 hx)
theorem dd_spec : ∀ (k : Nat) (m : List Ev), m.length = k → Wk m → (NoFork m → ∃ out, ddL m = some out ∧ Srt out ∧ ∀ x, x ∈ out ↔ x ∈ m) ∧ (¬ NoFork m → ddL m = none)
 | 0, m, hk, _ => by
   have : m = [] := zAy hk
   subst this
   exact ⟨fun _ => ⟨[], rfl, List.Pairwise.nil, fun _ => Iff.rfl⟩, fun h => absurd (fun a ha => by cases ha) h⟩
 | k + 1, m, hk, hw => by
   obtain ⟨p, e, rfl⟩ : ∃ p e, m = p ++ [e] := by
    have hne : m ≠ [] := fun e => by rw [e] at hk; cases hk
    exact ⟨m.dropLast, m.getLast hne, (zCp hne).symm⟩
   rw [zAv] at hk
   have hw2 := wk_app.1 hw
   obtain ⟨h1, h2⟩ := dd_spec k p (by simpa using hk) hw2.1
   have hge : ∀ x ∈ p, before e x = false := fun x hx => hw2.2.2 x hx e (zA9.2 rfl)
   have hsub : NoFork (p ++ [e]) → NoFork p := fun h a ha b hb => h a (zBg _ ha) b (zBg _ hb)
   rw [dd_snoc]
   by_cases hf : NoFork p
   · obtain ⟨out, g1, g2, g3⟩ := h1 hf
     rw [g1]
     unfold ddStep
     dsimp only
     cases hl : out.getLast? with
     | none =>
       have ho : out = [] := List.getLast?_eq_none_iff.1 hl
       subst ho
       have hp : p = [] := List.eq_nil_iff_forall_not_mem.2 fun x hx => by have := (g3 x).2 hx; cases this
       subst hp
       refine ⟨fun _ => ⟨[e], rfl, by simp [Srt], fun x => by simp⟩, fun h => absurd (fun a ha b hb _ => ?_) h⟩
       rw [zC6, zA9] at ha hb
       rw [ha, hb]
     | some z =>
       have hz : z ∈ out := List.mem_of_getLast? hl
       have hzp := (g3 z).1 hz
       have hlast := srt_last g2 hl
       dsimp only
       by_cases hs : stamp z e
       · rw [if_pos hs]
         by_cases hze : z = e
         · rw [if_pos hze]
           subst hze
           have hm : ∀ x, x ∈ p ++ [z] ↔ x ∈ p := fun x => by
            rw [zAh, zA9]
            exact ⟨fun g => g.elim id fun e => e ▸ hzp, .inl⟩
           refine ⟨fun _ => ⟨out, rfl, g2, fun x => by rw [g3, hm]⟩, fun h => absurd (fun a ha b hb => hf a ((hm a).1 ha) b ((hm b).1 hb)) h⟩
         · rw [if_neg hze]
           refine ⟨fun h => absurd (h z (zBg _ hzp) e (zBl _ (zA9.2 rfl)) hs) hze, fun _ => rfl⟩
       · rw [if_neg hs]
         have hno : ∀ x ∈ p, before x e = true := fun x hx => by
          rcases before_tri x e with g | g | g
          · exact g
          · rw [hge x hx] at g; cases g
          · rcases hlast x ((g3 x).2 hx) with rfl | h9
            · exact absurd g hs
            · exfalso
              have h8 := hge z hzp
              have h7 : before e z = true := by rw [before_iff] at h9 ⊢; unfold stamp at g; omega
              rw [h7] at h8; cases h8
         refine ⟨fun _ => ⟨out ++ [e], rfl, srt_app.2 ⟨g2, by simp [Srt], fun x hx y hy => by rw [zA9.1 hy]; exact hno x ((g3 x).1 hx)⟩, fun x => by rw [zAh, zAh, g3]⟩, fun h => absurd (fun a ha b hb hst => ?_) h⟩
         rcases zAh.1 ha with ha | ha <;> rcases zAh.1 hb with hb | hb
         · exact hf a ha b hb hst
         · rw [zA9.1 hb] at hst; have := hno a ha; rw [stamp_not hst] at this; cases this
         · rw [zA9.1 ha] at hst; have := hno b hb; rw [stamp_not ⟨hst.1.symm, hst.2.symm⟩] at this; cases this
         · rw [zA9.1 ha, zA9.1 hb]
   · rw [h2 hf]
     exact ⟨fun h => absurd (hsub h) hf, fun _ => rfl⟩
theorem merged_un {l more s : List Ev} (h : Srt l) (hs : Wk s) (hp : s.Perm more) : ddL (mergeW l s) = if NoFork (l ++ more) then some (unE l more) else none := by
 have hw := merge_wk (l.length + s.length) l s (zAo _) (srt_wk h) hs
 have hmem : ∀ x, x ∈ mergeW l s ↔ x ∈ l ++ more := fun x => by
  unfold mergeW
  rw [(merge_perm _ l s).mem_iff, zAh, zAh, hp.mem_iff]
 obtain ⟨h1, h2⟩ := dd_spec _ (mergeW l s) rfl hw
 have hnf : NoFork (mergeW l s) ↔ NoFork (l ++ more) := ⟨fun g a ha b hb => g a ((hmem a).2 ha) b ((hmem b).2 hb), fun g a ha b hb => g a ((hmem a).1 ha) b ((hmem b).1 hb)⟩
 by_cases hf : NoFork (l ++ more)
 · rw [if_pos hf]
   obtain ⟨out, g1, g2, g3⟩ := h1 (hnf.2 hf)
   rw [g1]
   obtain ⟨u1, u2⟩ := un_ok more l h hf
   rw [srt_uniq g2 u1 fun x => by rw [g3, hmem, zAh, u2]]
 · rw [if_neg hf]
   exact h2 fun g => hf (hnf.1 g)
def atR (l : List Ev) (e : Ev) : Nat → Nat
 | 0 => 0
 | k + 1 => if before e (l.getD k default) = true then atR l e k else k + 1
theorem atR_le (l : List Ev) (e : Ev) : ∀ k, atR l e k ≤ k
 | 0 => zAo _
 | k + 1 => by
   unfold atR
   split
   · have := atR_le l e k; omega
   · exact zAo _
theorem getD_lt' {α : Type} [Inhabited α] {l : List α} {k : Nat} (h : k < l.length) : l.getD k default = l[k] := by simp [List.getD, h]
theorem at_spec {l : List Ev} (h : Srt l) (e : Ev) : ∀ k, k ≤ l.length → (∀ j (hj : j < l.length), atR l e k ≤ j → j < k → before e l[j] = true) ∧ (0 < atR l e k → ∃ hj : atR l e k - 1 < l.length, before e l[atR l e k - 1] = false)
 | 0, _ => ⟨fun j _ _ h => by omega, fun h => by cases h⟩
 | k + 1, hk => by
   have hgd := getD_lt' (show k < l.length by omega)
   have e0 : atR l e (k + 1) = if before e (l.getD k default) = true then atR l e k else k + 1 := rfl
   rw [hgd] at e0
   by_cases h1 : before e l[k] = true
   · rw [if_pos h1] at e0
     rw [e0]
     obtain ⟨g1, g2⟩ := at_spec h e k (by omega)
     refine ⟨fun j hj ha hb => ?_, g2⟩
     rcases zA8 j k with g | g
     · exact g1 j hj ha g
     · obtain rfl : j = k := by omega
       exact h1
   · rw [if_neg h1] at e0
     rw [e0]
     refine ⟨fun j _ ha hb => by omega, fun _ => ⟨by show k + 1 - 1 < _; omega, ?_⟩⟩
     cases g : before e l[k] with
     | false => exact g
     | true => exact absurd g h1
theorem put_at {l : List Ev} (h : Srt l) {e : Ev} (hf : NoFork (e :: l)) {a : Nat} (ha : atR l e l.length = a) :
 putE l e = if 0 < a ∧ l.getD (a - 1) default = e then l else l.take a ++ e :: l.drop a := by
 obtain ⟨g1, g2⟩ := at_spec h e l.length (zAo _)
 have hal := atR_le l e l.length
 rw [ha] at g1 g2 hal
 have hpre : ∀ j (hj : j < l.length), j < a → before e l[j] = false := fun j hj hja => by
  obtain ⟨hj2, g⟩ := g2 (by omega)
  rcases zA8 j (a - 1) with h1 | h1
  · have h2 := List.pairwise_iff_getElem.1 h j (a - 1) hj hj2 h1
    cases h3 : before e l[j] with
    | false => rfl
    | true => rw [before_trans h3 h2] at g; cases g
  · obtain rfl : j = a - 1 := by omega
    exact g
 by_cases he : e ∈ l
 · obtain ⟨i, hi, e1⟩ := zBj.1 he
   have hia : i < a := by
    rcases zA8 i a with g | g
    · exact g
    · have := g1 i hi g hi; rw [e1, before_irr] at this; cases this
   have hia2 : i = a - 1 := by
    rcases zA8 i (a - 1) with g | g
    · have h2 := List.pairwise_iff_getElem.1 h i (a - 1) hi (by omega) g
      rw [e1] at h2
      have h3 := hpre (a - 1) (by omega) (by omega)
      rw [h2] at h3; cases h3
    · omega
   rw [if_pos ⟨by omega, by rw [← hia2, getD_lt' hi, e1]⟩]
   unfold putE; rw [if_pos he]
 · have hn : ¬ (0 < a ∧ l.getD (a - 1) default = e) := fun g => he (by
    have h1 : a - 1 < l.length := by omega
    rw [getD_lt' h1] at g
    rw [← g.2]; exact zBr h1)
   rw [if_neg hn]
   unfold putE; rw [if_neg he]
   have hlt : ∀ j (hj : j < l.length), j < a → before l[j] e = true := fun j hj hja => by
    rcases before_tri l[j] e with g | g | g
    · exact g
    · rw [hpre j hj hja] at g; cases g
    · have h9 := hf l[j] (zAp _ (zBr hj)) e (zAs ..) g
      exact absurd (h9 ▸ zBr hj) he
   have t1 : ∀ x ∈ l.take a, before x e = true := fun x hx => by
    obtain ⟨j, hj, rfl⟩ := zBj.1 hx
    rw [zAg] at hj
    rw [List.getElem_take]; exact hlt j (by omega) (by omega)
   have t2 : ∀ x ∈ l.drop a, before e x = true := fun x hx => by
    obtain ⟨j, hj, rfl⟩ := zBj.1 hx
    rw [zAe] at hj
    rw [List.getElem_drop]; exact g1 (a + j) (by omega) (by omega) (by omega)
   have f1 : l.filter (fun x => before x e) = l.take a := by
    conv => lhs; rw [← zC4 a l]
    rw [zCq, List.filter_eq_self.2 t1, List.filter_eq_nil_iff.2 fun x hx => by rw [before_asym (t2 x hx)]; decide, zBd]
   have f2 : l.filter (fun x => before e x) = l.drop a := by
    conv => lhs; rw [← zC4 a l]
    rw [zCq, List.filter_eq_self.2 t2, List.filter_eq_nil_iff.2 fun x hx => by rw [before_asym (t1 x hx)]; decide, zC6]
   rw [f1, f2]
structure Std where
 id : Int
 who : Rdr
 ed : Int
 known : Int
 evs : List Ev
 deriving DecidableEq, Inhabited
structure Tab where
 s : Std
 b : Bs
 sure : Int
 up : Bool
 deriving DecidableEq, Inhabited
def noStd : Std := ⟨0, ⟨0, 0, 0⟩, 0, 0, []⟩
def noTab : Tab := ⟨noStd, [], 0, false⟩
def saidE (b : Bs) : List Ev × Nat × Bool :=
 if b.length ≤ 200000 then ((addE [] (Jo.load b).1).1, (Jo.load b).2, decide ((addE [] (Jo.load b).1).2 = 0)) else ([], 0, false)
def validS (s : Std) : Bool := isId s.ed && isRdr s.who && inR s.known 0 1000 && (validE s.evs && isId s.id) && decide (knownE s.evs s.id ≤ s.known)
def validT (t : Tab) : Bool :=
 (saidE t.b).2.2 && decide (0 ≤ t.sure) && decide (t.sure ≤ ((saidE t.b).2.1 : Int)) && validS t.s &&
 (if t.up = true then decide ((saidE t.b).2.1 = t.b.length) && decide ((saidE t.b).1 = t.s.evs) && decide (t.s.known = knownE (saidE t.b).1 t.s.id) else decide (t.s.evs = []) && decide (t.s.known = 0))
def takeT (t : Tab) (more : List Ev) : Tab × Int :=
 if more ≠ [] ∧ 200000 < t.b.length + (cat more).length then (noTab, 2) else
 if (addE t.s.evs more).2 ≠ 0 then (noTab, (addE t.s.evs more).2) else
 (⟨{ t.s with evs := (addE t.s.evs more).1, known := knownE (addE t.s.evs more).1 t.s.id }, t.b ++ cat more, t.sure, t.up⟩, 0)
def laterT (t : Tab) (e : Ev) : Bool := t.s.evs.all fun x => decide (x.clock < e.clock)
def writeT (t : Tab) (e : Ev) : Tab × Int :=
 if (validT t && decide (e.stand = t.s.id) && validE [e]) = true then
  if (t.up && laterT t e) = true then takeT { t with sure := (t.b.length : Int) } [e] else (noTab, 6)
 else (noTab, 1)
def crashT (t : Tab) (n : Int) : Tab × Int :=
 if validT t = true then
  if t.up = true then
   if t.sure ≤ n ∧ n ≤ (t.b.length : Int) then (⟨{ t.s with evs := [], known := 0 }, t.b.take n.toNat, t.sure, false⟩, 0) else (noTab, 1)
  else (noTab, 6)
 else (noTab, 1)
def wakeT (t : Tab) : Tab × Int :=
 if validT t = true then
  if t.up = true then (noTab, 6)
  else (⟨{ t.s with evs := (saidE t.b).1, known := knownE (saidE t.b).1 t.s.id }, t.b.take (saidE t.b).2.1, ((saidE t.b).2.1 : Int), true⟩, 0)
 else (noTab, 1)
def missE (l there : List Ev) : List Ev := l.filter fun e => decide (e ∉ there)
def surely (t : Tab) : Tab := { t with sure := (t.b.length : Int) }
def exchT (a b : Tab) : Tab × Tab × Int :=
 if (validT a && validT b && decide (a.s.id ≠ b.s.id)) = true then
  if (a.up && b.up) = true then
   if (addE a.s.evs b.s.evs).2 = 0 then
    if (takeT a (missE b.s.evs a.s.evs)).2 = 0 ∧ (takeT b (missE a.s.evs b.s.evs)).2 = 0 then
     (surely (takeT a (missE b.s.evs a.s.evs)).1, surely (takeT b (missE a.s.evs b.s.evs)).1, 0)
    else (noTab, noTab, 2)
   else (noTab, noTab, (addE a.s.evs b.s.evs).2)
  else (noTab, noTab, 6)
 else (noTab, noTab, 1)
theorem fr_min {e : Ev} (h : evOk e = true) : 16 ≤ (fr e).length := by
 have h1 := (ints_len h).1
 have h2 : ∀ l : List Int, l.length ≤ (l.flatMap num).length := fun l => by
  induction l with
  | nil => simp
  | cons x l ih => rw [List.flatMap_cons, zAv, zA2]; have := (num_len x).1; omega
 unfold fr
 rw [frame_len]
 unfold putL
 rw [zAv]
 have := h2 (ints e)
 have := (num_len ((ints e).length : Int)).1
 omega
theorem cat_app (a b : List Ev) : cat (a ++ b) = cat a ++ cat b := by unfold cat; rw [List.flatMap_append]
theorem cat_one (e : Ev) : cat [e] = fr e := by unfold cat; simp
theorem cat_min : ∀ {l : List Ev}, (∀ e ∈ l, evOk e = true) → 16 * l.length ≤ (cat l).length
 | [], _ => by simp [cat]
 | e :: l, h => by
   have h1 := cat_min (l := l) fun x hx => h x (zAp _ hx)
   have h2 := fr_min (h e (zAs ..))
   have e1 : cat (e :: l) = fr e ++ cat l := by simp [cat]
   rw [e1, zAv, zA2]; omega
theorem two_filters (p q : Ev → Bool) (h : ∀ x, p x = true → q x = false) : ∀ l : List Ev, (l.filter p).length + (l.filter q).length ≤ l.length
 | [] => by simp
 | x :: l => by
   have ih := two_filters p q h l
   rw [List.filter_cons, List.filter_cons]
   cases hp : p x with
   | true =>
     rw [h x hp]
     simp only [if_true, zB4, if_false, zA2]; omega
   | false =>
     cases hq : q x <;> simp only [if_true, zB4, if_false, zA2] <;> omega
theorem put_len (l : List Ev) (e : Ev) : (putE l e).length ≤ l.length + 1 := by
 unfold putE
 split
 · omega
 · rw [zAv, zA2]
   have := two_filters (fun x => before x e) (fun x => before e x) (fun x h => before_asym h) l
   omega
theorem un_len : ∀ (more l : List Ev), (unE l more).length ≤ l.length + more.length
 | [], l => by simp [unE]
 | e :: more, l => by
   have h1 := un_len more (putE l e)
   have h2 := put_len l e
   rw [zA2]
   show (unE (putE l e) more).length ≤ _
   omega
theorem addE_nil {l : List Ev} (hk : ∀ e ∈ l, evOk e = true) (hl : (unE [] l).length ≤ 20000) : addE [] l = if NoFork l then (unE [] l, 0) else ([], 61) := by
 unfold addE
 have h1 : validE [] = true := by decide
 rw [h1, show l.all evOk = true from zAb.2 hk, if_pos (show (true && true) = true from rfl), if_pos hl, zC6]
theorem said_small {b : Bs} (hb : b.length ≤ 200000) : (unE [] (Jo.load b).1).length ≤ 20000 := by
 obtain ⟨h1, _, h3, h4⟩ := load_inv b _ (zAo _)
 have := cat_min h1
 have := un_len (Jo.load b).1 []
 simp only [zA5] at this
 omega
theorem said_eq {b : Bs} (hb : b.length ≤ 200000) : saidE b = if NoFork (Jo.load b).1 then (unE [] (Jo.load b).1, (Jo.load b).2, true) else ([], (Jo.load b).2, false) := by
 have h1 := (load_inv b _ (zAo _)).1
 unfold saidE
 rw [if_pos hb, addE_nil h1 (said_small hb)]
 split
 · simp
 · simp
theorem said_cat {raw : List Ev} (h1 : ∀ e ∈ raw, evOk e = true) (h2 : NoFork raw) (h3 : (cat raw).length ≤ 200000) : saidE (cat raw) = (unE [] raw, (cat raw).length, true) := by
 have e1 := load_cat raw [] h1
 rw [zBd, load_nil, zBd] at e1
 rw [said_eq h3, e1, if_pos h2]
 rfl
theorem said_true {b : Bs} (h : (saidE b).2.2 = true) : b.length ≤ 200000 ∧ NoFork (Jo.load b).1 ∧ saidE b = (unE [] (Jo.load b).1, (Jo.load b).2, true) := by
 by_cases hb : b.length ≤ 200000
 · rw [said_eq hb] at h ⊢
   by_cases hf : NoFork (Jo.load b).1
   · exact ⟨hb, hf, by rw [if_pos hf]⟩
   · rw [if_neg hf] at h; cases h
 · unfold saidE at h; rw [if_neg hb] at h; cases h
structure Log (t : Tab) (raw : List Ev) : Prop where
 b : t.b = cat raw
 ok : ∀ e ∈ raw, evOk e = true
 nf : NoFork raw
 len : (cat raw).length ≤ 200000
 evs : t.s.evs = unE [] raw
 kn : t.s.known = knownE t.s.evs t.s.id
structure Fit (t : Tab) : Prop where
 ed : isId t.s.ed = true
 who : isRdr t.s.who = true
 id : isId t.s.id = true
theorem un0 {raw : List Ev} (hf : NoFork raw) : Srt (unE [] raw) ∧ ∀ x, x ∈ unE [] raw ↔ x ∈ raw := by
 obtain ⟨h1, h2⟩ := un_ok raw [] List.Pairwise.nil (by rwa [zC6])
 exact ⟨h1, fun x => by rw [h2]; simp⟩
theorem valid_up {t : Tab} : (validT t = true ∧ t.up = true) ↔ ∃ raw, Log t raw ∧ Fit t ∧ 0 ≤ t.sure ∧ t.sure ≤ (t.b.length : Int) ∧ t.up = true := by
 constructor
 · rintro ⟨h, hu⟩
   unfold validT validS at h
   rw [if_pos hu] at h
   simp only [zA0, dEt] at h
   obtain ⟨⟨⟨⟨h1, h2⟩, h3⟩, ⟨⟨⟨⟨g1, g2⟩, g3⟩, g4, g5⟩, g6⟩⟩, ⟨k1, k2⟩, k3⟩ := h
   obtain ⟨s1, s2, s3⟩ := said_true h1
   rw [s3] at k1 k2 k3 h3
   dsimp only at k1 k2 k3 h3
   obtain ⟨i1, i2, i3, i4⟩ := load_inv t.b _ (zAo _)
   have hb : t.b = cat (Jo.load t.b).1 := by rw [← i2, k1, zAz]
   refine ⟨(Jo.load t.b).1, ⟨hb, i1, s2, by rw [← hb]; exact s1, k2.symm, by rw [k3, k2]⟩, ⟨g1, g2, g5⟩, h2, by rw [← k1]; exact h3, hu⟩
 · rintro ⟨raw, hl, hf, h1, h2, hu⟩
   refine ⟨?_, hu⟩
   have hs := said_cat hl.ok hl.nf hl.len
   obtain ⟨u1, u2⟩ := un0 hl.nf
   have hev : validE t.s.evs = true := by
    rw [validE_iff, hl.evs]
    refine ⟨fun e he => hl.ok e ((u2 e).1 he), u1, ?_⟩
    have := un_len raw []
    have := cat_min hl.ok
    have := hl.len
    simp only [zA5] at *
    omega
   have hkn := known_in (validE_iff.1 hev).1 t.s.id
   have hk0 := known_nonneg t.s.evs t.s.id
   unfold validT validS
   rw [if_pos hu, hl.b, hs]
   rw [hl.b] at h2
   simp only [zA0, dEt]
   refine ⟨⟨⟨⟨trivial, h1⟩, h2⟩, ⟨⟨⟨⟨hf.ed, hf.who⟩, inR_iff.2 (by rw [hl.kn]; exact ⟨hk0, hkn⟩)⟩, hev, hf.id⟩, by rw [hl.kn]; exact zAw _⟩⟩, ⟨trivial, hl.evs.symm⟩, by rw [hl.kn, hl.evs]⟩
theorem valid_down {t : Tab} : (validT t = true ∧ t.up = false) ↔ (t.b.length ≤ 200000 ∧ NoFork (Jo.load t.b).1 ∧ Fit t ∧ 0 ≤ t.sure ∧ t.sure ≤ ((Jo.load t.b).2 : Int) ∧ t.s.evs = [] ∧ t.s.known = 0 ∧ t.up = false) := by
 constructor
 · rintro ⟨h, hu⟩
   unfold validT validS at h
   rw [if_neg (by rw [hu]; decide)] at h
   simp only [zA0, dEt] at h
   obtain ⟨⟨⟨⟨h1, h2⟩, h3⟩, ⟨⟨⟨⟨g1, g2⟩, g3⟩, g4, g5⟩, g6⟩⟩, k1, k2⟩ := h
   obtain ⟨s1, s2, s3⟩ := said_true h1
   rw [s3] at h3
   exact ⟨s1, s2, ⟨g1, g2, g5⟩, h2, h3, k1, k2, hu⟩
 · rintro ⟨s1, s2, hf, h2, h3, k1, k2, hu⟩
   refine ⟨?_, hu⟩
   unfold validT validS
   rw [if_neg (by rw [hu]; decide), said_eq s1, if_pos s2]
   simp only [zA0, dEt]
   have hk : knownE [] t.s.id = 0 := rfl
   refine ⟨⟨⟨⟨trivial, h2⟩, h3⟩, ⟨⟨⟨⟨hf.ed, hf.who⟩, inR_iff.2 (by rw [k2]; exact ⟨by decide, by decide⟩)⟩, by rw [k1]; decide, hf.id⟩, by rw [k1, hk, k2]; exact zAw _⟩⟩, k1, k2⟩
theorem add_ok {l more : List Ev} (h : (addE l more).2 = 0) : validE l = true ∧ (∀ e ∈ more, evOk e = true) ∧ NoFork (l ++ more) ∧ (unE l more).length ≤ 20000 ∧ addE l more = (unE l more, 0) := by
 unfold addE at h ⊢
 by_cases h1 : (validE l && more.all evOk) = true
 · rw [if_pos h1] at h ⊢
   by_cases h2 : NoFork (l ++ more)
   · rw [if_pos h2] at h ⊢
     by_cases h3 : (unE l more).length ≤ 20000
     · rw [if_pos h3]
       rw [zA0, zAb] at h1
       exact ⟨h1.1, h1.2, h2, h3, rfl⟩
     · rw [if_neg h3] at h; cases h
   · rw [if_neg h2] at h; cases h
 · rw [if_neg h1] at h; cases h
theorem add_of {l more : List Ev} (h1 : validE l = true) (h2 : ∀ e ∈ more, evOk e = true) (h3 : NoFork (l ++ more)) (h4 : (unE l more).length ≤ 20000) : addE l more = (unE l more, 0) := by
 unfold addE
 rw [h1, show more.all evOk = true from zAb.2 h2, if_pos (show (true && true) = true from rfl), if_pos h3, if_pos h4]
theorem un_app (a b : List Ev) : unE [] (a ++ b) = unE (unE [] a) b := by unfold unE; rw [zCh]
theorem log_valid {t : Tab} {raw : List Ev} (hl : Log t raw) : validE t.s.evs = true := by
 obtain ⟨u1, u2⟩ := un0 hl.nf
 rw [validE_iff, hl.evs]
 refine ⟨fun e he => hl.ok e ((u2 e).1 he), u1, ?_⟩
 have := un_len raw []
 have := cat_min hl.ok
 have := hl.len
 simp only [zA5] at *
 omega
theorem log_mem {t : Tab} {raw : List Ev} (hl : Log t raw) (x : Ev) : x ∈ t.s.evs ↔ x ∈ raw := by rw [hl.evs]; exact (un0 hl.nf).2 x
def fuller (t : Tab) (more : List Ev) : Tab := ⟨{ t.s with evs := unE t.s.evs more, known := knownE (unE t.s.evs more) t.s.id }, t.b ++ cat more, t.sure, t.up⟩
theorem take_ok {t : Tab} {raw more : List Ev} (hl : Log t raw) (h : (takeT t more).2 = 0) : takeT t more = (fuller t more, 0) ∧ Log (fuller t more) (raw ++ more) := by
 unfold takeT at h ⊢
 by_cases h1 : more ≠ [] ∧ 200000 < t.b.length + (cat more).length
 · rw [if_pos h1] at h; cases h
 · rw [if_neg h1] at h ⊢
   by_cases h2 : (addE t.s.evs more).2 ≠ 0
   · rw [if_pos h2] at h; exact absurd h h2
   · rw [if_neg h2]
     obtain ⟨g1, g2, g3, g4, g5⟩ := add_ok (Classical.not_not.1 h2)
     rw [g5]
     have hnf : NoFork (raw ++ more) := fun a ha b hb => g3 a (zAh.2 ((zAh.1 ha).imp_left (log_mem hl a).2)) b (zAh.2 ((zAh.1 hb).imp_left (log_mem hl b).2))
     refine ⟨rfl, ?_, fun e he => (zAh.1 he).elim (hl.ok e) (g2 e), hnf, ?_, ?_, rfl⟩
     · show t.b ++ cat more = _
       rw [cat_app, hl.b]
     · rw [cat_app, zAv]
       have := hl.len
       rw [hl.b] at h1
       by_cases hm : more = []
       · subst hm; simpa [cat] using this
       · have : ¬ 200000 < (cat raw).length + (cat more).length := fun g => h1 ⟨hm, g⟩
         omega
     · show unE t.s.evs more = _
       rw [un_app, hl.evs]
theorem take_of {t : Tab} {raw more : List Ev} (hl : Log t raw) (h1 : more = [] ∨ t.b.length + (cat more).length ≤ 200000) (h2 : ∀ e ∈ more, evOk e = true) (h3 : NoFork (t.s.evs ++ more)) (h4 : (unE t.s.evs more).length ≤ 20000) : takeT t more = (fuller t more, 0) := by
 unfold takeT
 rw [if_neg (by rintro ⟨a, b⟩; rcases h1 with h1 | h1; exact a h1; omega), add_of (log_valid hl) h2 h3 h4, if_neg (by simp)]
 rfl
theorem log_sure {t : Tab} {raw : List Ev} (hl : Log t raw) (n : Int) : Log { t with sure := n } raw := ⟨hl.b, hl.ok, hl.nf, hl.len, hl.evs, hl.kn⟩
theorem fit_sure {t : Tab} (hl : Fit t) (n : Int) : Fit { t with sure := n } := ⟨hl.ed, hl.who, hl.id⟩
theorem fit_full {t : Tab} (hl : Fit t) (more : List Ev) : Fit (fuller t more) := ⟨hl.ed, hl.who, hl.id⟩
theorem write_ok {t w : Tab} {e : Ev} (h : writeT t e = (w, 0)) :
 ∃ raw, Log t raw ∧ Fit t ∧ t.up = true ∧ 0 ≤ t.sure ∧ t.sure ≤ (t.b.length : Int) ∧ evOk e = true ∧ e.stand = t.s.id ∧ (∀ x ∈ raw, x.clock < e.clock) ∧ Log w (raw ++ [e]) ∧ w = fuller (surely t) [e] := by
 unfold writeT at h
 by_cases h1 : (validT t && decide (e.stand = t.s.id) && validE [e]) = true
 · rw [if_pos h1] at h
   by_cases h2 : (t.up && laterT t e) = true
   · rw [if_pos h2] at h
     simp only [zA0, dEt] at h1 h2
     obtain ⟨raw, hl, hf, s1, s2, _⟩ := valid_up.1 ⟨h1.1.1, h2.1⟩
     obtain ⟨g1, g2⟩ := take_ok (log_sure hl t.b.length) (more := [e]) (by rw [h])
     have hw : w = fuller (surely t) [e] := by
      have := h.symm.trans g1
      exact (Prod.mk.inj this).1
     refine ⟨raw, hl, hf, h2.1, s1, s2, (validE_iff.1 h1.2).1 e (zA9.2 rfl), h1.1.2, fun x hx => ?_, by rw [hw]; exact g2, hw⟩
     have := zAb.1 h2.2 x ((log_mem hl x).2 hx)
     simpa using this
   · rw [if_neg h2] at h; cases h
 · rw [if_neg h1] at h; cases h
theorem upto_app : ∀ (a b : List Ev) (n : Nat), (cat a).length ≤ n → upto (a ++ b) n = (a.length + (upto b (n - (cat a).length)).1, (cat a).length + (upto b (n - (cat a).length)).2)
 | [], b, n, _ => by simp [cat]
 | e :: a, b, n, h => by
   have e1 : cat (e :: a) = fr e ++ cat a := by simp [cat]
   rw [e1, zAv] at h ⊢
   have e0 : upto (e :: (a ++ b)) n = if (fr e).length ≤ n then (1 + (upto (a ++ b) (n - (fr e).length)).1, (fr e).length + (upto (a ++ b) (n - (fr e).length)).2) else (0, 0) := rfl
   rw [zC8, e0, if_pos (by omega), upto_app a b _ (by omega), show n - ((fr e).length + (cat a).length) = n - (fr e).length - (cat a).length by omega, zA2]
   simp only [Prod.mk.injEq]
   constructor <;> omega
theorem load_cut {raw : List Ev} {e : Ev} (h : ∀ x ∈ raw ++ [e], evOk x = true) {n : Nat} (h1 : (cat raw).length ≤ n) (h2 : n ≤ (cat (raw ++ [e])).length) :
 Jo.load ((cat (raw ++ [e])).take n) = if n = (cat (raw ++ [e])).length then (raw ++ [e], (cat (raw ++ [e])).length) else (raw, (cat raw).length) := by
 rw [load_take _ n h h2, upto_app raw [e] n h1]
 have e1 : (cat (raw ++ [e])).length = (cat raw).length + (fr e).length := by rw [cat_app, cat_one, zAv]
 rw [e1] at h2 ⊢
 unfold upto
 by_cases hn : n = (cat raw).length + (fr e).length
 · rw [if_pos hn, if_pos (by omega)]
   unfold upto
   simp only [Prod.mk.injEq]
   exact ⟨by rw [show raw.length + (1 + 0) = (raw ++ [e]).length by simp, zAz], by omega⟩
 · rw [if_neg hn, if_neg (by omega)]
   simp only [Prod.mk.injEq]
   exact ⟨by rw [zBm, List.take_left], by omega⟩
theorem wake_of {t : Tab} {raw : List Ev} (hf : Fit t) (hd : t.up = false) (hb : t.b.length ≤ 200000) (hl : Jo.load t.b = (raw, (cat raw).length)) (hn : NoFork raw) (s1 : 0 ≤ t.sure) (s2 : t.sure ≤ ((cat raw).length : Int)) (e1 : t.s.evs = []) (e2 : t.s.known = 0) :
 ∃ v, wakeT t = (v, 0) ∧ validT t = true ∧ validT v = true ∧ v = ⟨{ t.s with evs := unE [] raw, known := knownE (unE [] raw) t.s.id }, cat raw, ((cat raw).length : Int), true⟩ ∧ Log v raw := by
 have hv := valid_down.2 ⟨hb, by rw [hl]; exact hn, hf, s1, by rw [hl]; exact s2, e1, e2, hd⟩
 obtain ⟨i1, i2, i3, i4⟩ := load_inv t.b _ (zAo _)
 have hlen := hb
 rw [hl] at i1 i2 i4
 have hs : saidE t.b = (unE [] raw, (cat raw).length, true) := by rw [said_eq hb, hl, if_pos hn]
 refine ⟨⟨{ t.s with evs := unE [] raw, known := knownE (unE [] raw) t.s.id }, cat raw, ((cat raw).length : Int), true⟩, ?_, hv.1, ?_, rfl, ?_⟩
 · unfold wakeT
   rw [if_pos hv.1, if_neg (by rw [hd]; decide), hs]
   dsimp only at i2 ⊢
   rw [i2]
 · exact ((valid_up (t := ⟨{ t.s with evs := unE [] raw, known := knownE (unE [] raw) t.s.id }, cat raw, ((cat raw).length : Int), true⟩)).2 ⟨raw, ⟨rfl, i1, hn, by dsimp only at i4; omega, rfl, rfl⟩, ⟨hf.ed, hf.who, hf.id⟩, by show (0 : Int) ≤ ((cat raw).length : Int); omega, zAw _, rfl⟩).1
 · exact ⟨rfl, i1, hn, by dsimp only at i4; omega, rfl, rfl⟩
theorem crash_of {w : Tab} {raw : List Ev} {e : Ev} (hl : Log w (raw ++ [e])) (hf : Fit w) (hu : w.up = true) (hs : w.sure = ((cat raw).length : Int)) {n : Int} (h1 : w.sure ≤ n) (h2 : n ≤ (w.b.length : Int)) :
 ∃ c v, crashT w n = (c, 0) ∧ wakeT c = (v, 0) ∧ c.up = false ∧ v.up = true ∧ validT c = true ∧ validT v = true ∧ Fit v ∧ Fit c ∧ c.s.id = w.s.id ∧ v.s.id = w.s.id ∧ c.sure = w.sure ∧
  (n = (w.b.length : Int) → { v with sure := w.sure } = w ∧ v.sure = (v.b.length : Int) ∧ Log v (raw ++ [e]) ∧ Jo.load c.b = (raw ++ [e], (cat (raw ++ [e])).length)) ∧
  (n ≠ (w.b.length : Int) → v.s.evs = unE [] raw ∧ v.s.known = knownE (unE [] raw) w.s.id ∧ v.sure = (v.b.length : Int) ∧ Log v raw ∧ Jo.load c.b = (raw, (cat raw).length)) := by
 have hv : validT w = true := (valid_up.2 ⟨_, hl, hf, by omega, by omega, hu⟩).1
 have hc : crashT w n = (⟨{ w.s with evs := [], known := 0 }, w.b.take n.toNat, w.sure, false⟩, 0) := by
  unfold crashT; rw [if_pos hv, if_pos hu, if_pos ⟨h1, h2⟩]
 have e1 : (cat (raw ++ [e])).length = (cat raw).length + (fr e).length := by rw [cat_app, cat_one, zAv]
 have hb := hl.b
 have hlc := load_cut hl.ok (n := n.toNat) (by omega) (by rw [hb] at h2; omega)
 have hlen := hl.len
 have hnf : NoFork raw := fun a ha b hb => hl.nf a (zBg _ ha) b (zBg _ hb)
 have hbl : (w.b.take n.toNat).length ≤ 200000 := by rw [zAg, hb]; omega
 by_cases hn : n = (w.b.length : Int)
 · have hn' : n.toNat = (cat (raw ++ [e])).length := by rw [hn, hb]; omega
   rw [if_pos hn'] at hlc
   obtain ⟨v, g1, g2, g3, g4, g5⟩ := wake_of (t := ⟨{ w.s with evs := [], known := 0 }, w.b.take n.toNat, w.sure, false⟩) (raw := raw ++ [e]) ⟨hf.ed, hf.who, hf.id⟩ rfl hbl (by show Jo.load (w.b.take n.toNat) = _; rw [hb]; exact hlc) hl.nf (by show 0 ≤ w.sure; omega) (by show w.sure ≤ _; omega) rfl rfl
   refine ⟨_, v, hc, g1, rfl, by rw [g4], g2, g3, by rw [g4]; exact ⟨hf.ed, hf.who, hf.id⟩, ⟨hf.ed, hf.who, hf.id⟩, rfl, by rw [g4], rfl, fun _ => ⟨?_, by rw [g4], g5, by show Jo.load (w.b.take n.toNat) = _; rw [hb]; exact hlc⟩, fun g => absurd hn g⟩
   rw [g4]
   obtain ⟨⟨i, o, d, k, ev⟩, b, s, u⟩ := w
   have h3 := hl.evs
   have h4 := hl.kn
   dsimp only at *
   rw [← h3, ← h4, ← hb, hu]
 · have hn' : ¬ n.toNat = (cat (raw ++ [e])).length := fun g => hn (by rw [hb]; omega)
   rw [if_neg hn'] at hlc
   obtain ⟨v, g1, g2, g3, g4, g5⟩ := wake_of (t := ⟨{ w.s with evs := [], known := 0 }, w.b.take n.toNat, w.sure, false⟩) (raw := raw) ⟨hf.ed, hf.who, hf.id⟩ rfl hbl (by show Jo.load (w.b.take n.toNat) = _; rw [hb]; exact hlc) hnf (by show 0 ≤ w.sure; omega) (by show w.sure ≤ _; omega) rfl rfl
   exact ⟨_, v, hc, g1, rfl, by rw [g4], g2, g3, by rw [g4]; exact ⟨hf.ed, hf.who, hf.id⟩, ⟨hf.ed, hf.who, hf.id⟩, rfl, by rw [g4], rfl, fun g => absurd g hn, fun _ => ⟨by rw [g4], by rw [g4], by rw [g4], g5, by show Jo.load (w.b.take n.toNat) = _; rw [hb]; exact hlc⟩⟩
theorem nofork_swap {a b : List Ev} (h : NoFork (a ++ b)) : NoFork (b ++ a) := fun x hx y hy => h x (zAh.2 (zAh.1 hx).symm) y (zAh.2 (zAh.1 hy).symm)
theorem un_comm {a b : List Ev} (ha : Srt a) (hb : Srt b) (h : NoFork (a ++ b)) : unE a b = unE b a := un_uniq ha h hb fun _ => or_comm
theorem add_comm' {a b : List Ev} (ha : validE a = true) (hb : validE b = true) : addE a b = addE b a := by
 have ha' := validE_iff.1 ha
 have hb' := validE_iff.1 hb
 unfold addE
 rw [ha, hb, show b.all evOk = true from zAb.2 hb'.1, show a.all evOk = true from zAb.2 ha'.1]
 by_cases h : NoFork (a ++ b)
 · rw [if_pos h, if_pos (nofork_swap h), un_comm ha'.2.1 hb'.2.1 h]
 · rw [if_neg h, if_neg fun g => h (nofork_swap g)]
theorem exch_swap (a b : Tab) : exchT b a = ((exchT a b).2.1, (exchT a b).1, (exchT a b).2.2) := by
 unfold exchT
 by_cases h : (validT a && validT b && decide (a.s.id ≠ b.s.id)) = true
 · have h' : (validT b && validT a && decide (b.s.id ≠ a.s.id)) = true := by
    simp only [zA0, dEt] at h ⊢
    exact ⟨⟨h.1.2, h.1.1⟩, fun g => h.2 g.symm⟩
   rw [if_pos h, if_pos h']
   by_cases hu : (a.up && b.up) = true
   · rw [if_pos hu, if_pos (by rw [Bool.and_comm]; exact hu)]
     simp only [zA0, dEt] at h hu
     obtain ⟨ra, la, _⟩ := valid_up.1 ⟨h.1.1, hu.1⟩
     obtain ⟨rb, lb, _⟩ := valid_up.1 ⟨h.1.2, hu.2⟩
     rw [add_comm' (log_valid lb) (log_valid la)]
     by_cases he : (addE a.s.evs b.s.evs).2 = 0
     · rw [if_pos he, if_pos he]
       by_cases ht : (takeT a (missE b.s.evs a.s.evs)).2 = 0 ∧ (takeT b (missE a.s.evs b.s.evs)).2 = 0
       · rw [if_pos ht, if_pos ht.symm]
       · rw [if_neg ht, if_neg fun g => ht g.symm]
     · rw [if_neg he, if_neg he]
   · rw [if_neg hu, if_neg (by rw [Bool.and_comm]; exact hu)]
 · have h' : ¬ (validT b && validT a && decide (b.s.id ≠ a.s.id)) = true := fun g => h (by
    simp only [zA0, dEt] at g ⊢
    exact ⟨⟨g.1.2, g.1.1⟩, fun q => g.2 q.symm⟩)
   rw [if_neg h, if_neg h']
theorem exch_wrong {a b : Tab} (h : (exchT a b).2.2 ≠ 0) : (exchT a b).1 = noTab ∧ (exchT a b).2.1 = noTab := by
 unfold exchT at h ⊢
 by_cases h1 : (validT a && validT b && decide (a.s.id ≠ b.s.id)) = true
 · rw [if_pos h1] at h ⊢
   by_cases h2 : (a.up && b.up) = true
   · rw [if_pos h2] at h ⊢
     by_cases h3 : (addE a.s.evs b.s.evs).2 = 0
     · rw [if_pos h3] at h ⊢
       by_cases h4 : (takeT a (missE b.s.evs a.s.evs)).2 = 0 ∧ (takeT b (missE a.s.evs b.s.evs)).2 = 0
       · rw [if_pos h4] at h; exact absurd rfl h
       · rw [if_neg h4]; exact ⟨rfl, rfl⟩
     · rw [if_neg h3]; exact ⟨rfl, rfl⟩
   · rw [if_neg h2]; exact ⟨rfl, rfl⟩
 · rw [if_neg h1]; exact ⟨rfl, rfl⟩
theorem mem_miss {l there : List Ev} {x : Ev} : x ∈ missE l there ↔ x ∈ l ∧ x ∉ there := by
 unfold missE; rw [zBv, dEt]
theorem un_miss {a b : List Ev} (ha : Srt a) (h : NoFork (a ++ b)) : unE a (missE b a) = unE a b := by
 refine un_uniq ha (fun x hx y hy => h x ?_ y ?_) ha fun x => ?_
 · exact zAh.2 ((zAh.1 hx).imp_right fun g => (mem_miss.1 g).1)
 · exact zAh.2 ((zAh.1 hy).imp_right fun g => (mem_miss.1 g).1)
 · rw [mem_miss]
   constructor
   · rintro (g | g)
     · exact .inl g
     · exact .inr g.1
   · rintro (g | g)
     · exact .inl g
     · by_cases hx : x ∈ a
       · exact .inl hx
       · exact .inr ⟨g, hx⟩
theorem exch_ok {a b : Tab} (h : (exchT a b).2.2 = 0) :
 ∃ ra rb, Log a ra ∧ Log b rb ∧ Fit a ∧ Fit b ∧ a.up = true ∧ b.up = true ∧ a.s.id ≠ b.s.id ∧ NoFork (a.s.evs ++ b.s.evs) ∧ addE a.s.evs b.s.evs = (unE a.s.evs b.s.evs, 0) ∧
  exchT a b = (surely (fuller a (missE b.s.evs a.s.evs)), surely (fuller b (missE a.s.evs b.s.evs)), 0) ∧
  Log (surely (fuller a (missE b.s.evs a.s.evs))) (ra ++ missE b.s.evs a.s.evs) ∧ Log (surely (fuller b (missE a.s.evs b.s.evs))) (rb ++ missE a.s.evs b.s.evs) ∧
  (surely (fuller a (missE b.s.evs a.s.evs))).s.evs = unE a.s.evs b.s.evs ∧ (surely (fuller b (missE a.s.evs b.s.evs))).s.evs = unE a.s.evs b.s.evs := by
 unfold exchT at h ⊢
 by_cases h1 : (validT a && validT b && decide (a.s.id ≠ b.s.id)) = true
 · rw [if_pos h1] at h ⊢
   by_cases h2 : (a.up && b.up) = true
   · rw [if_pos h2] at h ⊢
     simp only [zA0, dEt] at h1 h2
     by_cases h3 : (addE a.s.evs b.s.evs).2 = 0
     · rw [if_pos h3] at h ⊢
       by_cases h4 : (takeT a (missE b.s.evs a.s.evs)).2 = 0 ∧ (takeT b (missE a.s.evs b.s.evs)).2 = 0
       · rw [if_pos h4]
         obtain ⟨ra, la, fa, _⟩ := valid_up.1 ⟨h1.1.1, h2.1⟩
         obtain ⟨rb, lb, fb, _⟩ := valid_up.1 ⟨h1.1.2, h2.2⟩
         obtain ⟨g1, g2, g3, g4, g5⟩ := add_ok h3
         obtain ⟨t1, t2⟩ := take_ok la h4.1
         obtain ⟨t3, t4⟩ := take_ok lb h4.2
         have sa := (validE_iff.1 (log_valid la)).2.1
         have sb := (validE_iff.1 (log_valid lb)).2.1
         refine ⟨ra, rb, la, lb, fa, fb, h2.1, h2.2, h1.2, g3, g5, by rw [t1, t3], log_sure t2 _, log_sure t4 _, un_miss sa g3, ?_⟩
         show unE b.s.evs (missE a.s.evs b.s.evs) = _
         rw [un_miss sb (nofork_swap g3), un_comm sa sb g3]
       · rw [if_neg h4] at h; cases h
     · rw [if_neg h3] at h; exact absurd h h3
   · rw [if_neg h2] at h; cases h
 · rw [if_neg h1] at h; cases h
theorem surely_valid {t : Tab} {raw : List Ev} (hl : Log (surely t) raw) (hf : Fit t) (hu : t.up = true) : validT (surely t) = true :=
 (valid_up.2 ⟨raw, hl, ⟨hf.ed, hf.who, hf.id⟩, by show (0 : Int) ≤ (t.b.length : Int); omega, zAw _, hu⟩).1
theorem miss_self (l : List Ev) : missE l l = [] := by
 unfold missE
 rw [List.filter_eq_nil_iff]
 intro x hx
 simpa using hx
theorem fuller_nil {t : Tab} {raw : List Ev} (hl : Log t raw) : fuller t [] = t := by
 obtain ⟨⟨i, o, d, k, ev⟩, b, s, u⟩ := t
 have h4 := hl.kn
 dsimp only at h4
 simp only [fuller, cat, List.flatMap_nil, zBd, unE, List.foldl_nil, ← h4]
theorem exch_again {x y : Tab} {rx ry : List Ev} (lx : Log (surely x) rx) (ly : Log (surely y) ry) (fx : Fit x) (fy : Fit y) (ux : x.up = true) (uy : y.up = true) (hid : x.s.id ≠ y.s.id) (he : x.s.evs = y.s.evs) :
 exchT (surely x) (surely y) = (surely x, surely y, 0) := by
 have vx := surely_valid lx fx ux
 have vy := surely_valid ly fy uy
 have hvx := log_valid lx
 have hx := validE_iff.1 hvx
 have e1 : (surely x).s.evs = (surely y).s.evs := he
 have hm : missE (surely y).s.evs (surely x).s.evs = [] := by rw [e1, miss_self]
 have hm' : missE (surely x).s.evs (surely y).s.evs = [] := by rw [e1, miss_self]
 have hu := un_same hx.2.1 (more := (surely y).s.evs) fun z hz => by rw [e1]; exact hz
 have ha : addE (surely x).s.evs (surely y).s.evs = ((surely x).s.evs, 0) := by
  rw [add_of hvx (by rw [← e1]; exact hx.1) (by rw [← e1]; exact fun a ha b hb => srt_nofork hx.2.1 a ((zAh.1 ha).elim id id) b ((zAh.1 hb).elim id id)) (by rw [hu]; exact hx.2.2), hu]
 have nf0 : ∀ {l : List Ev}, Srt l → NoFork (l ++ []) := fun h => by rw [zBd]; exact srt_nofork h
 have hvy := validE_iff.1 (log_valid ly)
 have t1 := take_of lx (more := []) (.inl rfl) (fun e he => by cases he) (nf0 hx.2.1) hx.2.2
 have t2 := take_of ly (more := []) (.inl rfl) (fun e he => by cases he) (nf0 hvy.2.1) hvy.2.2
 rw [fuller_nil lx] at t1
 rw [fuller_nil ly] at t2
 unfold exchT
 rw [vx, vy, if_pos (by rw [decide_eq_true (show (surely x).s.id ≠ (surely y).s.id from hid)]; rfl), if_pos (show ((surely x).up && (surely y).up) = true by
  show (x.up && y.up) = true
  rw [ux, uy]; rfl), ha, if_pos rfl, hm, hm', t1, t2, if_pos ⟨rfl, rfl⟩]
 rfl
end Go.Sy
