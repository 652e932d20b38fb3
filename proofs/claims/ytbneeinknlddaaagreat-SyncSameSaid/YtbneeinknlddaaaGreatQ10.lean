/- Deeds of some tablets, in plain words: SyncSame. No program is in sight. What the loops of the program and of the reference ask of events in order, in plain words. No program is in sight. One step of the program's merge, in plain words. No program is in sight. Contracts by content: stamps of events; lists of events in order. No statement is proved here. -/
import Derived.Test.YtbneeinknlddaaaGreatQ8
import Derived.Test.YtbneeinknlddaaaGreatQ9
set_option linter.unusedVariables false
set_option linter.unusedSimpArgs false
namespace Go.Sy
open Go.Jo
def clockE (l : List Ev) : Int := l.foldl (fun n e => max n e.clock) (-1)
theorem clock_go : ∀ (l : List Ev) (n : Int), n ≤ l.foldl (fun n e => max n e.clock) n ∧ ∀ e ∈ l, e.clock ≤ l.foldl (fun n e => max n e.clock) n
 | [], n => ⟨zAq _, fun e he => by cases he⟩
 | x :: l, n => by
   obtain ⟨h1, h2⟩ := clock_go l (max n x.clock)
   rw [zD1]
   refine ⟨by omega, fun e he => ?_⟩
   rcases zB5.1 he with rfl | he
   · omega
   · exact h2 e he
theorem clock_ge {l : List Ev} {e : Ev} (h : e ∈ l) : e.clock ≤ clockE l := (clock_go l (-1)).2 e h
structure Deed where
 what : Nat
 at_ : Nat
 with_ : Nat
 cut : Nat
 mark : Jo.Mark
 deriving Inhabited
def deedE (t : Tab) (d : Deed) : Ev := if d.what % 5 = 1 then ⟨clockE t.s.evs + 1, t.s.id, 1, 0, d.mark⟩ else ⟨clockE t.s.evs + 1, t.s.id, 3, ((d.cut % 1001 : Nat) : Int), noMark⟩
def crashAt (t : Tab) (cut : Nat) : Int := t.sure + (cut : Int) % (max 0 ((t.b.length : Int) - t.sure) + 1)
def doT (n : Nat) (t : Nat → Tab) (d : Deed) : Bool × (Nat → Tab) :=
 let i := d.at_ % n
 let k := d.with_ % n
 if d.what % 5 ≤ 1 then
  if evOk (deedE (t i) d) = true then
   if (t i).up = true then (decide ((writeT (t i) (deedE (t i) d)).2 = 0) && validT (writeT (t i) (deedE (t i) d)).1, set1 t i (writeT (t i) (deedE (t i) d)).1)
   else (decide ((writeT (t i) (deedE (t i) d)).2 = 6), t)
  else (true, t)
 else if d.what % 5 = 2 then
  if i = k then (decide ((exchT (t i) (t k)).2.2 = 1), t)
  else if ¬ ((t i).up = true ∧ (t k).up = true) then (decide ((exchT (t i) (t k)).2.2 = 6), t)
  else if (exchT (t i) (t k)).2.2 = 0 then (true, set1 (set1 t i (exchT (t i) (t k)).1) k (exchT (t i) (t k)).2.1) else (false, t)
 else if d.what % 5 = 3 then
  if (t i).up = true then (decide ((crashT (t i) (crashAt (t i) d.cut)).2 = 0) && validT (crashT (t i) (crashAt (t i) d.cut)).1, set1 t i (crashT (t i) (crashAt (t i) d.cut)).1)
  else (decide ((crashT (t i) (crashAt (t i) d.cut)).2 = 6), t)
 else
  if (t i).up = true then (decide ((wakeT (t i)).2 = 6), t)
  else (decide ((wakeT (t i)).2 = 0) && validT (wakeT (t i)).1, set1 t i (wakeT (t i)).1)
def In (n m : Nat) (t : Nat → Tab) : Prop := ∃ raw k W, World n t raw k W ∧ W.length ≤ m
theorem not_up {t : Tab} (h : ¬ t.up = true) : t.up = false := by
 cases g : t.up with
 | false => rfl
 | true => exact absurd g h
theorem do_in {n m : Nat} {t : Nat → Tab} (hn : 0 < n) (hm : m < 90) (h : In n m t) (d : Deed) : (doT n t d).1 = true ∧ In n (m + 1) (doT n t d).2 := by
 obtain ⟨raw, k, W, hw, hW⟩ := h
 have hi : d.at_ % n < n := zCo _ hn
 have hk : d.with_ % n < n := zCo _ hn
 have same : In n (m + 1) t := ⟨raw, k, W, hw, by omega⟩
 unfold doT
 dsimp only
 generalize d.at_ % n = i at *
 generalize d.with_ % n = j at *
 have ti := hw.each i hi
 by_cases c1 : d.what % 5 ≤ 1
 · rw [if_pos c1]
   by_cases c2 : evOk (deedE (t i) d) = true
   · rw [if_pos c2]
     have hst : (deedE (t i) d).stand = (t i).s.id := by unfold deedE; split <;> rfl
     have hcl : (deedE (t i) d).clock = clockE (t i).s.evs + 1 := by unfold deedE; split <;> rfl
     by_cases c3 : (t i).up = true
     · rw [if_pos c3]
       obtain ⟨w, w1, w2, w3, w4⟩ := hw.write hi (by omega) c3 c2 (hst.trans ti.id) fun x hx => by have := clock_ge hx; omega
       rw [w1]
       exact ⟨by rw [show validT (w, (0 : Int)).1 = true from w3]; rfl, _, _, _, w4, by rw [zA1]; omega⟩
     · rw [if_neg c3]
       refine ⟨?_, same⟩
       have hv : validE [deedE (t i) d] = true := validE_iff.2 ⟨fun x hx => by rw [zAa.1 hx]; exact c2, by simp [Srt], by simp⟩
       unfold writeT
       rw [ti.valid, hv, decide_eq_true hst, if_pos (by rfl), not_up c3, if_neg (by simp)]
       rfl
   · rw [if_neg c2]; exact ⟨rfl, same⟩
 · rw [if_neg c1]
   by_cases c2 : d.what % 5 = 2
   · rw [if_pos c2]
     by_cases c3 : i = j
     · rw [if_pos c3]
       refine ⟨?_, same⟩
       subst c3
       unfold exchT
       rw [if_neg (by simp)]
       rfl
     · rw [if_neg c3]
       by_cases c4 : (t i).up = true ∧ (t j).up = true
       · rw [if_neg (fun g => g c4)]
         obtain ⟨x, y, rx, ry, h1, _, _, _, _, _, h2⟩ := hw.exch hi hk c3 (by omega) c4.1 c4.2
         rw [h1, if_pos rfl]
         exact ⟨rfl, _, _, _, h2, by omega⟩
       · rw [if_pos c4]
         refine ⟨?_, same⟩
         have hid : (t i).s.id ≠ (t j).s.id := by rw [ti.id, (hw.each j hk).id]; omega
         unfold exchT
         rw [ti.valid, (hw.each j hk).valid, decide_eq_true hid, if_pos (by rfl), if_neg (by rw [zA2]; exact c4)]
         rfl
   · rw [if_neg c2]
     by_cases c3 : d.what % 5 = 3
     · rw [if_pos c3]
       by_cases c4 : (t i).up = true
       · rw [if_pos c4]
         have hs := ti.sure
         have hle := cat_take_le (raw i) (k i)
         have hb := (ti.up c4).b
         have hlen : (t i).sure ≤ ((t i).b.length : Int) := by rw [hb]; omega
         have e1 : (max 0 (((t i).b.length : Int) - (t i).sure) + 1) = ((t i).b.length : Int) - (t i).sure + 1 := by omega
         have g1 := Int.emod_nonneg (d.cut : Int) (show ((t i).b.length : Int) - (t i).sure + 1 ≠ 0 by omega)
         have g2 := Int.emod_lt_of_pos (d.cut : Int) (show 0 < ((t i).b.length : Int) - (t i).sure + 1 by omega)
         obtain ⟨c, raw', k1, k2, k3, k4⟩ := hw.crash hi c4 (m := crashAt (t i) d.cut) (by unfold crashAt; rw [e1]; omega) (by unfold crashAt; rw [e1]; omega)
         rw [k1]
         exact ⟨by rw [show validT (c, (0 : Int)).1 = true from k3]; rfl, _, _, _, k4, by omega⟩
       · rw [if_neg c4]
         refine ⟨?_, same⟩
         unfold crashT
         rw [if_pos ti.valid, if_neg c4]
         rfl
     · rw [if_neg c3]
       by_cases c4 : (t i).up = true
       · rw [if_pos c4]
         refine ⟨?_, same⟩
         unfold wakeT
         rw [if_pos ti.valid, if_pos c4]
         rfl
       · rw [if_neg c4]
         obtain ⟨v, v1, v2, v3, v4⟩ := hw.wake hi (not_up c4)
         rw [v1]
         exact ⟨by rw [show validT (v, (0 : Int)).1 = true from v3]; rfl, _, _, _, v4, by omega⟩
def begin_ (id : Int) : Tab := ⟨⟨id, ⟨1, 1, 1⟩, 1, 0, []⟩, [], 0, true⟩
theorem begin_ok {n : Nat} (hn : n ≤ 1000) : In n 0 fun i => begin_ ((i : Int) + 1) := by
 refine ⟨fun _ => [], fun _ => 0, [], ⟨fun i hi => ?_, fun i _ e he => (by cases he), fun i _ e he => by cases he⟩, zAi _⟩
 have hl : Log (begin_ ((i : Int) + 1)) [] := ⟨rfl, fun e he => (by cases he), fun a ha => (by cases ha), by simp [cat], rfl, rfl⟩
 exact ⟨rfl, ⟨(by show isId 1 = true; decide), (by show isRdr ⟨1, 1, 1⟩ = true; decide), inR_iff.2 (by show 1 ≤ (i : Int) + 1 ∧ (i : Int) + 1 ≤ 1000000; omega)⟩, load_nil, (fun a ha => by cases ha), List.nodup_nil, (fun e he => by cases he), zD2 _, zAi _, zD2 _, rfl, fun _ => hl, fun g => by cases g⟩
def wakeAll (t : Nat → Tab) : Nat → Nat → Tab
 | 0 => t
 | m + 1 => if (wakeAll t m m).up = true then wakeAll t m else set1 (wakeAll t m) m (wakeT (wakeAll t m m)).1
theorem wake_in {n m : Nat} {t : Nat → Tab} (h : In n m t) : ∀ q, q ≤ n → In n m (wakeAll t q) ∧ (∀ j, j < q → (wakeAll t q j).up = true) ∧ (∀ j, q ≤ j → wakeAll t q j = t j)
 | 0, _ => ⟨h, fun j hj => by omega, fun _ _ => rfl⟩
 | q + 1, hq => by
   obtain ⟨g1, g2, g3⟩ := wake_in h q (by omega)
   unfold wakeAll
   by_cases c : (wakeAll t q q).up = true
   · rw [if_pos c]
     refine ⟨g1, fun j hj => ?_, fun j hj => g3 j (by omega)⟩
     by_cases hjq : j = q
     · rw [hjq]; exact c
     · exact g2 j (by omega)
   · rw [if_neg c]
     obtain ⟨raw, k, W, hw, hW⟩ := g1
     obtain ⟨v, v1, v2, v3, v4⟩ := hw.wake (show q < n by omega) (not_up c)
     rw [v1]
     refine ⟨⟨_, _, _, v4, hW⟩, fun j hj => ?_, fun j hj => ?_⟩
     · by_cases hjq : j = q
       · rw [hjq, set1_eq]; exact v2
       · rw [set1_ne _ _ hjq]; exact g2 j (by omega)
     · rw [set1_ne _ _ (by omega)]; exact g3 j (by omega)
def ordE (a b : Ev) : Int := if a.clock < b.clock then -1 else if b.clock < a.clock then 1 else if a.stand < b.stand then -1 else if b.stand < a.stand then 1 else 0
theorem ord_neg {a b : Ev} : ordE a b < 0 ↔ before a b = true := by
 rw [before_iff]; unfold ordE
 split
 · omega
 · split
   · omega
   · split
     · omega
     · split <;> omega
theorem ord_zero {a b : Ev} : ordE a b = 0 ↔ stamp a b := by
 unfold ordE stamp
 split
 · omega
 · split
   · omega
   · split
     · omega
     · split <;> omega
theorem ord_le {a b : Ev} : ordE a b ≤ 0 ↔ before b a = false := by
 have h : before b a = false ↔ ¬ before b a = true := by cases before b a <;> simp
 rw [h, before_iff]; unfold ordE
 split
 · omega
 · split
   · omega
   · split
     · omega
     · split <;> omega
theorem srt_step {l : List Ev} {i : Nat} (hi : i < l.length) : Srt (l.take (i + 1)) ↔ Srt (l.take i) ∧ (0 < i → before (l.getD (i - 1) default) (l.getD i default) = true) := by
 have e1 : l.take (i + 1) = l.take i ++ [l.getD i default] := by
  rw [getD_lt' hi]; exact zB0 hi
 rw [e1, srt_app]
 constructor
 · rintro ⟨h1, _, h3⟩
   refine ⟨h1, fun h0 => h3 _ ?_ _ (zAa.2 rfl)⟩
   rw [getD_lt' (show i - 1 < l.length by omega)]
   exact List.mem_take_iff_getElem.2 ⟨i - 1, by omega, rfl⟩
 · rintro ⟨h1, h2⟩
   refine ⟨h1, by simp [Srt], fun x hx y hy => ?_⟩
   rw [zAa.1 hy]
   by_cases h0 : 0 < i
   · have hl : (l.take i).getLast? = some (l.getD (i - 1) default) := by
      rw [List.getLast?_eq_getElem?, zAk, Nat.min_eq_left (by omega), List.getElem?_take_of_lt (by omega), getD_lt' (show i - 1 < l.length by omega)]
      exact zAc (by omega)
     rcases srt_last h1 hl x hx with e | e
     · rw [e]; exact h2 h0
     · exact before_trans e (h2 h0)
   · rw [show i = 0 by omega] at hx; cases hx
theorem cat_take_step {more : List Ev} {i : Nat} (hi : i < more.length) : cat (more.take (i + 1)) = cat (more.take i) ++ fr (more.getD i default) := by
 rw [getD_lt' hi, zB0 hi, cat_app, cat_one]
theorem over_of_step {b : Bs} {more : List Ev} {i : Nat} (hi : i < more.length) (h : 200000 < b.length + (cat (more.take (i + 1))).length) : more ≠ [] ∧ 200000 < b.length + (cat more).length := by
 have := cat_take_le more (i + 1)
 exact ⟨(fun g => by rw [g] at hi; cases hi), by omega⟩
theorem mergeF_nil : ∀ (k : Nat) (a : List Ev), mergeF k a [] = a
 | 0, a => by unfold mergeF; rw [zBp]
 | _ + 1, [] => rfl
 | _ + 1, _ :: _ => rfl
theorem merge_first {x : Ev} {a b : List Ev} (h : ∀ y r, b = y :: r → before y x = false) : mergeW (x :: a) b = x :: mergeW a b := by
 unfold mergeW
 rw [zA1, show a.length + 1 + b.length = a.length + b.length + 1 by omega]
 cases b with
 | nil => rw [mergeF_nil, mergeF_nil]
 | cons y r =>
   have h1 := h y r rfl
   have e0 : mergeF (a.length + (y :: r).length + 1) (x :: a) (y :: r) = if before y x then y :: mergeF (a.length + (y :: r).length) (x :: a) r else x :: mergeF (a.length + (y :: r).length) a (y :: r) := rfl
   rw [e0, h1]; rfl
theorem merge_second {y : Ev} {a b : List Ev} (h : ∀ x r, a = x :: r → before y x = true) : mergeW a (y :: b) = y :: mergeW a b := by
 unfold mergeW
 rw [zA1, show a.length + (b.length + 1) = a.length + b.length + 1 by omega]
 cases a with
 | nil =>
   have e0 : mergeF (([] : List Ev).length + b.length + 1) [] (y :: b) = y :: b := rfl
   rw [e0]
   have e2 : ∀ k (b : List Ev), mergeF k [] b = b := fun k b => by cases k with
    | zero => rfl
    | succ k => rfl
   rw [e2]
 | cons x r =>
   have h1 := h x r rfl
   have e0 : mergeF ((x :: r).length + b.length + 1) (x :: r) (y :: b) = if before y x then y :: mergeF ((x :: r).length + b.length) (x :: r) b else x :: mergeF ((x :: r).length + b.length) r (y :: b) := rfl
   rw [e0, h1]; rfl
def restE (out a b : List Ev) : Option (List Ev) := (mergeW a b).foldl ddStep (some out)
theorem dd_none : ∀ l : List Ev, l.foldl ddStep none = none
 | [] => rfl
 | _ :: l => dd_none l
theorem dd_next (out : List Ev) (e : Ev) : ddStep (some out) e =
 if out.length = 0 ∨ ordE (out.getD (out.length - 1) default) e ≠ 0 then some (out ++ [e]) else if out.getD (out.length - 1) default ≠ e then none else some out := by
 unfold ddStep
 dsimp only
 rcases List.eq_nil_or_concat out with rfl | ⟨p, z, rfl⟩
 · rfl
 · rw [List.concat_eq_append, List.getLast?_append]
   simp only [List.getLast?_singleton, Option.or_some, Option.some_or]
   have e1 : (p ++ [z]).getD ((p ++ [z]).length - 1) default = z := by
    rw [getD_lt' (by simp)]; simp
   rw [e1]
   have e2 : ¬ ((p ++ [z]).length = 0) := by simp
   by_cases hs : stamp z e
   · have e3 : ¬ ((p ++ [z]).length = 0 ∨ ordE z e ≠ 0) := fun g => g.elim e2 fun g => g (ord_zero.2 hs)
     rw [if_pos hs, if_neg e3]
     by_cases hz : z = e
     · rw [if_pos hz, if_neg (fun g => g hz)]
     · rw [if_neg hz, if_pos hz]
   · rw [if_neg hs, if_pos (.inr fun g => hs (ord_zero.1 g))]
end Go.Sy
namespace Go.Proofs.YtbneeinknlddaaaGreat
open Go.Ab Go.Jo Go.Sy
attribute [local irreducible] AWP AOps EStep AQ PStep PRun PCall TCall VCall DStep TDies AWD DCall
def cmpI (a b : Int) : Int := if a < b then -1 else if a > b then 1 else 0
theorem isNaN_spec (a : Int) : PCall Tryz.prog 93 [.int a] (.b false) := by
 refine PCall.body Tryz.func93 rfl rfl Tryz.ntmps93 rfl rfl ?_
 repeat' (first | refine aoQ rfl rfl rfl (fun hg => by first | exact std0 | exact std1) (by exact rfl) ?_ | refine sqW ?_ | refine rgK (fun K' hK => ?_) | (refine aoN (hK _ _ ?_); clear hK K') | refine aoE (bxW rfl rfl rfl rfl rfl tI rfl rfl ?_) | refine aoE (stW tabOk rfl rfl rfl tI rfl rfl tI rfl rfl rfl rfl rfl rfl rfl ?_) | refine aoE (alW tabOk rfl rfl rfl rfl rfl rfl ?_) | refine cdN rfl tI (fun hc => ?_) (fun hc => ?_) | refine blK ?_ | refine exW ?_ | refine skW ?_ | refine rtW ?_ | refine dK2 (by decide +kernel) (by kernel_rfl) (by decide +kernel) rfl (fun K' hK => ?_) | refine dL2 (by kernel_rfl) (by decide +kernel) rfl (fun K' hK => ?_) | (refine aqN (hK _ ?_); clear hK K') | refine aqN ?_ | refine aqQ rfl rfl (fun hg => by first | exact std0 | exact std1) (by exact rfl) ?_)
 exact ⟨.inr rfl, Ent.b (by simp)⟩
theorem compare_spec (a b : Int) : PCall Tryz.prog 75 [.int a, .int b] (.int (cmpI a b)) := by
 refine PCall.body Tryz.func75 rfl rfl Tryz.ntmps75 rfl rfl ?_
 repeat' (first | refine aoQ rfl rfl rfl (fun hg => by first | exact std0 | exact pcW (isNaN_spec _) rfl rfl nd rfl nds | exact std1) (by exact rfl) ?_ | refine sqW ?_ | refine rgK (fun K' hK => ?_) | (refine aoN (hK _ _ ?_); clear hK K') | refine aoE (bxW rfl rfl rfl rfl rfl tI rfl rfl ?_) | refine aoE (stW tabOk rfl rfl rfl tI rfl rfl tI rfl rfl rfl rfl rfl rfl rfl ?_) | refine aoE (alW tabOk rfl rfl rfl rfl rfl rfl ?_) | refine cdN rfl tI (fun hc => ?_) (fun hc => ?_) | refine blK ?_ | refine exW ?_ | refine skW ?_ | refine rtW ?_ | refine dK2 (by decide +kernel) (by kernel_rfl) (by decide +kernel) rfl (fun K' hK => ?_) | refine dL2 (by kernel_rfl) (by decide +kernel) rfl (fun K' hK => ?_) | (refine aqN (hK _ ?_); clear hK K') | refine aqN ?_ | refine aqQ rfl rfl (fun hg => by first | exact std0 | exact pcW (isNaN_spec _) rfl rfl nd rfl nds | exact std1) (by exact rfl) ?_)
 all_goals (first | (exfalso; simp_all; done) | skip)
 · exact ⟨.inr rfl, Ent.int (by unfold cmpI; rw [if_pos (by omega)])⟩
 · exact ⟨.inr rfl, Ent.int (by unfold cmpI; rw [if_neg (by omega), if_pos (by omega)])⟩
 · exact ⟨.inr rfl, Ent.int (by unfold cmpI; rw [if_neg (by omega), if_neg (by omega)])⟩
def orL : List Int → Int
 | [] => 0
 | x :: r => if x = 0 then orL r else x
theorem orL_zero : ∀ {l : List Int}, (∀ j, j < l.length → l.getD j default = 0) → orL l = 0
 | [], _ => rfl
 | x :: r, h => by
   have h0 : x = 0 := by simpa using h 0 (by simp)
   rw [orL, if_pos h0]
   exact orL_zero fun j hj => by simpa using h (j + 1) (by simpa using hj)
theorem orL_first : ∀ {l : List Int} {k : Nat}, k < l.length → (∀ j, j < k → l.getD j default = 0) → l.getD k default ≠ 0 → orL l = l.getD k default
 | [], k, hk, _, _ => absurd hk (by simp)
 | x :: r, 0, _, _, h1 => by
   have h2 : x ≠ 0 := by simpa using h1
   simp [orL, h2]
 | x :: r, k + 1, hk, h, h1 => by
   have h0 : x = 0 := by simpa using h 0 (by omega)
   have h2 := orL_first (l := r) (k := k) (by simpa using hk) (fun j hj => by simpa using h (j + 1) (by omega)) (by simpa using h1)
   rw [orL, if_pos h0, h2]; simp
theorem or_spec (l : List Int) (hl : l.length ≤ 9223372036854775807) : PCall Tryz.prog 74 [.sl 1 (l.map fun n => [AV.int n]) .no] (.int (orL l)) := by
 refine PCall.body Tryz.func74 rfl rfl Tryz.ntmps74 rfl rfl ?_
 repeat' (first | refine aoQ rfl rfl rfl (fun hg => by first | exact std0 | exact std1) (by exact rfl) ?_ | refine sqW ?_ | refine rgK (fun K' hK => ?_) | (refine aoN (hK _ _ ?_); clear hK K') | refine aoE (bxW rfl rfl rfl rfl rfl tI rfl rfl ?_) | refine aoE (stW tabOk rfl rfl rfl tI rfl rfl tI rfl rfl rfl rfl rfl rfl rfl ?_) | refine aoE (alW tabOk rfl rfl rfl rfl rfl rfl ?_) | refine cdN rfl tI (fun hc => ?_) (fun hc => ?_) | refine blK ?_ | refine exW ?_ | refine skW ?_ | refine rtW ?_ | refine dK2 (by decide +kernel) (by kernel_rfl) (by decide +kernel) rfl (fun K' hK => ?_) | refine dL2 (by kernel_rfl) (by decide +kernel) rfl (fun K' hK => ?_) | (refine aqN (hK _ ?_); clear hK K') | refine aqN ?_ | refine aqQ rfl rfl (fun hg => by first | exact std0 | exact std1) (by exact rfl) ?_)
 refine lpD (ι := Nat) (fun k => [(3, .int 0), (6, .sl 1 (l.map fun n => [AV.int n]) .no), (7, .int l.length), (8, .int k)]) (fun _ => [])
  (fun k => k ≤ l.length ∧ ∀ j, j < k → l.getD j default = 0) (fun k => l.length - k) 0 (fun _ => rfl) 0 ⟨nZl _, fun j h => absurd h (by omega)⟩ ⟨rfl, rfl, rfl, rfl, tI⟩ rfl (fun _ _ => rfl) (fun k _ => by simp [okObj, okRef]) ?_
 rintro k ⟨hk, hz⟩
 by_cases hlt : k < l.length
 · repeat' (first | refine aoQ rfl rfl rfl (fun hg => by first | exact std0 | exact std1) (by exact rfl) ?_ | refine sqW ?_ | refine rgK (fun K' hK => ?_) | (refine aoN (hK _ _ ?_); clear hK K') | refine aoE (bxW rfl rfl rfl rfl rfl tI rfl rfl ?_) | refine aoE (stW tabOk rfl rfl rfl tI rfl rfl tI rfl rfl rfl rfl rfl rfl rfl ?_) | refine aoE (alW tabOk rfl rfl rfl rfl rfl rfl ?_) | refine cdN rfl tI (fun hc => ?_) (fun hc => ?_) | refine blK ?_ | refine exW ?_ | refine skW ?_ | refine rtW ?_ | refine dK2 (by decide +kernel) (by kernel_rfl) (by decide +kernel) rfl (fun K' hK => ?_) | refine dL2 (by kernel_rfl) (by decide +kernel) rfl (fun K' hK => ?_) | (refine aqN (hK _ ?_); clear hK K') | refine aqN ?_ | refine aqQ rfl rfl (fun hg => by first | exact std0 | exact std1) (by exact rfl) ?_)
   · refine ⟨.inr rfl, Ent.int ?_⟩
     rw [zAh] at hc ⊢
     exact (orL_first hlt hz (by simpa using hc)).symm
   · rw [zAh] at hc
     exact ⟨k + 1, ⟨by omega, fun j hj => lt_succ_cases hz (by simpa using hc) hj⟩, by omega, ⟨rfl, rfl, rfl, rfl, tI⟩, rfl⟩
   · exfalso; omega
 · repeat' (first | refine aoQ rfl rfl rfl (fun hg => by first | exact std0 | exact std1) (by exact rfl) ?_ | refine sqW ?_ | refine rgK (fun K' hK => ?_) | (refine aoN (hK _ _ ?_); clear hK K') | refine aoE (bxW rfl rfl rfl rfl rfl tI rfl rfl ?_) | refine aoE (stW tabOk rfl rfl rfl tI rfl rfl tI rfl rfl rfl rfl rfl rfl rfl ?_) | refine aoE (alW tabOk rfl rfl rfl rfl rfl rfl ?_) | refine cdN rfl tI (fun hc => ?_) (fun hc => ?_) | refine blK ?_ | refine exW ?_ | refine skW ?_ | refine rtW ?_ | refine dK2 (by decide +kernel) (by kernel_rfl) (by decide +kernel) rfl (fun K' hK => ?_) | refine dL2 (by kernel_rfl) (by decide +kernel) rfl (fun K' hK => ?_) | (refine aqN (hK _ ?_); clear hK K') | refine aqN ?_ | refine aqQ rfl rfl (fun hg => by first | exact std0 | exact std1) (by exact rfl) ?_)
   · exfalso; omega
   · exfalso; omega
   · refine ⟨.inr rfl, Ent.int ?_⟩
     exact (orL_zero fun j hj => hz j (by omega)).symm
theorem ord_or (a b : Ev) : orL [cmpI a.clock b.clock, cmpI a.stand b.stand] = ordE a b := by
 unfold orL orL orL cmpI ordE
 by_cases h1 : a.clock < b.clock <;> by_cases h2 : b.clock < a.clock <;> by_cases h3 : a.stand < b.stand <;> by_cases h4 : b.stand < a.stand <;> simp [h1, h2, h3, h4]
theorem order_spec (a b : Ev) : PCall Tryz.prog 50 [.agg (encE a), .agg (encE b)] (.int (ordE a b)) := by
 have ho := or_spec [cmpI a.clock b.clock, cmpI a.stand b.stand] (by simp)
 rw [ord_or] at ho
 have h1 := compare_spec a.clock b.clock
 have h2 := compare_spec a.stand b.stand
 refine PCall.body Tryz.func50 rfl rfl Tryz.ntmps50 rfl rfl ?_
 repeat' (first | refine aoQ rfl rfl rfl (fun hg => by first | exact std0 | exact pcW (h1) rfl rfl nd rfl nds | exact pcW (h2) rfl rfl nd rfl nds | exact pbS tabOk rfl rfl nds | exact pcW (ho) rfl rfl nd rfl nds | exact std1) (by exact rfl) ?_ | refine sqW ?_ | refine rgK (fun K' hK => ?_) | (refine aoN (hK _ _ ?_); clear hK K') | refine aoE (bxW rfl rfl rfl rfl rfl tI rfl rfl ?_) | refine aoE (stW tabOk rfl rfl rfl tI rfl rfl tI rfl rfl rfl rfl rfl rfl rfl ?_) | refine aoE (alW tabOk rfl rfl rfl rfl rfl rfl ?_) | refine cdN rfl tI (fun hc => ?_) (fun hc => ?_) | refine blK ?_ | refine exW ?_ | refine skW ?_ | refine rtW ?_ | refine dK2 (by decide +kernel) (by kernel_rfl) (by decide +kernel) rfl (fun K' hK => ?_) | refine dL2 (by kernel_rfl) (by decide +kernel) rfl (fun K' hK => ?_) | (refine aqN (hK _ ?_); clear hK K') | refine aqN ?_ | refine aqQ rfl rfl (fun hg => by first | exact std0 | exact pcW (h1) rfl rfl nd rfl nds | exact pcW (h2) rfl rfl nd rfl nds | exact pbS tabOk rfl rfl nds | exact pcW (ho) rfl rfl nd rfl nds | exact std1) (by exact rfl) ?_)
 exact ⟨.inr rfl, Ent.int rfl⟩
theorem short_ok {e : Ev} (h : evOk e = true) : e.mark.text.length ≤ 200 := by
 by_cases hk : e.kind = 1
 · unfold evOk at h
   rw [if_pos hk] at h
   simp only [zA2, markOk] at h
   exact (textOk_iff.1 h.2.1.1.1.1.1.1.1.1).1
 · have hm : e.mark = noMark := by
    simp only [evOk, hk, if_false, zA2] at h
    obtain ⟨_, h⟩ := h
    split at h
    · simp at h; exact h.2
    · split at h
      · simp at h; exact h.2
      · simp at h
   rw [hm]; exact nZl _
theorem one_ev (l : List Ev) : ∀ x ∈ l.map encE, x.all oneAV = true := fun x hx => by obtain ⟨e, _, rfl⟩ := zC1.1 hx; rfl
def Txt (l : List Ev) : Prop := ∀ e ∈ l, e.mark.text.length ≤ 9223372036854775807
theorem Txt.at {l : List Ev} (h : Txt l) {k : Nat} (hk : k < l.length) : (l.getD k default).mark.text.length ≤ 9223372036854775807 := h _ (by rw [getD_lt' hk]; exact lGm hk)
theorem Txt.of {l : List Ev} (h : ∀ e ∈ l, evOk e = true) : Txt l := fun e he => by have := short_ok (h e he); omega
theorem validE_no {l : List Ev} {k : Nat} (hk : k < l.length) (h : evOk (l.getD k default) = false) : validE l = false := by
 cases hv : validE l with
 | false => rfl
 | true =>
   have := (validE_iff.1 hv).1 (l.getD k default) (by rw [getD_lt' hk]; exact lGm hk)
   rw [h] at this; cases this
theorem validE_srt {l : List Ev} {k : Nat} (hk : k < l.length) (h : ¬ Srt (l.take (k + 1))) : validE l = false := by
 cases hv : validE l with
 | false => rfl
 | true => exact absurd ((validE_iff.1 hv).2.1.sublist (List.take_sublist _ _)) h
theorem validE_all {l : List Ev} (h : ∀ j, j < l.length → evOk (l.getD j default) = true) (hs : Srt (l.take l.length)) : validE l = decide ((l.length : Int) ≤ 20000) := by
 rw [zB1] at hs
 have h1 : ∀ e ∈ l, evOk e = true := fun e he => by
  obtain ⟨j, hj, rfl⟩ := zBq.1 he
  rw [← getD_lt' hj]; exact h j hj
 rw [zBm, validE_iff, dEt]
 constructor
 · rintro ⟨_, _, h3⟩; omega
 · intro h3; exact ⟨h1, hs, by omega⟩
end Go.Proofs.YtbneeinknlddaaaGreat
