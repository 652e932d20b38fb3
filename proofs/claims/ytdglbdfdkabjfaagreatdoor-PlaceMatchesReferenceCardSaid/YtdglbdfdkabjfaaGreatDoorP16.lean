/- Contracts by content: cmp.Or, notes.sorted's comparison.  The order of notes: a strict weak order, total where the IDs differ.  DERIVED: THE SHELF's CONTRACTS AT THIS DUMP, IN PLAIN WORDS (tools/lay-plain.mjs out of 'YtdglbdfdkabjfaaGreatDoorShelf.lean', which tools/lay-shelf.mjs wrote): THE SAME DECLARATIONS UNDER THE SAME NAMES: 'import', 'namespace', 'open', 'def', 'theorem' AND NOTHING ELSE: no command of the shelf's: FOR A HAND-IN. Each laying: the table of numbers ('.._ren') and one theorem, a field a fact of the dump's own or the kernel's comparison; each contract: ONE APPLICATION. Cont No statement is proved here. -/
import Derived.Shelf.SlSortCmp.WholeK
import Derived.Test.YtdglbdfdkabjfaaGreatDoorChecked
import Derived.Test.YtdglbdfdkabjfaaGreatDoorP9
import Derived.Test.YtdglbdfdkabjfaaGreatDoorP10
set_option linter.unusedVariables false
set_option linter.unusedSimpArgs false
namespace Go.Proofs.YtdglbdfdkabjfaaGreatDoor
open Go.Ab
attribute [local irreducible] AWP AOps EStep AQ PStep PRun PCall TCall VCall
def orL : List Int → Int
 | [] => 0
 | x :: r => if x = 0 then orL r else x
theorem orL_zero : ∀ {l : List Int}, (∀ j, j < l.length → l.getD j default = 0) → orL l = 0
 | [], _ => rfl
 | x :: r, h => by
   have h0 : x = 0 := by simpa using h 0 (by simp)
   rw [orL, if_pos h0]
   exact orL_zero fun j hj => by simpa using h (j + 1) (by simpa using hj)
theorem orL_first : ∀ {l : List Int} {k : Nat}, k < l.length → (∀ j, j < k → l.getD j default = 0) → l.getD k default ≠ 0 → orL l = l.getD k default
 | [], k, hk, _, _ => absurd hk (by simp)
 | x :: r, 0, _, _, h1 => by
   have h2 : x ≠ 0 := by simpa using h1
   simp [orL, h2]
 | x :: r, k + 1, hk, h, h1 => by
   have h0 : x = 0 := by simpa using h 0 (by omega)
   have h2 := orL_first (l := r) (k := k) (by simpa using hk) (fun j hj => by simpa using h (j + 1) (by omega)) (by simpa using h1)
   rw [orL, if_pos h0, h2]; simp
theorem or_spec (l : List Int) (hl : l.length ≤ 9223372036854775807) : PCall Tryz.prog 222 [.sl 1 (l.map fun n => [AV.int n]) .no] (.int (orL l)) := by
 refine PCall.body Tryz.func222 rfl rfl Tryz.ntmps222 rfl rfl ?_
 repeat' (first | refine aoQ rfl rfl rfl (fun hg => by first | exact std0 | exact std1) (by exact rfl) ?_ | refine sqW ?_ | refine rgK (fun K' hK => ?_) | (refine aoN (hK _ _ ?_); clear hK K') | refine blK ?_)
 refine lpD (ι := Nat) (fun k => [(3, .int 0), (6, .sl 1 (l.map fun n => [AV.int n]) .no), (7, .int l.length), (8, .int k)]) (fun _ => [])
  (fun k => k ≤ l.length ∧ ∀ j, j < k → l.getD j default = 0) (fun k => l.length - k) 0 (fun _ => rfl) 0 ⟨nZl _, fun j h => absurd h (by omega)⟩ ⟨rfl, rfl, rfl, rfl, tI⟩ rfl (fun _ _ => rfl) (fun k _ => by simp [okObj, okRef]) ?_
 rintro k ⟨hk, hz⟩
 by_cases hlt : k < l.length
 · repeat' (first | refine aoQ rfl rfl rfl (fun hg => by first | exact std0 | exact std1) (by exact rfl) ?_ | refine sqW ?_ | refine rgK (fun K' hK => ?_) | (refine aoN (hK _ _ ?_); clear hK K') | refine cdN rfl tI (fun hc => ?_) (fun hc => ?_) | refine blK ?_ | refine exW ?_ | refine skW ?_ | refine rtW ?_)
   · refine ⟨.inr rfl, Ent.int ?_⟩
     rw [zAa] at hc ⊢
     exact (orL_first hlt hz (by simpa using hc)).symm
   · rw [zAa] at hc
     exact ⟨k + 1, ⟨by omega, fun j hj => lt_succ_cases hz (by simpa using hc) hj⟩, by omega, ⟨rfl, rfl, rfl, rfl, tI⟩, rfl⟩
   · exfalso; omega
 · repeat' (first | refine aoQ rfl rfl rfl (fun hg => by first | exact std0 | exact std1) (by exact rfl) ?_ | refine sqW ?_ | refine rgK (fun K' hK => ?_) | (refine aoN (hK _ _ ?_); clear hK K') | refine cdN rfl tI (fun hc => ?_) (fun hc => ?_) | refine blK ?_ | refine exW ?_ | refine skW ?_ | refine rtW ?_)
   · exfalso; omega
   · exfalso; omega
   · refine ⟨.inr rfl, Ent.int ?_⟩
     exact (orL_zero fun j hj => hz j (by omega)).symm
theorem numR2_in (p : Pitch) : -1000 ≤ (numR2 p).1 ∧ (numR2 p).1 ≤ 1000 := by
 unfold numR2
 split
 · rename_i h
   have h1 := pitchOk_iff.1 h
   have h2 := nat7_in p.step.toNat
   unfold pitchNum; dsimp only; omega
 · exact ⟨by decide, by decide⟩
def noteIn (n : Note) : Prop := (1 ≤ n.id ∧ n.id ≤ 1000000) ∧ (1 ≤ n.part ∧ n.part ≤ 1000000) ∧ 0 ≤ n.voice ∧ n.voice ≤ 9
def lk0 (al : List (Int × Int)) (k : Int) : Int := (lk al k).getD 0
def cmpN (al : List (Int × Int)) (x y : Note) : Int := orL [lk0 al x.bar - lk0 al y.bar, x.part - y.part, (ticksR x.start).1 - (ticksR y.start).1, x.voice - y.voice, (numR2 x.pitch).1 - (numR2 y.pitch).1, x.id - y.id]
theorem lk0_in {al : List (Int × Int)} (hal : ∀ k i, lk al k = some i → 0 ≤ i ∧ i < 4611686018427387904) (k : Int) : 0 ≤ lk0 al k ∧ lk0 al k < 4611686018427387904 := by
 unfold lk0
 cases h : lk al k with
 | none => exact ⟨by decide, by decide⟩
 | some i => exact hal k i h
set_option maxHeartbeats 2000000 in
theorem cmpN_spec (al : List (Int × Int)) (hal : ∀ k i, lk al k = some i → 0 ≤ i ∧ i < 4611686018427387904) (x y : Note) (hx : noteIn x) (hy : noteIn y) :
 PCall Tryz.prog 221 [.agg (encN x), .agg (encN y), .iptr [.imap (encM ekI AV.int al)]] (.int (cmpN al x y)) := by
 obtain ⟨⟨a1, a2⟩, ⟨a3, a4⟩, a5, a6⟩ := hx
 obtain ⟨⟨b1, b2⟩, ⟨b3, b4⟩, b5, b6⟩ := hy
 have c1 := ticksR_in x.start
 have c2 := ticksR_in y.start
 have d1 := numR2_in x.pitch
 have d2 := numR2_in y.pitch
 have e1 := lk0_in hal x.bar
 have e2 := lk0_in hal y.bar
 unfold lk0 at e1 e2
 have ho := or_spec [lk0 al x.bar - lk0 al y.bar, x.part - y.part, (ticksR x.start).1 - (ticksR y.start).1, x.voice - y.voice, (numR2 x.pitch).1 - (numR2 y.pitch).1, x.id - y.id] (by simp)
 refine PCall.body Tryz.func221 rfl rfl Tryz.ntmps221 rfl rfl ?_
 repeat' (first | refine aoQ rfl rfl rfl (fun hg => by first | exact std0 | exact pcW (ticks_spec x.start) rfl rfl nd rfl nds | exact pcW (ticks_spec y.start) rfl rfl nd rfl nds | exact pcW (pNumber_spec x.pitch) rfl rfl nd rfl nds | exact pcW (pNumber_spec y.pitch) rfl rfl nd rfl nds | exact PRun.lookup (ek := ekI) (ev := AV.int) (zv := 0) (keyLaw_int (LOk.of (tabOk.get rfl))) (LOk.of (tabOk.get rfl)) (LOk.of (tabOk.get rfl)) rfl rfl (Rd.w rfl nd) (Or.inl rfl) (Rd.w rfl nd) rfl | exact pbS tabOk rfl rfl nds | exact pcW (ho) rfl rfl nd rfl nds | exact std1) (by exact rfl) ?_ | refine sqW ?_ | refine rgK (fun K' hK => ?_) | (refine aoN (hK _ _ ?_); clear hK K') | refine aoE (bxW rfl rfl rfl rfl rfl tI rfl rfl ?_) | refine rtW ?_)
 exact ⟨.inr rfl, Ent.int rfl⟩
end Go.Proofs.YtdglbdfdkabjfaaGreatDoor
namespace Go.Proofs.YtdglbdfdkabjfaaGreatDoor
open Go.Ab Go.Sort
def cmpK (a b : List Int) : Int := orL (List.zipWith (· - ·) a b)
theorem orL_neg : ∀ l : List Int, orL (l.map fun x => -x) = - orL l
 | [] => rfl
 | x :: r => by
   have := orL_neg r
   by_cases h : x = 0
   · subst h; simp [orL, this]
   · simp [orL, h]
theorem cmpK_anti (a b : List Int) : cmpK b a = - cmpK a b := by
 unfold cmpK
 rw [← orL_neg, List.map_zipWith, List.zipWith_comm]
 congr 1
 exact congrFun (congrFun (congrArg List.zipWith (by funext x y; omega)) a) b
theorem cmpK_nil (a : List Int) : cmpK [] a = 0 := by simp [cmpK, orL]
theorem cmpK_cons (x y : Int) (a b : List Int) : cmpK (x :: a) (y :: b) = if x - y = 0 then cmpK a b else x - y := by simp [cmpK, orL]
theorem cmpK_lt : ∀ {a b c : List Int}, a.length = b.length → b.length = c.length → cmpK a b < 0 → cmpK b c < 0 → cmpK a c < 0
 | [], b, c, _, _, h, _ => by rw [cmpK_nil] at h; omega
 | x :: a, y :: b, z :: c, h1, h2, h3, h4 => by
   have ih := cmpK_lt (a := a) (b := b) (c := c) (by simpa using h1) (by simpa using h2)
   rw [cmpK_cons] at *
   split at h3 <;> split at h4 <;> split <;> first | omega | (exact ih h3 h4)
theorem cmpK_le : ∀ {a b c : List Int}, a.length = b.length → b.length = c.length → cmpK a b ≤ 0 → cmpK b c ≤ 0 → cmpK a c ≤ 0
 | [], b, c, _, _, _, _ => by rw [cmpK_nil]; omega
 | x :: a, y :: b, z :: c, h1, h2, h3, h4 => by
   have ih := cmpK_le (a := a) (b := b) (c := c) (by simpa using h1) (by simpa using h2)
   rw [cmpK_cons] at *
   split at h3 <;> split at h4 <;> split <;> first | omega | (exact ih h3 h4)
def keyN (al : List (Int × Int)) (x : Note) : List Int := [lk0 al x.bar, x.part, (ticksR x.start).1, x.voice, (numR2 x.pitch).1, x.id]
theorem ltN (al : List (Int × Int)) (f : Note → Note) (x y : Note) : Go.Proofs.ltOf (fun x y : Note => cmpN al (f x) (f y)) x y = true ↔ cmpK (keyN al (f x)) (keyN al (f y)) < 0 := decide_eq_true_iff
theorem ltN' (al : List (Int × Int)) (f : Note → Note) (x y : Note) : Go.Proofs.ltOf (fun x y : Note => cmpN al (f x) (f y)) x y = false ↔ ¬ cmpK (keyN al (f x)) (keyN al (f y)) < 0 := dEf
theorem swoN (al : List (Int × Int)) (f : Note → Note) : SWO (Go.Proofs.ltOf fun x y : Note => cmpN al (f x) (f y)) where
 irrefl x := by
  have := cmpK_anti (keyN al (f x)) (keyN al (f x))
  rw [ltN']; omega
 trans x y z h1 h2 := by
  rw [ltN] at *
  exact cmpK_lt (a := keyN al (f x)) (b := keyN al (f y)) (c := keyN al (f z)) rfl rfl h1 h2
 ntrans x y z h1 h2 := by
  have a1 := cmpK_anti (keyN al (f x)) (keyN al (f y))
  have a2 := cmpK_anti (keyN al (f y)) (keyN al (f z))
  have a3 := cmpK_anti (keyN al (f x)) (keyN al (f z))
  rw [ltN'] at *
  have := cmpK_le (a := keyN al (f z)) (b := keyN al (f y)) (c := keyN al (f x)) rfl rfl (by omega) (by omega)
  omega
end Go.Proofs.YtdglbdfdkabjfaaGreatDoor
/-
 DERIVED: THE SHELF's CONTRACTS AT THIS DUMP, IN PLAIN WORDS (tools/lay-plain.mjs out of 'YtdglbdfdkabjfaaGreatDoorShelf.lean', which tools/lay-shelf.mjs wrote): THE SAME DECLARATIONS UNDER THE SAME NAMES: 'import', 'namespace', 'open', 'def', 'theorem' AND NOTHING ELSE: no command of the shelf's: FOR A HAND-IN. Each laying: the table of numbers ('.._ren') and one theorem, a field a fact of the dump's own or the kernel's comparison; each contract: ONE APPLICATION.
-/
namespace Go.Proofs
open Go.Shelf
def Tryz.sortNote_ren : Go.Shelf.Ren := ⟨fun | 6 => 220 | 15 => 232 | 14 => 231 | 28 => 244 | 29 => 245 | 20 => 236 | 21 => 237 | 22 => 238 | 23 => 239 | 24 => 240 | 25 => 241 | 26 => 242 | 27 => 243 | 46 => 248 | 47 => 249 | 48 => 250 | 49 => 251 | 50 => 252 | 57 => 254 | n => n, fun | 22 => 24 | 24 => 173 | 25 => 265 | 3 => 3 | 39 => 271 | 0 => 0 | 53 => 282 | 55 => 284 | 4 => 4 | 46 => 276 | 45 => 275 | 50 => 150 | 5 => 5 | 9 => 9 | 66 => 287 | 70 => 291 | 76 => 293 | 77 => 294 | n => n, fun | n => n⟩
theorem Tryz.sortNote : Go.Proofs.SlLaysF0.n6 Tryz.prog Tryz.sortNote_ren := {
 mixed := by kernel_rfl
 f6 := ⟨Tryz.f220.name, by decide, Tryz.func220.trans (congrArg some (by kernel_rfl))⟩
 f14 := ⟨Tryz.f231.name, by decide, Tryz.func231.trans (congrArg some (by kernel_rfl))⟩
 f15 := Tryz.func232.trans (congrArg some (by kernel_rfl))
 f20 := ⟨Tryz.f236.name, by decide, Tryz.func236.trans (congrArg some (by kernel_rfl))⟩
 f21 := ⟨Tryz.f237.name, by decide, Tryz.func237.trans (congrArg some (by kernel_rfl))⟩
 f22 := ⟨Tryz.f238.name, by decide, Tryz.func238.trans (congrArg some (by kernel_rfl))⟩
 f23 := ⟨Tryz.f239.name, by decide, Tryz.func239.trans (congrArg some (by kernel_rfl))⟩
 f24 := ⟨Tryz.f240.name, by decide, Tryz.func240.trans (congrArg some (by kernel_rfl))⟩
 f25 := ⟨Tryz.f241.name, by decide, Tryz.func241.trans (congrArg some (by kernel_rfl))⟩
 f26 := ⟨Tryz.f242.name, by decide, Tryz.func242.trans (congrArg some (by kernel_rfl))⟩
 f27 := ⟨Tryz.f243.name, by decide, Tryz.func243.trans (congrArg some (by kernel_rfl))⟩
 f28 := Tryz.func244.trans (congrArg some (by kernel_rfl))
 f29 := Tryz.func245.trans (congrArg some (by kernel_rfl))
 f46 := ⟨Tryz.f248.name, by decide, Tryz.func248.trans (congrArg some (by kernel_rfl))⟩
 f47 := Tryz.func249.trans (congrArg some (by kernel_rfl))
 f48 := Tryz.func250.trans (congrArg some (by kernel_rfl))
 f49 := ⟨Tryz.f251.name, by decide, Tryz.func251.trans (congrArg some (by kernel_rfl))⟩
 f50 := ⟨Tryz.f252.name, by decide, Tryz.func252.trans (congrArg some (by kernel_rfl))⟩
 f57 := ⟨Tryz.f254.name, by decide, Tryz.func254.trans (congrArg some (by kernel_rfl))⟩
 t0 := Tryz.underlying0
 a0 := Tryz.isAgg0
 z0 := Tryz.sizeOf0
 v0 := Tryz.zeroValue0
 t3 := Tryz.underlying3
 a3 := Tryz.isAgg3
 z3 := Tryz.sizeOf3
 v3 := Tryz.zeroValue3
 t4 := Tryz.underlying4
 a4 := Tryz.isAgg4
 z4 := Tryz.sizeOf4
 v4 := Tryz.zeroValue4
 t5 := Tryz.underlying5
 a5 := Tryz.isAgg5
 z5 := Tryz.sizeOf5
 v5 := Tryz.zeroValue5
 t9 := Tryz.underlying9
 a9 := Tryz.isAgg9
 z9 := Tryz.sizeOf9
 v9 := Tryz.zeroValue9
 t22 := Tryz.underlying24
 a22 := Tryz.isAgg24
 z22 := Tryz.sizeOf24
 v22 := Tryz.zeroValue24
 t25 := Tryz.underlying265
 a25 := Tryz.isAgg265
 z25 := Tryz.sizeOf265
 v25 := Tryz.zeroValue265
 t39 := Tryz.underlying271
 a39 := Tryz.isAgg271
 z39 := Tryz.sizeOf271
 v39 := Tryz.zeroValue271
 t45 := Tryz.underlying275
 a45 := Tryz.isAgg275
 z45 := Tryz.sizeOf275
 v45 := Tryz.zeroValue275
 t46 := Tryz.underlying276
 a46 := Tryz.isAgg276
 z46 := Tryz.sizeOf276
 v46 := Tryz.zeroValue276
 t50 := Tryz.underlying150
 a50 := Tryz.isAgg150
 z50 := Tryz.sizeOf150
 v50 := Tryz.zeroValue150
 t53 := Tryz.underlying282
 a53 := Tryz.isAgg282
 z53 := Tryz.sizeOf282
 v53 := Tryz.zeroValue282
 t55 := Tryz.underlying284
 a55 := Tryz.isAgg284
 z55 := Tryz.sizeOf284
 v55 := Tryz.zeroValue284
 t66 := Tryz.underlying287
 a66 := Tryz.isAgg287
 z66 := Tryz.sizeOf287
 v66 := Tryz.zeroValue287
 t70 := Tryz.underlying291
 a70 := Tryz.isAgg291
 z70 := Tryz.sizeOf291
 v70 := Tryz.zeroValue291
 t76 := Tryz.underlying293
 a76 := Tryz.isAgg293
 z76 := Tryz.sizeOf293
 v76 := Tryz.zeroValue293
 t77 := Tryz.underlying294
 a77 := Tryz.isAgg294
 z77 := Tryz.sizeOf294
 v77 := Tryz.zeroValue294 }
end Go.Proofs
namespace Go.Proofs.YtdglbdfdkabjfaaGreatDoor
open Go.Ab Go.Sort
attribute [local irreducible] AWP AOps EStep AQ PStep PRun PCall TCall VCall
theorem one_encN (l : List Note) : ∀ x ∈ l.map encN, x.all oneAV = true := fun x hx => by
 obtain ⟨c, _, rfl⟩ := zB4.1 hx; rfl
theorem clone_T (l : List Note) (hl : l.length ≤ 1000000000) (u : AV) (hu : okObj 1 (.var [u]) = true) (hu2 : okObj 2 (.var [u]) = true) : TCall Tryz.prog 219 [.sl 12 (l.map encN) .no] [.var [u]]
 (fun r s => (l = [] ∧ r = .nils ∧ s = [.var [u]]) ∨ (r = .sla 1 12 0 l.length 0 ∧ s = [.var [u], .arr 12 0 (l.map encN)])) := by
 have hll : (l.map encN).length = l.length := by simp
 refine TCall.body Tryz.func219 rfl rfl Tryz.ntmps219 rfl rfl ?_
 repeat' (first | refine aoQ rfl rfl rfl (fun hg => by exact std0) (by exact rfl) ?_ | refine sqW ?_ | refine rgK (fun K' hK => ?_) | (refine aoN (hK _ _ ?_); clear hK K') | refine aoE (EStep.nilSl tabOk rfl rfl rfl rfl rfl tI rfl ?_))
 intro b hb
 repeat' (first | refine aoQ rfl rfl rfl (fun hg => by first | exact PRun.buildSl0 tabOk rfl rfl | exact std0 | exact std1) (by exact rfl) ?_ | refine sqW ?_ | refine rgK (fun K' hK => ?_) | (refine aoN (hK _ _ ?_); clear hK K') | refine aoE (EStep.appendArrF tabOk rfl rfl rfl rfl (Rd.w rfl tI) (Rd.w rfl tI) (.sl rfl (one_encN _)) (LOk.of (tabOk.get rfl)) (LOk.of (tabOk.get rfl)) rfl rfl (by simp only [hll]; omega) (by omega) ?_) | refine cdN rfl tI (fun hc => ?_) (fun hc => ?_) | refine skW ?_ | refine rtW ?_)
 · exact ⟨.inr rfl, .nils, [.var [u]], .inl ⟨by simpa using hb hc, rfl, rfl⟩, rfl, nLr _, by simpa using hu, rfl, rfl⟩
 · refine ⟨.inr rfl, .sla 1 12 0 (l.map encN).length 0, [.var [u], .arr 12 0 (l.map encN)], .inr ⟨by rw [hll], rfl⟩, rfl, by simp, ?_, rfl, rfl⟩
   simp only [zCe, List.all_nil, zAe, zAn, zBn, Nat.reduceAdd, hu2, zBd, zC9]
   simp [okObj, encN, okRef]
instance (n : Note) : Decidable (noteIn n) := by unfold noteIn; infer_instance
def fixN (n : Note) : Note := if noteIn n then n else ⟨1, 1, 0, 0, 0, ⟨0, 1⟩, ⟨0, 1⟩, ⟨0, 0, 0⟩⟩
theorem fixN_in (n : Note) : noteIn (fixN n) := by
 unfold fixN; split
 · assumption
 · decide
theorem fixN_eq {n : Note} (h : noteIn n) : fixN n = n := if_pos h
def encV (n : Note) : List Value := let m := fixN n; [.int .i64 m.id, .int .i64 m.part, .int .i64 m.bar, .int .i64 m.voice, .int .i64 m.ossia, .int .i64 m.start.n, .int .i64 m.start.d, .int .i64 m.len.n, .int .i64 m.len.d, .int .i64 m.pitch.step, .int .i64 m.pitch.alter, .int .i64 m.pitch.oct]
theorem encV_enc (n : Note) : (encV n).map AV.prim = encN (fixN n) := rfl
def sortN (al : List (Int × Int)) (l : List Note) : List Note := sortL (fun x y => cmpN al (fixN x) (fixN y)) l
theorem sortN_len (al : List (Int × Int)) (l : List Note) : (sortN al l).length = l.length := by
 have := (sortL_spec _ (swoN al fixN) l).1.1
 simpa [sortN] using this
theorem sortN_perm (al : List (Int × Int)) (l : List Note) : (sortN al l).Perm l := by
 have h := (sortL_spec _ (swoN al fixN) l).1.2.2
 have hl := sortN_len al l
 rw [← hl] at h
 unfold sortN at h hl ⊢
 simp only [zCo, List.extract_toArray, List.extract_eq_take_drop, Nat.sub_zero, List.drop_zero] at h
 rw [zAi (nLr _), hl, zAi (nLr _)] at h
 exact h
theorem sortN_enc (al : List (Int × Int)) {l : List Note} (h : ∀ n ∈ l, noteIn n) : (sortN al l).map (fun x => (encV x).map AV.prim) = (sortN al l).map encN := by
 refine zDb fun x hx => ?_
 rw [encV_enc, fixN_eq (h x ((sortN_perm al l).mem_iff.1 hx))]
theorem enc_fix {l : List Note} (h : ∀ n ∈ l, noteIn n) : l.map (fun x => (encV x).map AV.prim) = l.map encN := by
 refine zDb fun x hx => ?_
 rw [encV_enc, fixN_eq (h x hx)]
theorem pureN (l : List Note) : ∀ e ∈ l.map encN, ∀ a ∈ e, ∀ M B x, VRel M B a x → VRel M [] a x := fun e he a ha M B x hx => by
 obtain ⟨n, _, rfl⟩ := zB4.1 he
 simp only [encN, zB3, zCs, or_false] at ha
 rcases ha with rfl | rfl | rfl | rfl | rfl | rfl | rfl | rfl | rfl | rfl | rfl | rfl <;> (rw [VRel.prim_eq hx]; exact .prim _)
theorem fnOk_sort : FnOk Tryz.prog 220 := ⟨_, Tryz.func220, rfl, rfl⟩
theorem fnOk_cmp : FnOk Tryz.prog 221 := ⟨_, Tryz.func221, rfl, rfl⟩
theorem sortT (al : List (Int × Int)) (hal : ∀ k i, lk al k = some i → 0 ≤ i ∧ i < 4611686018427387904) (l : List Note) (hl : l.length ≤ 1000000000) (hin : ∀ n ∈ l, noteIn n) :
 TCall Tryz.prog 220 [.sla 1 12 0 l.length 0, .fn (.func 221) [] [.ptr 0 0]] [.var [.imap (encM ekI AV.int al)], .arr 12 0 (l.map encN)]
  (fun r s => r = .tup [] ∧ s = [.var [.imap (encM ekI AV.int al)], .arr 12 0 ((sortN al l).map encN)]) := by
 have h := TCall.sortA (P := Tryz.prog) (ρ := Tryz.sortNote_ren) Tryz.sortNote (sz := 12) Tryz.isAgg173 Tryz.sizeOf173 encV (fun _ => rfl) (fun x v hv => by
  simp only [encV, zB3, zCs, or_false] at hv
  rcases hv with rfl | rfl | rfl | rfl | rfl | rfl | rfl | rfl | rfl | rfl | rfl | rfl <;> rfl)
  (fun x y => cmpN al (fixN x) (fixN y)) (swoN al fixN) (g := 221) (caps := [.ptr 0 0]) (σ := [.var [.imap (encM ekI AV.int al)], .arr 12 0 (l.map encN)]) fnOk_sort fnOk_cmp
  (fun x y => cmpN_spec al hal (fixN x) (fixN y) (fixN_in x) (fixN_in y)) (l := 1) (ver := 0) (xs := l) (by rw [enc_fix hin]; rfl) (by omega)
 refine TCall.mono h ?_
 rintro r s ⟨h1, h2⟩
 refine ⟨h1, ?_⟩
 rw [h2]
 show [_, AObj.arr 12 0 ((sortN al l).map fun x => (encV x).map AV.prim)] = _
 rw [sortN_enc al hin]
theorem idx_small (bars : List Bar) (hb : bars.length ≤ 1000000000) : ∀ k i, lk (idxAL bars) k = some i → 0 ≤ i ∧ i < 4611686018427387904 := fun k i h => by
 rw [idxAL_eq] at h
 obtain ⟨j, h1, h2, _⟩ := lk_idx bars k _ i h
 omega
theorem sorted_spec (bars : List Bar) (l : List Note) (hb : bars.length ≤ 1000000000) (hl : l.length ≤ 1000000000) (hin : ∀ n ∈ l, noteIn n) :
 PCall Tryz.prog 193 [.sl 4 (bars.map encB) .no, .sl 12 (l.map encN) .no] (.sl 12 ((sortN (idxAL bars) l).map encN) .no) := by
 have hi := indexes_spec bars (by omega)
 have hc := TCall.val (first := []) (caps := []) (avs := [.sl 12 (l.map encN) .no]) (clone_T l hl (.imap (encM ekI AV.int (idxAL bars))) (by simp [okObj, okRef]) (by simp [okObj, okRef]))
 have hs := TCall.val (first := []) (caps := []) (avs := [.sla 1 12 0 l.length 0, .fn (.func 221) [] [.ptr 0 0]]) (sortT (idxAL bars) (idx_small bars hb) l hl hin)
 have h0 := fun u => PCall.sort0 (P := Tryz.prog) (ρ := Tryz.sortNote_ren) Tryz.sortNote fnOk_sort u
 refine PCall.body Tryz.func193 rfl rfl Tryz.ntmps193 rfl rfl ?_
 repeat' (first | refine aoQ rfl rfl rfl (fun hg => by first | exact std0 | exact pcW (hi) rfl rfl nd rfl nds | exact std1) (by exact rfl) ?_ | refine sqW ?_ | refine rgK (fun K' hK => ?_) | (refine aoN (hK _ _ ?_); clear hK K') | refine aoE (stW tabOk rfl rfl rfl tI rfl rfl tI rfl rfl rfl rfl rfl rfl rfl ?_) | refine aoE (alW tabOk rfl rfl rfl rfl rfl rfl ?_) | refine aoE (scT (hc) rfl rfl rfl rfl rfl nd rfl rfl nds ?_))
 rintro r s (⟨h1, rfl, rfl⟩ | ⟨rfl, rfl⟩)
 · subst h1
   repeat' (first | refine aoQ rfl rfl rfl (fun hg => by first | exact std0 | exact pcW (h0 _) rfl rfl nd rfl nds | exact std1) (by exact rfl) ?_ | refine sqW ?_ | refine rgK (fun K' hK => ?_) | (refine aoN (hK _ _ ?_); clear hK K') | refine rtW ?_)
   refine ⟨.inr rfl, ?_⟩
   rw [zAs (sortN_len (idxAL bars) [])]
   exact Ent.nil
 · repeat' (first | refine aoQ rfl rfl rfl (fun hg => by exact std0) (by exact rfl) ?_ | refine sqW ?_ | refine rgK (fun K' hK => ?_) | (refine aoN (hK _ _ ?_); clear hK K') | refine aoE (scT (hs) rfl rfl rfl rfl rfl nd rfl rfl nds ?_))
   rintro r s ⟨rfl, rfl⟩
   repeat' (first | refine aoQ rfl rfl rfl (fun hg => by exact std0) (by exact rfl) ?_ | refine sqW ?_ | refine rgK (fun K' hK => ?_) | (refine aoN (hK _ _ ?_); clear hK K'))
   refine AWP.freezeA (d := 4) (l := 1) (sz := 12) (ver := 0) (es := (sortN (idxAL bars) l).map encN) (by show AV.sla 1 12 0 l.length 0 = _; rw [lLm, sortN_len]) rfl (pureN _) ?_
   refine rtW ⟨.inr rfl, ?_⟩
   exact fun _ _ h => h
theorem notesOk_in {bars : List Bar} {l : List Note} (h : notesOk bars l = true) : ∀ n ∈ l, noteIn n := fun n hn => by
 unfold notesOk at h
 simp only [zA0, zA6] at h
 have h1 := h.1.2 n hn
 have hf : noteForm n = true := by
  unfold noteOk at h1
  split at h1
  · unfold nformed at h1; simp only [zA0] at h1; exact h1.2
  · cases h1
 unfold noteForm at hf
 simp only [zA0, inB, dEt] at hf
 unfold noteIn
 omega
def sortR (bars : List Bar) (l : List Note) : List Note × Int := if notesOk bars l then (sortN (idxAL bars) l, 0) else ([], 1)
theorem Sort_spec (bars : List Bar) (l : List Note) (hb : bars.length ≤ 1000000000) (hl : l.length ≤ 1000000000) :
 PCall Tryz.prog 148 [.sl 4 (bars.map encB) .no, .sl 12 (l.map encN) .no] (.tup [.sl 12 ((sortR bars l).1.map encN) .no, .int (sortR bars l).2]) := by
 have v := nvalid_spec bars l (by omega) (by omega)
 refine PCall.body Tryz.func148 rfl rfl Tryz.ntmps148 rfl rfl ?_
 by_cases h : notesOk bars l = true
 · have w := sorted_spec bars l hb hl (notesOk_in h)
   repeat' (first | refine aoQ rfl rfl rfl (fun hg => by first | exact std0 | exact pcW (v) rfl rfl nd rfl nds | exact pcW (w) rfl rfl nd rfl nds | exact std1) (by exact rfl) ?_ | refine sqW ?_ | refine rgK (fun K' hK => ?_) | (refine aoN (hK _ _ ?_); clear hK K') | refine cdN rfl tI (fun hc => ?_) (fun hc => ?_) | refine skW ?_ | refine rtW ?_)
   · exfalso; simp [h] at hc
   · refine ⟨.inr rfl, Ent.of ?_⟩
     rw [show sortR bars l = (sortN (idxAL bars) l, 0) from by unfold sortR; rw [if_pos h]]; rfl
 · repeat' (first | refine aoQ rfl rfl rfl (fun hg => by first | exact std0 | exact pcW (v) rfl rfl nd rfl nds | exact std1) (by exact rfl) ?_ | refine sqW ?_ | refine rgK (fun K' hK => ?_) | (refine aoN (hK _ _ ?_); clear hK K') | refine cdN rfl tI (fun hc => ?_) (fun hc => ?_) | refine skW ?_ | refine rtW ?_)
   · refine ⟨.inr rfl, ?_⟩
     rw [show sortR bars l = ([], 1) from by unfold sortR; rw [if_neg h]]
     exact Ent.tup2 Ent.nil (Ent.rfl' _)
   · exfalso; simp [h] at hc
end Go.Proofs.YtdglbdfdkabjfaaGreatDoor
namespace Go.Proofs.YtdglbdfdkabjfaaGreatDoor
open Go.Ab
attribute [local irreducible] AWP AOps EStep AQ PStep PRun PCall TCall VCall
theorem list_ne_len {α : Type} [BEq α] [LawfulBEq α] {a b : List α} (h : a.length ≠ b.length) : (a == b) = false := by
 cases hh : a == b with
 | false => rfl
 | true => exact absurd (congrArg List.length (eq_of_beq hh)) h
theorem list_ne_at {α : Type} [BEq α] [LawfulBEq α] [Inhabited α] {a b : List α} {k : Nat} (h : a.getD k default ≠ b.getD k default) : (a == b) = false := by
 cases hh : a == b with
 | false => rfl
 | true => exact absurd (by rw [eq_of_beq hh]) h
theorem list_eq_all {α : Type} [BEq α] [LawfulBEq α] [Inhabited α] {a b : List α} (hl : a.length = b.length) (h : ∀ j, j < a.length → a.getD j default = b.getD j default) : (a == b) = true := by
 have : a = b := List.ext_getElem hl fun i h1 h2 => by
  have := h i h1
  simpa [List.getD, h1, h2] using this
 rw [this]; simp
theorem flN : flatN Tryz.prog 173 = some [.int .i64, .int .i64, .int .i64, .int .i64, .int .i64, .int .i64, .int .i64, .int .i64, .int .i64, .int .i64, .int .i64, .int .i64] := by kernel_rfl
def eqNo (a b : Note) : Bool := a.id == b.id && (a.part == b.part && (a.bar == b.bar && (a.voice == b.voice && (a.ossia == b.ossia && (a.start.n == b.start.n && (a.start.d == b.start.d && (a.len.n == b.len.n && (a.len.d == b.len.d && (a.pitch.step == b.pitch.step && (a.pitch.alter == b.pitch.alter && (a.pitch.oct == b.pitch.oct && true)))))))))))
theorem eqNo_eq (a b : Note) : eqNo a b = (a == b) := by
 unfold eqNo
 rw [zAl]
 obtain ⟨a1, a2, a3, a4, a5, ⟨a6, a7⟩, ⟨a8, a9⟩, ⟨a10, a11, a12⟩⟩ := a
 obtain ⟨b1, b2, b3, b4, b5, ⟨b6, b7⟩, ⟨b8, b9⟩, ⟨b10, b11, b12⟩⟩ := b
 simp [and_assoc]
theorem equalN_spec (a b : List Note) (ha : a.length ≤ 9223372036854775807) (hb : b.length ≤ 9223372036854775807) : PCall Tryz.prog 149 [.sl 12 (a.map encN) .no, .sl 12 (b.map encN) .no] (.b (a == b)) := by
 refine PCall.body Tryz.func149 rfl rfl Tryz.ntmps149 rfl rfl ?_
 repeat' (first | refine aoQ rfl rfl rfl (fun hg => by first | exact std0 | exact std1) (by exact rfl) ?_ | refine sqW ?_ | refine rgK (fun K' hK => ?_) | (refine aoN (hK _ _ ?_); clear hK K') | refine cdN rfl tI (fun hc => ?_) (fun hc => ?_) | refine blK ?_ | refine skW ?_ | refine rtW ?_)
 · refine ⟨.inr rfl, Ent.b (list_ne_len ?_).symm⟩
   simp only [zAa, zB6, zA0, zAk, zD3, dEt, dEf, zB8, zB7, beq_iff_eq, beq_eq_false_iff_ne, bne_iff_ne, bne_eq_false_iff_eq, gt_iff_lt, ge_iff_le, ne_eq] at hc; omega
 have hlen : a.length = b.length := by simp only [zAa, zB6, zA0, zAk, zD3, dEt, dEf, zB8, zB7, beq_iff_eq, beq_eq_false_iff_ne, bne_iff_ne, bne_eq_false_iff_eq, gt_iff_lt, ge_iff_le, ne_eq] at hc; omega
 refine lpW (ι := Nat) (fun k => [(0, .sl 12 (a.map encN) .no), (1, .sl 12 (b.map encN) .no), (12, .int a.length), (13, .int k)]) (fun _ => []) (fun k => k ≤ a.length ∧ ∀ j, j < k → a.getD j default = b.getD j default) (fun k => a.length - k) 0 ⟨nZl _, fun j h => absurd h (by omega)⟩ ⟨rfl, rfl, rfl, rfl, tI⟩ rfl ?_
 rintro k ⟨hk, hall⟩
 by_cases hlt : k < a.length
 · repeat' (first | refine aoQ rfl rfl rfl (fun hg => by exact std0) (by exact rfl) ?_ | refine sqW ?_ | refine rgK (fun K' hK => ?_) | (refine aoN (hK _ _ ?_); clear hK K') | refine cdN rfl tI (fun hc => ?_) (fun hc => ?_) | refine blK ?_ | refine exW ?_ | refine skW ?_ | refine rtW ?_ | refine dK2 (by decide +kernel) (by kernel_rfl) (by decide +kernel) rfl (fun K' hK => ?_) | (refine aqN (hK _ ?_); clear hK K') | refine aqQ rfl rfl (fun hg => by first | exact std0 | exact PRun.neN flN rfl rfl nd rfl nd rfl | exact std1) (by exact rfl) ?_)
   · refine ⟨.inr rfl, Ent.b (list_ne_at (k := k) ?_).symm⟩
     have h1 : (!(eqNo (a.getD k default) (b.getD k default))) = true := hc
     rw [eqNo_eq] at h1
     simpa using h1
   · refine ⟨k + 1, ⟨by omega, fun j hj => lt_succ_cases hall ?_ hj⟩, by omega, ⟨rfl, rfl, rfl, rfl, tI⟩, rfl⟩
     have h1 : (!(eqNo (a.getD k default) (b.getD k default))) = false := hc
     rw [eqNo_eq] at h1
     simpa using h1
   · exfalso; omega
 · repeat' (first | refine aoQ rfl rfl rfl (fun hg => by exact std0) (by exact rfl) ?_ | refine sqW ?_ | refine rgK (fun K' hK => ?_) | (refine aoN (hK _ _ ?_); clear hK K') | refine cdN rfl tI (fun hc => ?_) (fun hc => ?_) | refine blK ?_ | refine exW ?_ | refine skW ?_ | refine rtW ?_ | refine dK2 (by decide +kernel) (by kernel_rfl) (by decide +kernel) rfl (fun K' hK => ?_) | refine aqQ rfl rfl (fun hg => by first | exact std0 | exact std1) (by exact rfl) ?_)
   all_goals (first | (exfalso; omega) | skip)
   exact ⟨.inr rfl, Ent.b (list_eq_all hlen fun j hj => hall j (by omega)).symm⟩
structure Part where
 id : Int
 section_ : Int
 of_ : Int
 octave : Int
 desks : Int
 shift : Interval
 low : Pitch
 high : Pitch
 deriving DecidableEq, Inhabited
def encP (p : Part) : List AV := [.int p.id, .int p.section_, .int p.of_, .int p.octave, .int p.desks, .int p.shift.steps, .int p.shift.semi, .int p.low.step, .int p.low.alter, .int p.low.oct, .int p.high.step, .int p.high.alter, .int p.high.oct]
theorem swithin_spec (a b c : Int) : PCall Tryz.prog 181 [.int a, .int b, .int c] (.b (inB a b c)) := by
 refine PCall.body Tryz.func181 rfl rfl Tryz.ntmps181 rfl rfl ?_
 repeat' (first | refine aoQ rfl rfl rfl (fun hg => by exact std0) (by exact rfl) ?_ | refine sqW ?_ | refine rgK (fun K' hK => ?_) | (refine aoN (hK _ _ ?_); clear hK K') | refine rtW ?_)
 exact ⟨.inr rfl, Ent.b rfl⟩
theorem sisID_spec (a : Int) : PCall Tryz.prog 143 [.int a] (.b (inB a 1 1000000)) := by
 refine PCall.body Tryz.func143 rfl rfl Tryz.ntmps143 rfl rfl ?_
 repeat' (first | refine aoQ rfl rfl rfl (fun hg => by first | exact std0 | exact pcW (swithin_spec _ _ _) rfl rfl nd rfl nds | exact std1) (by exact rfl) ?_ | refine sqW ?_ | refine rgK (fun K' hK => ?_) | (refine aoN (hK _ _ ?_); clear hK K') | refine rtW ?_)
 exact ⟨.inr rfl, Ent.b rfl⟩
theorem barID_spec (b : Bar) : PCall Tryz.prog 154 [.agg (encB b)] (.int b.id) := by
 refine PCall.body Tryz.func154 rfl rfl Tryz.ntmps154 rfl rfl ?_
 repeat' (first | refine aoQ rfl rfl rfl (fun hg => by first | exact std0 | exact std1) (by exact rfl) ?_ | refine sqW ?_ | refine rgK (fun K' hK => ?_) | (refine aoN (hK _ _ ?_); clear hK K') | refine aoE (bxW rfl rfl rfl rfl rfl tI rfl rfl ?_) | refine aoE (stW tabOk rfl rfl rfl tI rfl rfl tI rfl rfl rfl rfl rfl rfl rfl ?_) | refine aoE (alW tabOk rfl rfl rfl rfl rfl rfl ?_) | refine cdN rfl tI (fun hc => ?_) (fun hc => ?_) | refine blK ?_ | refine exW ?_ | refine skW ?_ | refine rtW ?_ | refine dK2 (by decide +kernel) (by kernel_rfl) (by decide +kernel) rfl (fun K' hK => ?_) | refine dL2 (by kernel_rfl) (by decide +kernel) rfl (fun K' hK => ?_) | (refine aqN (hK _ ?_); clear hK K') | refine aqN ?_ | refine aqQ rfl rfl (fun hg => by first | exact std0 | exact std1) (by exact rfl) ?_)
 exact ⟨.inr rfl, Ent.int rfl⟩
def shiftOk (i : Interval) : Bool := (fifthsR i).2 == 0 && inB i.steps (-21) 21 && inB i.semi (-36) 36 && inB (fifthsR i).1 (-12) 12
theorem shifts_spec (i : Interval) : PCall Tryz.prog 210 [.agg (encI i)] (.b (shiftOk i)) := by
 refine PCall.body Tryz.func210 rfl rfl Tryz.ntmps210 rfl rfl ?_
 repeat' (first | refine aoQ rfl rfl rfl (fun hg => by first | exact std0 | exact pcW (fifths_spec i) rfl rfl nd rfl nds | exact pcW (swithin_spec _ _ _) rfl rfl nd rfl nds | exact std1) (by exact rfl) ?_ | refine sqW ?_ | refine rgK (fun K' hK => ?_) | (refine aoN (hK _ _ ?_); clear hK K') | refine aoE (bxW rfl rfl rfl rfl rfl tI rfl rfl ?_) | refine rtW ?_)
 exact ⟨.inr rfl, Ent.b rfl⟩
theorem height_spec (p : Pitch) : PCall Tryz.prog 191 [.agg (encPi p)] (.int (numR2 p).1) := by
 refine PCall.body Tryz.func191 rfl rfl Tryz.ntmps191 rfl rfl ?_
 repeat' (first | refine aoQ rfl rfl rfl (fun hg => by first | exact std0 | exact pcW (pNumber_spec p) rfl rfl nd rfl nds | exact std1) (by exact rfl) ?_ | refine sqW ?_ | refine rgK (fun K' hK => ?_) | (refine aoN (hK _ _ ?_); clear hK K') | refine aoE (bxW rfl rfl rfl rfl rfl tI rfl rfl ?_) | refine rtW ?_)
 exact ⟨.inr rfl, Ent.int rfl⟩
def partNums (p : Part) : Bool := inB p.id 1 1000000 && inB p.section_ 0 99 && inB p.of_ 0 1000000 && inB p.octave (-2) 2 && inB p.desks 1 40
def partBad (p : Part) : Bool := !partNums p || p.of_ == p.id || (p.of_ == 0 && p.octave != 0) || !shiftOk p.shift
def partOk (p : Part) : Bool := !partBad p && (pitchOk p.low && pitchOk p.high && decide ((numR2 p.low).1 ≤ (numR2 p.high).1))
theorem isPart_spec (p : Part) : PCall Tryz.prog 184 [.agg (encP p)] (.b (partOk p)) := by
 refine PCall.body Tryz.func184 rfl rfl Tryz.ntmps184 rfl rfl ?_
 repeat' (first | refine aoQ rfl rfl rfl (fun hg => by first | exact std0 | exact pcW (sisID_spec _) rfl rfl nd rfl nds | exact pcW (swithin_spec _ _ _) rfl rfl nd rfl nds | exact pcW (shifts_spec p.shift) rfl rfl nd rfl nds | exact std1) (by exact rfl) ?_ | refine sqW ?_ | refine rgK (fun K' hK => ?_) | (refine aoN (hK _ _ ?_); clear hK K') | refine aoE (bxW rfl rfl rfl rfl rfl tI rfl rfl ?_) | refine cdN rfl tI (fun hc => ?_) (fun hc => ?_) | refine skW ?_ | refine rtW ?_ | refine dK2 (by decide +kernel) (by kernel_rfl) (by decide +kernel) rfl (fun K' hK => ?_) | (refine aqN (hK _ ?_); clear hK K') | refine aqQ rfl rfl (fun hg => by first | exact std0 | exact pcW (pvalid_spec p.low) rfl rfl nd rfl nds | exact pcW (pvalid_spec p.high) rfl rfl nd rfl nds | exact pcW (height_spec p.low) rfl rfl nd rfl nds | exact pcW (height_spec p.high) rfl rfl nd rfl nds | exact std1) (by exact rfl) ?_)
 · refine ⟨.inr rfl, Ent.b (Eq.symm ?_)⟩
   unfold partOk
   rw [show partBad p = true from hc]; rfl
 · refine ⟨.inr rfl, Ent.b (Eq.symm ?_)⟩
   unfold partOk
   rw [show partBad p = false from hc]; rfl
theorem getD_mem {α : Type} [Inhabited α] {l : List α} {k : Nat} (h : k < l.length) : l.getD k default ∈ l := by
 rw [show l.getD k default = l[k] by simp [List.getD, h]]; exact lGm h
theorem idxPart_spec (l : List Part) (fv : AV) (p : Part → Bool) (hp : ∀ x ∈ l, FnCall Tryz.prog fv [.agg (encP x)] (.b (p x))) (hl : l.length ≤ 9223372036854775807) :
 PCall Tryz.prog 212 [.sl 13 (l.map encP) .no, fv] (.int (findI p l)) := by
 refine PCall.bodyX [1] Tryz.func212 rfl rfl Tryz.ntmps212 rfl rfl ?_
 repeat' (first | refine aoQ rfl rfl rfl (fun hg => by first | exact std0 | exact std1) (by exact rfl) ?_ | refine sqW ?_ | refine rgK (fun K' hK => ?_) | (refine aoN (hK _ _ ?_); clear hK K') | refine blK ?_)
 refine lpW (ι := Nat) (fun k => [(0, .sl 13 (l.map encP) .no), (1, .ext fv), (7, .int l.length), (8, .int k)]) (fun _ => []) (fun k => k ≤ l.length ∧ ∀ j, j < k → p (l.getD j default) = false) (fun k => l.length - k) 0 ⟨nZl _, fun j h => absurd h (by omega)⟩ ⟨rfl, rfl, rfl, rfl, tI⟩ rfl ?_
 rintro k ⟨hk, hall⟩
 by_cases hlt : k < l.length
 · repeat' (first | refine aoQ rfl rfl rfl (fun hg => by first | exact std0 | exact PRun.callV (hp _ (getD_mem hlt)) rfl rfl nd rfl nds | exact std1) (by exact rfl) ?_ | refine sqW ?_ | refine rgK (fun K' hK => ?_) | (refine aoN (hK _ _ ?_); clear hK K') | refine cdN rfl tI (fun hc => ?_) (fun hc => ?_) | refine blK ?_ | refine exW ?_ | refine skW ?_ | refine rtW ?_)
   · refine ⟨.inr rfl, ?_⟩
     rw [show findI p l = k from findI_at hlt hc hall]
     exact fun _ _ h => h
   · exact ⟨k + 1, ⟨by omega, fun j hj => lt_succ_cases hall hc hj⟩, by omega, ⟨rfl, rfl, rfl, rfl, tI⟩, rfl⟩
   · exfalso; omega
 · repeat' (first | refine aoQ rfl rfl rfl (fun hg => by first | exact std0 | exact std1) (by exact rfl) ?_ | refine sqW ?_ | refine rgK (fun K' hK => ?_) | (refine aoN (hK _ _ ?_); clear hK K') | refine cdN rfl tI (fun hc => ?_) (fun hc => ?_) | refine blK ?_ | refine exW ?_ | refine skW ?_ | refine rtW ?_)
   · exfalso; omega
   · refine ⟨.inr rfl, ?_⟩
     rw [show findI p l = -1 from findI_no fun j hj => hall j (by omega)]
     exact fun _ _ h => h
theorem idxBar_spec (l : List Bar) (fv : AV) (p : Bar → Bool) (hp : ∀ x ∈ l, FnCall Tryz.prog fv [.agg (encB x)] (.b (p x))) (hl : l.length ≤ 9223372036854775807) :
 PCall Tryz.prog 194 [.sl 4 (l.map encB) .no, fv] (.int (findI p l)) := by
 refine PCall.bodyX [1] Tryz.func194 rfl rfl Tryz.ntmps194 rfl rfl ?_
 repeat' (first | refine aoQ rfl rfl rfl (fun hg => by first | exact std0 | exact std1) (by exact rfl) ?_ | refine sqW ?_ | refine rgK (fun K' hK => ?_) | (refine aoN (hK _ _ ?_); clear hK K') | refine aoE (bxW rfl rfl rfl rfl rfl tI rfl rfl ?_) | refine aoE (stW tabOk rfl rfl rfl tI rfl rfl tI rfl rfl rfl rfl rfl rfl rfl ?_) | refine aoE (alW tabOk rfl rfl rfl rfl rfl rfl ?_) | refine cdN rfl tI (fun hc => ?_) (fun hc => ?_) | refine blK ?_ | refine exW ?_ | refine skW ?_ | refine rtW ?_ | refine dK2 (by decide +kernel) (by kernel_rfl) (by decide +kernel) rfl (fun K' hK => ?_) | refine dL2 (by kernel_rfl) (by decide +kernel) rfl (fun K' hK => ?_) | (refine aqN (hK _ ?_); clear hK K') | refine aqN ?_ | refine aqQ rfl rfl (fun hg => by first | exact std0 | exact std1) (by exact rfl) ?_)
 refine lpW (ι := Nat) (fun k => [(0, .sl 4 (l.map encB) .no), (1, .ext fv), (7, .int l.length), (8, .int k)]) (fun _ => []) (fun k => k ≤ l.length ∧ ∀ j, j < k → p (l.getD j default) = false) (fun k => l.length - k) 0 ⟨nZl _, fun j h => absurd h (by omega)⟩ ⟨rfl, rfl, rfl, rfl, tI⟩ rfl ?_
 rintro k ⟨hk, hall⟩
 by_cases hlt : k < l.length
 · repeat' (first | refine aoQ rfl rfl rfl (fun hg => by first | exact std0 | exact PRun.callV (hp _ (getD_mem hlt)) rfl rfl nd rfl nds | exact std1) (by exact rfl) ?_ | refine sqW ?_ | refine rgK (fun K' hK => ?_) | (refine aoN (hK _ _ ?_); clear hK K') | refine aoE (bxW rfl rfl rfl rfl rfl tI rfl rfl ?_) | refine aoE (stW tabOk rfl rfl rfl tI rfl rfl tI rfl rfl rfl rfl rfl rfl rfl ?_) | refine aoE (alW tabOk rfl rfl rfl rfl rfl rfl ?_) | refine cdN rfl tI (fun hc => ?_) (fun hc => ?_) | refine blK ?_ | refine exW ?_ | refine skW ?_ | refine rtW ?_ | refine dK2 (by decide +kernel) (by kernel_rfl) (by decide +kernel) rfl (fun K' hK => ?_) | refine dL2 (by kernel_rfl) (by decide +kernel) rfl (fun K' hK => ?_) | (refine aqN (hK _ ?_); clear hK K') | refine aqN ?_ | refine aqQ rfl rfl (fun hg => by first | exact std0 | exact PRun.callV (hp _ (getD_mem hlt)) rfl rfl nd rfl nds | exact std1) (by exact rfl) ?_)
   · refine ⟨.inr rfl, ?_⟩
     rw [show findI p l = k from findI_at hlt hc hall]
     exact fun _ _ h => h
   · exact ⟨k + 1, ⟨by omega, fun j hj => lt_succ_cases hall hc hj⟩, by omega, ⟨rfl, rfl, rfl, rfl, tI⟩, rfl⟩
   · exfalso; omega
 · repeat' (first | refine aoQ rfl rfl rfl (fun hg => by first | exact std0 | exact std1) (by exact rfl) ?_ | refine sqW ?_ | refine rgK (fun K' hK => ?_) | (refine aoN (hK _ _ ?_); clear hK K') | refine aoE (bxW rfl rfl rfl rfl rfl tI rfl rfl ?_) | refine aoE (stW tabOk rfl rfl rfl tI rfl rfl tI rfl rfl rfl rfl rfl rfl rfl ?_) | refine aoE (alW tabOk rfl rfl rfl rfl rfl rfl ?_) | refine cdN rfl tI (fun hc => ?_) (fun hc => ?_) | refine blK ?_ | refine exW ?_ | refine skW ?_ | refine rtW ?_ | refine dK2 (by decide +kernel) (by kernel_rfl) (by decide +kernel) rfl (fun K' hK => ?_) | refine dL2 (by kernel_rfl) (by decide +kernel) rfl (fun K' hK => ?_) | (refine aqN (hK _ ?_); clear hK K') | refine aqN ?_ | refine aqQ rfl rfl (fun hg => by first | exact std0 | exact std1) (by exact rfl) ?_)
   · exfalso; omega
   · refine ⟨.inr rfl, ?_⟩
     rw [show findI p l = -1 from findI_no fun j hj => hall j (by omega)]
     exact fun _ _ h => h
theorem idxNote_spec (l : List Note) (fv : AV) (p : Note → Bool) (hp : ∀ x ∈ l, FnCall Tryz.prog fv [.agg (encN x)] (.b (p x))) (hl : l.length ≤ 9223372036854775807) :
 PCall Tryz.prog 218 [.sl 12 (l.map encN) .no, fv] (.int (findI p l)) := by
 refine PCall.bodyX [1] Tryz.func218 rfl rfl Tryz.ntmps218 rfl rfl ?_
 repeat' (first | refine aoQ rfl rfl rfl (fun hg => by first | exact std0 | exact std1) (by exact rfl) ?_ | refine sqW ?_ | refine rgK (fun K' hK => ?_) | (refine aoN (hK _ _ ?_); clear hK K') | refine blK ?_)
 refine lpW (ι := Nat) (fun k => [(0, .sl 12 (l.map encN) .no), (1, .ext fv), (7, .int l.length), (8, .int k)]) (fun _ => []) (fun k => k ≤ l.length ∧ ∀ j, j < k → p (l.getD j default) = false) (fun k => l.length - k) 0 ⟨nZl _, fun j h => absurd h (by omega)⟩ ⟨rfl, rfl, rfl, rfl, tI⟩ rfl ?_
 rintro k ⟨hk, hall⟩
 by_cases hlt : k < l.length
 · repeat' (first | refine aoQ rfl rfl rfl (fun hg => by first | exact std0 | exact PRun.callV (hp _ (getD_mem hlt)) rfl rfl nd rfl nds | exact std1) (by exact rfl) ?_ | refine sqW ?_ | refine rgK (fun K' hK => ?_) | (refine aoN (hK _ _ ?_); clear hK K') | refine cdN rfl tI (fun hc => ?_) (fun hc => ?_) | refine blK ?_ | refine exW ?_ | refine skW ?_ | refine rtW ?_)
   · refine ⟨.inr rfl, ?_⟩
     rw [show findI p l = k from findI_at hlt hc hall]
     exact fun _ _ h => h
   · exact ⟨k + 1, ⟨by omega, fun j hj => lt_succ_cases hall hc hj⟩, by omega, ⟨rfl, rfl, rfl, rfl, tI⟩, rfl⟩
   · exfalso; omega
 · repeat' (first | refine aoQ rfl rfl rfl (fun hg => by first | exact std0 | exact std1) (by exact rfl) ?_ | refine sqW ?_ | refine rgK (fun K' hK => ?_) | (refine aoN (hK _ _ ?_); clear hK K') | refine cdN rfl tI (fun hc => ?_) (fun hc => ?_) | refine blK ?_ | refine exW ?_ | refine skW ?_ | refine rtW ?_)
   · exfalso; omega
   · refine ⟨.inr rfl, ?_⟩
     rw [show findI p l = -1 from findI_no fun j hj => hall j (by omega)]
     exact fun _ _ h => h
theorem contPart_spec (l : List Part) (fv : AV) (p : Part → Bool) (hp : ∀ x ∈ l, FnCall Tryz.prog fv [.agg (encP x)] (.b (p x))) (hl : l.length ≤ 9223372036854775807) :
 PCall Tryz.prog 186 [.sl 13 (l.map encP) .no, fv] (.b (decide (findI p l ≥ 0))) := by
 refine PCall.bodyX [1] Tryz.func186 rfl rfl Tryz.ntmps186 rfl rfl ?_
 repeat' (first | refine aoQ rfl rfl rfl (fun hg => by first | exact std0 | exact pcW (idxPart_spec l fv p hp hl) rfl rfl nd rfl nds | exact std1) (by exact rfl) ?_ | refine sqW ?_ | refine rgK (fun K' hK => ?_) | (refine aoN (hK _ _ ?_); clear hK K') | refine rtW ?_)
 exact ⟨.inr rfl, fun _ _ h => h⟩
theorem contNote_spec (l : List Note) (fv : AV) (p : Note → Bool) (hp : ∀ x ∈ l, FnCall Tryz.prog fv [.agg (encN x)] (.b (p x))) (hl : l.length ≤ 9223372036854775807) :
 PCall Tryz.prog 192 [.sl 12 (l.map encN) .no, fv] (.b (decide (findI p l ≥ 0))) := by
 refine PCall.bodyX [1] Tryz.func192 rfl rfl Tryz.ntmps192 rfl rfl ?_
 repeat' (first | refine aoQ rfl rfl rfl (fun hg => by first | exact std0 | exact pcW (idxNote_spec l fv p hp hl) rfl rfl nd rfl nds | exact std1) (by exact rfl) ?_ | refine sqW ?_ | refine rgK (fun K' hK => ?_) | (refine aoN (hK _ _ ?_); clear hK K') | refine rtW ?_)
 exact ⟨.inr rfl, fun _ _ h => h⟩
end Go.Proofs.YtdglbdfdkabjfaaGreatDoor
