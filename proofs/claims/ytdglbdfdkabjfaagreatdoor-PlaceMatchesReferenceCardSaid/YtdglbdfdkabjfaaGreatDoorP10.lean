/- Contracts by content: package ratio.  Contracts by content: ratio.Valid, Compare; meter.isDuration, less; pitch; key.Fifths.  Contracts by content: meter.Valid; notes: ticks, isNote, indexes, formed, Valid.  Contracts by content: notes: isNote, indexes, formed, Valid; cmp.Or. No statement is proved here. -/
import Derived.Test.YtdglbdfdkabjfaaGreatDoorP7
set_option linter.unusedVariables false
set_option linter.unusedSimpArgs false
namespace Go.Proofs.YtdglbdfdkabjfaaGreatDoor
open Go.Ab
attribute [local irreducible] AWP AOps EStep AQ PStep PRun PCall TCall VCall
theorem tdiv_le (a b : Int) : (a.tdiv b).natAbs ≤ a.natAbs := by
 rw [Int.natAbs_tdiv]; exact Nat.div_le_self _ _
theorem size_spec (n : Int) (h : InI64 (0 - n)) : PCall Tryz.prog 160 [.int n] (.int (n.natAbs : Nat)) := by
 have h1 := h.1
 have h2 := h.2
 refine PCall.body Tryz.func160 rfl rfl Tryz.ntmps160 rfl rfl ?_
 repeat' (first | refine aoQ rfl rfl rfl (fun hg => by exact std0) (by exact rfl) ?_ | refine sqW ?_ | refine rgK (fun K' hK => ?_) | (refine aoN (hK _ _ ?_); clear hK K') | refine rtW ?_)
 exact ⟨.inr rfl, Ent.int (by omega)⟩
def redS (n d : Int) : Store := [.var [.int n, .int d], .var [.int 0, .int 0], .var [.fn (.func 159) [] [.ptr 2 0]]]
theorem common_spec (n d : Int) (b : Nat) : ∀ a : Nat, a ≤ 9223372036854775807 → b ≤ 9223372036854775807 →
 TCall Tryz.prog 159 [.int a, .int b, .ptr 2 0] (redS n d) (fun r s => r = .int (Nat.gcd a b) ∧ s = redS n d) := by
 induction b using Nat.strongRecOn with
 | _ b ih =>
 intro a ha hb
 refine TCall.body Tryz.func159 rfl rfl Tryz.ntmps159 rfl rfl ?_
 by_cases h0 : b = 0
 · subst h0
   repeat' (first | refine aoQ rfl rfl rfl (fun hg => by exact std0) (by exact rfl) ?_ | refine sqW ?_ | refine rgK (fun K' hK => ?_) | (refine aoN (hK _ _ ?_); clear hK K') | refine cdN rfl tI (fun hc => ?_) (fun hc => ?_) | refine skW ?_ | refine rtW ?_ | refine dK2 (by decide +kernel) (by kernel_rfl) (by decide +kernel) rfl (fun K' hK => ?_) | refine aqQ rfl rfl (fun hg => by exact std0) (by exact rfl) ?_)
   · exact ⟨.inr rfl, _, _, ⟨by simp, rfl⟩, rfl, nLr _, rfl, rfl, rfl⟩
   · simp at hc
 · have hlt : a % b < b := zCv _ (by omega)
   have hv := TCall.val (first := []) (caps := [.ptr 2 0]) (avs := [.int b, .int ((a % b : Nat) : Int)]) (ih (a % b) hlt b hb (by omega))
   repeat' (first | refine aoQ rfl rfl rfl (fun hg => by exact std0) (by exact rfl) ?_ | refine sqW ?_ | refine rgK (fun K' hK => ?_) | (refine aoN (hK _ _ ?_); clear hK K') | refine cdN rfl tI (fun hc => ?_) (fun hc => ?_) | refine skW ?_ | refine rtW ?_ | refine dK2 (by decide +kernel) (by kernel_rfl) (by decide +kernel) rfl (fun K' hK => ?_) | (refine aqN (hK _ ?_); clear hK K') | refine aqQ rfl rfl (fun hg => by first | exact std0 | exact PRun.callQ (hv) rfl rfl nd rfl rfl nds | exact std1) (by exact rfl) ?_)
   · exfalso; simp at hc; omega
   · exact ⟨.inr rfl, _, _, ⟨by rw [Nat.gcd_comm a b, Nat.gcd_rec b a, Nat.gcd_comm], rfl⟩, rfl, nLr _, rfl, rfl, rfl⟩
def redG (n d : Int) : Int := if d < 0 then -(Int.gcd n d : Int) else Int.gcd n d
theorem reduced_spec (n d : Int) (hn : InI64 (2 * n)) (hd : InI64 (2 * d)) (h0 : d ≠ 0) : PCall Tryz.prog 105 [.agg [.int n, .int d]] (.agg [.int (n.tdiv (redG n d)), .int (d.tdiv (redG n d))]) := by
 have hn1 := hn.1
 have hn2 := hn.2
 have hd1 := hd.1
 have hd2 := hd.2
 have hg0 : 0 < Nat.gcd n.natAbs d.natAbs := zCw n h0
 have hg1 : Nat.gcd n.natAbs d.natAbs ≤ d.natAbs := Nat.gcd_le_right _ (by omega)
 have hv := TCall.val (first := []) (caps := [.ptr 2 0]) (avs := [.int n.natAbs, .int d.natAbs]) (common_spec n d d.natAbs n.natAbs (by omega) (by omega))
 have e : redG n d = if d < 0 then -(Nat.gcd n.natAbs d.natAbs : Int) else Nat.gcd n.natAbs d.natAbs := rfl
 generalize Nat.gcd n.natAbs d.natAbs = g at *
 have q1 := tdiv_le n g
 have q2 := tdiv_le n (-g)
 have q3 := tdiv_le d g
 have q4 := tdiv_le d (-g)
 refine PCall.bodyS tabOk Tryz.func105 rfl rfl Tryz.ntmps105 rfl ?_
 repeat' (first | refine aoQ rfl rfl rfl (fun hg => by exact std0) (by exact rfl) ?_ | refine sqW ?_ | refine rgK (fun K' hK => ?_) | (refine aoN (hK _ _ ?_); clear hK K') | refine aoE (bxW rfl rfl rfl rfl rfl tI rfl rfl ?_) | refine aoE (stW tabOk rfl rfl rfl tI rfl rfl tI rfl rfl rfl rfl rfl rfl rfl ?_) | refine aoE (alW tabOk rfl rfl rfl rfl rfl rfl ?_) | refine cdN rfl tI (fun hc => ?_) (fun hc => ?_) | refine skW ?_ | refine rtW ?_ | refine dK2 (by decide +kernel) (by kernel_rfl) (by decide +kernel) rfl (fun K' hK => ?_) | refine dL2 (by kernel_rfl) (by decide +kernel) rfl (fun K' hK => ?_) | (refine aqN (hK _ ?_); clear hK K') | refine aqN ?_ | refine aqQ rfl rfl (fun hg => by first | exact std0 | exact pcW (size_spec n ⟨by omega, by omega⟩) rfl rfl nd rfl nds | exact pcW (size_spec d ⟨by omega, by omega⟩) rfl rfl nd rfl nds | exact PRun.callQ (hv) rfl rfl nd rfl rfl nds | exact pbD tabOk rfl rfl nds | exact std1) (by exact rfl) ?_)
 · refine ⟨.inr rfl, _, rfl, Ent.of ?_⟩
   rw [e, if_pos hc]; rfl
 · refine ⟨.inr rfl, _, rfl, Ent.of ?_⟩
   rw [e, if_neg (by omega)]; rfl
structure Rat where
 n : Int
 d : Int
 deriving DecidableEq, Inhabited
def encR (r : Rat) : List AV := [.int r.n, .int r.d]
def ratOk (r : Rat) : Bool := decide (1 ≤ r.d) && decide (r.d ≤ 1000000) && decide (-1000000000 ≤ r.n) && decide (r.n ≤ 1000000000) && (Int.gcd r.n r.d == 1)
theorem ratOk_iff {r : Rat} : ratOk r = true ↔ 1 ≤ r.d ∧ r.d ≤ 1000000 ∧ -1000000000 ≤ r.n ∧ r.n ≤ 1000000000 ∧ Int.gcd r.n r.d = 1 := by
 simp [ratOk, and_assoc]
theorem fl129 : flatOf Tryz.prog 161 = some [.int .i64, .int .i64] := by kernel_rfl
theorem redG_one {n d : Int} (hd : 1 ≤ d) : (n.tdiv (redG n d) = n ∧ d.tdiv (redG n d) = d) ↔ Int.gcd n d = 1 := by
 have h0 : 0 < Int.gcd n d := zCw n (by omega)
 have e : redG n d = (Int.gcd n d : Int) := by unfold redG; rw [if_neg (by omega)]
 rw [e]
 constructor
 · rintro ⟨_, h2⟩
   rcases nLg 1 (Int.gcd n d) with h | h
   · exfalso
     rw [Int.tdiv_eq_ediv_of_nonneg (by omega)] at h2
     have h3 := Int.ediv_lt_of_lt_mul (a := d) (b := d) (c := (Int.gcd n d : Int)) (by omega) (by
      have : d * 1 < d * (Int.gcd n d : Int) := Int.mul_lt_mul_of_pos_left (by omega) (by omega)
      omega)
     omega
   · omega
 · intro h; rw [h]; simp
theorem rvalid_spec (r : Rat) : PCall Tryz.prog 51 [.agg (encR r)] (.b (ratOk r)) := by
 by_cases hb : 1 ≤ r.d ∧ r.d ≤ 1000000 ∧ -1000000000 ≤ r.n ∧ r.n ≤ 1000000000
 · have h1 := reduced_spec r.n r.d ⟨by omega, by omega⟩ ⟨by omega, by omega⟩ (by omega)
   refine PCall.body Tryz.func51 rfl rfl Tryz.ntmps51 rfl rfl ?_
   repeat' (first | refine aoQ rfl rfl rfl (fun hg => by exact std0) (by exact rfl) ?_ | refine sqW ?_ | refine rgK (fun K' hK => ?_) | (refine aoN (hK _ _ ?_); clear hK K') | refine aoE (bxW rfl rfl rfl rfl rfl tI rfl rfl ?_) | refine cdN rfl tI (fun hc => ?_) (fun hc => ?_) | refine skW ?_ | refine rtW ?_ | refine dK2 (by decide +kernel) (by kernel_rfl) (by decide +kernel) rfl (fun K' hK => ?_) | (refine aqN (hK _ ?_); clear hK K') | refine aqQ rfl rfl (fun hg => by first | exact std0 | exact pcW (h1) rfl rfl nd rfl nds | exact pbD tabOk rfl rfl nds | exact PRun.eqS fl129 rfl rfl nd rfl nd rfl | exact std1) (by exact rfl) ?_)
   · exfalso; simp at hc; omega
   · refine ⟨.inr rfl, Ent.b ?_⟩
     have h2 := redG_one (n := r.n) (d := r.d) hb.1
     rw [zAl, ratOk_iff]
     constructor
     · intro h
       exact ⟨hb.1, hb.2.1, hb.2.2.1, hb.2.2.2, h2.1 (by simpa using h)⟩
     · intro h
       have := h2.2 h.2.2.2.2
       simp [this]
 · refine PCall.body Tryz.func51 rfl rfl Tryz.ntmps51 rfl rfl ?_
   repeat' (first | refine aoQ rfl rfl rfl (fun hg => by exact std0) (by exact rfl) ?_ | refine sqW ?_ | refine rgK (fun K' hK => ?_) | (refine aoN (hK _ _ ?_); clear hK K') | refine aoE (bxW rfl rfl rfl rfl rfl tI rfl rfl ?_) | refine cdN rfl tI (fun hc => ?_) (fun hc => ?_) | refine skW ?_ | refine rtW ?_ | refine dK2 (by decide +kernel) (by kernel_rfl) (by decide +kernel) rfl (fun K' hK => ?_) | refine aqQ rfl rfl (fun hg => by exact std0) (by exact rfl) ?_)
   · refine ⟨.inr rfl, Ent.b ?_⟩
     cases h : ratOk r with
     | false => rfl
     | true => rw [ratOk_iff] at h; omega
   all_goals (exfalso; simp at hc; omega)
theorem mul_in {x y A B : Int} (h1 : -A ≤ x ∧ x ≤ A) (h2 : 0 ≤ y ∧ y ≤ B) : -(A * B) ≤ x * y ∧ x * y ≤ A * B := by
 have hA : 0 ≤ A := by omega
 have a1 := zCq h1.2 h2.1
 have a2 := zCq h1.1 h2.1
 have a3 := zCt h2.2 hA
 rw [Int.neg_mul] at a2
 omega
def ratCmp (a b : Rat) : Int × Int := if ratOk a && ratOk b then (if a.n * b.d < b.n * a.d then (-1, 0) else if a.n * b.d > b.n * a.d then (1, 0) else (0, 0)) else (0, 1)
theorem compare_spec (a b : Rat) : PCall Tryz.prog 98 [.agg (encR a), .agg (encR b)] (.tup [.int (ratCmp a b).1, .int (ratCmp a b).2]) := by
 have va := rvalid_spec a
 have vb := rvalid_spec b
 refine PCall.body Tryz.func98 rfl rfl Tryz.ntmps98 rfl rfl ?_
 by_cases h : ratOk a = true ∧ ratOk b = true
 · have ha := ratOk_iff.1 h.1
   have hb := ratOk_iff.1 h.2
   have q1 := mul_in (x := a.n) (y := b.d) (A := 1000000000) (B := 1000000) (by omega) (by omega)
   have q2 := mul_in (x := b.n) (y := a.d) (A := 1000000000) (B := 1000000) (by omega) (by omega)
   repeat' (first | refine aoQ rfl rfl rfl (fun hg => by first | exact std0 | exact pcW (va) rfl rfl nd rfl nds | exact pcW (vb) rfl rfl nd rfl nds | exact std1) (by exact rfl) ?_ | refine sqW ?_ | refine rgK (fun K' hK => ?_) | (refine aoN (hK _ _ ?_); clear hK K') | refine aoE (bxW rfl rfl rfl rfl rfl tI rfl rfl ?_) | refine cdN rfl tI (fun hc => ?_) (fun hc => ?_) | refine blK ?_ | refine skW ?_ | refine rtW ?_ | refine dK2 (by decide +kernel) (by kernel_rfl) (by decide +kernel) rfl (fun K' hK => ?_) | (refine aqN (hK _ ?_); clear hK K') | refine aqQ rfl rfl (fun hg => by exact std0) (by exact rfl) ?_)
   · exfalso; simp [h.1, h.2] at hc
   all_goals (refine ⟨.inr rfl, Ent.of ?_⟩)
   · rw [show ratCmp a b = (-1, 0) from by unfold ratCmp; rw [if_pos (by simp [h]), if_pos hc]]; rfl
   · rename_i hc0
     rw [show ratCmp a b = (1, 0) from by unfold ratCmp; rw [if_pos (by simp [h]), if_neg (by omega), if_pos hc]]; rfl
   · rename_i hc0
     rw [show ratCmp a b = (0, 0) from by unfold ratCmp; rw [if_pos (by simp [h]), if_neg (by omega), if_neg (by omega)]]; rfl
 · have e : (ratOk a && ratOk b) = false := by cases ha : ratOk a <;> cases hb : ratOk b <;> simp_all
   repeat' (first | refine aoQ rfl rfl rfl (fun hg => by first | exact std0 | exact pcW (va) rfl rfl nd rfl nds | exact pcW (vb) rfl rfl nd rfl nds | exact std1) (by exact rfl) ?_ | refine sqW ?_ | refine rgK (fun K' hK => ?_) | (refine aoN (hK _ _ ?_); clear hK K') | refine aoE (bxW rfl rfl rfl rfl rfl tI rfl rfl ?_) | refine cdN rfl tI (fun hc => ?_) (fun hc => ?_) | refine skW ?_ | refine rtW ?_)
   · refine ⟨.inr rfl, Ent.of ?_⟩
     rw [show ratCmp a b = (0, 1) from by unfold ratCmp; rw [e]; rfl]; rfl
   · exfalso; revert hc; cases ha : ratOk a <;> cases hb : ratOk b <;> simp_all
def durOk (r : Rat) : Bool := ratOk r && decide (0 ≤ r.n) && (Int.tmod 1680 r.d == 0)
theorem isDuration_spec (r : Rat) : PCall Tryz.prog 182 [.agg (encR r)] (.b (durOk r)) := by
 have v := rvalid_spec r
 have hd : ratOk r = true → r.d ≠ 0 := fun h => by have := ratOk_iff.1 h; omega
 refine PCall.body Tryz.func182 rfl rfl Tryz.ntmps182 rfl rfl ?_
 repeat' (first | refine aoQ rfl rfl rfl (fun hg => by first | exact std0 | exact pcW (v) rfl rfl nd rfl nds | exact std1) (by exact rfl) ?_ | refine sqW ?_ | refine rgK (fun K' hK => ?_) | (refine aoN (hK _ _ ?_); clear hK K') | refine aoE (bxW rfl rfl rfl rfl rfl tI rfl rfl ?_) | refine rtW ?_)
 exact ⟨.inr rfl, Ent.b rfl⟩
theorem less_spec (a b : Rat) : PCall Tryz.prog 183 [.agg (encR a), .agg (encR b)] (.b (decide ((ratCmp a b).1 < 0))) := by
 have v := compare_spec a b
 refine PCall.body Tryz.func183 rfl rfl Tryz.ntmps183 rfl rfl ?_
 repeat' (first | refine aoQ rfl rfl rfl (fun hg => by first | exact std0 | exact pcW (v) rfl rfl nd rfl nds | exact std1) (by exact rfl) ?_ | refine sqW ?_ | refine rgK (fun K' hK => ?_) | (refine aoN (hK _ _ ?_); clear hK K') | refine aoE (bxW rfl rfl rfl rfl rfl tI rfl rfl ?_) | refine rtW ?_)
 exact ⟨.inr rfl, Ent.b rfl⟩
structure Pitch where
 step : Int
 alter : Int
 oct : Int
 deriving DecidableEq, Inhabited
def encPi (p : Pitch) : List AV := [.int p.step, .int p.alter, .int p.oct]
theorem pwithin_spec (a b c : Int) : PCall Tryz.prog 229 [.int a, .int b, .int c] (.b (inB a b c)) := by
 refine PCall.body Tryz.func229 rfl rfl Tryz.ntmps229 rfl rfl ?_
 repeat' (first | refine aoQ rfl rfl rfl (fun hg => by exact std0) (by exact rfl) ?_ | refine sqW ?_ | refine rgK (fun K' hK => ?_) | (refine aoN (hK _ _ ?_); clear hK K') | refine rtW ?_)
 exact ⟨.inr rfl, Ent.b rfl⟩
def pitchOk (p : Pitch) : Bool := inB p.step 0 6 && inB p.alter (-4) 4 && inB p.oct (-8) 20
theorem pvalid_spec (p : Pitch) : PCall Tryz.prog 211 [.agg (encPi p)] (.b (pitchOk p)) := by
 refine PCall.body Tryz.func211 rfl rfl Tryz.ntmps211 rfl rfl ?_
 repeat' (first | refine aoQ rfl rfl rfl (fun hg => by first | exact std0 | exact pcW (pwithin_spec _ _ _) rfl rfl nd rfl nds | exact std1) (by exact rfl) ?_ | refine sqW ?_ | refine rgK (fun K' hK => ?_) | (refine aoN (hK _ _ ?_); clear hK K') | refine aoE (bxW rfl rfl rfl rfl rfl tI rfl rfl ?_) | refine rtW ?_)
 exact ⟨.inr rfl, Ent.b rfl⟩
def nat7 : List Int := [0, 2, 4, 5, 7, 9, 11]
def pitchNum (p : Pitch) : Int := 12 * p.oct + nat7.getD p.step.toNat 0 + p.alter
theorem nat7_in (n : Nat) : 0 ≤ nat7.getD n 0 ∧ nat7.getD n 0 ≤ 11 := by
 match n with
 | 0 | 1 | 2 | 3 | 4 | 5 | 6 => decide
 | n + 7 => simp [nat7]
theorem pitchOk_iff {p : Pitch} : pitchOk p = true ↔ (0 ≤ p.step ∧ p.step ≤ 6) ∧ (-4 ≤ p.alter ∧ p.alter ≤ 4) ∧ -8 ≤ p.oct ∧ p.oct ≤ 20 := by
 simp [pitchOk, inB, and_assoc]
theorem pnumber_spec (p : Pitch) (h : pitchOk p = true) : PCall Tryz.prog 230 [.agg (encPi p)] (.int (pitchNum p)) := by
 have h1 := pitchOk_iff.1 h
 have h2 := nat7_in p.step.toNat
 have hl : (nat7.length : Int) = 7 := rfl
 have hix : 0 ≤ p.step ∧ p.step < nat7.length := ⟨by omega, by omega⟩
 refine PCall.body Tryz.func230 rfl rfl Tryz.ntmps230 rfl rfl ?_
 repeat' (first | refine aoQ rfl rfl rfl (fun hg => by exact std0) (by exact rfl) ?_ | refine sqW ?_ | refine rgK (fun K' hK => ?_) | (refine aoN (hK _ _ ?_); clear hK K') | refine aoE (bxW rfl rfl rfl rfl rfl tI rfl rfl ?_) | refine rtW ?_ | refine dK2 (by decide +kernel) (by kernel_rfl) (by decide +kernel) rfl (fun K' hK => ?_) | (refine aqN (hK _ ?_); clear hK K') | refine aqQ rfl rfl (fun hg => by first | exact std0 | exact PRun.indexInts nat7 tabOk rfl rfl nd rfl nd rfl rfl rfl hix | exact std1) (by exact rfl) ?_)
 exact ⟨.inr rfl, Ent.int rfl⟩
def numR2 (p : Pitch) : Int × Int := if pitchOk p then (pitchNum p, 0) else (0, 1)
theorem pNumber_spec (p : Pitch) : PCall Tryz.prog 217 [.agg (encPi p)] (.tup [.int (numR2 p).1, .int (numR2 p).2]) := by
 have v := pvalid_spec p
 refine PCall.body Tryz.func217 rfl rfl Tryz.ntmps217 rfl rfl ?_
 by_cases h : pitchOk p = true
 · have w := pnumber_spec p h
   repeat' (first | refine aoQ rfl rfl rfl (fun hg => by first | exact std0 | exact pcW (v) rfl rfl nd rfl nds | exact pcW (w) rfl rfl nd rfl nds | exact std1) (by exact rfl) ?_ | refine sqW ?_ | refine rgK (fun K' hK => ?_) | (refine aoN (hK _ _ ?_); clear hK K') | refine aoE (bxW rfl rfl rfl rfl rfl tI rfl rfl ?_) | refine cdN rfl tI (fun hc => ?_) (fun hc => ?_) | refine skW ?_ | refine rtW ?_)
   · exfalso; simp [h] at hc
   · refine ⟨.inr rfl, Ent.of ?_⟩
     rw [show numR2 p = (pitchNum p, 0) from by unfold numR2; rw [if_pos h]]; rfl
 · repeat' (first | refine aoQ rfl rfl rfl (fun hg => by first | exact std0 | exact pcW (v) rfl rfl nd rfl nds | exact std1) (by exact rfl) ?_ | refine sqW ?_ | refine rgK (fun K' hK => ?_) | (refine aoN (hK _ _ ?_); clear hK K') | refine aoE (bxW rfl rfl rfl rfl rfl tI rfl rfl ?_) | refine cdN rfl tI (fun hc => ?_) (fun hc => ?_) | refine skW ?_ | refine rtW ?_)
   · refine ⟨.inr rfl, Ent.of ?_⟩
     rw [show numR2 p = (0, 1) from by unfold numR2; rw [if_neg h]]; rfl
   · exfalso; simp [h] at hc
structure Interval where
 steps : Int
 semi : Int
 deriving DecidableEq, Inhabited
def encI (i : Interval) : List AV := [.int i.steps, .int i.semi]
def intervalOk (i : Interval) : Bool := inB i.steps (-70) 70 && inB i.semi (-120) 120
theorem pformed_spec (i : Interval) : PCall Tryz.prog 253 [.agg (encI i)] (.b (intervalOk i)) := by
 refine PCall.body Tryz.func253 rfl rfl Tryz.ntmps253 rfl rfl ?_
 repeat' (first | refine aoQ rfl rfl rfl (fun hg => by first | exact std0 | exact pcW (pwithin_spec _ _ _) rfl rfl nd rfl nds | exact std1) (by exact rfl) ?_ | refine sqW ?_ | refine rgK (fun K' hK => ?_) | (refine aoN (hK _ _ ?_); clear hK K') | refine aoE (bxW rfl rfl rfl rfl rfl tI rfl rfl ?_) | refine rtW ?_)
 exact ⟨.inr rfl, Ent.b rfl⟩
def backR (i : Interval) : Interval × Int := if intervalOk i then (⟨-i.steps, -i.semi⟩, 0) else (⟨0, 0⟩, 1)
theorem intervalOk_iff {i : Interval} : intervalOk i = true ↔ (-70 ≤ i.steps ∧ i.steps ≤ 70) ∧ -120 ≤ i.semi ∧ i.semi ≤ 120 := by simp [intervalOk, inB, and_assoc]
theorem back_spec (i : Interval) : PCall Tryz.prog 247 [.agg (encI i)] (.tup [.agg (encI (backR i).1), .int (backR i).2]) := by
 have v := pformed_spec i
 refine PCall.bodyS tabOk Tryz.func247 rfl rfl Tryz.ntmps247 rfl ?_
 by_cases h : intervalOk i = true
 · have h1 := intervalOk_iff.1 h
   repeat' (first | refine aoQ rfl rfl rfl (fun hg => by first | exact std0 | exact pcW (v) rfl rfl nd rfl nds | exact pbD tabOk rfl rfl nds | exact std1) (by exact rfl) ?_ | refine sqW ?_ | refine rgK (fun K' hK => ?_) | (refine aoN (hK _ _ ?_); clear hK K') | refine aoE (bxW rfl rfl rfl rfl rfl tI rfl rfl ?_) | refine aoE (stW tabOk rfl rfl rfl tI rfl rfl tI rfl rfl rfl rfl rfl rfl rfl ?_) | refine aoE (alW tabOk rfl rfl rfl rfl rfl rfl ?_) | refine cdN rfl tI (fun hc => ?_) (fun hc => ?_) | refine skW ?_ | refine rtW ?_)
   · exfalso; simp [h] at hc
   · refine ⟨.inr rfl, _, rfl, Ent.of ?_⟩
     rw [show backR i = (⟨-i.steps, -i.semi⟩, 0) from by unfold backR; rw [if_pos h]]; rfl
 · repeat' (first | refine aoQ rfl rfl rfl (fun hg => by first | exact std0 | exact pcW (v) rfl rfl nd rfl nds | exact pbD tabOk rfl rfl nds | exact std1) (by exact rfl) ?_ | refine sqW ?_ | refine rgK (fun K' hK => ?_) | (refine aoN (hK _ _ ?_); clear hK K') | refine aoE (bxW rfl rfl rfl rfl rfl tI rfl rfl ?_) | refine aoE (stW tabOk rfl rfl rfl tI rfl rfl tI rfl rfl rfl rfl rfl rfl rfl ?_) | refine aoE (alW tabOk rfl rfl rfl rfl rfl rfl ?_) | refine cdN rfl tI (fun hc => ?_) (fun hc => ?_) | refine skW ?_ | refine rtW ?_)
   · refine ⟨.inr rfl, _, rfl, Ent.of ?_⟩
     rw [show backR i = (⟨0, 0⟩, 1) from by unfold backR; rw [if_neg h]]; rfl
   all_goals (exfalso; simp [h] at hc)
theorem isInterval_spec (i : Interval) : PCall Tryz.prog 235 [.agg (encI i)] (.b (intervalOk i)) := by
 have v := back_spec i
 refine PCall.body Tryz.func235 rfl rfl Tryz.ntmps235 rfl rfl ?_
 repeat' (first | refine aoQ rfl rfl rfl (fun hg => by first | exact std0 | exact pcW (v) rfl rfl nd rfl nds | exact std1) (by exact rfl) ?_ | refine sqW ?_ | refine rgK (fun K' hK => ?_) | (refine aoN (hK _ _ ?_); clear hK K') | refine aoE (bxW rfl rfl rfl rfl rfl tI rfl rfl ?_) | refine aoE (stW tabOk rfl rfl rfl tI rfl rfl tI rfl rfl rfl rfl rfl rfl rfl ?_) | refine aoE (alW tabOk rfl rfl rfl rfl rfl rfl ?_) | refine rtW ?_)
 refine ⟨.inr rfl, Ent.b ?_⟩
 unfold backR
 cases h : intervalOk i <;> rfl
def fifthsR (i : Interval) : Int × Int := if intervalOk i then (7 * i.semi - 12 * i.steps, 0) else (0, 1)
theorem fifths_spec (i : Interval) : PCall Tryz.prog 228 [.agg (encI i)] (.tup [.int (fifthsR i).1, .int (fifthsR i).2]) := by
 have v := isInterval_spec i
 refine PCall.body Tryz.func228 rfl rfl Tryz.ntmps228 rfl rfl ?_
 by_cases h : intervalOk i = true
 · have h1 := intervalOk_iff.1 h
   repeat' (first | refine aoQ rfl rfl rfl (fun hg => by first | exact std0 | exact pcW (v) rfl rfl nd rfl nds | exact std1) (by exact rfl) ?_ | refine sqW ?_ | refine rgK (fun K' hK => ?_) | (refine aoN (hK _ _ ?_); clear hK K') | refine aoE (bxW rfl rfl rfl rfl rfl tI rfl rfl ?_) | refine cdN rfl tI (fun hc => ?_) (fun hc => ?_) | refine skW ?_ | refine rtW ?_)
   · exfalso; simp [h] at hc
   · refine ⟨.inr rfl, Ent.of ?_⟩
     rw [show fifthsR i = (7 * i.semi - 12 * i.steps, 0) from by unfold fifthsR; rw [if_pos h]]; rfl
 · repeat' (first | refine aoQ rfl rfl rfl (fun hg => by first | exact std0 | exact pcW (v) rfl rfl nd rfl nds | exact std1) (by exact rfl) ?_ | refine sqW ?_ | refine rgK (fun K' hK => ?_) | (refine aoN (hK _ _ ?_); clear hK K') | refine aoE (bxW rfl rfl rfl rfl rfl tI rfl rfl ?_) | refine cdN rfl tI (fun hc => ?_) (fun hc => ?_) | refine skW ?_ | refine rtW ?_)
   · refine ⟨.inr rfl, Ent.of ?_⟩
     rw [show fifthsR i = (0, 1) from by unfold fifthsR; rw [if_neg h]]; rfl
   all_goals (exfalso; simp [h] at hc)
structure Bar where
 id : Int
 len : Rat
 key : Int
 deriving DecidableEq, Inhabited
def encB (b : Bar) : List AV := [.int b.id, .int b.len.n, .int b.len.d, .int b.key]
structure Note where
 id : Int
 part : Int
 bar : Int
 voice : Int
 ossia : Int
 start : Rat
 len : Rat
 pitch : Pitch
 deriving DecidableEq, Inhabited
def encN (n : Note) : List AV := [.int n.id, .int n.part, .int n.bar, .int n.voice, .int n.ossia, .int n.start.n, .int n.start.d, .int n.len.n, .int n.len.d, .int n.pitch.step, .int n.pitch.alter, .int n.pitch.oct]
abbrev ekI (n : Int) : Value := .int .i64 n
def barA (b : Bar) : Bool := decide (b.id < 1) || decide (b.id > 1000000)
def barC (b : Bar) : Bool := !durOk b.len || b.len.n == 0 || decide ((ratCmp ⟨24, 1⟩ b.len).1 < 0)
def barOk (b : Bar) : Bool := !(barA b || decide (b.key < -7) || decide (b.key > 7)) && !barC b
def barsOk (l : List Bar) : Bool := l.all barOk && decide ((l.map (·.id)).Nodup) && decide (1 ≤ l.length) && decide (l.length ≤ 4000)
def seenAL {α : Type} (f : α → Int) (l : List α) : List (Int × Bool) := l.map fun b => (f b, true)
theorem lk_seen {α : Type} (f : α → Int) (l : List α) (k : Int) : (lk (seenAL f l) k).getD false = decide (k ∈ l.map f) := by
 induction l with
 | nil => simp [seenAL, lk]
 | cons x r ih =>
   simp only [seenAL, zBt, lk] at *
   by_cases h : f x = k
   · simp [h]
   · rw [if_neg h, ih]
     have : ¬ k = f x := fun e => h e.symm
     simp [this]
theorem ins_new {κ α : Type} [DecidableEq κ] (al : List (κ × α)) (k : κ) (v : α) (h : k ∉ al.map (·.1)) : ins al k v = al ++ [(k, v)] := by
 induction al with
 | nil => rfl
 | cons p r ih =>
   obtain ⟨k', v'⟩ := p
   simp only [zBt, zB3, not_or] at h
   simp only [ins, if_neg (Ne.symm h.1), ih h.2, zD7]
theorem seen_keys {α : Type} (f : α → Int) (l : List α) : (seenAL f l).map (·.1) = l.map f := by simp [seenAL]
theorem seen_succ {α : Type} [Inhabited α] (f : α → Int) (l : List α) (k : Nat) (hk : k < l.length) (h : f (l.getD k default) ∉ (l.take k).map f) : ins (seenAL f (l.take k)) (f (l.getD k default)) true = seenAL f (l.take (k + 1)) := by
 rw [ins_new _ _ _ (by rw [seen_keys]; exact h)]
 rw [zCk hk, getD_lt hk]
 simp only [seenAL, zC2, zBt, List.map_nil]
theorem nodup_succ {α : Type} [Inhabited α] (f : α → Int) (l : List α) (k : Nat) (hk : k < l.length) : ((l.take (k + 1)).map f).Nodup ↔ ((l.take k).map f).Nodup ∧ f (l.getD k default) ∉ (l.take k).map f := by
 rw [zCk hk, getD_lt hk, zC2, zCc]
 simp only [zBt, List.map_nil, List.nodup_cons, zCs, not_false_eq_true, List.nodup_nil, and_true, zAf, true_and]
 constructor
 · rintro ⟨h1, h2⟩
   exact ⟨h1, fun hm => h2 _ hm _ rfl rfl⟩
 · rintro ⟨h1, h2⟩
   exact ⟨h1, fun a ha b hb e => h2 (by rw [← hb, ← e]; exact ha)⟩
theorem not_nodup {α : Type} [Inhabited α] (f : α → Int) (l : List α) (k : Nat) (hk : k < l.length) (h : f (l.getD k default) ∈ (l.take k).map f) : ¬ (l.map f).Nodup := fun hn => by
 have h1 : ((l.take (k + 1)).map f).Nodup := by
  rw [← zD2 (k + 1) l, zC2] at hn
  exact (zCc.1 hn).1
 exact ((nodup_succ f l k hk).1 h1).2 h
theorem barsOk_bad {l : List Bar} {k : Nat} (hk : k < l.length) (h : barOk (l.getD k default) = false) : barsOk l = false := by
 unfold barsOk; rw [all_no hk h]; rfl
theorem barsOk_dup {l : List Bar} {k : Nat} (hk : k < l.length) (h : (l.getD k default).id ∈ (l.take k).map (·.id)) : barsOk l = false := by
 unfold barsOk; rw [decide_eq_false (not_nodup (fun b : Bar => b.id) l k hk h)]; simp
theorem mvalid_spec (l : List Bar) (hl : l.length ≤ 9223372036854775807) : PCall Tryz.prog 144 [.sl 4 (l.map encB) .no] (.b (barsOk l)) := by
 refine PCall.body Tryz.func144 rfl rfl Tryz.ntmps144 rfl rfl ?_
 repeat' (first | refine aoQ rfl rfl rfl (fun hg => by first | exact std0 | exact std1) (by exact rfl) ?_ | refine sqW ?_ | refine rgK (fun K' hK => ?_) | (refine aoN (hK _ _ ?_); clear hK K') | refine aoE (EStep.makeMapW rfl rfl rfl rfl ?_) | refine blK ?_)
 refine lpD (ι := Nat) (fun k => [(0, .sl 4 (l.map encB) .no), (3, .map 0), (7, .sl 4 (l.map encB) .no), (8, .int l.length), (9, .int k)]) (fun k => [.map (encM ekI AV.b (seenAL (·.id) (l.take k)))])
  (fun k => k ≤ l.length ∧ (∀ j, j < k → barOk (l.getD j default) = true) ∧ ((l.take k).map (·.id)).Nodup) (fun k => l.length - k) 1 (fun _ => rfl) 0 ⟨nZl _, fun j h => absurd h (by omega), by simp⟩ ⟨rfl, rfl, rfl, rfl, rfl, tI⟩ rfl (fun _ _ => rfl) (fun k _ => by simp [okObj, encM, okRef]) ?_
 rintro k ⟨hk, hall, hnd⟩
 by_cases hlt : k < l.length
 · have hs := lk_seen (fun b : Bar => b.id) (l.take k) (l.getD k default).id
   repeat' (first | refine aoQ rfl rfl rfl (fun hg => by first | exact std0 | exact PRun.lookup (ek := ekI) (ev := AV.b) (zv := false) (keyLaw_int (LOk.of (tabOk.get rfl))) (LOk.of (tabOk.get rfl)) (LOk.of (tabOk.get rfl)) rfl rfl (Rd.w rfl nd) (Or.inr ⟨_, rfl, rfl⟩) (Rd.w rfl nd) rfl | exact pcW (isDuration_spec _) rfl rfl nd rfl nds | exact pcW (less_spec ⟨24, 1⟩ _) rfl rfl nd rfl nds | exact pbD tabOk rfl rfl nds | exact std1) (by exact rfl) ?_ | refine sqW ?_ | refine rgK (fun K' hK => ?_) | (refine aoN (hK _ _ ?_); clear hK K') | refine aoE (stW tabOk rfl rfl rfl tI rfl rfl tI rfl rfl rfl rfl rfl rfl rfl ?_) | refine aoE (alW tabOk rfl rfl rfl rfl rfl rfl ?_) | refine aoE (EStep.mapUpd (ek := ekI) (ev := AV.b) (v := true) (keyLaw_int (LOk.of (tabOk.get rfl))) (LOk.of (tabOk.get rfl)) rfl rfl rfl (Rd.w rfl tI) rfl (Rd.w rfl tI) rfl (Rd.w rfl tI) ?_) | refine cdN rfl tI (fun hc => ?_) (fun hc => ?_) | refine blK ?_ | refine exW ?_ | refine skW ?_ | refine rtW ?_)
   · refine ⟨.inr rfl, Ent.b (Eq.symm ?_)⟩
     rw [zAa] at hc
     rw [hs] at hc
     by_cases hm : (l.getD k default).id ∈ (l.take k).map (fun b => b.id)
     · exact barsOk_dup hlt hm
     · refine barsOk_bad hlt ?_
       rw [decide_eq_false hm, Bool.or_false] at hc
       unfold barOk barA; rw [hc]; rfl
   · refine ⟨.inr rfl, Ent.b (Eq.symm ?_)⟩
     rw [zAa] at hc
     refine barsOk_bad hlt ?_
     unfold barOk barC; rw [hc]; simp
   · rename_i hc0
     rw [zAa] at hc hc0
     rw [hs] at hc0
     simp only [zAk] at hc0
     have hm : (l.getD k default).id ∉ (l.take k).map (fun b => b.id) := of_decide_eq_false hc0.1.1.2
     refine ⟨k + 1, ⟨by omega, fun j hj => ?_, (nodup_succ _ l k hlt).2 ⟨hnd, hm⟩⟩, by omega, ⟨rfl, rfl, rfl, rfl, rfl, tI⟩, ?_⟩
     · refine lt_succ_cases hall ?_ hj
       unfold barOk barC
       rw [hc]
       unfold barA
       rw [hc0.1.1.1.1, hc0.1.1.1.2, hc0.1.2, hc0.2]; rfl
     · rw [← seen_succ _ l k hlt hm]; rfl
   · exfalso; omega
 · repeat' (first | refine aoQ rfl rfl rfl (fun hg => by first | exact std0 | exact std1) (by exact rfl) ?_ | refine sqW ?_ | refine rgK (fun K' hK => ?_) | (refine aoN (hK _ _ ?_); clear hK K') | refine aoE (stW tabOk rfl rfl rfl tI rfl rfl tI rfl rfl rfl rfl rfl rfl rfl ?_) | refine aoE (alW tabOk rfl rfl rfl rfl rfl rfl ?_) | refine cdN rfl tI (fun hc => ?_) (fun hc => ?_) | refine blK ?_ | refine exW ?_ | refine skW ?_ | refine rtW ?_)
   · exfalso; omega
   · refine ⟨.inr rfl, Ent.b ?_⟩
     have htk : l.take k = l := zAi (by omega)
     rw [htk] at hnd
     unfold barsOk
     rw [all_yes fun j hj => hall j (by omega), decide_eq_true hnd]
     rw [zAl]; simp; omega
def ticksV (r : Rat) : Int := r.n * Int.tdiv 1680 r.d
theorem durOk_iff {r : Rat} : durOk r = true ↔ ratOk r = true ∧ 0 ≤ r.n ∧ Int.tmod 1680 r.d = 0 := by simp [durOk, and_assoc]
theorem tdiv1680 {r : Rat} (h : ratOk r = true) : 0 ≤ Int.tdiv 1680 r.d ∧ Int.tdiv 1680 r.d ≤ 1680 := by
 have := ratOk_iff.1 h
 have h1 := tdiv_le 1680 r.d
 have h2 := Int.tdiv_nonneg (a := 1680) (b := r.d) (by omega) (by omega)
 omega
def ticksR (r : Rat) : Int × Bool := if durOk r then (ticksV r, true) else (0, false)
theorem ticks_spec (r : Rat) : PCall Tryz.prog 213 [.agg (encR r)] (.tup [.int (ticksR r).1, .b (ticksR r).2]) := by
 have v := rvalid_spec r
 have hd : ratOk r = true → r.d ≠ 0 := fun h => by have := ratOk_iff.1 h; omega
 refine PCall.body Tryz.func213 rfl rfl Tryz.ntmps213 rfl rfl ?_
 by_cases h : durOk r = true
 · have h1 := durOk_iff.1 h
   have h2 := ratOk_iff.1 h1.1
   have h3 := tdiv1680 h1.1
   have h4 := mul_in (x := r.n) (y := Int.tdiv 1680 r.d) (A := 1000000000) (B := 1680) (by omega) h3
   repeat' (first | refine aoQ rfl rfl rfl (fun hg => by first | exact std0 | exact pcW (v) rfl rfl nd rfl nds | exact std1) (by exact rfl) ?_ | refine sqW ?_ | refine rgK (fun K' hK => ?_) | (refine aoN (hK _ _ ?_); clear hK K') | refine aoE (bxW rfl rfl rfl rfl rfl tI rfl rfl ?_) | refine cdN rfl tI (fun hc => ?_) (fun hc => ?_) | refine skW ?_ | refine rtW ?_ | refine dK2 (by decide +kernel) (by kernel_rfl) (by decide +kernel) rfl (fun K' hK => ?_) | (refine aqN (hK _ ?_); clear hK K') | refine aqQ rfl rfl (fun hg => by exact std0) (by exact rfl) ?_)
   · exfalso; revert hc; rw [h1.1]; simp; omega
   · refine ⟨.inr rfl, Ent.of ?_⟩
     rw [show ticksR r = (ticksV r, true) from by unfold ticksR; rw [if_pos h]]; rfl
 · repeat' (first | refine aoQ rfl rfl rfl (fun hg => by first | exact std0 | exact pcW (v) rfl rfl nd rfl nds | exact std1) (by exact rfl) ?_ | refine sqW ?_ | refine rgK (fun K' hK => ?_) | (refine aoN (hK _ _ ?_); clear hK K') | refine aoE (bxW rfl rfl rfl rfl rfl tI rfl rfl ?_) | refine cdN rfl tI (fun hc => ?_) (fun hc => ?_) | refine skW ?_ | refine rtW ?_)
   · refine ⟨.inr rfl, Ent.of ?_⟩
     rw [show ticksR r = (0, false) from by unfold ticksR; rw [if_neg h]]; rfl
   · exfalso
     apply h
     rw [durOk_iff]
     simp only [zAk, zB7, dEf, bne_eq_false_iff_eq] at hc
     exact ⟨hc.1.1, by omega, hc.2⟩
theorem nwithin_spec (a b c : Int) : PCall Tryz.prog 215 [.int a, .int b, .int c] (.b (inB a b c)) := by
 refine PCall.body Tryz.func215 rfl rfl Tryz.ntmps215 rfl rfl ?_
 repeat' (first | refine aoQ rfl rfl rfl (fun hg => by exact std0) (by exact rfl) ?_ | refine sqW ?_ | refine rgK (fun K' hK => ?_) | (refine aoN (hK _ _ ?_); clear hK K') | refine rtW ?_)
 exact ⟨.inr rfl, Ent.b rfl⟩
theorem nisID_spec (a : Int) : PCall Tryz.prog 214 [.int a] (.b (inB a 1 1000000)) := by
 refine PCall.body Tryz.func214 rfl rfl Tryz.ntmps214 rfl rfl ?_
 repeat' (first | refine aoQ rfl rfl rfl (fun hg => by first | exact std0 | exact pcW (nwithin_spec _ _ _) rfl rfl nd rfl nds | exact std1) (by exact rfl) ?_ | refine sqW ?_ | refine rgK (fun K' hK => ?_) | (refine aoN (hK _ _ ?_); clear hK K') | refine rtW ?_)
 exact ⟨.inr rfl, Ent.b rfl⟩
def noteP (p : Pitch) : Bool := pitchOk p && inB p.alter (-2) 2 && inB p.oct 0 9
theorem isNote_spec (p : Pitch) : PCall Tryz.prog 216 [.agg (encPi p)] (.b (noteP p)) := by
 refine PCall.body Tryz.func216 rfl rfl Tryz.ntmps216 rfl rfl ?_
 repeat' (first | refine aoQ rfl rfl rfl (fun hg => by first | exact std0 | exact pcW (pvalid_spec p) rfl rfl nd rfl nds | exact pcW (nwithin_spec _ _ _) rfl rfl nd rfl nds | exact std1) (by exact rfl) ?_ | refine sqW ?_ | refine rgK (fun K' hK => ?_) | (refine aoN (hK _ _ ?_); clear hK K') | refine aoE (bxW rfl rfl rfl rfl rfl tI rfl rfl ?_) | refine rtW ?_)
 exact ⟨.inr rfl, Ent.b rfl⟩
def fits (b : Bar) (n : Note) : Bool := (ticksR n.start).2 && (ticksR n.len).2 && decide ((ticksR n.len).1 > 0) && decide ((ticksR n.start).1 + (ticksR n.len).1 ≤ (ticksR b.len).1)
def noteForm (n : Note) : Bool := inB n.id 1 1000000 && inB n.part 1 1000000 && inB n.voice 0 9 && inB n.ossia 0 20 && noteP n.pitch
def nformed (b : Bar) (n : Note) : Bool := fits b n && noteForm n
theorem ticksR_in (r : Rat) : 0 ≤ (ticksR r).1 ∧ (ticksR r).1 ≤ 1680000000000 := by
 unfold ticksR
 split
 · rename_i h
   have h1 := durOk_iff.1 h
   have h2 := ratOk_iff.1 h1.1
   have h3 := tdiv1680 h1.1
   have h4 := mul_in (x := r.n) (y := Int.tdiv 1680 r.d) (A := 1000000000) (B := 1680) (by omega) h3
   exact ⟨Int.mul_nonneg h1.2.1 h3.1, by show ticksV r ≤ _; unfold ticksV; omega⟩
 · exact ⟨by decide, by decide⟩
theorem nformed_spec (b : Bar) (n : Note) : PCall Tryz.prog 188 [.agg (encB b), .agg (encN n)] (.b (nformed b n)) := by
 have q1 := ticksR_in n.start
 have q2 := ticksR_in n.len
 refine PCall.body Tryz.func188 rfl rfl Tryz.ntmps188 rfl rfl ?_
 repeat' (first | refine aoQ rfl rfl rfl (fun hg => by first | exact std0 | exact pcW (ticks_spec n.start) rfl rfl nd rfl nds | exact pcW (ticks_spec n.len) rfl rfl nd rfl nds | exact pcW (ticks_spec b.len) rfl rfl nd rfl nds | exact pcW (nisID_spec _) rfl rfl nd rfl nds | exact pcW (nwithin_spec _ _ _) rfl rfl nd rfl nds | exact pcW (isNote_spec n.pitch) rfl rfl nd rfl nds | exact std1) (by exact rfl) ?_ | refine sqW ?_ | refine rgK (fun K' hK => ?_) | (refine aoN (hK _ _ ?_); clear hK K') | refine aoE (bxW rfl rfl rfl rfl rfl tI rfl rfl ?_) | refine rtW ?_)
 refine ⟨.inr rfl, Ent.b ?_⟩
 unfold nformed fits noteForm
 simp only [Bool.and_assoc]
def idxAL (l : List Bar) : List (Int × Int) := (List.range l.length).foldl (fun al i => ins al (l.getD i default).id i) []
def idxALk (l : List Bar) (k : Nat) : List (Int × Int) := (List.range k).foldl (fun al i => ins al (l.getD i default).id i) []
theorem idxAL_succ (l : List Bar) (k : Nat) : idxALk l (k + 1) = ins (idxALk l k) (l.getD k default).id k := by
 unfold idxALk; rw [List.range_succ, zD6]; rfl
theorem indexes_spec (l : List Bar) (hl : l.length ≤ 9223372036854775807) : PCall Tryz.prog 187 [.sl 4 (l.map encB) .no] (.imap (encM ekI AV.int (idxAL l))) := by
 refine PCall.body Tryz.func187 rfl rfl Tryz.ntmps187 rfl rfl ?_
 repeat' (first | refine aoQ rfl rfl rfl (fun hg => by first | exact std0 | exact std1) (by exact rfl) ?_ | refine sqW ?_ | refine rgK (fun K' hK => ?_) | (refine aoN (hK _ _ ?_); clear hK K') | refine aoE (EStep.makeMapW rfl rfl rfl rfl ?_) | refine blK ?_)
 refine lpD (ι := Nat) (fun k => [(3, .map 0), (7, .sl 4 (l.map encB) .no), (8, .int l.length), (9, .int k)]) (fun k => [.map (encM ekI AV.int (idxALk l k))])
  (fun k => k ≤ l.length) (fun k => l.length - k) 1 (fun _ => rfl) 0 (nZl _) ⟨rfl, rfl, rfl, rfl, tI⟩ rfl (fun _ _ => rfl) (fun k _ => by simp [okObj, encM, okRef]) ?_
 intro k hk
 by_cases hlt : k < l.length
 · repeat' (first | refine aoQ rfl rfl rfl (fun hg => by first | exact std0 | exact std1) (by exact rfl) ?_ | refine sqW ?_ | refine rgK (fun K' hK => ?_) | (refine aoN (hK _ _ ?_); clear hK K') | refine aoE (stW tabOk rfl rfl rfl tI rfl rfl tI rfl rfl rfl rfl rfl rfl rfl ?_) | refine aoE (alW tabOk rfl rfl rfl rfl rfl rfl ?_) | refine aoE (EStep.mapUpd (ek := ekI) (ev := AV.int) (keyLaw_int (LOk.of (tabOk.get rfl))) (LOk.of (tabOk.get rfl)) rfl rfl rfl (Rd.w rfl tI) rfl (Rd.w rfl tI) rfl (Rd.w rfl tI) ?_) | refine cdN rfl tI (fun hc => ?_) (fun hc => ?_) | refine blK ?_ | refine exW ?_ | refine skW ?_ | refine rtW ?_)
   · refine ⟨k + 1, by omega, by omega, ⟨rfl, rfl, rfl, rfl, tI⟩, ?_⟩
     rw [idxAL_succ]; rfl
   · exfalso; omega
 · repeat' (first | refine aoQ rfl rfl rfl (fun hg => by first | exact std0 | exact std1) (by exact rfl) ?_ | refine sqW ?_ | refine rgK (fun K' hK => ?_) | (refine aoN (hK _ _ ?_); clear hK K') | refine aoE (stW tabOk rfl rfl rfl tI rfl rfl tI rfl rfl rfl rfl rfl rfl rfl ?_) | refine aoE (alW tabOk rfl rfl rfl rfl rfl rfl ?_) | refine cdN rfl tI (fun hc => ?_) (fun hc => ?_) | refine blK ?_ | refine exW ?_ | refine skW ?_)
   · exfalso; omega
   · refine AWP.freezeMap (ek := ekI) (ev := AV.int) (l := 0) rfl pureE_int ?_
     refine rtW ⟨.inr rfl, ?_⟩
     rw [show k = l.length by omega]
     exact fun _ _ h => h
def noteOk (bars : List Bar) (n : Note) : Bool := match lk (idxAL bars) n.bar with
 | some i => nformed (bars.getD i.toNat default) n
 | none => false
def notesOk (bars : List Bar) (l : List Note) : Bool := barsOk bars && decide ((l.length : Int) ≤ 20000) && l.all (noteOk bars) && decide ((l.map (·.id)).Nodup)
theorem idxAL_eq (l : List Bar) : idxAL l = idxALk l l.length := rfl
theorem lk_ins' {κ α : Type} [DecidableEq κ] (al : List (κ × α)) (k k' : κ) (v : α) : lk (ins al k v) k' = if k = k' then some v else lk al k' := by
 induction al with
 | nil => simp [ins, lk]
 | cons p r ih =>
   obtain ⟨k2, v2⟩ := p
   simp only [ins]
   by_cases h : k2 = k
   · subst h
     rw [if_pos rfl]
     by_cases h3 : k2 = k' <;> simp [lk, h3]
   · rw [if_neg h]
     by_cases h3 : k2 = k'
     · subst h3
       simp [lk, Ne.symm h]
     · simp [lk, h3, ih]
theorem lk_idx (l : List Bar) (id : Int) : ∀ k i, lk (idxALk l k) id = some i → ∃ j : Nat, i = j ∧ j < k ∧ (l.getD j default).id = id
 | 0, i, h => by simp [idxALk, lk] at h
 | k + 1, i, h => by
   rw [idxAL_succ, lk_ins'] at h
   split at h
   · rename_i e
     simp at h; subst h
     exact ⟨k, rfl, by omega, e⟩
   · obtain ⟨j, h1, h2, h3⟩ := lk_idx l id k i h
     exact ⟨j, h1, by omega, h3⟩
theorem notesOk_bad {bars : List Bar} {l : List Note} {k : Nat} (hk : k < l.length) (h : noteOk bars (l.getD k default) = false) : notesOk bars l = false := by
 unfold notesOk; rw [all_no hk h]; simp
theorem notesOk_dup {bars : List Bar} {l : List Note} {k : Nat} (hk : k < l.length) (h : (l.getD k default).id ∈ (l.take k).map (·.id)) : notesOk bars l = false := by
 unfold notesOk; rw [decide_eq_false (not_nodup (fun b : Note => b.id) l k hk h)]; simp
theorem gsome {s t : Bool} (h : ((!s || t) == false) = true) : s = true := by cases s <;> simp at h ⊢
theorem nvalid_spec (bars : List Bar) (l : List Note) (hb : bars.length ≤ 9223372036854775807) (hl : l.length ≤ 9223372036854775807) :
 PCall Tryz.prog 146 [.sl 4 (bars.map encB) .no, .sl 12 (l.map encN) .no] (.b (notesOk bars l)) := by
 have v := mvalid_spec bars hb
 refine PCall.body Tryz.func146 rfl rfl Tryz.ntmps146 rfl rfl ?_
 repeat' (first | refine aoQ rfl rfl rfl (fun hg => by first | exact std0 | exact pcW (v) rfl rfl nd rfl nds | exact pcW (indexes_spec bars hb) rfl rfl nd rfl nds | exact std1) (by exact rfl) ?_ | refine sqW ?_ | refine rgK (fun K' hK => ?_) | (refine aoN (hK _ _ ?_); clear hK K') | refine aoE (EStep.makeMapW rfl rfl rfl rfl ?_) | refine cdN rfl tI (fun hc => ?_) (fun hc => ?_) | refine blK ?_ | refine skW ?_ | refine rtW ?_)
 · refine ⟨.inr rfl, Ent.b (Eq.symm ?_)⟩
   unfold notesOk
   cases h : barsOk bars with
   | false => simp
   | true =>
     rw [h] at hc; simp at hc
     have : decide ((l.length : Int) ≤ 20000) = false := by simp; omega
     rw [this]; simp
 have h1 : barsOk bars = true ∧ (l.length : Int) ≤ 20000 := by
  simp only [zAk, zB7, dEf] at hc
  exact ⟨hc.1, by omega⟩
 clear hc
 refine lpD (ι := Nat) (fun k => [(0, .sl 4 (bars.map encB) .no), (5, .imap (encM ekI AV.int (idxAL bars))), (6, .map 0), (22, .sl 12 (l.map encN) .no), (23, .int l.length), (24, .int k)]) (fun k => [.map (encM ekI AV.b (seenAL (·.id) (l.take k)))])
  (fun k => k ≤ l.length ∧ (∀ j, j < k → noteOk bars (l.getD j default) = true) ∧ ((l.take k).map (·.id)).Nodup) (fun k => l.length - k) 1 (fun _ => rfl) 0 ⟨nZl _, fun j h => absurd h (by omega), by simp⟩ ⟨rfl, rfl, rfl, rfl, rfl, rfl, tI⟩ rfl (fun _ _ => rfl) (fun k _ => by simp [okObj, encM, okRef]) ?_
 rintro k ⟨hk, hall, hnd⟩
 by_cases hlt : k < l.length
 · have hs := lk_seen (fun b : Note => b.id) (l.take k) (l.getD k default).id
   have hix := lk_idx bars (l.getD k default).bar bars.length
   rw [← idxAL_eq] at hix
   have hix2 : ∀ i, lk (idxAL bars) (l.getD k default).bar = some i → 0 ≤ i ∧ i < bars.length := fun i hi => by
    obtain ⟨j, h1, h2, _⟩ := hix i hi; omega
   have hidx : (lk (idxAL bars) (l.getD k default).bar).isSome = true → 0 ≤ (lk (idxAL bars) (l.getD k default).bar).getD 0 ∧ (lk (idxAL bars) (l.getD k default).bar).getD 0 < bars.length := fun h => by
    cases hL : lk (idxAL bars) (l.getD k default).bar with
    | none => rw [hL] at h; cases h
    | some i => exact hix2 i hL
   have hno : noteOk bars (l.getD k default) = ((lk (idxAL bars) (l.getD k default).bar).isSome && nformed (bars.getD ((lk (idxAL bars) (l.getD k default).bar).getD 0).toNat default) (l.getD k default)) := by
    unfold noteOk
    cases lk (idxAL bars) (l.getD k default).bar <;> simp
   repeat' (first | refine aoQ rfl rfl rfl (fun hg => by first | exact std0 | exact PRun.lookup (ek := ekI) (ev := AV.int) (zv := 0) (keyLaw_int (LOk.of (tabOk.get rfl))) (LOk.of (tabOk.get rfl)) (LOk.of (tabOk.get rfl)) rfl rfl (Rd.w rfl nd) (Or.inl rfl) (Rd.w rfl nd) rfl | exact std1) (by exact rfl) ?_ | refine sqW ?_ | refine rgK (fun K' hK => ?_) | (refine aoN (hK _ _ ?_); clear hK K') | refine aoE (stW tabOk rfl rfl rfl tI rfl rfl tI rfl rfl rfl rfl rfl rfl rfl ?_) | refine aoE (alW tabOk rfl rfl rfl rfl rfl rfl ?_) | refine aoE (EStep.mapUpd (ek := ekI) (ev := AV.b) (v := true) (keyLaw_int (LOk.of (tabOk.get rfl))) (LOk.of (tabOk.get rfl)) rfl rfl rfl (Rd.w rfl tI) rfl (Rd.w rfl tI) rfl (Rd.w rfl tI) ?_) | refine cdN rfl tI (fun hc => ?_) (fun hc => ?_) | refine blK ?_ | refine exW ?_ | refine skW ?_ | refine rtW ?_ | refine dK2 (by decide +kernel) (by kernel_rfl) (by decide +kernel) rfl (fun K' hK => ?_) | (refine aqN (hK _ ?_); clear hK K') | refine aqQ rfl rfl (fun hg => by first | exact std0 | exact PRun.lookup (ek := ekI) (ev := AV.b) (zv := false) (keyLaw_int (LOk.of (tabOk.get rfl))) (LOk.of (tabOk.get rfl)) (LOk.of (tabOk.get rfl)) rfl rfl (Rd.w rfl nd) (Or.inr ⟨_, rfl, rfl⟩) (Rd.w rfl nd) rfl | exact piW tabOk rfl rfl nd rfl nd rfl rfl (hidx (gsome hg)) | exact pcW (nformed_spec (bars.getD ((lk (idxAL bars) (l.getD k default).bar).getD 0).toNat default) (l.getD k default)) rfl rfl nd rfl nds | exact std1) (by exact rfl) ?_)
   · refine ⟨.inr rfl, Ent.b (Eq.symm ?_)⟩
     rw [zAa] at hc
     rw [hs] at hc
     by_cases hm : (l.getD k default).id ∈ (l.take k).map (fun b => b.id)
     · exact notesOk_dup hlt hm
     · refine notesOk_bad hlt ?_
       rw [decide_eq_false hm, Bool.or_false] at hc
       rw [hno]
       revert hc
       cases (lk (idxAL bars) (l.getD k default).bar).isSome <;> simp
   · rw [zAa] at hc
     rw [hs] at hc
     simp only [zAk, zB7] at hc
     have hm : (l.getD k default).id ∉ (l.take k).map (fun b => b.id) := of_decide_eq_false hc.1.2
     refine ⟨k + 1, ⟨by omega, fun j hj => lt_succ_cases hall (by rw [hno, hc.1.1, hc.2]; rfl) hj, (nodup_succ _ l k hlt).2 ⟨hnd, hm⟩⟩, by omega, ⟨rfl, rfl, rfl, rfl, rfl, rfl, tI⟩, ?_⟩
     rw [← seen_succ _ l k hlt hm]; rfl
   · exfalso; omega
 · repeat' (first | refine aoQ rfl rfl rfl (fun hg => by first | exact std0 | exact std1) (by exact rfl) ?_ | refine sqW ?_ | refine rgK (fun K' hK => ?_) | (refine aoN (hK _ _ ?_); clear hK K') | refine aoE (stW tabOk rfl rfl rfl tI rfl rfl tI rfl rfl rfl rfl rfl rfl rfl ?_) | refine aoE (alW tabOk rfl rfl rfl rfl rfl rfl ?_) | refine cdN rfl tI (fun hc => ?_) (fun hc => ?_) | refine blK ?_ | refine exW ?_ | refine skW ?_ | refine rtW ?_)
   · exfalso; omega
   · refine ⟨.inr rfl, Ent.b ?_⟩
     have htk : l.take k = l := zAi (by omega)
     rw [htk] at hnd
     unfold notesOk
     rw [all_yes fun j hj => hall j (by omega), decide_eq_true hnd, h1.1, decide_eq_true h1.2]; rfl
end Go.Proofs.YtdglbdfdkabjfaaGreatDoor
