/- Contracts by content: stands and tablets of the reference; the law's helpers.  Contracts by content: the examples at the head of each law.  SyncCrashes by content: for every tablet, event and byte the function returns true. The row is joined in another text. A result that is told otherwise. No statement is proved here. -/
import Derived.Test.YtbneeinknlddaaaGreatQ6
import Derived.Test.YtbneeinknlddaaaGreatQ7
import Derived.Test.YtbneeinknlddaaaGreatQ15
import Derived.Test.YtbneeinknlddaaaGreatQ19
import Derived.Test.YtbneeinknlddaaaGreatQ22
import Derived.Test.YtbneeinknlddaaaGreatQ24
set_option linter.unusedVariables false
set_option linter.unusedSimpArgs false
namespace Go.Proofs.YtbneeinknlddaaaGreat
open Go.Ab Go.Jo Go.Sy
attribute [local irreducible] AWP AOps EStep AQ PStep PRun PCall TCall VCall DStep TDies AWD DCall
theorem same32_spec (a b : Std) (ha : a.evs.length ≤ 1000000000) (hb : b.evs.length ≤ 1000000000) : PCall Tryz.prog 27 [.agg (encStd a), .agg (encStd b)] (.b (decide (a = b))) := by
 have v := same22_spec a.evs b.evs ha hb
 refine PCall.body Tryz.func27 rfl rfl Tryz.ntmps27 rfl rfl ?_
 repeat' (first | refine aoQ rfl rfl rfl (fun hg => by first | exact std0 | exact pcW (v) rfl rfl nd rfl nds | exact PRun.eqN flR rfl rfl nd rfl nd rfl) (by exact rfl) ?_ | refine sqW ?_ | refine rgK (fun K' hK => ?_) | (refine aoN (hK _ _ ?_); clear hK K') | refine aoE (bxW rfl rfl rfl rfl rfl tI rfl rfl ?_) | refine rtW ?_)
 refine ⟨.inr rfl, Ent.b ?_⟩
 show ((((a.id == b.id && (a.who.part == b.who.part && (a.who.desk == b.who.desk && (a.who.seat == b.who.seat && true)))) && a.ed == b.ed) && a.known == b.known) && (a.evs == b.evs)) = _
 rw [zBm, decide_eq_true_iff]
 obtain ⟨i, ⟨p, d, s⟩, e, k, l⟩ := a
 obtain ⟨i', ⟨p', d', s'⟩, e', k', l'⟩ := b
 simp
 constructor
 · rintro ⟨⟨⟨⟨h1, h2, h3, h4⟩, h5⟩, h6⟩, h7⟩; exact ⟨h1, ⟨h2, h3, h4⟩, h5, h6, h7⟩
 · rintro ⟨h1, ⟨h2, h3, h4⟩, h5, h6, h7⟩; exact ⟨⟨⟨⟨h1, h2, h3, h4⟩, h5⟩, h6⟩, h7⟩
set_option maxHeartbeats 1600000 in
theorem same42_spec (a b : Sy.Tab) (ha : a.s.evs.length ≤ 1000000000) (hb : b.s.evs.length ≤ 1000000000) (hla : a.b.length ≤ 1000000000) (hlb : b.b.length ≤ 1000000000) : PCall Tryz.prog 10 [.agg (encTab a), .agg (encTab b)] (.b (decide (a = b))) := by
 have v := same32_spec a.s b.s ha hb
 refine PCall.body Tryz.func10 rfl rfl Tryz.ntmps10 rfl rfl ?_
 repeat' (first | refine aoQ rfl rfl rfl (fun hg => by first | exact std0 | exact pcW (v) rfl rfl nd rfl nds | exact std1) (by exact rfl) ?_ | refine sqW ?_ | refine rgK (fun K' hK => ?_) | (refine aoN (hK _ _ ?_); clear hK K') | refine aoE (bxW rfl rfl rfl rfl rfl tI rfl rfl ?_) | refine cdN rfl tI (fun hc => ?_) (fun hc => ?_) | refine blK ?_ | refine skW ?_ | refine rtW ?_)
 · refine ⟨.inr rfl, Ent.b (decide_eq_false fun h => ?_).symm⟩
   subst h
   simp at hc
 have hq : (((a.b.length : Int) != (b.b.length : Int) || a.sure != b.sure) || (a.up != b.up) || !decide (a.s = b.s)) = false := hc
 simp only [zAo, bne_eq_false_iff_eq, zAv, dEt] at hq
 obtain ⟨⟨⟨q1, q2⟩, q3⟩, q4⟩ := hq
 have q1 : a.b.length = b.b.length := by omega
 refine lpW (ι := Nat) (fun k => [(2, .ptr 0 0), (3, .ptr 1 0), (5, .int k)]) (fun _ => [.var (encTab a), .var (encTab b)]) (fun k => k ≤ a.b.length ∧ ∀ j, j < k → a.b.getD j default = b.b.getD j default) (fun k => a.b.length - k) 0 ⟨nZl _, fun j h => absurd h (by omega)⟩ ⟨rfl, rfl, rfl, tI⟩ rfl ?_
 rintro k ⟨hk, hall⟩
 by_cases hlt : k < a.b.length
 · repeat' (first | refine aoQ rfl rfl rfl (fun hg => by first | exact std0 | exact std1) (by exact rfl) ?_ | refine sqW ?_ | refine rgK (fun K' hK => ?_) | (refine aoN (hK _ _ ?_); clear hK K') | refine cdN rfl tI (fun hc => ?_) (fun hc => ?_) | refine blK ?_ | refine exW ?_ | refine skW ?_ | refine rtW ?_ | refine dK2 (by decide +kernel) (by kernel_rfl) (by decide +kernel) rfl (fun K' hK => ?_) | (refine aqN (hK _ ?_); clear hK K') | refine aqQ rfl rfl (fun hg => by first | exact std0 | exact std1) (by exact rfl) ?_)
   · refine ⟨.inr rfl, Ent.b (decide_eq_false fun h => ?_).symm⟩
     subst h
     simp at hc
   · refine ⟨k + 1, ⟨by omega, fun j hj => lt_succ_cases hall ?_ hj⟩, by omega, ⟨rfl, rfl, rfl, tI⟩, rfl⟩
     rw [bne_eq_false_iff_eq, zAh] at hc
     exact UInt8.toNat_inj.1 (Int.ofNat_inj.1 hc)
   · exfalso; omega
 · repeat' (first | refine aoQ rfl rfl rfl (fun hg => by first | exact std0 | exact std1) (by exact rfl) ?_ | refine sqW ?_ | refine rgK (fun K' hK => ?_) | (refine aoN (hK _ _ ?_); clear hK K') | refine cdN rfl tI (fun hc => ?_) (fun hc => ?_) | refine blK ?_ | refine exW ?_ | refine skW ?_ | refine rtW ?_ | refine dK2 (by decide +kernel) (by kernel_rfl) (by decide +kernel) rfl (fun K' hK => ?_) | (refine aqN (hK _ ?_); clear hK K') | refine aqQ rfl rfl (fun hg => by first | exact std0 | exact std1) (by exact rfl) ?_)
   all_goals first | (exfalso; omega) | skip
   refine ⟨.inr rfl, Ent.b (decide_eq_true ?_).symm⟩
   have q5 : a.b = b.b := List.ext_getElem q1 fun i h1 h2 => by
    have := hall i (by omega)
    rwa [getD_lt' h1, getD_lt' h2] at this
   obtain ⟨s, l, n, u⟩ := a
   obtain ⟨s', l', n', u'⟩ := b
   dsimp only at q2 q3 q4 q5
   rw [q2, q3, q4, q5]
theorem clock_snoc (l : List Ev) (e : Ev) : clockE (l ++ [e]) = max (clockE l) e.clock := by unfold clockE; rw [zCr]; rfl
theorem clock42_spec (l : List Ev) (hl : l.length ≤ 1000000000) : PCall Tryz.prog 44 [.sl 14 (l.map encE) .no] (.int (clockE l)) := by
 refine PCall.body Tryz.func44 rfl rfl Tryz.ntmps44 rfl rfl ?_
 repeat' (first | refine aoQ rfl rfl rfl (fun hg => by exact std0) (by exact rfl) ?_ | refine sqW ?_ | refine rgK (fun K' hK => ?_) | (refine aoN (hK _ _ ?_); clear hK K') | refine blK ?_)
 refine lpW (ι := Nat) (fun k => [(0, .sl 14 (l.map encE) .no), (3, .int (clockE (l.take k))), (4, .int k)]) (fun _ => []) (fun k => k ≤ l.length) (fun k => l.length - k) 0 (nZl _) ⟨rfl, rfl, rfl, tI⟩ rfl ?_
 rintro k hk
 by_cases hlt : k < l.length
 · have hs : clockE (l.take (k + 1)) = max (clockE (l.take k)) (l.getD k default).clock := by rw [getD_lt' hlt, zB0 hlt, clock_snoc]
   repeat' (first | refine aoQ rfl rfl rfl (fun hg => by first | exact std0 | exact std1) (by exact rfl) ?_ | refine sqW ?_ | refine rgK (fun K' hK => ?_) | (refine aoN (hK _ _ ?_); clear hK K') | refine cdN rfl tI (fun hc => ?_) (fun hc => ?_) | refine blK ?_ | refine exW ?_ | refine skW ?_ | refine rtW ?_)
   all_goals first | (exfalso; omega) | skip
   exact ⟨k + 1, by omega, by omega, ⟨rfl, by rw [hs]; rfl, rfl, tI⟩, rfl⟩
 · obtain rfl : k = l.length := by omega
   repeat' (first | refine aoQ rfl rfl rfl (fun hg => by first | exact std0 | exact std1) (by exact rfl) ?_ | refine sqW ?_ | refine rgK (fun K' hK => ?_) | (refine aoN (hK _ _ ?_); clear hK K') | refine cdN rfl tI (fun hc => ?_) (fun hc => ?_) | refine blK ?_ | refine exW ?_ | refine skW ?_ | refine rtW ?_)
   all_goals first | (exfalso; omega) | skip
   refine ⟨.inr rfl, Ent.of ?_⟩
   rw [zB1]; rfl
theorem know_spec (c s n : Int) : PCall Tryz.prog 20 [.int c, .int s, .int n] (.agg (encE (knowE c s n))) := by
 refine PCall.bodyS tabOk Tryz.func20 rfl rfl Tryz.ntmps20 rfl ?_
 repeat' (first | refine aoQ rfl rfl rfl (fun hg => by first | exact std0 | exact pbD tabOk rfl rfl nds) (by exact rfl) ?_ | refine sqW ?_ | refine rgK (fun K' hK => ?_) | (refine aoN (hK _ _ ?_); clear hK K') | refine aoE (stW tabOk rfl rfl rfl tI rfl rfl tI rfl rfl rfl rfl rfl rfl rfl ?_) | refine aoE (alW tabOk rfl rfl rfl rfl rfl rfl ?_) | refine rtW ?_)
 exact ⟨.inr rfl, _, rfl, Ent.of rfl⟩
theorem begin_spec (id : Int) (h : isId id = true) : PCall Tryz.prog 17 [.int id] (.tup [.agg (encTab (begin_ id)), .b true]) := by
 have v := new_spec ⟨id, ⟨1, 1, 1⟩, 1, 0, []⟩ (fun e he => absurd he zC8) (nZl _)
 rw [new_begin h] at v
 have hE : Ent (.agg [.int id, .int 1, .int 1, .int 1, .int 1, .int 0, .nils]) (.agg (encStd ⟨id, ⟨1, 1, 1⟩, 1, 0, []⟩)) := Ent.aggL ⟨Ent.rfl' _, Ent.rfl' _, Ent.rfl' _, Ent.rfl' _, Ent.rfl' _, Ent.rfl' _, Ent.nil, tI⟩
 have w := PCall.entAt [] [] hE v
 refine PCall.bodyS tabOk Tryz.func17 rfl rfl Tryz.ntmps17 rfl ?_
 repeat' (first | refine aoQ rfl rfl rfl (fun hg => by first | exact std0 | exact pbD tabOk rfl rfl nds | exact pcW (w) rfl rfl nd rfl nds) (by exact rfl) ?_ | refine sqW ?_ | refine rgK (fun K' hK => ?_) | (refine aoN (hK _ _ ?_); clear hK K') | refine aoE (stW tabOk rfl rfl rfl tI rfl rfl tI rfl rfl rfl rfl rfl rfl rfl ?_) | refine aoE (alW tabOk rfl rfl rfl rfl rfl rfl ?_) | refine rtW ?_)
 exact ⟨.inr rfl, _, rfl, Ent.of rfl⟩
theorem tabIn_of {t : Sy.Tab} (h : validT t = true) : TabIn t := by
 have h1 := validE_iff.1 (validT_evs h)
 have h2 := (said_true (validT_said h).1).1
 exact ⟨Txt.of h1.1, by have := h1.2.2; omega, by omega⟩
theorem ex_valid : validT exC = true ∧ validT exD = true ∧ validT exTorn = true ∧ validT exQ = true ∧ validT exKept = true ∧ validT exAgain = true ∧ validT (begin_ 1) = true ∧ validT (begin_ 2) = true := by decide +kernel
theorem know_txt (c s n : Int) : (knowE c s n).mark.text.length ≤ 9223372036854775807 := nZl _
theorem pair_eta {α β : Type} {p : α × β} {b : β} (h : p.2 = b) : p = (p.1, b) := by subst h; rfl
theorem trip_eta {α β γ : Type} {p : α × β × γ} {c : γ} (h : p.2.2 = c) : p = (p.1, p.2.1, c) := by subst h; rfl
set_option maxHeartbeats 6400000 in
set_option maxRecDepth 20000 in
theorem head_spec : PCall Tryz.prog 7 [] (.b true) := by
 obtain ⟨v1, v2, v3, v4, v5, v6, v7, v8⟩ := ex_valid
 obtain ⟨f1, f2, f3⟩ := ex_c2
 obtain ⟨g1, g2, g3, g4⟩ := ex_woken
 obtain ⟨p1, p2, p3, p4⟩ := ex_p
 obtain ⟨q1, q2, q3⟩ := ex_kept
 obtain ⟨m1, m2, m3, m4⟩ := ex_m
 have c1 := begin_spec 1 (by decide)
 have c2 := begin_spec 2 (by decide)
 have w1 := write_spec (begin_ 1) (tabIn_of v7) (knowE 1 1 3) (know_txt _ _ _)
 have w2 := write_spec (begin_ 2) (tabIn_of v8) (knowE 1 2 0) (know_txt _ _ _)
 have w3 := write_spec exC (tabIn_of v1) (knowE 1 1 4) (know_txt _ _ _)
 have w4 := write_spec exC (tabIn_of v1) (knowE 2 2 4) (know_txt _ _ _)
 have cr1 : PCall Tryz.prog 12 [.agg (encTab exC), .int ((exC.b.length : Int).tdiv 2)] (tupT (exTorn, 0)) := by
  have h := crash_spec exC (tabIn_of v1) ((exC.b.length / 2 : Nat) : Int)
  rw [pair_eta ex_torn] at h
  rw [show (exC.b.length : Int).tdiv 2 = ((exC.b.length / 2 : Nat) : Int) from tdivN _ _]
  exact h
 have cr2 := crash_spec exP (tabIn_of p4) ((exP.b.length : Int) - 1)
 have cr3 := crash_spec exP (tabIn_of p4) (exP.b.length : Int)
 have wk1 := wake_spec exTorn (tabIn_of v3)
 have wk2 := wake_spec exKept (tabIn_of v5)
 have ex1 := exch_spec exC exD (tabIn_of v1) (tabIn_of v2)
 have ex2 := exch_spec exTorn exD (tabIn_of v3) (tabIn_of v2)
 have s1 := same22_spec exP.s.evs [knowE 1 1 3, knowE 1 2 0] (tabIn_of p4).evs (by decide)
 have s2 := same22_spec exQ.s.evs exP.s.evs (tabIn_of v4).evs (tabIn_of p4).evs
 have s3 := same42_spec exAgain exP (tabIn_of v6).evs (tabIn_of p4).evs (tabIn_of v6).b (tabIn_of p4).b
 have t1 := tvalid_spec exP (tabIn_of p4)
 have t2 := PCall.entAt [] [] ent_no (tvalid_spec noTab ⟨fun e he => absurd he zC8, nZl _, nZl _⟩)
 rw [pair_eta ex_c, show (writeT (begin_ 1) (knowE 1 1 3)).1 = exC from rfl] at w1
 rw [pair_eta ex_d, show (writeT (begin_ 2) (knowE 1 2 0)).1 = exD from rfl] at w2
 rw [pair_eta m1] at w3
 rw [pair_eta m2] at w4
 rw [pair_eta ex_j] at cr2
 rw [pair_eta q1, show (crashT exP (exP.b.length : Int)).1 = exKept from rfl] at cr3
 rw [pair_eta g1, show (wakeT exTorn).1 = exWoken from rfl] at wk1
 rw [pair_eta q2, show (wakeT exKept).1 = exAgain from rfl] at wk2
 rw [trip_eta p1, show (exchT exC exD).1 = exP from rfl, show (exchT exC exD).2.1 = exQ from rfl] at ex1
 rw [trip_eta m3] at ex2
 rw [show (exP.s.evs == [knowE 1 1 3, knowE 1 2 0]) = true by rw [p2]; exact beq_self_eq_true _] at s1
 rw [show (exQ.s.evs == exP.s.evs) = true by rw [p3]; exact beq_self_eq_true _] at s2
 rw [decide_eq_true q3] at s3
 rw [p4] at t1
 rw [m4] at t2
 have hCl := (tabIn_of v1).b
 have hPl := (tabIn_of p4).b
 clear v1 v2 v3 v4 v5 v6 v7 v8 p1 p2 p3 p4 q1 q2 q3 m1 m2 m3 m4 g1
 generalize (writeT exC (knowE 1 1 4)).1 = X1 at *
 generalize (writeT exC (knowE 2 2 4)).1 = X2 at *
 generalize (crashT exP ((exP.b.length : Int) - 1)).1 = X3 at *
 generalize (exchT exTorn exD).1 = X4 at *
 generalize (exchT exTorn exD).2.1 = X5 at *
 generalize exC = C at *
 generalize exD = D at *
 generalize exTorn = T at *
 generalize exWoken = W at *
 generalize exP = P at *
 generalize exQ = Q at *
 generalize exKept = K at *
 generalize exAgain = A at *
 have hlc : ¬ ((C.b.length : Int) < 2) := by omega
 have hdv : (C.b.length : Int).tdiv 2 = ((C.b.length / 2 : Nat) : Int) := tdivN _ _
 have hd1 : 0 ≤ (C.b.length : Int).tdiv 2 := by omega
 have hd2 : (C.b.length : Int).tdiv 2 ≤ 1000000000 := by omega
 have hlw : W.s.evs.length = 0 := by rw [g2]; rfl
 refine PCall.bodyS tabOk Tryz.func7 rfl rfl Tryz.ntmps7 rfl ?_
 repeat' (first | refine aoQ rfl rfl rfl (fun hg => by first | exact std0 | exact pcW (c1) rfl rfl nd rfl nds | exact pcW (c2) rfl rfl nd rfl nds) (by exact rfl) ?_ | refine sqW ?_ | refine rgK (fun K' hK => ?_) | (refine aoN (hK _ _ ?_); clear hK K') | refine aoE (stW tabOk rfl rfl rfl tI rfl rfl tI rfl rfl rfl rfl rfl rfl rfl ?_) | refine aoE (alW tabOk rfl rfl rfl rfl rfl rfl ?_))
 refine AWP.drawY (fun j => match j with | 0 => [.var (encTab (begin_ 1)), .var (encTab (begin_ 2))] | 1 => [.var (encTab (begin_ 1)), .var (encTab (begin_ 2)), .var zeroTab] | _ => [.var (encTab (begin_ 1)), .var (encTab (begin_ 2)), .var (encTab C)]) rfl (by kernel_rfl) (by decide +kernel) rfl (by decide +kernel) (fun K' hK => ?_)
 repeat' (first
  | refine yqQ (a := 0) (b := 0) rfl (by decide +kernel) (by decide +kernel) rfl rfl rfl (fun k h1 h2 hg => by (have hk : k = 0 := (by omega)); (rcases hk with rfl) <;> (first | exact std0 | exact pcW (know_spec _ _ _) rfl rfl nd rfl nds | exact pcW (w1) rfl rfl nd rfl nds | exact std1)) (by exact rfl) ?_
  | refine yqQ (a := 0) (b := 1) rfl (by decide +kernel) (by decide +kernel) rfl rfl rfl (fun k h1 h2 hg => by (have hk : k = 0 ∨ k = 1 := (by omega)); (rcases hk with rfl | rfl) <;> (first | exact std0 | exact pcW (know_spec _ _ _) rfl rfl nd rfl nds | exact pcW (w1) rfl rfl nd rfl nds | exact std1)) (by exact rfl) ?_
  | refine yqQ (a := 1) (b := 1) rfl (by decide +kernel) (by decide +kernel) rfl rfl rfl (fun k h1 h2 hg => by (have hk : k = 1 := (by omega)); (rcases hk with rfl) <;> (first | exact std0 | exact pcW (know_spec _ _ _) rfl rfl nd rfl nds | exact pcW (w1) rfl rfl nd rfl nds | exact std1)) (by exact rfl) ?_
  | refine yqQ (a := 0) (b := 2) rfl (by decide +kernel) (by decide +kernel) rfl rfl rfl (fun k h1 h2 hg => by (have hk : k = 0 ∨ k = 1 ∨ k = 2 := (by omega)); (rcases hk with rfl | rfl | rfl) <;> (first | exact std0 | exact pcW (know_spec _ _ _) rfl rfl nd rfl nds | exact pcW (w1) rfl rfl nd rfl nds | exact std1)) (by exact rfl) ?_
  | refine yqQ (a := 1) (b := 2) rfl (by decide +kernel) (by decide +kernel) rfl rfl rfl (fun k h1 h2 hg => by (have hk : k = 1 ∨ k = 2 := (by omega)); (rcases hk with rfl | rfl) <;> (first | exact std0 | exact pcW (know_spec _ _ _) rfl rfl nd rfl nds | exact pcW (w1) rfl rfl nd rfl nds | exact std1)) (by exact rfl) ?_
  | refine yqQ (a := 2) (b := 2) rfl (by decide +kernel) (by decide +kernel) rfl rfl rfl (fun k h1 h2 hg => by (have hk : k = 2 := (by omega)); (rcases hk with rfl) <;> (first | exact std0 | exact pcW (know_spec _ _ _) rfl rfl nd rfl nds | exact pcW (w1) rfl rfl nd rfl nds | exact std1)) (by exact rfl) ?_)
 refine YQ.e (v := .ptr 2 0) (d := some 5) rfl rfl rfl ?_ ?_
 · intro env' he
   exact alW tabOk rfl rfl rfl rfl rfl rfl ⟨rfl, rfl⟩
 repeat' (first
  | refine yqQ (a := 0) (b := 0) rfl (by decide +kernel) (by decide +kernel) rfl rfl rfl (fun k h1 h2 hg => by (have hk : k = 0 := (by omega)); (rcases hk with rfl) <;> (first | exact std0 | exact pcW (know_spec _ _ _) rfl rfl nd rfl nds | exact pcW (w1) rfl rfl nd rfl nds | exact std1)) (by exact rfl) ?_
  | refine yqQ (a := 0) (b := 1) rfl (by decide +kernel) (by decide +kernel) rfl rfl rfl (fun k h1 h2 hg => by (have hk : k = 0 ∨ k = 1 := (by omega)); (rcases hk with rfl | rfl) <;> (first | exact std0 | exact pcW (know_spec _ _ _) rfl rfl nd rfl nds | exact pcW (w1) rfl rfl nd rfl nds | exact std1)) (by exact rfl) ?_
  | refine yqQ (a := 1) (b := 1) rfl (by decide +kernel) (by decide +kernel) rfl rfl rfl (fun k h1 h2 hg => by (have hk : k = 1 := (by omega)); (rcases hk with rfl) <;> (first | exact std0 | exact pcW (know_spec _ _ _) rfl rfl nd rfl nds | exact pcW (w1) rfl rfl nd rfl nds | exact std1)) (by exact rfl) ?_
  | refine yqQ (a := 0) (b := 2) rfl (by decide +kernel) (by decide +kernel) rfl rfl rfl (fun k h1 h2 hg => by (have hk : k = 0 ∨ k = 1 ∨ k = 2 := (by omega)); (rcases hk with rfl | rfl | rfl) <;> (first | exact std0 | exact pcW (know_spec _ _ _) rfl rfl nd rfl nds | exact pcW (w1) rfl rfl nd rfl nds | exact std1)) (by exact rfl) ?_
  | refine yqQ (a := 1) (b := 2) rfl (by decide +kernel) (by decide +kernel) rfl rfl rfl (fun k h1 h2 hg => by (have hk : k = 1 ∨ k = 2 := (by omega)); (rcases hk with rfl | rfl) <;> (first | exact std0 | exact pcW (know_spec _ _ _) rfl rfl nd rfl nds | exact pcW (w1) rfl rfl nd rfl nds | exact std1)) (by exact rfl) ?_
  | refine yqQ (a := 2) (b := 2) rfl (by decide +kernel) (by decide +kernel) rfl rfl rfl (fun k h1 h2 hg => by (have hk : k = 2 := (by omega)); (rcases hk with rfl) <;> (first | exact std0 | exact pcW (know_spec _ _ _) rfl rfl nd rfl nds | exact pcW (w1) rfl rfl nd rfl nds | exact std1)) (by exact rfl) ?_)
 refine YQ.e (v := .any) (d := none) rfl rfl rfl ?_ ?_
 · intro env' he
   exact stW tabOk rfl rfl ((rdv_congr (he 5 (by decide +kernel))).trans rfl) (by rw [rdn_congr (he 5 (by decide +kernel))]; first | exact tI | exact rfl) rfl ((rdv_congr (he 42 (by decide +kernel))).trans rfl) (by rw [rdn_congr (he 42 (by decide +kernel))]; first | exact tI | exact rfl) rfl rfl rfl rfl rfl rfl rfl ⟨rfl, rfl⟩
 repeat' (first
  | refine yqQ (a := 0) (b := 0) rfl (by decide +kernel) (by decide +kernel) rfl rfl rfl (fun k h1 h2 hg => by (have hk : k = 0 := (by omega)); (rcases hk with rfl) <;> (first | exact std0 | exact pcW (know_spec _ _ _) rfl rfl nd rfl nds | exact pcW (w1) rfl rfl nd rfl nds | exact std1)) (by exact rfl) ?_
  | refine yqQ (a := 0) (b := 1) rfl (by decide +kernel) (by decide +kernel) rfl rfl rfl (fun k h1 h2 hg => by (have hk : k = 0 ∨ k = 1 := (by omega)); (rcases hk with rfl | rfl) <;> (first | exact std0 | exact pcW (know_spec _ _ _) rfl rfl nd rfl nds | exact pcW (w1) rfl rfl nd rfl nds | exact std1)) (by exact rfl) ?_
  | refine yqQ (a := 1) (b := 1) rfl (by decide +kernel) (by decide +kernel) rfl rfl rfl (fun k h1 h2 hg => by (have hk : k = 1 := (by omega)); (rcases hk with rfl) <;> (first | exact std0 | exact pcW (know_spec _ _ _) rfl rfl nd rfl nds | exact pcW (w1) rfl rfl nd rfl nds | exact std1)) (by exact rfl) ?_
  | refine yqQ (a := 0) (b := 2) rfl (by decide +kernel) (by decide +kernel) rfl rfl rfl (fun k h1 h2 hg => by (have hk : k = 0 ∨ k = 1 ∨ k = 2 := (by omega)); (rcases hk with rfl | rfl | rfl) <;> (first | exact std0 | exact pcW (know_spec _ _ _) rfl rfl nd rfl nds | exact pcW (w1) rfl rfl nd rfl nds | exact std1)) (by exact rfl) ?_
  | refine yqQ (a := 1) (b := 2) rfl (by decide +kernel) (by decide +kernel) rfl rfl rfl (fun k h1 h2 hg => by (have hk : k = 1 ∨ k = 2 := (by omega)); (rcases hk with rfl | rfl) <;> (first | exact std0 | exact pcW (know_spec _ _ _) rfl rfl nd rfl nds | exact pcW (w1) rfl rfl nd rfl nds | exact std1)) (by exact rfl) ?_
  | refine yqQ (a := 2) (b := 2) rfl (by decide +kernel) (by decide +kernel) rfl rfl rfl (fun k h1 h2 hg => by (have hk : k = 2 := (by omega)); (rcases hk with rfl) <;> (first | exact std0 | exact pcW (know_spec _ _ _) rfl rfl nd rfl nds | exact pcW (w1) rfl rfl nd rfl nds | exact std1)) (by exact rfl) ?_)
 refine YQ.nil (hK _ _ ?_)
 clear hK K'
 repeat' (first | refine sqW ?_)
 refine AWP.drawY (fun j => match j with | 0 => [.var (encTab (begin_ 1)), .var (encTab (begin_ 2)), .var (encTab C)] | 1 => [.var (encTab (begin_ 1)), .var (encTab (begin_ 2)), .var (encTab C), .var zeroTab] | _ => [.var (encTab (begin_ 1)), .var (encTab (begin_ 2)), .var (encTab C), .var (encTab D)]) rfl (by kernel_rfl) (by decide +kernel) rfl (by decide +kernel) (fun K' hK => ?_)
 repeat' (first
  | refine yqQ (a := 0) (b := 0) rfl (by decide +kernel) (by decide +kernel) rfl rfl rfl (fun k h1 h2 hg => by (have hk : k = 0 := (by omega)); (rcases hk with rfl) <;> (first | exact std0 | exact pcW (know_spec _ _ _) rfl rfl nd rfl nds | exact pcW (w2) rfl rfl nd rfl nds | exact std1)) (by exact rfl) ?_
  | refine yqQ (a := 0) (b := 1) rfl (by decide +kernel) (by decide +kernel) rfl rfl rfl (fun k h1 h2 hg => by (have hk : k = 0 ∨ k = 1 := (by omega)); (rcases hk with rfl | rfl) <;> (first | exact std0 | exact pcW (know_spec _ _ _) rfl rfl nd rfl nds | exact pcW (w2) rfl rfl nd rfl nds | exact std1)) (by exact rfl) ?_
  | refine yqQ (a := 1) (b := 1) rfl (by decide +kernel) (by decide +kernel) rfl rfl rfl (fun k h1 h2 hg => by (have hk : k = 1 := (by omega)); (rcases hk with rfl) <;> (first | exact std0 | exact pcW (know_spec _ _ _) rfl rfl nd rfl nds | exact pcW (w2) rfl rfl nd rfl nds | exact std1)) (by exact rfl) ?_
  | refine yqQ (a := 0) (b := 2) rfl (by decide +kernel) (by decide +kernel) rfl rfl rfl (fun k h1 h2 hg => by (have hk : k = 0 ∨ k = 1 ∨ k = 2 := (by omega)); (rcases hk with rfl | rfl | rfl) <;> (first | exact std0 | exact pcW (know_spec _ _ _) rfl rfl nd rfl nds | exact pcW (w2) rfl rfl nd rfl nds | exact std1)) (by exact rfl) ?_
  | refine yqQ (a := 1) (b := 2) rfl (by decide +kernel) (by decide +kernel) rfl rfl rfl (fun k h1 h2 hg => by (have hk : k = 1 ∨ k = 2 := (by omega)); (rcases hk with rfl | rfl) <;> (first | exact std0 | exact pcW (know_spec _ _ _) rfl rfl nd rfl nds | exact pcW (w2) rfl rfl nd rfl nds | exact std1)) (by exact rfl) ?_
  | refine yqQ (a := 2) (b := 2) rfl (by decide +kernel) (by decide +kernel) rfl rfl rfl (fun k h1 h2 hg => by (have hk : k = 2 := (by omega)); (rcases hk with rfl) <;> (first | exact std0 | exact pcW (know_spec _ _ _) rfl rfl nd rfl nds | exact pcW (w2) rfl rfl nd rfl nds | exact std1)) (by exact rfl) ?_)
 refine YQ.e (v := .ptr 3 0) (d := some 7) rfl rfl rfl ?_ ?_
 · intro env' he
   exact alW tabOk rfl rfl rfl rfl rfl rfl ⟨rfl, rfl⟩
 repeat' (first
  | refine yqQ (a := 0) (b := 0) rfl (by decide +kernel) (by decide +kernel) rfl rfl rfl (fun k h1 h2 hg => by (have hk : k = 0 := (by omega)); (rcases hk with rfl) <;> (first | exact std0 | exact pcW (know_spec _ _ _) rfl rfl nd rfl nds | exact pcW (w2) rfl rfl nd rfl nds | exact std1)) (by exact rfl) ?_
  | refine yqQ (a := 0) (b := 1) rfl (by decide +kernel) (by decide +kernel) rfl rfl rfl (fun k h1 h2 hg => by (have hk : k = 0 ∨ k = 1 := (by omega)); (rcases hk with rfl | rfl) <;> (first | exact std0 | exact pcW (know_spec _ _ _) rfl rfl nd rfl nds | exact pcW (w2) rfl rfl nd rfl nds | exact std1)) (by exact rfl) ?_
  | refine yqQ (a := 1) (b := 1) rfl (by decide +kernel) (by decide +kernel) rfl rfl rfl (fun k h1 h2 hg => by (have hk : k = 1 := (by omega)); (rcases hk with rfl) <;> (first | exact std0 | exact pcW (know_spec _ _ _) rfl rfl nd rfl nds | exact pcW (w2) rfl rfl nd rfl nds | exact std1)) (by exact rfl) ?_
  | refine yqQ (a := 0) (b := 2) rfl (by decide +kernel) (by decide +kernel) rfl rfl rfl (fun k h1 h2 hg => by (have hk : k = 0 ∨ k = 1 ∨ k = 2 := (by omega)); (rcases hk with rfl | rfl | rfl) <;> (first | exact std0 | exact pcW (know_spec _ _ _) rfl rfl nd rfl nds | exact pcW (w2) rfl rfl nd rfl nds | exact std1)) (by exact rfl) ?_
  | refine yqQ (a := 1) (b := 2) rfl (by decide +kernel) (by decide +kernel) rfl rfl rfl (fun k h1 h2 hg => by (have hk : k = 1 ∨ k = 2 := (by omega)); (rcases hk with rfl | rfl) <;> (first | exact std0 | exact pcW (know_spec _ _ _) rfl rfl nd rfl nds | exact pcW (w2) rfl rfl nd rfl nds | exact std1)) (by exact rfl) ?_
  | refine yqQ (a := 2) (b := 2) rfl (by decide +kernel) (by decide +kernel) rfl rfl rfl (fun k h1 h2 hg => by (have hk : k = 2 := (by omega)); (rcases hk with rfl) <;> (first | exact std0 | exact pcW (know_spec _ _ _) rfl rfl nd rfl nds | exact pcW (w2) rfl rfl nd rfl nds | exact std1)) (by exact rfl) ?_)
 refine YQ.e (v := .any) (d := none) rfl rfl rfl ?_ ?_
 · intro env' he
   exact stW tabOk rfl rfl ((rdv_congr (he 7 (by decide +kernel))).trans rfl) (by rw [rdn_congr (he 7 (by decide +kernel))]; first | exact tI | exact rfl) rfl ((rdv_congr (he 48 (by decide +kernel))).trans rfl) (by rw [rdn_congr (he 48 (by decide +kernel))]; first | exact tI | exact rfl) rfl rfl rfl rfl rfl rfl rfl ⟨rfl, rfl⟩
 repeat' (first
  | refine yqQ (a := 0) (b := 0) rfl (by decide +kernel) (by decide +kernel) rfl rfl rfl (fun k h1 h2 hg => by (have hk : k = 0 := (by omega)); (rcases hk with rfl) <;> (first | exact std0 | exact pcW (know_spec _ _ _) rfl rfl nd rfl nds | exact pcW (w2) rfl rfl nd rfl nds | exact std1)) (by exact rfl) ?_
  | refine yqQ (a := 0) (b := 1) rfl (by decide +kernel) (by decide +kernel) rfl rfl rfl (fun k h1 h2 hg => by (have hk : k = 0 ∨ k = 1 := (by omega)); (rcases hk with rfl | rfl) <;> (first | exact std0 | exact pcW (know_spec _ _ _) rfl rfl nd rfl nds | exact pcW (w2) rfl rfl nd rfl nds | exact std1)) (by exact rfl) ?_
  | refine yqQ (a := 1) (b := 1) rfl (by decide +kernel) (by decide +kernel) rfl rfl rfl (fun k h1 h2 hg => by (have hk : k = 1 := (by omega)); (rcases hk with rfl) <;> (first | exact std0 | exact pcW (know_spec _ _ _) rfl rfl nd rfl nds | exact pcW (w2) rfl rfl nd rfl nds | exact std1)) (by exact rfl) ?_
  | refine yqQ (a := 0) (b := 2) rfl (by decide +kernel) (by decide +kernel) rfl rfl rfl (fun k h1 h2 hg => by (have hk : k = 0 ∨ k = 1 ∨ k = 2 := (by omega)); (rcases hk with rfl | rfl | rfl) <;> (first | exact std0 | exact pcW (know_spec _ _ _) rfl rfl nd rfl nds | exact pcW (w2) rfl rfl nd rfl nds | exact std1)) (by exact rfl) ?_
  | refine yqQ (a := 1) (b := 2) rfl (by decide +kernel) (by decide +kernel) rfl rfl rfl (fun k h1 h2 hg => by (have hk : k = 1 ∨ k = 2 := (by omega)); (rcases hk with rfl | rfl) <;> (first | exact std0 | exact pcW (know_spec _ _ _) rfl rfl nd rfl nds | exact pcW (w2) rfl rfl nd rfl nds | exact std1)) (by exact rfl) ?_
  | refine yqQ (a := 2) (b := 2) rfl (by decide +kernel) (by decide +kernel) rfl rfl rfl (fun k h1 h2 hg => by (have hk : k = 2 := (by omega)); (rcases hk with rfl) <;> (first | exact std0 | exact pcW (know_spec _ _ _) rfl rfl nd rfl nds | exact pcW (w2) rfl rfl nd rfl nds | exact std1)) (by exact rfl) ?_)
 refine YQ.nil (hK _ _ ?_)
 clear hK K'
 repeat' (first | refine aoQ rfl rfl rfl (fun hg => by first | exact std0 | exact pcW (cr1) rfl rfl nd rfl nds | exact pcW (wk1) rfl rfl nd rfl nds | exact pcW (ex1) rfl rfl nd rfl nds | exact pcW (cr2) rfl rfl nd rfl nds | exact pcW (cr3) rfl rfl nd rfl nds | exact pcW (wk2) rfl rfl nd rfl nds | exact std1) (by exact rfl) ?_ | refine sqW ?_ | refine rgK (fun K' hK => ?_) | (refine aoN (hK _ _ ?_); clear hK K') | refine aoE (stW tabOk rfl rfl rfl tI rfl rfl tI rfl rfl rfl rfl rfl rfl rfl ?_) | refine aoE (alW tabOk rfl rfl rfl rfl rfl rfl ?_) | refine cdN rfl tI (fun hc => ?_) (fun hc => ?_) | refine skW ?_ | refine rtW ?_)
 · exfalso; simp [f2, f3] at hc; omega
 refine AWP.drawY (fun j => match j with | 0 => [.var (encTab (begin_ 1)), .var (encTab (begin_ 2)), .var (encTab C), .var (encTab D), .var (encTab T), .var (encTab W), .var (encTab P), .var (encTab Q), .var (encTab X3), .var (encTab K), .var (encTab A)] | 1 => [.var (encTab (begin_ 1)), .var (encTab (begin_ 2)), .var (encTab C), .var (encTab D), .var (encTab T), .var (encTab W), .var (encTab P), .var (encTab Q), .var (encTab X3), .var (encTab K), .var (encTab A), .var zeroTab] | _ => [.var (encTab (begin_ 1)), .var (encTab (begin_ 2)), .var (encTab C), .var (encTab D), .var (encTab T), .var (encTab W), .var (encTab P), .var (encTab Q), .var (encTab X3), .var (encTab K), .var (encTab A), .var (encTab X1)]) rfl (by kernel_rfl) (by decide +kernel) rfl (by decide +kernel) (fun K' hK => ?_)
 repeat' (first
  | refine yqQ (a := 0) (b := 0) rfl (by decide +kernel) (by decide +kernel) rfl rfl rfl (fun k h1 h2 hg => by (have hk : k = 0 := (by omega)); (rcases hk with rfl) <;> (first | exact std0 | exact pcW (know_spec _ _ _) rfl rfl nd rfl nds | exact pcW (w3) rfl rfl nd rfl nds | exact std1)) (by exact rfl) ?_
  | refine yqQ (a := 0) (b := 1) rfl (by decide +kernel) (by decide +kernel) rfl rfl rfl (fun k h1 h2 hg => by (have hk : k = 0 ∨ k = 1 := (by omega)); (rcases hk with rfl | rfl) <;> (first | exact std0 | exact pcW (know_spec _ _ _) rfl rfl nd rfl nds | exact pcW (w3) rfl rfl nd rfl nds | exact std1)) (by exact rfl) ?_
  | refine yqQ (a := 1) (b := 1) rfl (by decide +kernel) (by decide +kernel) rfl rfl rfl (fun k h1 h2 hg => by (have hk : k = 1 := (by omega)); (rcases hk with rfl) <;> (first | exact std0 | exact pcW (know_spec _ _ _) rfl rfl nd rfl nds | exact pcW (w3) rfl rfl nd rfl nds | exact std1)) (by exact rfl) ?_
  | refine yqQ (a := 0) (b := 2) rfl (by decide +kernel) (by decide +kernel) rfl rfl rfl (fun k h1 h2 hg => by (have hk : k = 0 ∨ k = 1 ∨ k = 2 := (by omega)); (rcases hk with rfl | rfl | rfl) <;> (first | exact std0 | exact pcW (know_spec _ _ _) rfl rfl nd rfl nds | exact pcW (w3) rfl rfl nd rfl nds | exact std1)) (by exact rfl) ?_
  | refine yqQ (a := 1) (b := 2) rfl (by decide +kernel) (by decide +kernel) rfl rfl rfl (fun k h1 h2 hg => by (have hk : k = 1 ∨ k = 2 := (by omega)); (rcases hk with rfl | rfl) <;> (first | exact std0 | exact pcW (know_spec _ _ _) rfl rfl nd rfl nds | exact pcW (w3) rfl rfl nd rfl nds | exact std1)) (by exact rfl) ?_
  | refine yqQ (a := 2) (b := 2) rfl (by decide +kernel) (by decide +kernel) rfl rfl rfl (fun k h1 h2 hg => by (have hk : k = 2 := (by omega)); (rcases hk with rfl) <;> (first | exact std0 | exact pcW (know_spec _ _ _) rfl rfl nd rfl nds | exact pcW (w3) rfl rfl nd rfl nds | exact std1)) (by exact rfl) ?_)
 refine YQ.e (v := .ptr 11 0) (d := some 22) rfl rfl rfl ?_ ?_
 · intro env' he
   exact alW tabOk rfl rfl rfl rfl rfl rfl ⟨rfl, rfl⟩
 repeat' (first
  | refine yqQ (a := 0) (b := 0) rfl (by decide +kernel) (by decide +kernel) rfl rfl rfl (fun k h1 h2 hg => by (have hk : k = 0 := (by omega)); (rcases hk with rfl) <;> (first | exact std0 | exact pcW (know_spec _ _ _) rfl rfl nd rfl nds | exact pcW (w3) rfl rfl nd rfl nds | exact std1)) (by exact rfl) ?_
  | refine yqQ (a := 0) (b := 1) rfl (by decide +kernel) (by decide +kernel) rfl rfl rfl (fun k h1 h2 hg => by (have hk : k = 0 ∨ k = 1 := (by omega)); (rcases hk with rfl | rfl) <;> (first | exact std0 | exact pcW (know_spec _ _ _) rfl rfl nd rfl nds | exact pcW (w3) rfl rfl nd rfl nds | exact std1)) (by exact rfl) ?_
  | refine yqQ (a := 1) (b := 1) rfl (by decide +kernel) (by decide +kernel) rfl rfl rfl (fun k h1 h2 hg => by (have hk : k = 1 := (by omega)); (rcases hk with rfl) <;> (first | exact std0 | exact pcW (know_spec _ _ _) rfl rfl nd rfl nds | exact pcW (w3) rfl rfl nd rfl nds | exact std1)) (by exact rfl) ?_
  | refine yqQ (a := 0) (b := 2) rfl (by decide +kernel) (by decide +kernel) rfl rfl rfl (fun k h1 h2 hg => by (have hk : k = 0 ∨ k = 1 ∨ k = 2 := (by omega)); (rcases hk with rfl | rfl | rfl) <;> (first | exact std0 | exact pcW (know_spec _ _ _) rfl rfl nd rfl nds | exact pcW (w3) rfl rfl nd rfl nds | exact std1)) (by exact rfl) ?_
  | refine yqQ (a := 1) (b := 2) rfl (by decide +kernel) (by decide +kernel) rfl rfl rfl (fun k h1 h2 hg => by (have hk : k = 1 ∨ k = 2 := (by omega)); (rcases hk with rfl | rfl) <;> (first | exact std0 | exact pcW (know_spec _ _ _) rfl rfl nd rfl nds | exact pcW (w3) rfl rfl nd rfl nds | exact std1)) (by exact rfl) ?_
  | refine yqQ (a := 2) (b := 2) rfl (by decide +kernel) (by decide +kernel) rfl rfl rfl (fun k h1 h2 hg => by (have hk : k = 2 := (by omega)); (rcases hk with rfl) <;> (first | exact std0 | exact pcW (know_spec _ _ _) rfl rfl nd rfl nds | exact pcW (w3) rfl rfl nd rfl nds | exact std1)) (by exact rfl) ?_)
 refine YQ.e (v := .any) (d := none) rfl rfl rfl ?_ ?_
 · intro env' he
   exact stW tabOk rfl rfl ((rdv_congr (he 22 (by decide +kernel))).trans rfl) (by rw [rdn_congr (he 22 (by decide +kernel))]; first | exact tI | exact rfl) rfl ((rdv_congr (he 128 (by decide +kernel))).trans rfl) (by rw [rdn_congr (he 128 (by decide +kernel))]; first | exact tI | exact rfl) rfl rfl rfl rfl rfl rfl rfl ⟨rfl, rfl⟩
 repeat' (first
  | refine yqQ (a := 0) (b := 0) rfl (by decide +kernel) (by decide +kernel) rfl rfl rfl (fun k h1 h2 hg => by (have hk : k = 0 := (by omega)); (rcases hk with rfl) <;> (first | exact std0 | exact pcW (know_spec _ _ _) rfl rfl nd rfl nds | exact pcW (w3) rfl rfl nd rfl nds | exact std1)) (by exact rfl) ?_
  | refine yqQ (a := 0) (b := 1) rfl (by decide +kernel) (by decide +kernel) rfl rfl rfl (fun k h1 h2 hg => by (have hk : k = 0 ∨ k = 1 := (by omega)); (rcases hk with rfl | rfl) <;> (first | exact std0 | exact pcW (know_spec _ _ _) rfl rfl nd rfl nds | exact pcW (w3) rfl rfl nd rfl nds | exact std1)) (by exact rfl) ?_
  | refine yqQ (a := 1) (b := 1) rfl (by decide +kernel) (by decide +kernel) rfl rfl rfl (fun k h1 h2 hg => by (have hk : k = 1 := (by omega)); (rcases hk with rfl) <;> (first | exact std0 | exact pcW (know_spec _ _ _) rfl rfl nd rfl nds | exact pcW (w3) rfl rfl nd rfl nds | exact std1)) (by exact rfl) ?_
  | refine yqQ (a := 0) (b := 2) rfl (by decide +kernel) (by decide +kernel) rfl rfl rfl (fun k h1 h2 hg => by (have hk : k = 0 ∨ k = 1 ∨ k = 2 := (by omega)); (rcases hk with rfl | rfl | rfl) <;> (first | exact std0 | exact pcW (know_spec _ _ _) rfl rfl nd rfl nds | exact pcW (w3) rfl rfl nd rfl nds | exact std1)) (by exact rfl) ?_
  | refine yqQ (a := 1) (b := 2) rfl (by decide +kernel) (by decide +kernel) rfl rfl rfl (fun k h1 h2 hg => by (have hk : k = 1 ∨ k = 2 := (by omega)); (rcases hk with rfl | rfl) <;> (first | exact std0 | exact pcW (know_spec _ _ _) rfl rfl nd rfl nds | exact pcW (w3) rfl rfl nd rfl nds | exact std1)) (by exact rfl) ?_
  | refine yqQ (a := 2) (b := 2) rfl (by decide +kernel) (by decide +kernel) rfl rfl rfl (fun k h1 h2 hg => by (have hk : k = 2 := (by omega)); (rcases hk with rfl) <;> (first | exact std0 | exact pcW (know_spec _ _ _) rfl rfl nd rfl nds | exact pcW (w3) rfl rfl nd rfl nds | exact std1)) (by exact rfl) ?_)
 refine YQ.nil (hK _ _ ?_)
 clear hK K'
 repeat' (first | refine sqW ?_)
 refine AWP.drawY (fun j => match j with | 0 => [.var (encTab (begin_ 1)), .var (encTab (begin_ 2)), .var (encTab C), .var (encTab D), .var (encTab T), .var (encTab W), .var (encTab P), .var (encTab Q), .var (encTab X3), .var (encTab K), .var (encTab A), .var (encTab X1)] | 1 => [.var (encTab (begin_ 1)), .var (encTab (begin_ 2)), .var (encTab C), .var (encTab D), .var (encTab T), .var (encTab W), .var (encTab P), .var (encTab Q), .var (encTab X3), .var (encTab K), .var (encTab A), .var (encTab X1), .var zeroTab] | _ => [.var (encTab (begin_ 1)), .var (encTab (begin_ 2)), .var (encTab C), .var (encTab D), .var (encTab T), .var (encTab W), .var (encTab P), .var (encTab Q), .var (encTab X3), .var (encTab K), .var (encTab A), .var (encTab X1), .var (encTab X2)]) rfl (by kernel_rfl) (by decide +kernel) rfl (by decide +kernel) (fun K' hK => ?_)
 repeat' (first
  | refine yqQ (a := 0) (b := 0) rfl (by decide +kernel) (by decide +kernel) rfl rfl rfl (fun k h1 h2 hg => by (have hk : k = 0 := (by omega)); (rcases hk with rfl) <;> (first | exact std0 | exact pcW (know_spec _ _ _) rfl rfl nd rfl nds | exact pcW (w4) rfl rfl nd rfl nds | exact std1)) (by exact rfl) ?_
  | refine yqQ (a := 0) (b := 1) rfl (by decide +kernel) (by decide +kernel) rfl rfl rfl (fun k h1 h2 hg => by (have hk : k = 0 ∨ k = 1 := (by omega)); (rcases hk with rfl | rfl) <;> (first | exact std0 | exact pcW (know_spec _ _ _) rfl rfl nd rfl nds | exact pcW (w4) rfl rfl nd rfl nds | exact std1)) (by exact rfl) ?_
  | refine yqQ (a := 1) (b := 1) rfl (by decide +kernel) (by decide +kernel) rfl rfl rfl (fun k h1 h2 hg => by (have hk : k = 1 := (by omega)); (rcases hk with rfl) <;> (first | exact std0 | exact pcW (know_spec _ _ _) rfl rfl nd rfl nds | exact pcW (w4) rfl rfl nd rfl nds | exact std1)) (by exact rfl) ?_
  | refine yqQ (a := 0) (b := 2) rfl (by decide +kernel) (by decide +kernel) rfl rfl rfl (fun k h1 h2 hg => by (have hk : k = 0 ∨ k = 1 ∨ k = 2 := (by omega)); (rcases hk with rfl | rfl | rfl) <;> (first | exact std0 | exact pcW (know_spec _ _ _) rfl rfl nd rfl nds | exact pcW (w4) rfl rfl nd rfl nds | exact std1)) (by exact rfl) ?_
  | refine yqQ (a := 1) (b := 2) rfl (by decide +kernel) (by decide +kernel) rfl rfl rfl (fun k h1 h2 hg => by (have hk : k = 1 ∨ k = 2 := (by omega)); (rcases hk with rfl | rfl) <;> (first | exact std0 | exact pcW (know_spec _ _ _) rfl rfl nd rfl nds | exact pcW (w4) rfl rfl nd rfl nds | exact std1)) (by exact rfl) ?_
  | refine yqQ (a := 2) (b := 2) rfl (by decide +kernel) (by decide +kernel) rfl rfl rfl (fun k h1 h2 hg => by (have hk : k = 2 := (by omega)); (rcases hk with rfl) <;> (first | exact std0 | exact pcW (know_spec _ _ _) rfl rfl nd rfl nds | exact pcW (w4) rfl rfl nd rfl nds | exact std1)) (by exact rfl) ?_)
 refine YQ.e (v := .ptr 12 0) (d := some 24) rfl rfl rfl ?_ ?_
 · intro env' he
   exact alW tabOk rfl rfl rfl rfl rfl rfl ⟨rfl, rfl⟩
 repeat' (first
  | refine yqQ (a := 0) (b := 0) rfl (by decide +kernel) (by decide +kernel) rfl rfl rfl (fun k h1 h2 hg => by (have hk : k = 0 := (by omega)); (rcases hk with rfl) <;> (first | exact std0 | exact pcW (know_spec _ _ _) rfl rfl nd rfl nds | exact pcW (w4) rfl rfl nd rfl nds | exact std1)) (by exact rfl) ?_
  | refine yqQ (a := 0) (b := 1) rfl (by decide +kernel) (by decide +kernel) rfl rfl rfl (fun k h1 h2 hg => by (have hk : k = 0 ∨ k = 1 := (by omega)); (rcases hk with rfl | rfl) <;> (first | exact std0 | exact pcW (know_spec _ _ _) rfl rfl nd rfl nds | exact pcW (w4) rfl rfl nd rfl nds | exact std1)) (by exact rfl) ?_
  | refine yqQ (a := 1) (b := 1) rfl (by decide +kernel) (by decide +kernel) rfl rfl rfl (fun k h1 h2 hg => by (have hk : k = 1 := (by omega)); (rcases hk with rfl) <;> (first | exact std0 | exact pcW (know_spec _ _ _) rfl rfl nd rfl nds | exact pcW (w4) rfl rfl nd rfl nds | exact std1)) (by exact rfl) ?_
  | refine yqQ (a := 0) (b := 2) rfl (by decide +kernel) (by decide +kernel) rfl rfl rfl (fun k h1 h2 hg => by (have hk : k = 0 ∨ k = 1 ∨ k = 2 := (by omega)); (rcases hk with rfl | rfl | rfl) <;> (first | exact std0 | exact pcW (know_spec _ _ _) rfl rfl nd rfl nds | exact pcW (w4) rfl rfl nd rfl nds | exact std1)) (by exact rfl) ?_
  | refine yqQ (a := 1) (b := 2) rfl (by decide +kernel) (by decide +kernel) rfl rfl rfl (fun k h1 h2 hg => by (have hk : k = 1 ∨ k = 2 := (by omega)); (rcases hk with rfl | rfl) <;> (first | exact std0 | exact pcW (know_spec _ _ _) rfl rfl nd rfl nds | exact pcW (w4) rfl rfl nd rfl nds | exact std1)) (by exact rfl) ?_
  | refine yqQ (a := 2) (b := 2) rfl (by decide +kernel) (by decide +kernel) rfl rfl rfl (fun k h1 h2 hg => by (have hk : k = 2 := (by omega)); (rcases hk with rfl) <;> (first | exact std0 | exact pcW (know_spec _ _ _) rfl rfl nd rfl nds | exact pcW (w4) rfl rfl nd rfl nds | exact std1)) (by exact rfl) ?_)
 refine YQ.e (v := .any) (d := none) rfl rfl rfl ?_ ?_
 · intro env' he
   exact stW tabOk rfl rfl ((rdv_congr (he 24 (by decide +kernel))).trans rfl) (by rw [rdn_congr (he 24 (by decide +kernel))]; first | exact tI | exact rfl) rfl ((rdv_congr (he 134 (by decide +kernel))).trans rfl) (by rw [rdn_congr (he 134 (by decide +kernel))]; first | exact tI | exact rfl) rfl rfl rfl rfl rfl rfl rfl ⟨rfl, rfl⟩
 repeat' (first
  | refine yqQ (a := 0) (b := 0) rfl (by decide +kernel) (by decide +kernel) rfl rfl rfl (fun k h1 h2 hg => by (have hk : k = 0 := (by omega)); (rcases hk with rfl) <;> (first | exact std0 | exact pcW (know_spec _ _ _) rfl rfl nd rfl nds | exact pcW (w4) rfl rfl nd rfl nds | exact std1)) (by exact rfl) ?_
  | refine yqQ (a := 0) (b := 1) rfl (by decide +kernel) (by decide +kernel) rfl rfl rfl (fun k h1 h2 hg => by (have hk : k = 0 ∨ k = 1 := (by omega)); (rcases hk with rfl | rfl) <;> (first | exact std0 | exact pcW (know_spec _ _ _) rfl rfl nd rfl nds | exact pcW (w4) rfl rfl nd rfl nds | exact std1)) (by exact rfl) ?_
  | refine yqQ (a := 1) (b := 1) rfl (by decide +kernel) (by decide +kernel) rfl rfl rfl (fun k h1 h2 hg => by (have hk : k = 1 := (by omega)); (rcases hk with rfl) <;> (first | exact std0 | exact pcW (know_spec _ _ _) rfl rfl nd rfl nds | exact pcW (w4) rfl rfl nd rfl nds | exact std1)) (by exact rfl) ?_
  | refine yqQ (a := 0) (b := 2) rfl (by decide +kernel) (by decide +kernel) rfl rfl rfl (fun k h1 h2 hg => by (have hk : k = 0 ∨ k = 1 ∨ k = 2 := (by omega)); (rcases hk with rfl | rfl | rfl) <;> (first | exact std0 | exact pcW (know_spec _ _ _) rfl rfl nd rfl nds | exact pcW (w4) rfl rfl nd rfl nds | exact std1)) (by exact rfl) ?_
  | refine yqQ (a := 1) (b := 2) rfl (by decide +kernel) (by decide +kernel) rfl rfl rfl (fun k h1 h2 hg => by (have hk : k = 1 ∨ k = 2 := (by omega)); (rcases hk with rfl | rfl) <;> (first | exact std0 | exact pcW (know_spec _ _ _) rfl rfl nd rfl nds | exact pcW (w4) rfl rfl nd rfl nds | exact std1)) (by exact rfl) ?_
  | refine yqQ (a := 2) (b := 2) rfl (by decide +kernel) (by decide +kernel) rfl rfl rfl (fun k h1 h2 hg => by (have hk : k = 2 := (by omega)); (rcases hk with rfl) <;> (first | exact std0 | exact pcW (know_spec _ _ _) rfl rfl nd rfl nds | exact pcW (w4) rfl rfl nd rfl nds | exact std1)) (by exact rfl) ?_)
 refine YQ.nil (hK _ _ ?_)
 clear hK K'
 repeat' (first | refine aoQ rfl rfl rfl (fun hg => by first | exact std0 | exact pcW (ex2) rfl rfl nd rfl nds | exact pcW (s2) rfl rfl nd rfl nds | exact pcW (s3) rfl rfl nd rfl nds | exact pcW (t1) rfl rfl nd rfl nds | exact pcW (t2) rfl rfl nd rfl nds | exact pbD tabOk rfl rfl nds) (by exact rfl) ?_ | refine sqW ?_ | refine rgK (fun K' hK => ?_) | (refine aoN (hK _ _ ?_); clear hK K') | refine aoE (stW tabOk rfl rfl rfl tI rfl rfl tI rfl rfl rfl rfl rfl rfl rfl ?_) | refine aoE (alW tabOk rfl rfl rfl rfl rfl rfl ?_) | refine rtW ?_ | refine dK2 (by decide +kernel) (by kernel_rfl) (by decide +kernel) rfl (fun K' hK => ?_) | (refine aqN (hK _ ?_); clear hK K') | refine aqQ rfl rfl (fun hg => by first | exact std0 | exact pcW (s1) rfl rfl nd rfl nds | exact pcW (know_spec _ _ _) rfl rfl nd rfl nds | exact pbS tabOk rfl rfl nds | exact std1) (by exact rfl) ?_)
 refine ⟨.inr rfl, _, rfl, Ent.b ?_⟩
 first
  | exact (show (((((((((true && (((W.s.evs.length : Nat) : Int) == 0)) && W.up) && !T.up) && true) && true) && true) && true) && !false)) = true by rw [hlw, g3, g4]; rfl)
  | (simp [g2, g3, g4]; done)
  | (trace_state; sorry)
end Go.Proofs.YtbneeinknlddaaaGreat
namespace Go.Ab
theorem PRun.remV {P : Program} {o : Oper} {env : Env} {σ : Store} {t t' : TypeId} {x y : Operand} {k : IntKind} {a b r : Int} (h : a.tmod b = r) (hb : b ≠ 0) (ho : o.op = .binOp .rem t x y t') (hx : rdv env x = some (.prim (.int k a))) (nx : rdn env x) (hy : rdv env y = some (.prim (.int k b))) (ny : rdn env y) :
 PRun P o env σ (.prim (.int k r)) := h ▸ PRun.rem ho (Rd.w hx nx) (Rd.w hy ny) hb
end Go.Ab
namespace Go.Proofs.YtbneeinknlddaaaGreat
open Go.Ab Go.Jo Go.Sy
attribute [local irreducible] AWP AOps EStep AQ PStep PRun PCall TCall VCall DStep TDies AWD DCall
end Go.Proofs.YtbneeinknlddaaaGreat
namespace Go.Ab
theorem PRun.eq {P : Program} {o : Oper} {env : Env} {σ : Store} {v v' : AV} (h : PRun P o env σ v) (e : v = v') : PRun P o env σ v' := e ▸ h
end Go.Ab
