/- Contracts by content: the examples at the head of each law. No statement is proved here. -/
import Derived.Test.YtbneeinknlddaaaGreatP27
import Derived.Test.YtbneeinknlddaaaGreatP28
set_option linter.unusedVariables false
set_option linter.unusedSimpArgs false
namespace Go.Proofs.YtbneeinknlddaaaGreat
open Go.Ab Go.Jo Go.Sy
attribute [local irreducible] AWP AOps EStep AQ PStep PRun PCall TCall VCall DStep TDies AWD DCall
theorem tabIn_of {t : Sy.Tab} (h : validT t = true) : TabIn t := by
 have h1 := validE_iff.1 (validT_evs h)
 have h2 := (said_true (validT_said h).1).1
 exact ⟨Txt.of h1.1, by have := h1.2.2; omega, by omega⟩
theorem ex_valid : validT exC = true ∧ validT exD = true ∧ validT exTorn = true ∧ validT exQ = true ∧ validT exKept = true ∧ validT exAgain = true ∧ validT (begin_ 1) = true ∧ validT (begin_ 2) = true := by decide +kernel
theorem know_txt (c s n : Int) : (knowE c s n).mark.text.length ≤ 9223372036854775807 := nZl _
theorem pair_eta {α β : Type} {p : α × β} {b : β} (h : p.2 = b) : p = (p.1, b) := by subst h; rfl
theorem trip_eta {α β γ : Type} {p : α × β × γ} {c : γ} (h : p.2.2 = c) : p = (p.1, p.2.1, c) := by subst h; rfl
set_option maxHeartbeats 6400000 in
set_option maxRecDepth 20000 in
theorem head_spec : PCall Tryz.prog 7 [] (.b true) := by
 obtain ⟨v1, v2, v3, v4, v5, v6, v7, v8⟩ := ex_valid
 obtain ⟨f1, f2, f3⟩ := ex_c2
 obtain ⟨g1, g2, g3, g4⟩ := ex_woken
 obtain ⟨p1, p2, p3, p4⟩ := ex_p
 obtain ⟨q1, q2, q3⟩ := ex_kept
 obtain ⟨m1, m2, m3, m4⟩ := ex_m
 have c1 := begin_spec 1 (by decide)
 have c2 := begin_spec 2 (by decide)
 have w1 := write_spec (begin_ 1) (tabIn_of v7) (knowE 1 1 3) (know_txt _ _ _)
 have w2 := write_spec (begin_ 2) (tabIn_of v8) (knowE 1 2 0) (know_txt _ _ _)
 have w3 := write_spec exC (tabIn_of v1) (knowE 1 1 4) (know_txt _ _ _)
 have w4 := write_spec exC (tabIn_of v1) (knowE 2 2 4) (know_txt _ _ _)
 have cr1 : PCall Tryz.prog 12 [.agg (encTab exC), .int ((exC.b.length : Int).tdiv 2)] (tupT (exTorn, 0)) := by
  have h := crash_spec exC (tabIn_of v1) ((exC.b.length / 2 : Nat) : Int)
  rw [pair_eta ex_torn] at h
  rw [show (exC.b.length : Int).tdiv 2 = ((exC.b.length / 2 : Nat) : Int) from tdivN _ _]
  exact h
 have cr2 := crash_spec exP (tabIn_of p4) ((exP.b.length : Int) - 1)
 have cr3 := crash_spec exP (tabIn_of p4) (exP.b.length : Int)
 have wk1 := wake_spec exTorn (tabIn_of v3)
 have wk2 := wake_spec exKept (tabIn_of v5)
 have ex1 := exch_spec exC exD (tabIn_of v1) (tabIn_of v2)
 have ex2 := exch_spec exTorn exD (tabIn_of v3) (tabIn_of v2)
 have s1 := same22_spec exP.s.evs [knowE 1 1 3, knowE 1 2 0] (tabIn_of p4).evs (by decide)
 have s2 := same22_spec exQ.s.evs exP.s.evs (tabIn_of v4).evs (tabIn_of p4).evs
 have s3 := same42_spec exAgain exP (tabIn_of v6).evs (tabIn_of p4).evs (tabIn_of v6).b (tabIn_of p4).b
 have t1 := tvalid_spec exP (tabIn_of p4)
 have t2 := PCall.entAt [] [] ent_no (tvalid_spec noTab ⟨fun e he => absurd he zCc, nZl _, nZl _⟩)
 rw [pair_eta ex_c, show (writeT (begin_ 1) (knowE 1 1 3)).1 = exC from rfl] at w1
 rw [pair_eta ex_d, show (writeT (begin_ 2) (knowE 1 2 0)).1 = exD from rfl] at w2
 rw [pair_eta m1] at w3
 rw [pair_eta m2] at w4
 rw [pair_eta ex_j] at cr2
 rw [pair_eta q1, show (crashT exP (exP.b.length : Int)).1 = exKept from rfl] at cr3
 rw [pair_eta g1, show (wakeT exTorn).1 = exWoken from rfl] at wk1
 rw [pair_eta q2, show (wakeT exKept).1 = exAgain from rfl] at wk2
 rw [trip_eta p1, show (exchT exC exD).1 = exP from rfl, show (exchT exC exD).2.1 = exQ from rfl] at ex1
 rw [trip_eta m3] at ex2
 rw [show (exP.s.evs == [knowE 1 1 3, knowE 1 2 0]) = true by rw [p2]; exact beq_self_eq_true _] at s1
 rw [show (exQ.s.evs == exP.s.evs) = true by rw [p3]; exact beq_self_eq_true _] at s2
 rw [decide_eq_true q3] at s3
 rw [p4] at t1
 rw [m4] at t2
 have hCl := (tabIn_of v1).b
 have hPl := (tabIn_of p4).b
 clear v1 v2 v3 v4 v5 v6 v7 v8 p1 p2 p3 p4 q1 q2 q3 m1 m2 m3 m4 g1
 generalize (writeT exC (knowE 1 1 4)).1 = X1 at *
 generalize (writeT exC (knowE 2 2 4)).1 = X2 at *
 generalize (crashT exP ((exP.b.length : Int) - 1)).1 = X3 at *
 generalize (exchT exTorn exD).1 = X4 at *
 generalize (exchT exTorn exD).2.1 = X5 at *
 generalize exC = C at *
 generalize exD = D at *
 generalize exTorn = T at *
 generalize exWoken = W at *
 generalize exP = P at *
 generalize exQ = Q at *
 generalize exKept = K at *
 generalize exAgain = A at *
 have hlc : ¬ ((C.b.length : Int) < 2) := by omega
 have hdv : (C.b.length : Int).tdiv 2 = ((C.b.length / 2 : Nat) : Int) := tdivN _ _
 have hd1 : 0 ≤ (C.b.length : Int).tdiv 2 := by omega
 have hd2 : (C.b.length : Int).tdiv 2 ≤ 1000000000 := by omega
 have hlw : W.s.evs.length = 0 := by rw [g2]; rfl
 refine PCall.bodyS tabOk Tryz.func7 rfl rfl Tryz.ntmps7 rfl ?_
 repeat' (first | refine aoQ rfl rfl rfl (fun hg => by first | exact std0 | exact pcW (c1) rfl rfl nd rfl nds | exact pcW (c2) rfl rfl nd rfl nds | fail) (by exact rfl) ?_ | refine sqW ?_ | refine rgK (fun K' hK => ?_) | (refine aoN (hK _ _ ?_); clear hK K') | refine aoE (stW tabOk rfl rfl rfl tI rfl rfl tI rfl rfl rfl rfl rfl rfl rfl ?_) | refine aoE (alW tabOk rfl rfl rfl rfl rfl rfl ?_))
 refine AWP.drawY (fun j => match j with | 0 => [.var (encTab (begin_ 1)), .var (encTab (begin_ 2))] | 1 => [.var (encTab (begin_ 1)), .var (encTab (begin_ 2)), .var zeroTab] | _ => [.var (encTab (begin_ 1)), .var (encTab (begin_ 2)), .var (encTab C)]) rfl (by kernel_rfl) (by decide +kernel) rfl (by decide +kernel) (fun K' hK => ?_)
 repeat' (first
  | refine yqQ (a := 0) (b := 0) rfl (by decide +kernel) (by decide +kernel) rfl rfl rfl (fun k h1 h2 hg => by (have hk : k = 0 := (by omega)); (rcases hk with rfl) <;> (first | exact std0 | exact pcW (know_spec _ _ _) rfl rfl nd rfl nds | exact pcW (w1) rfl rfl nd rfl nds | exact std1)) (by exact rfl) ?_
  | refine yqQ (a := 0) (b := 1) rfl (by decide +kernel) (by decide +kernel) rfl rfl rfl (fun k h1 h2 hg => by (have hk : k = 0 ∨ k = 1 := (by omega)); (rcases hk with rfl | rfl) <;> (first | exact std0 | exact pcW (know_spec _ _ _) rfl rfl nd rfl nds | exact pcW (w1) rfl rfl nd rfl nds | exact std1)) (by exact rfl) ?_
  | refine yqQ (a := 1) (b := 1) rfl (by decide +kernel) (by decide +kernel) rfl rfl rfl (fun k h1 h2 hg => by (have hk : k = 1 := (by omega)); (rcases hk with rfl) <;> (first | exact std0 | exact pcW (know_spec _ _ _) rfl rfl nd rfl nds | exact pcW (w1) rfl rfl nd rfl nds | exact std1)) (by exact rfl) ?_
  | refine yqQ (a := 0) (b := 2) rfl (by decide +kernel) (by decide +kernel) rfl rfl rfl (fun k h1 h2 hg => by (have hk : k = 0 ∨ k = 1 ∨ k = 2 := (by omega)); (rcases hk with rfl | rfl | rfl) <;> (first | exact std0 | exact pcW (know_spec _ _ _) rfl rfl nd rfl nds | exact pcW (w1) rfl rfl nd rfl nds | exact std1)) (by exact rfl) ?_
  | refine yqQ (a := 1) (b := 2) rfl (by decide +kernel) (by decide +kernel) rfl rfl rfl (fun k h1 h2 hg => by (have hk : k = 1 ∨ k = 2 := (by omega)); (rcases hk with rfl | rfl) <;> (first | exact std0 | exact pcW (know_spec _ _ _) rfl rfl nd rfl nds | exact pcW (w1) rfl rfl nd rfl nds | exact std1)) (by exact rfl) ?_
  | refine yqQ (a := 2) (b := 2) rfl (by decide +kernel) (by decide +kernel) rfl rfl rfl (fun k h1 h2 hg => by (have hk : k = 2 := (by omega)); (rcases hk with rfl) <;> (first | exact std0 | exact pcW (know_spec _ _ _) rfl rfl nd rfl nds | exact pcW (w1) rfl rfl nd rfl nds | exact std1)) (by exact rfl) ?_)
 refine YQ.e (v := .ptr 2 0) (d := some 5) rfl rfl rfl ?_ ?_
 · intro env' he
   exact alW tabOk rfl rfl rfl rfl rfl rfl ⟨rfl, rfl⟩
 repeat' (first
  | refine yqQ (a := 0) (b := 0) rfl (by decide +kernel) (by decide +kernel) rfl rfl rfl (fun k h1 h2 hg => by (have hk : k = 0 := (by omega)); (rcases hk with rfl) <;> (first | exact std0 | exact pcW (know_spec _ _ _) rfl rfl nd rfl nds | exact pcW (w1) rfl rfl nd rfl nds | exact std1)) (by exact rfl) ?_
  | refine yqQ (a := 0) (b := 1) rfl (by decide +kernel) (by decide +kernel) rfl rfl rfl (fun k h1 h2 hg => by (have hk : k = 0 ∨ k = 1 := (by omega)); (rcases hk with rfl | rfl) <;> (first | exact std0 | exact pcW (know_spec _ _ _) rfl rfl nd rfl nds | exact pcW (w1) rfl rfl nd rfl nds | exact std1)) (by exact rfl) ?_
  | refine yqQ (a := 1) (b := 1) rfl (by decide +kernel) (by decide +kernel) rfl rfl rfl (fun k h1 h2 hg => by (have hk : k = 1 := (by omega)); (rcases hk with rfl) <;> (first | exact std0 | exact pcW (know_spec _ _ _) rfl rfl nd rfl nds | exact pcW (w1) rfl rfl nd rfl nds | exact std1)) (by exact rfl) ?_
  | refine yqQ (a := 0) (b := 2) rfl (by decide +kernel) (by decide +kernel) rfl rfl rfl (fun k h1 h2 hg => by (have hk : k = 0 ∨ k = 1 ∨ k = 2 := (by omega)); (rcases hk with rfl | rfl | rfl) <;> (first | exact std0 | exact pcW (know_spec _ _ _) rfl rfl nd rfl nds | exact pcW (w1) rfl rfl nd rfl nds | exact std1)) (by exact rfl) ?_
  | refine yqQ (a := 1) (b := 2) rfl (by decide +kernel) (by decide +kernel) rfl rfl rfl (fun k h1 h2 hg => by (have hk : k = 1 ∨ k = 2 := (by omega)); (rcases hk with rfl | rfl) <;> (first | exact std0 | exact pcW (know_spec _ _ _) rfl rfl nd rfl nds | exact pcW (w1) rfl rfl nd rfl nds | exact std1)) (by exact rfl) ?_
  | refine yqQ (a := 2) (b := 2) rfl (by decide +kernel) (by decide +kernel) rfl rfl rfl (fun k h1 h2 hg => by (have hk : k = 2 := (by omega)); (rcases hk with rfl) <;> (first | exact std0 | exact pcW (know_spec _ _ _) rfl rfl nd rfl nds | exact pcW (w1) rfl rfl nd rfl nds | exact std1)) (by exact rfl) ?_)
 refine YQ.e (v := .any) (d := none) rfl rfl rfl ?_ ?_
 · intro env' he
   exact stW tabOk rfl rfl ((rdv_congr (he 5 (by decide +kernel))).trans rfl) (by rw [rdn_congr (he 5 (by decide +kernel))]; first | exact tI | exact rfl) rfl ((rdv_congr (he 42 (by decide +kernel))).trans rfl) (by rw [rdn_congr (he 42 (by decide +kernel))]; first | exact tI | exact rfl) rfl rfl rfl rfl rfl rfl rfl ⟨rfl, rfl⟩
 repeat' (first
  | refine yqQ (a := 0) (b := 0) rfl (by decide +kernel) (by decide +kernel) rfl rfl rfl (fun k h1 h2 hg => by (have hk : k = 0 := (by omega)); (rcases hk with rfl) <;> (first | exact std0 | exact pcW (know_spec _ _ _) rfl rfl nd rfl nds | exact pcW (w1) rfl rfl nd rfl nds | exact std1)) (by exact rfl) ?_
  | refine yqQ (a := 0) (b := 1) rfl (by decide +kernel) (by decide +kernel) rfl rfl rfl (fun k h1 h2 hg => by (have hk : k = 0 ∨ k = 1 := (by omega)); (rcases hk with rfl | rfl) <;> (first | exact std0 | exact pcW (know_spec _ _ _) rfl rfl nd rfl nds | exact pcW (w1) rfl rfl nd rfl nds | exact std1)) (by exact rfl) ?_
  | refine yqQ (a := 1) (b := 1) rfl (by decide +kernel) (by decide +kernel) rfl rfl rfl (fun k h1 h2 hg => by (have hk : k = 1 := (by omega)); (rcases hk with rfl) <;> (first | exact std0 | exact pcW (know_spec _ _ _) rfl rfl nd rfl nds | exact pcW (w1) rfl rfl nd rfl nds | exact std1)) (by exact rfl) ?_
  | refine yqQ (a := 0) (b := 2) rfl (by decide +kernel) (by decide +kernel) rfl rfl rfl (fun k h1 h2 hg => by (have hk : k = 0 ∨ k = 1 ∨ k = 2 := (by omega)); (rcases hk with rfl | rfl | rfl) <;> (first | exact std0 | exact pcW (know_spec _ _ _) rfl rfl nd rfl nds | exact pcW (w1) rfl rfl nd rfl nds | exact std1)) (by exact rfl) ?_
  | refine yqQ (a := 1) (b := 2) rfl (by decide +kernel) (by decide +kernel) rfl rfl rfl (fun k h1 h2 hg => by (have hk : k = 1 ∨ k = 2 := (by omega)); (rcases hk with rfl | rfl) <;> (first | exact std0 | exact pcW (know_spec _ _ _) rfl rfl nd rfl nds | exact pcW (w1) rfl rfl nd rfl nds | exact std1)) (by exact rfl) ?_
  | refine yqQ (a := 2) (b := 2) rfl (by decide +kernel) (by decide +kernel) rfl rfl rfl (fun k h1 h2 hg => by (have hk : k = 2 := (by omega)); (rcases hk with rfl) <;> (first | exact std0 | exact pcW (know_spec _ _ _) rfl rfl nd rfl nds | exact pcW (w1) rfl rfl nd rfl nds | exact std1)) (by exact rfl) ?_)
 refine YQ.nil (hK _ _ ?_)
 clear hK K'
 repeat' (first | refine sqW ?_)
 refine AWP.drawY (fun j => match j with | 0 => [.var (encTab (begin_ 1)), .var (encTab (begin_ 2)), .var (encTab C)] | 1 => [.var (encTab (begin_ 1)), .var (encTab (begin_ 2)), .var (encTab C), .var zeroTab] | _ => [.var (encTab (begin_ 1)), .var (encTab (begin_ 2)), .var (encTab C), .var (encTab D)]) rfl (by kernel_rfl) (by decide +kernel) rfl (by decide +kernel) (fun K' hK => ?_)
 repeat' (first
  | refine yqQ (a := 0) (b := 0) rfl (by decide +kernel) (by decide +kernel) rfl rfl rfl (fun k h1 h2 hg => by (have hk : k = 0 := (by omega)); (rcases hk with rfl) <;> (first | exact std0 | exact pcW (know_spec _ _ _) rfl rfl nd rfl nds | exact pcW (w2) rfl rfl nd rfl nds | exact std1)) (by exact rfl) ?_
  | refine yqQ (a := 0) (b := 1) rfl (by decide +kernel) (by decide +kernel) rfl rfl rfl (fun k h1 h2 hg => by (have hk : k = 0 ∨ k = 1 := (by omega)); (rcases hk with rfl | rfl) <;> (first | exact std0 | exact pcW (know_spec _ _ _) rfl rfl nd rfl nds | exact pcW (w2) rfl rfl nd rfl nds | exact std1)) (by exact rfl) ?_
  | refine yqQ (a := 1) (b := 1) rfl (by decide +kernel) (by decide +kernel) rfl rfl rfl (fun k h1 h2 hg => by (have hk : k = 1 := (by omega)); (rcases hk with rfl) <;> (first | exact std0 | exact pcW (know_spec _ _ _) rfl rfl nd rfl nds | exact pcW (w2) rfl rfl nd rfl nds | exact std1)) (by exact rfl) ?_
  | refine yqQ (a := 0) (b := 2) rfl (by decide +kernel) (by decide +kernel) rfl rfl rfl (fun k h1 h2 hg => by (have hk : k = 0 ∨ k = 1 ∨ k = 2 := (by omega)); (rcases hk with rfl | rfl | rfl) <;> (first | exact std0 | exact pcW (know_spec _ _ _) rfl rfl nd rfl nds | exact pcW (w2) rfl rfl nd rfl nds | exact std1)) (by exact rfl) ?_
  | refine yqQ (a := 1) (b := 2) rfl (by decide +kernel) (by decide +kernel) rfl rfl rfl (fun k h1 h2 hg => by (have hk : k = 1 ∨ k = 2 := (by omega)); (rcases hk with rfl | rfl) <;> (first | exact std0 | exact pcW (know_spec _ _ _) rfl rfl nd rfl nds | exact pcW (w2) rfl rfl nd rfl nds | exact std1)) (by exact rfl) ?_
  | refine yqQ (a := 2) (b := 2) rfl (by decide +kernel) (by decide +kernel) rfl rfl rfl (fun k h1 h2 hg => by (have hk : k = 2 := (by omega)); (rcases hk with rfl) <;> (first | exact std0 | exact pcW (know_spec _ _ _) rfl rfl nd rfl nds | exact pcW (w2) rfl rfl nd rfl nds | exact std1)) (by exact rfl) ?_)
 refine YQ.e (v := .ptr 3 0) (d := some 7) rfl rfl rfl ?_ ?_
 · intro env' he
   exact alW tabOk rfl rfl rfl rfl rfl rfl ⟨rfl, rfl⟩
 repeat' (first
  | refine yqQ (a := 0) (b := 0) rfl (by decide +kernel) (by decide +kernel) rfl rfl rfl (fun k h1 h2 hg => by (have hk : k = 0 := (by omega)); (rcases hk with rfl) <;> (first | exact std0 | exact pcW (know_spec _ _ _) rfl rfl nd rfl nds | exact pcW (w2) rfl rfl nd rfl nds | exact std1)) (by exact rfl) ?_
  | refine yqQ (a := 0) (b := 1) rfl (by decide +kernel) (by decide +kernel) rfl rfl rfl (fun k h1 h2 hg => by (have hk : k = 0 ∨ k = 1 := (by omega)); (rcases hk with rfl | rfl) <;> (first | exact std0 | exact pcW (know_spec _ _ _) rfl rfl nd rfl nds | exact pcW (w2) rfl rfl nd rfl nds | exact std1)) (by exact rfl) ?_
  | refine yqQ (a := 1) (b := 1) rfl (by decide +kernel) (by decide +kernel) rfl rfl rfl (fun k h1 h2 hg => by (have hk : k = 1 := (by omega)); (rcases hk with rfl) <;> (first | exact std0 | exact pcW (know_spec _ _ _) rfl rfl nd rfl nds | exact pcW (w2) rfl rfl nd rfl nds | exact std1)) (by exact rfl) ?_
  | refine yqQ (a := 0) (b := 2) rfl (by decide +kernel) (by decide +kernel) rfl rfl rfl (fun k h1 h2 hg => by (have hk : k = 0 ∨ k = 1 ∨ k = 2 := (by omega)); (rcases hk with rfl | rfl | rfl) <;> (first | exact std0 | exact pcW (know_spec _ _ _) rfl rfl nd rfl nds | exact pcW (w2) rfl rfl nd rfl nds | exact std1)) (by exact rfl) ?_
  | refine yqQ (a := 1) (b := 2) rfl (by decide +kernel) (by decide +kernel) rfl rfl rfl (fun k h1 h2 hg => by (have hk : k = 1 ∨ k = 2 := (by omega)); (rcases hk with rfl | rfl) <;> (first | exact std0 | exact pcW (know_spec _ _ _) rfl rfl nd rfl nds | exact pcW (w2) rfl rfl nd rfl nds | exact std1)) (by exact rfl) ?_
  | refine yqQ (a := 2) (b := 2) rfl (by decide +kernel) (by decide +kernel) rfl rfl rfl (fun k h1 h2 hg => by (have hk : k = 2 := (by omega)); (rcases hk with rfl) <;> (first | exact std0 | exact pcW (know_spec _ _ _) rfl rfl nd rfl nds | exact pcW (w2) rfl rfl nd rfl nds | exact std1)) (by exact rfl) ?_)
 refine YQ.e (v := .any) (d := none) rfl rfl rfl ?_ ?_
 · intro env' he
   exact stW tabOk rfl rfl ((rdv_congr (he 7 (by decide +kernel))).trans rfl) (by rw [rdn_congr (he 7 (by decide +kernel))]; first | exact tI | exact rfl) rfl ((rdv_congr (he 48 (by decide +kernel))).trans rfl) (by rw [rdn_congr (he 48 (by decide +kernel))]; first | exact tI | exact rfl) rfl rfl rfl rfl rfl rfl rfl ⟨rfl, rfl⟩
 repeat' (first
  | refine yqQ (a := 0) (b := 0) rfl (by decide +kernel) (by decide +kernel) rfl rfl rfl (fun k h1 h2 hg => by (have hk : k = 0 := (by omega)); (rcases hk with rfl) <;> (first | exact std0 | exact pcW (know_spec _ _ _) rfl rfl nd rfl nds | exact pcW (w2) rfl rfl nd rfl nds | exact std1)) (by exact rfl) ?_
  | refine yqQ (a := 0) (b := 1) rfl (by decide +kernel) (by decide +kernel) rfl rfl rfl (fun k h1 h2 hg => by (have hk : k = 0 ∨ k = 1 := (by omega)); (rcases hk with rfl | rfl) <;> (first | exact std0 | exact pcW (know_spec _ _ _) rfl rfl nd rfl nds | exact pcW (w2) rfl rfl nd rfl nds | exact std1)) (by exact rfl) ?_
  | refine yqQ (a := 1) (b := 1) rfl (by decide +kernel) (by decide +kernel) rfl rfl rfl (fun k h1 h2 hg => by (have hk : k = 1 := (by omega)); (rcases hk with rfl) <;> (first | exact std0 | exact pcW (know_spec _ _ _) rfl rfl nd rfl nds | exact pcW (w2) rfl rfl nd rfl nds | exact std1)) (by exact rfl) ?_
  | refine yqQ (a := 0) (b := 2) rfl (by decide +kernel) (by decide +kernel) rfl rfl rfl (fun k h1 h2 hg => by (have hk : k = 0 ∨ k = 1 ∨ k = 2 := (by omega)); (rcases hk with rfl | rfl | rfl) <;> (first | exact std0 | exact pcW (know_spec _ _ _) rfl rfl nd rfl nds | exact pcW (w2) rfl rfl nd rfl nds | exact std1)) (by exact rfl) ?_
  | refine yqQ (a := 1) (b := 2) rfl (by decide +kernel) (by decide +kernel) rfl rfl rfl (fun k h1 h2 hg => by (have hk : k = 1 ∨ k = 2 := (by omega)); (rcases hk with rfl | rfl) <;> (first | exact std0 | exact pcW (know_spec _ _ _) rfl rfl nd rfl nds | exact pcW (w2) rfl rfl nd rfl nds | exact std1)) (by exact rfl) ?_
  | refine yqQ (a := 2) (b := 2) rfl (by decide +kernel) (by decide +kernel) rfl rfl rfl (fun k h1 h2 hg => by (have hk : k = 2 := (by omega)); (rcases hk with rfl) <;> (first | exact std0 | exact pcW (know_spec _ _ _) rfl rfl nd rfl nds | exact pcW (w2) rfl rfl nd rfl nds | exact std1)) (by exact rfl) ?_)
 refine YQ.nil (hK _ _ ?_)
 clear hK K'
 repeat' (first | refine aoQ rfl rfl rfl (fun hg => by first | exact std0 | exact pcW (cr1) rfl rfl nd rfl nds | exact pcW (wk1) rfl rfl nd rfl nds | exact pcW (ex1) rfl rfl nd rfl nds | exact pcW (cr2) rfl rfl nd rfl nds | exact pcW (cr3) rfl rfl nd rfl nds | exact pcW (wk2) rfl rfl nd rfl nds | exact std1) (by exact rfl) ?_ | refine sqW ?_ | refine rgK (fun K' hK => ?_) | (refine aoN (hK _ _ ?_); clear hK K') | refine aoE (stW tabOk rfl rfl rfl tI rfl rfl tI rfl rfl rfl rfl rfl rfl rfl ?_) | refine aoE (alW tabOk rfl rfl rfl rfl rfl rfl ?_) | refine cdN rfl tI (fun hc => ?_) (fun hc => ?_) | refine skW ?_ | refine rtW ?_)
 · exfalso; simp [f2, f3] at hc; omega
 refine AWP.drawY (fun j => match j with | 0 => [.var (encTab (begin_ 1)), .var (encTab (begin_ 2)), .var (encTab C), .var (encTab D), .var (encTab T), .var (encTab W), .var (encTab P), .var (encTab Q), .var (encTab X3), .var (encTab K), .var (encTab A)] | 1 => [.var (encTab (begin_ 1)), .var (encTab (begin_ 2)), .var (encTab C), .var (encTab D), .var (encTab T), .var (encTab W), .var (encTab P), .var (encTab Q), .var (encTab X3), .var (encTab K), .var (encTab A), .var zeroTab] | _ => [.var (encTab (begin_ 1)), .var (encTab (begin_ 2)), .var (encTab C), .var (encTab D), .var (encTab T), .var (encTab W), .var (encTab P), .var (encTab Q), .var (encTab X3), .var (encTab K), .var (encTab A), .var (encTab X1)]) rfl (by kernel_rfl) (by decide +kernel) rfl (by decide +kernel) (fun K' hK => ?_)
 repeat' (first
  | refine yqQ (a := 0) (b := 0) rfl (by decide +kernel) (by decide +kernel) rfl rfl rfl (fun k h1 h2 hg => by (have hk : k = 0 := (by omega)); (rcases hk with rfl) <;> (first | exact std0 | exact pcW (know_spec _ _ _) rfl rfl nd rfl nds | exact pcW (w3) rfl rfl nd rfl nds | exact std1)) (by exact rfl) ?_
  | refine yqQ (a := 0) (b := 1) rfl (by decide +kernel) (by decide +kernel) rfl rfl rfl (fun k h1 h2 hg => by (have hk : k = 0 ∨ k = 1 := (by omega)); (rcases hk with rfl | rfl) <;> (first | exact std0 | exact pcW (know_spec _ _ _) rfl rfl nd rfl nds | exact pcW (w3) rfl rfl nd rfl nds | exact std1)) (by exact rfl) ?_
  | refine yqQ (a := 1) (b := 1) rfl (by decide +kernel) (by decide +kernel) rfl rfl rfl (fun k h1 h2 hg => by (have hk : k = 1 := (by omega)); (rcases hk with rfl) <;> (first | exact std0 | exact pcW (know_spec _ _ _) rfl rfl nd rfl nds | exact pcW (w3) rfl rfl nd rfl nds | exact std1)) (by exact rfl) ?_
  | refine yqQ (a := 0) (b := 2) rfl (by decide +kernel) (by decide +kernel) rfl rfl rfl (fun k h1 h2 hg => by (have hk : k = 0 ∨ k = 1 ∨ k = 2 := (by omega)); (rcases hk with rfl | rfl | rfl) <;> (first | exact std0 | exact pcW (know_spec _ _ _) rfl rfl nd rfl nds | exact pcW (w3) rfl rfl nd rfl nds | exact std1)) (by exact rfl) ?_
  | refine yqQ (a := 1) (b := 2) rfl (by decide +kernel) (by decide +kernel) rfl rfl rfl (fun k h1 h2 hg => by (have hk : k = 1 ∨ k = 2 := (by omega)); (rcases hk with rfl | rfl) <;> (first | exact std0 | exact pcW (know_spec _ _ _) rfl rfl nd rfl nds | exact pcW (w3) rfl rfl nd rfl nds | exact std1)) (by exact rfl) ?_
  | refine yqQ (a := 2) (b := 2) rfl (by decide +kernel) (by decide +kernel) rfl rfl rfl (fun k h1 h2 hg => by (have hk : k = 2 := (by omega)); (rcases hk with rfl) <;> (first | exact std0 | exact pcW (know_spec _ _ _) rfl rfl nd rfl nds | exact pcW (w3) rfl rfl nd rfl nds | exact std1)) (by exact rfl) ?_)
 refine YQ.e (v := .ptr 11 0) (d := some 22) rfl rfl rfl ?_ ?_
 · intro env' he
   exact alW tabOk rfl rfl rfl rfl rfl rfl ⟨rfl, rfl⟩
 repeat' (first
  | refine yqQ (a := 0) (b := 0) rfl (by decide +kernel) (by decide +kernel) rfl rfl rfl (fun k h1 h2 hg => by (have hk : k = 0 := (by omega)); (rcases hk with rfl) <;> (first | exact std0 | exact pcW (know_spec _ _ _) rfl rfl nd rfl nds | exact pcW (w3) rfl rfl nd rfl nds | exact std1)) (by exact rfl) ?_
  | refine yqQ (a := 0) (b := 1) rfl (by decide +kernel) (by decide +kernel) rfl rfl rfl (fun k h1 h2 hg => by (have hk : k = 0 ∨ k = 1 := (by omega)); (rcases hk with rfl | rfl) <;> (first | exact std0 | exact pcW (know_spec _ _ _) rfl rfl nd rfl nds | exact pcW (w3) rfl rfl nd rfl nds | exact std1)) (by exact rfl) ?_
  | refine yqQ (a := 1) (b := 1) rfl (by decide +kernel) (by decide +kernel) rfl rfl rfl (fun k h1 h2 hg => by (have hk : k = 1 := (by omega)); (rcases hk with rfl) <;> (first | exact std0 | exact pcW (know_spec _ _ _) rfl rfl nd rfl nds | exact pcW (w3) rfl rfl nd rfl nds | exact std1)) (by exact rfl) ?_
  | refine yqQ (a := 0) (b := 2) rfl (by decide +kernel) (by decide +kernel) rfl rfl rfl (fun k h1 h2 hg => by (have hk : k = 0 ∨ k = 1 ∨ k = 2 := (by omega)); (rcases hk with rfl | rfl | rfl) <;> (first | exact std0 | exact pcW (know_spec _ _ _) rfl rfl nd rfl nds | exact pcW (w3) rfl rfl nd rfl nds | exact std1)) (by exact rfl) ?_
  | refine yqQ (a := 1) (b := 2) rfl (by decide +kernel) (by decide +kernel) rfl rfl rfl (fun k h1 h2 hg => by (have hk : k = 1 ∨ k = 2 := (by omega)); (rcases hk with rfl | rfl) <;> (first | exact std0 | exact pcW (know_spec _ _ _) rfl rfl nd rfl nds | exact pcW (w3) rfl rfl nd rfl nds | exact std1)) (by exact rfl) ?_
  | refine yqQ (a := 2) (b := 2) rfl (by decide +kernel) (by decide +kernel) rfl rfl rfl (fun k h1 h2 hg => by (have hk : k = 2 := (by omega)); (rcases hk with rfl) <;> (first | exact std0 | exact pcW (know_spec _ _ _) rfl rfl nd rfl nds | exact pcW (w3) rfl rfl nd rfl nds | exact std1)) (by exact rfl) ?_)
 refine YQ.e (v := .any) (d := none) rfl rfl rfl ?_ ?_
 · intro env' he
   exact stW tabOk rfl rfl ((rdv_congr (he 22 (by decide +kernel))).trans rfl) (by rw [rdn_congr (he 22 (by decide +kernel))]; first | exact tI | exact rfl) rfl ((rdv_congr (he 128 (by decide +kernel))).trans rfl) (by rw [rdn_congr (he 128 (by decide +kernel))]; first | exact tI | exact rfl) rfl rfl rfl rfl rfl rfl rfl ⟨rfl, rfl⟩
 repeat' (first
  | refine yqQ (a := 0) (b := 0) rfl (by decide +kernel) (by decide +kernel) rfl rfl rfl (fun k h1 h2 hg => by (have hk : k = 0 := (by omega)); (rcases hk with rfl) <;> (first | exact std0 | exact pcW (know_spec _ _ _) rfl rfl nd rfl nds | exact pcW (w3) rfl rfl nd rfl nds | exact std1)) (by exact rfl) ?_
  | refine yqQ (a := 0) (b := 1) rfl (by decide +kernel) (by decide +kernel) rfl rfl rfl (fun k h1 h2 hg => by (have hk : k = 0 ∨ k = 1 := (by omega)); (rcases hk with rfl | rfl) <;> (first | exact std0 | exact pcW (know_spec _ _ _) rfl rfl nd rfl nds | exact pcW (w3) rfl rfl nd rfl nds | exact std1)) (by exact rfl) ?_
  | refine yqQ (a := 1) (b := 1) rfl (by decide +kernel) (by decide +kernel) rfl rfl rfl (fun k h1 h2 hg => by (have hk : k = 1 := (by omega)); (rcases hk with rfl) <;> (first | exact std0 | exact pcW (know_spec _ _ _) rfl rfl nd rfl nds | exact pcW (w3) rfl rfl nd rfl nds | exact std1)) (by exact rfl) ?_
  | refine yqQ (a := 0) (b := 2) rfl (by decide +kernel) (by decide +kernel) rfl rfl rfl (fun k h1 h2 hg => by (have hk : k = 0 ∨ k = 1 ∨ k = 2 := (by omega)); (rcases hk with rfl | rfl | rfl) <;> (first | exact std0 | exact pcW (know_spec _ _ _) rfl rfl nd rfl nds | exact pcW (w3) rfl rfl nd rfl nds | exact std1)) (by exact rfl) ?_
  | refine yqQ (a := 1) (b := 2) rfl (by decide +kernel) (by decide +kernel) rfl rfl rfl (fun k h1 h2 hg => by (have hk : k = 1 ∨ k = 2 := (by omega)); (rcases hk with rfl | rfl) <;> (first | exact std0 | exact pcW (know_spec _ _ _) rfl rfl nd rfl nds | exact pcW (w3) rfl rfl nd rfl nds | exact std1)) (by exact rfl) ?_
  | refine yqQ (a := 2) (b := 2) rfl (by decide +kernel) (by decide +kernel) rfl rfl rfl (fun k h1 h2 hg => by (have hk : k = 2 := (by omega)); (rcases hk with rfl) <;> (first | exact std0 | exact pcW (know_spec _ _ _) rfl rfl nd rfl nds | exact pcW (w3) rfl rfl nd rfl nds | exact std1)) (by exact rfl) ?_)
 refine YQ.nil (hK _ _ ?_)
 clear hK K'
 repeat' (first | refine sqW ?_)
 refine AWP.drawY (fun j => match j with | 0 => [.var (encTab (begin_ 1)), .var (encTab (begin_ 2)), .var (encTab C), .var (encTab D), .var (encTab T), .var (encTab W), .var (encTab P), .var (encTab Q), .var (encTab X3), .var (encTab K), .var (encTab A), .var (encTab X1)] | 1 => [.var (encTab (begin_ 1)), .var (encTab (begin_ 2)), .var (encTab C), .var (encTab D), .var (encTab T), .var (encTab W), .var (encTab P), .var (encTab Q), .var (encTab X3), .var (encTab K), .var (encTab A), .var (encTab X1), .var zeroTab] | _ => [.var (encTab (begin_ 1)), .var (encTab (begin_ 2)), .var (encTab C), .var (encTab D), .var (encTab T), .var (encTab W), .var (encTab P), .var (encTab Q), .var (encTab X3), .var (encTab K), .var (encTab A), .var (encTab X1), .var (encTab X2)]) rfl (by kernel_rfl) (by decide +kernel) rfl (by decide +kernel) (fun K' hK => ?_)
 repeat' (first
  | refine yqQ (a := 0) (b := 0) rfl (by decide +kernel) (by decide +kernel) rfl rfl rfl (fun k h1 h2 hg => by (have hk : k = 0 := (by omega)); (rcases hk with rfl) <;> (first | exact std0 | exact pcW (know_spec _ _ _) rfl rfl nd rfl nds | exact pcW (w4) rfl rfl nd rfl nds | exact std1)) (by exact rfl) ?_
  | refine yqQ (a := 0) (b := 1) rfl (by decide +kernel) (by decide +kernel) rfl rfl rfl (fun k h1 h2 hg => by (have hk : k = 0 ∨ k = 1 := (by omega)); (rcases hk with rfl | rfl) <;> (first | exact std0 | exact pcW (know_spec _ _ _) rfl rfl nd rfl nds | exact pcW (w4) rfl rfl nd rfl nds | exact std1)) (by exact rfl) ?_
  | refine yqQ (a := 1) (b := 1) rfl (by decide +kernel) (by decide +kernel) rfl rfl rfl (fun k h1 h2 hg => by (have hk : k = 1 := (by omega)); (rcases hk with rfl) <;> (first | exact std0 | exact pcW (know_spec _ _ _) rfl rfl nd rfl nds | exact pcW (w4) rfl rfl nd rfl nds | exact std1)) (by exact rfl) ?_
  | refine yqQ (a := 0) (b := 2) rfl (by decide +kernel) (by decide +kernel) rfl rfl rfl (fun k h1 h2 hg => by (have hk : k = 0 ∨ k = 1 ∨ k = 2 := (by omega)); (rcases hk with rfl | rfl | rfl) <;> (first | exact std0 | exact pcW (know_spec _ _ _) rfl rfl nd rfl nds | exact pcW (w4) rfl rfl nd rfl nds | exact std1)) (by exact rfl) ?_
  | refine yqQ (a := 1) (b := 2) rfl (by decide +kernel) (by decide +kernel) rfl rfl rfl (fun k h1 h2 hg => by (have hk : k = 1 ∨ k = 2 := (by omega)); (rcases hk with rfl | rfl) <;> (first | exact std0 | exact pcW (know_spec _ _ _) rfl rfl nd rfl nds | exact pcW (w4) rfl rfl nd rfl nds | exact std1)) (by exact rfl) ?_
  | refine yqQ (a := 2) (b := 2) rfl (by decide +kernel) (by decide +kernel) rfl rfl rfl (fun k h1 h2 hg => by (have hk : k = 2 := (by omega)); (rcases hk with rfl) <;> (first | exact std0 | exact pcW (know_spec _ _ _) rfl rfl nd rfl nds | exact pcW (w4) rfl rfl nd rfl nds | exact std1)) (by exact rfl) ?_)
 refine YQ.e (v := .ptr 12 0) (d := some 24) rfl rfl rfl ?_ ?_
 · intro env' he
   exact alW tabOk rfl rfl rfl rfl rfl rfl ⟨rfl, rfl⟩
 repeat' (first
  | refine yqQ (a := 0) (b := 0) rfl (by decide +kernel) (by decide +kernel) rfl rfl rfl (fun k h1 h2 hg => by (have hk : k = 0 := (by omega)); (rcases hk with rfl) <;> (first | exact std0 | exact pcW (know_spec _ _ _) rfl rfl nd rfl nds | exact pcW (w4) rfl rfl nd rfl nds | exact std1)) (by exact rfl) ?_
  | refine yqQ (a := 0) (b := 1) rfl (by decide +kernel) (by decide +kernel) rfl rfl rfl (fun k h1 h2 hg => by (have hk : k = 0 ∨ k = 1 := (by omega)); (rcases hk with rfl | rfl) <;> (first | exact std0 | exact pcW (know_spec _ _ _) rfl rfl nd rfl nds | exact pcW (w4) rfl rfl nd rfl nds | exact std1)) (by exact rfl) ?_
  | refine yqQ (a := 1) (b := 1) rfl (by decide +kernel) (by decide +kernel) rfl rfl rfl (fun k h1 h2 hg => by (have hk : k = 1 := (by omega)); (rcases hk with rfl) <;> (first | exact std0 | exact pcW (know_spec _ _ _) rfl rfl nd rfl nds | exact pcW (w4) rfl rfl nd rfl nds | exact std1)) (by exact rfl) ?_
  | refine yqQ (a := 0) (b := 2) rfl (by decide +kernel) (by decide +kernel) rfl rfl rfl (fun k h1 h2 hg => by (have hk : k = 0 ∨ k = 1 ∨ k = 2 := (by omega)); (rcases hk with rfl | rfl | rfl) <;> (first | exact std0 | exact pcW (know_spec _ _ _) rfl rfl nd rfl nds | exact pcW (w4) rfl rfl nd rfl nds | exact std1)) (by exact rfl) ?_
  | refine yqQ (a := 1) (b := 2) rfl (by decide +kernel) (by decide +kernel) rfl rfl rfl (fun k h1 h2 hg => by (have hk : k = 1 ∨ k = 2 := (by omega)); (rcases hk with rfl | rfl) <;> (first | exact std0 | exact pcW (know_spec _ _ _) rfl rfl nd rfl nds | exact pcW (w4) rfl rfl nd rfl nds | exact std1)) (by exact rfl) ?_
  | refine yqQ (a := 2) (b := 2) rfl (by decide +kernel) (by decide +kernel) rfl rfl rfl (fun k h1 h2 hg => by (have hk : k = 2 := (by omega)); (rcases hk with rfl) <;> (first | exact std0 | exact pcW (know_spec _ _ _) rfl rfl nd rfl nds | exact pcW (w4) rfl rfl nd rfl nds | exact std1)) (by exact rfl) ?_)
 refine YQ.e (v := .any) (d := none) rfl rfl rfl ?_ ?_
 · intro env' he
   exact stW tabOk rfl rfl ((rdv_congr (he 24 (by decide +kernel))).trans rfl) (by rw [rdn_congr (he 24 (by decide +kernel))]; first | exact tI | exact rfl) rfl ((rdv_congr (he 134 (by decide +kernel))).trans rfl) (by rw [rdn_congr (he 134 (by decide +kernel))]; first | exact tI | exact rfl) rfl rfl rfl rfl rfl rfl rfl ⟨rfl, rfl⟩
 repeat' (first
  | refine yqQ (a := 0) (b := 0) rfl (by decide +kernel) (by decide +kernel) rfl rfl rfl (fun k h1 h2 hg => by (have hk : k = 0 := (by omega)); (rcases hk with rfl) <;> (first | exact std0 | exact pcW (know_spec _ _ _) rfl rfl nd rfl nds | exact pcW (w4) rfl rfl nd rfl nds | exact std1)) (by exact rfl) ?_
  | refine yqQ (a := 0) (b := 1) rfl (by decide +kernel) (by decide +kernel) rfl rfl rfl (fun k h1 h2 hg => by (have hk : k = 0 ∨ k = 1 := (by omega)); (rcases hk with rfl | rfl) <;> (first | exact std0 | exact pcW (know_spec _ _ _) rfl rfl nd rfl nds | exact pcW (w4) rfl rfl nd rfl nds | exact std1)) (by exact rfl) ?_
  | refine yqQ (a := 1) (b := 1) rfl (by decide +kernel) (by decide +kernel) rfl rfl rfl (fun k h1 h2 hg => by (have hk : k = 1 := (by omega)); (rcases hk with rfl) <;> (first | exact std0 | exact pcW (know_spec _ _ _) rfl rfl nd rfl nds | exact pcW (w4) rfl rfl nd rfl nds | exact std1)) (by exact rfl) ?_
  | refine yqQ (a := 0) (b := 2) rfl (by decide +kernel) (by decide +kernel) rfl rfl rfl (fun k h1 h2 hg => by (have hk : k = 0 ∨ k = 1 ∨ k = 2 := (by omega)); (rcases hk with rfl | rfl | rfl) <;> (first | exact std0 | exact pcW (know_spec _ _ _) rfl rfl nd rfl nds | exact pcW (w4) rfl rfl nd rfl nds | exact std1)) (by exact rfl) ?_
  | refine yqQ (a := 1) (b := 2) rfl (by decide +kernel) (by decide +kernel) rfl rfl rfl (fun k h1 h2 hg => by (have hk : k = 1 ∨ k = 2 := (by omega)); (rcases hk with rfl | rfl) <;> (first | exact std0 | exact pcW (know_spec _ _ _) rfl rfl nd rfl nds | exact pcW (w4) rfl rfl nd rfl nds | exact std1)) (by exact rfl) ?_
  | refine yqQ (a := 2) (b := 2) rfl (by decide +kernel) (by decide +kernel) rfl rfl rfl (fun k h1 h2 hg => by (have hk : k = 2 := (by omega)); (rcases hk with rfl) <;> (first | exact std0 | exact pcW (know_spec _ _ _) rfl rfl nd rfl nds | exact pcW (w4) rfl rfl nd rfl nds | exact std1)) (by exact rfl) ?_)
 refine YQ.nil (hK _ _ ?_)
 clear hK K'
 repeat' (first | refine aoQ rfl rfl rfl (fun hg => by first | exact std0 | exact pcW (ex2) rfl rfl nd rfl nds | exact pcW (s2) rfl rfl nd rfl nds | exact pcW (s3) rfl rfl nd rfl nds | exact pcW (t1) rfl rfl nd rfl nds | exact pcW (t2) rfl rfl nd rfl nds | exact pbD tabOk rfl rfl nds) (by exact rfl) ?_ | refine sqW ?_ | refine rgK (fun K' hK => ?_) | (refine aoN (hK _ _ ?_); clear hK K') | refine aoE (stW tabOk rfl rfl rfl tI rfl rfl tI rfl rfl rfl rfl rfl rfl rfl ?_) | refine aoE (alW tabOk rfl rfl rfl rfl rfl rfl ?_) | refine rtW ?_ | refine dK2 (by decide +kernel) (by kernel_rfl) (by decide +kernel) rfl (fun K' hK => ?_) | (refine aqN (hK _ ?_); clear hK K') | refine aqQ rfl rfl (fun hg => by first | exact std0 | exact pcW (s1) rfl rfl nd rfl nds | exact pcW (know_spec _ _ _) rfl rfl nd rfl nds | exact pbS tabOk rfl rfl nds | exact std1) (by exact rfl) ?_)
 refine ⟨.inr rfl, _, rfl, Ent.b ?_⟩
 first
  | exact (show (((((((((true && (((W.s.evs.length : Nat) : Int) == 0)) && W.up) && !T.up) && true) && true) && true) && true) && !false)) = true by rw [hlw, g3, g4]; rfl)
  | (simp [g2, g3, g4]; done)
  | (trace_state; sorry)
end Go.Proofs.YtbneeinknlddaaaGreat
