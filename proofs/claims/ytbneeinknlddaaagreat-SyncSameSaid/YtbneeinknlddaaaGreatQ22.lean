/- Contracts by content: stands and tablets: Valid, New, Crash, Wake.  Contracts by content: iterators over events; a tablet takes events. No statement is proved here. -/
import Derived.Test.YtbneeinknlddaaaGreatQ4
import Derived.Test.YtbneeinknlddaaaGreatQ12
import Derived.Test.YtbneeinknlddaaaGreatQ19
import Derived.Test.YtbneeinknlddaaaGreatQ21
set_option linter.unusedVariables false
set_option linter.unusedSimpArgs false
namespace Go.Ab
def EntL : List AV → List AV → Prop
 | [], [] => True
 | u :: a, v :: b => Ent u v ∧ EntL a b
 | _, _ => False
theorem EntL.get : ∀ {a b : List AV}, EntL a b → a.length = b.length ∧ ∀ (i : Nat) (v : AV), b[i]? = some v → ∃ u, a[i]? = some u ∧ Ent u v
 | [], [], _ => ⟨rfl, fun i v h => by simp at h⟩
 | u :: a, v :: b, h => by
   obtain ⟨h1, h2⟩ := EntL.get h.2
   refine ⟨by simp [h1], fun i w hi => ?_⟩
   cases i with
   | zero => simp at hi; subst hi; exact ⟨u, rfl, h.1⟩
   | succ i => simp at hi; obtain ⟨u', e1, e2⟩ := h2 i w hi; exact ⟨u', by simpa using e1, e2⟩
theorem Ent.aggL {a b : List AV} (h : EntL a b) : Ent (.agg a) (.agg b) := fun M x hx => by
 obtain ⟨h1, h2⟩ := h.get
 cases hx with
 | agg _ vs hs hv =>
   refine .agg _ vs (hs.trans h1) fun i v hi => ?_
   obtain ⟨u, e1, e2⟩ := h2 i v hi
   exact e2 _ _ (hv i u e1)
theorem PCall.entAt {P : Program} {f : FuncId} {u v : AV} (pre post : List AV) {r : AV} (he : Ent u v) (h : PCall P f (pre ++ v :: post) r) : PCall P f (pre ++ u :: post) r := by
 refine ⟨h.1, fun M W vs hm ha => h.2 M W vs hm ⟨by rw [ha.1]; simp, fun i c hi => ?_⟩⟩
 rcases Nat.lt_trichotomy i pre.length with g | g | g
 · rw [zA5 g] at hi
   exact ha.2 i c (by rw [zA5 g]; exact hi)
 · subst g
   rw [zA7 (nLr _), Nat.sub_self] at hi
   simp at hi
   subst hi
   have := ha.2 pre.length u (by simp)
   exact he _ _ this
 · rw [zA7 (by omega)] at hi
   obtain ⟨k, hk⟩ : ∃ k, i - pre.length = k + 1 := ⟨i - pre.length - 1, by omega⟩
   rw [hk] at hi
   exact ha.2 i c (by rw [zA7 (by omega), hk]; exact hi)
end Go.Ab
namespace Go.Proofs.YtbneeinknlddaaaGreat
open Go.Ab Go.Jo Go.Sy
attribute [local irreducible] AWP AOps EStep AQ PStep PRun PCall TCall VCall DStep TDies AWD DCall
def encStd (s : Std) : List AV := [.int s.id, .int s.who.part, .int s.who.desk, .int s.who.seat, .int s.ed, .int s.known, .sl 14 (s.evs.map encE) .no]
def encTab (t : Sy.Tab) : List AV := [.int t.s.id, .int t.s.who.part, .int t.s.who.desk, .int t.s.who.seat, .int t.s.ed, .int t.s.known, .sl 14 (t.s.evs.map encE) .no, .sl 1 (t.b.map by8) .no, .int t.sure, .b t.up]
abbrev zeroTab : List AV := [.int 0, .int 0, .int 0, .int 0, .int 0, .int 0, .nils, .nils, .int 0, .b false]
theorem ent_no : Ent (.agg zeroTab) (.agg (encTab noTab)) := Ent.aggL ⟨Ent.rfl' _, Ent.rfl' _, Ent.rfl' _, Ent.rfl' _, Ent.rfl' _, Ent.rfl' _, Ent.nil, Ent.nil, Ent.rfl' _, Ent.rfl' _, tI⟩
structure TabIn (t : Sy.Tab) : Prop where
 txt : Txt t.s.evs
 evs : t.s.evs.length ≤ 1000000000
 b : t.b.length ≤ 1000000000
abbrev tupT (p : Sy.Tab × Int) : AV := .tup [.agg (encTab p.1), .int p.2]
def knownR (l : List Ev) (id : Int) : Int × Int := if (validE l && isId id) = true then (knownE l id, 0) else (0, 1)
theorem known_step {l : List Ev} {k : Nat} (hk : k < l.length) (id : Int) : knownE (l.take (k + 1)) id = if (l.getD k default).kind = 3 ∧ (l.getD k default).stand = id then max (knownE (l.take k) id) (l.getD k default).n else knownE (l.take k) id := by
 rw [getD_lt' hk, zB0 hk, known_app]; rfl
set_option maxHeartbeats 1600000 in
theorem eknown_spec (l : List Ev) (id : Int) (ht : Txt l) (hl : l.length ≤ 1000000000) : PCall Tryz.prog 58 [.sl 14 (l.map encE) .no, .int id] (.tup [.int (knownR l id).1, .int (knownR l id).2]) := by
 have v := evalidL_spec l ht hl
 cases hb : (validE l && isId id) with
 | false =>
   have e1 : knownR l id = (0, 1) := by unfold knownR; rw [hb]; rfl
   rw [e1]
   refine PCall.body Tryz.func58 rfl rfl Tryz.ntmps58 rfl rfl ?_
   repeat' (first | refine aoQ rfl rfl rfl (fun hg => by first | exact std0 | exact pcW (v) rfl rfl nd rfl nds | exact pcW (eid_spec _) rfl rfl nd rfl nds | exact std1) (by exact rfl) ?_ | refine sqW ?_ | refine rgK (fun K' hK => ?_) | (refine aoN (hK _ _ ?_); clear hK K') | refine cdN rfl tI (fun hc => ?_) (fun hc => ?_) | refine blK ?_ | refine skW ?_ | refine rtW ?_)
   · exact ⟨.inr rfl, Ent.of rfl⟩
   exfalso; revert hc hb; cases validE l <;> cases isId id <;> simp
 | true =>
   have e1 : knownR l id = (knownE l id, 0) := by unfold knownR; rw [hb]; rfl
   rw [e1]
   refine PCall.body Tryz.func58 rfl rfl Tryz.ntmps58 rfl rfl ?_
   repeat' (first | refine aoQ rfl rfl rfl (fun hg => by first | exact std0 | exact pcW (v) rfl rfl nd rfl nds | exact pcW (eid_spec _) rfl rfl nd rfl nds | exact std1) (by exact rfl) ?_ | refine sqW ?_ | refine rgK (fun K' hK => ?_) | (refine aoN (hK _ _ ?_); clear hK K') | refine cdN rfl tI (fun hc => ?_) (fun hc => ?_) | refine blK ?_ | refine skW ?_ | refine rtW ?_)
   · exfalso; revert hc hb; cases validE l <;> cases isId id <;> simp
   refine lpD (ι := Nat) (fun k => [(1, .int id), (6, .int (knownE (l.take k) id)), (17, .sl 14 (l.map encE) .no), (18, .int l.length), (19, .int k)]) (fun _ => []) (fun k => k ≤ l.length) (fun k => l.length - k) 0 (fun _ => rfl) 0 (nZl _) ⟨rfl, rfl, rfl, rfl, rfl, tI⟩ rfl (fun _ _ => rfl) (fun _ _ => rfl) ?_
   rintro k hk
   by_cases hlt : k < l.length
   · have hs := known_step hlt id
     repeat' (first | refine aoQ rfl rfl rfl (fun hg => by first | exact std0 | exact std1) (by exact rfl) ?_ | refine sqW ?_ | refine rgK (fun K' hK => ?_) | (refine aoN (hK _ _ ?_); clear hK K') | refine aoE (stW tabOk rfl rfl rfl tI rfl rfl tI rfl rfl rfl rfl rfl rfl rfl ?_) | refine aoE (alW tabOk rfl rfl rfl rfl rfl rfl ?_) | refine cdN rfl tI (fun hc => ?_) (fun hc => ?_) | refine blK ?_ | refine exW ?_ | refine skW ?_ | refine rtW ?_)
     all_goals first | (exfalso; omega) | skip
     · refine ⟨k + 1, by omega, by omega, ⟨rfl, ?_, rfl, rfl, rfl, tI⟩, rfl⟩
       rw [hs, if_pos (by simpa using hc)]; rfl
     · refine ⟨k + 1, by omega, by omega, ⟨rfl, ?_, rfl, rfl, rfl, tI⟩, rfl⟩
       rw [hs, if_neg (by simpa using hc)]; rfl
   · obtain rfl : k = l.length := by omega
     repeat' (first | refine aoQ rfl rfl rfl (fun hg => by first | exact std0 | exact std1) (by exact rfl) ?_ | refine sqW ?_ | refine rgK (fun K' hK => ?_) | (refine aoN (hK _ _ ?_); clear hK K') | refine aoE (stW tabOk rfl rfl rfl tI rfl rfl tI rfl rfl rfl rfl rfl rfl rfl ?_) | refine aoE (alW tabOk rfl rfl rfl rfl rfl rfl ?_) | refine cdN rfl tI (fun hc => ?_) (fun hc => ?_) | refine blK ?_ | refine exW ?_ | refine skW ?_ | refine rtW ?_)
     all_goals first | (exfalso; omega) | skip
     refine ⟨.inr rfl, Ent.of ?_⟩
     rw [zB1]; rfl
theorem swithin_spec (a b c : Int) : PCall Tryz.prog 56 [.int a, .int b, .int c] (.b (inR a b c)) := by
 refine PCall.body Tryz.func56 rfl rfl Tryz.ntmps56 rfl rfl ?_
 repeat' (first | refine aoQ rfl rfl rfl (fun hg => by exact std0) (by exact rfl) ?_ | refine sqW ?_ | refine rgK (fun K' hK => ?_) | (refine aoN (hK _ _ ?_); clear hK K') | refine rtW ?_)
 exact ⟨.inr rfl, Ent.b rfl⟩
theorem srdr_spec (r : Rdr) : PCall Tryz.prog 57 [.agg (encRd r)] (.b (isRdr r)) := by
 refine PCall.body Tryz.func57 rfl rfl Tryz.ntmps57 rfl rfl ?_
 repeat' (first | refine aoQ rfl rfl rfl (fun hg => by first | exact std0 | exact pcW (swithin_spec _ _ _) rfl rfl nd rfl nds) (by exact rfl) ?_ | refine sqW ?_ | refine rgK (fun K' hK => ?_) | (refine aoN (hK _ _ ?_); clear hK K') | refine aoE (bxW rfl rfl rfl rfl rfl tI rfl rfl ?_) | refine rtW ?_)
 exact ⟨.inr rfl, Ent.b rfl⟩
theorem validS_eq (s : Std) : validS s = (isId s.ed && isRdr s.who && inR s.known 0 1000 && decide ((knownR s.evs s.id).2 = 0) && decide ((knownR s.evs s.id).1 ≤ s.known)) := by
 unfold validS knownR
 cases h : (validE s.evs && isId s.id) <;> simp
theorem svalid_spec (s : Std) (ht : Txt s.evs) (hl : s.evs.length ≤ 1000000000) : PCall Tryz.prog 29 [.agg (encStd s)] (.b (validS s)) := by
 have v := eknown_spec s.evs s.id ht hl
 have w := srdr_spec s.who
 rw [validS_eq]
 generalize knownR s.evs s.id = K at *
 refine PCall.body Tryz.func29 rfl rfl Tryz.ntmps29 rfl rfl ?_
 repeat' (first | refine aoQ rfl rfl rfl (fun hg => by first | exact std0 | exact pcW (v) rfl rfl nd rfl nds | exact pcW (w) rfl rfl nd rfl nds | exact pcW (swithin_spec _ _ _) rfl rfl nd rfl nds) (by exact rfl) ?_ | refine sqW ?_ | refine rgK (fun K' hK => ?_) | (refine aoN (hK _ _ ?_); clear hK K') | refine aoE (bxW rfl rfl rfl rfl rfl tI rfl rfl ?_) | refine cdN rfl tI (fun hc => ?_) (fun hc => ?_) | refine skW ?_ | refine rtW ?_)
 · refine ⟨.inr rfl, Ent.b ?_⟩
   revert hc
   show ((!inR s.ed 1 1000000 || !isRdr s.who) || !inR s.known 0 1000) = true → _
   unfold isId
   cases inR s.ed 1 1000000 <;> cases isRdr s.who <;> cases inR s.known 0 1000 <;> simp
 · refine ⟨.inr rfl, Ent.b ?_⟩
   revert hc
   show ((!inR s.ed 1 1000000 || !isRdr s.who) || !inR s.known 0 1000) = false → _
   unfold isId
   cases inR s.ed 1 1000000 <;> cases isRdr s.who <;> cases inR s.known 0 1000 <;> simp
   show (K.2 == 0 && decide (K.1 ≤ s.known)) = _
   by_cases h0 : K.2 = 0 <;> simp [h0]
theorem new_spec (s : Std) (ht : Txt s.evs) (hl : s.evs.length ≤ 1000000000) : PCall Tryz.prog 39 [.agg (encStd s)] (tupT (newT s)) := by
 have v := svalid_spec s ht hl
 refine PCall.bodyS tabOk Tryz.func39 rfl rfl Tryz.ntmps39 rfl ?_
 repeat' (first | refine aoQ rfl rfl rfl (fun hg => by first | exact std0 | exact pcW (v) rfl rfl nd rfl nds | exact pbD tabOk rfl rfl nds | exact std1) (by exact rfl) ?_ | refine sqW ?_ | refine rgK (fun K' hK => ?_) | (refine aoN (hK _ _ ?_); clear hK K') | refine aoE (bxW rfl rfl rfl rfl rfl tI rfl rfl ?_) | refine aoE (stW tabOk rfl rfl rfl tI rfl rfl tI rfl rfl rfl rfl rfl rfl rfl ?_) | refine aoE (alW tabOk rfl rfl rfl rfl rfl rfl ?_) | refine cdN rfl tI (fun hc => ?_) (fun hc => ?_) | refine skW ?_ | refine rtW ?_)
 · refine ⟨.inr rfl, _, rfl, ?_⟩
   have e : newT s = (noTab, 1) := if_pos (by
    have h : ((!validS s || decide ((s.evs.length : Int) > 0)) || (s.known != 0)) = true := hc
    rw [zAx, zAx] at h ⊢
    rcases h with (h | h) | h
    · exact .inl (.inl h)
    · exact .inl (.inr (by simp at h ⊢; exact h))
    · exact .inr (by simpa using h))
   rw [e]
   exact Ent.tup2 ent_no (Ent.rfl' _)
 · refine ⟨.inr rfl, _, rfl, ?_⟩
   have e : newT s = (⟨s, [], 0, true⟩, 0) := if_neg (by
    have h : ((!validS s || decide ((s.evs.length : Int) > 0)) || (s.known != 0)) = false := hc
    intro g
    rw [zAo, zAo] at h
    rw [zAx, zAx] at g
    obtain ⟨⟨h1, h2⟩, h3⟩ := h
    rcases g with (g | g) | g
    · rw [h1] at g; cases g
    · have h2' := of_decide_eq_false h2
      have g' := of_decide_eq_true g
      omega
    · simp at h3 g; exact g h3)
   rw [e]
   exact Ent.tup2 (Ent.aggL ⟨Ent.rfl' _, Ent.rfl' _, Ent.rfl' _, Ent.rfl' _, Ent.rfl' _, Ent.rfl' _, Ent.rfl' _, Ent.nil, Ent.rfl' _, Ent.rfl' _, tI⟩) (Ent.rfl' _)
theorem known_spec (l : List Ev) (id : Int) (ht : Txt l) (hl : l.length ≤ 1000000000) : PCall Tryz.prog 31 [.sl 14 (l.map encE) .no, .int id] (.int (knownR l id).1) := by
 have v := eknown_spec l id ht hl
 refine PCall.body Tryz.func31 rfl rfl Tryz.ntmps31 rfl rfl ?_
 repeat' (first | refine aoQ rfl rfl rfl (fun hg => by first | exact std0 | exact pcW (v) rfl rfl nd rfl nds) (by exact rfl) ?_ | refine sqW ?_ | refine rgK (fun K' hK => ?_) | (refine aoN (hK _ _ ?_); clear hK K') | refine rtW ?_)
 exact ⟨.inr rfl, Ent.int rfl⟩
theorem loadE (b : Bs) : (∀ e ∈ (Jo.load b).1, evOk e = true) ∧ (Jo.load b).1.length ≤ b.length ∧ (Jo.load b).2 ≤ b.length := by
 obtain ⟨h1, h2, h3, h4⟩ := load_inv b b.length (nLr _)
 have h5 := cat_min h1
 exact ⟨h1, by omega, h4⟩
set_option maxHeartbeats 1600000 in
theorem said_spec (b : Bs) (hb : b.length ≤ 1000000000) : PCall Tryz.prog 28 [.sl 1 (b.map by8) .no] (.tup [.sl 14 ((saidE b).1.map encE) .no, .int (saidE b).2.1, .b (saidE b).2.2]) := by
 have v := load_spec b (by omega)
 obtain ⟨h1, h2, h3⟩ := loadE b
 have w := (eadd_spec [] (Jo.load b).1 (fun e he => by cases he) (Txt.of h1) (nZl _) (by omega))
 have w := PCall.nilAt [] [_] w
 by_cases hb2 : b.length ≤ 200000
 · rw [loadR_in (by omega)] at v
   have e : saidE b = ((addE [] (Jo.load b).1).1, (Jo.load b).2, decide ((addE [] (Jo.load b).1).2 = 0)) := if_pos hb2
   rw [e]
   generalize addE [] (Jo.load b).1 = R at *
   generalize Jo.load b = L at *
   refine PCall.body Tryz.func28 rfl rfl Tryz.ntmps28 rfl rfl ?_
   repeat' (first | refine aoQ rfl rfl rfl (fun hg => by first | exact std0 | exact pcW (v) rfl rfl nd rfl nds | exact pcW (w) rfl rfl nd rfl nds) (by exact rfl) ?_ | refine sqW ?_ | refine rgK (fun K' hK => ?_) | (refine aoN (hK _ _ ?_); clear hK K') | refine cdN rfl tI (fun hc => ?_) (fun hc => ?_) | refine skW ?_ | refine rtW ?_)
   all_goals (first | exact dd | skip)
   refine ⟨.inr rfl, Ent.of ?_⟩
   show AV.tup [.sl 14 (R.1.map encE) .no, .int L.2, .b (R.2 == 0)] = _
   rw [show (R.2 == 0) = decide (R.2 = 0) by by_cases h : R.2 = 0 <;> simp [h]]
 · rw [show loadR b = ([], 0, 2) from if_pos (by omega)] at v
   have e : saidE b = ([], 0, false) := if_neg hb2
   rw [e]
   refine PCall.body Tryz.func28 rfl rfl Tryz.ntmps28 rfl rfl ?_
   repeat' (first | refine aoQ rfl rfl rfl (fun hg => by first | exact std0 | exact pcW (v) rfl rfl nd rfl nds) (by exact rfl) ?_ | refine sqW ?_ | refine rgK (fun K' hK => ?_) | (refine aoN (hK _ _ ?_); clear hK K') | refine cdN rfl tI (fun hc => ?_) (fun hc => ?_) | refine skW ?_ | refine rtW ?_)
   all_goals (first | exact dd | skip)
   exact ⟨.inr rfl, Ent.tup3 Ent.nil (Ent.rfl' _) (Ent.rfl' _)⟩
theorem said_len (b : Bs) (hb : b.length ≤ 1000000000) : Txt (saidE b).1 ∧ (saidE b).1.length ≤ 20000 ∧ (saidE b).2.1 ≤ b.length := by
 obtain ⟨h1, h2, h3⟩ := loadE b
 unfold saidE
 split
 · by_cases h0 : (addE [] (Jo.load b).1).2 = 0
   · obtain ⟨q1, q2, q3, q4, q5⟩ := add_ok h0
     rw [q5]
     obtain ⟨u1, u2⟩ := un_ok _ [] List.Pairwise.nil q3
     refine ⟨Txt.of fun e he => ?_, q4, h3⟩
     exact ((u2 e).1 he).elim (fun h => nomatch h) (q2 e)
   · have : (addE [] (Jo.load b).1).1 = [] := by
      unfold addE at h0 ⊢
      split
      · rename_i g1
        rw [if_pos g1] at h0
        split
        · rename_i g2
          rw [if_pos g2] at h0
          split
          · rename_i g3; rw [if_pos g3] at h0; exact absurd rfl h0
          · rfl
        · rfl
      · rfl
     rw [this]
     refine ⟨?_, nZl _, h3⟩
     intro e he; exact absurd he zC8
 · refine ⟨?_, nZl _, nZl _⟩
   intro e he; exact absurd he zC8
theorem knownR_of {l : List Ev} {id : Int} (h1 : validE l = true) (h2 : isId id = true) : knownR l id = (knownE l id, 0) := by unfold knownR; rw [h1, h2]; rfl
theorem boolA (a d : Bool) (x y : Int) : (a && decide (0 ≤ x) && decide (x ≤ y) && d) = !(!a || decide (x < 0) || decide (x > y) || !d) := by
 have e1 : decide (0 ≤ x) = !decide (x < 0) := by by_cases h : x < 0 <;> simp [h] <;> omega
 have e2 : decide (x ≤ y) = !decide (x > y) := by by_cases h : x > y <;> simp [h] <;> omega
 rw [e1, e2]
 cases a <;> cases d <;> cases decide (x < 0) <;> cases decide (x > y) <;> rfl
set_option maxHeartbeats 1600000 in
theorem tvalid_spec (t : Sy.Tab) (h : TabIn t) : PCall Tryz.prog 11 [.agg (encTab t)] (.b (validT t)) := by
 have v := said_spec t.b h.b
 obtain ⟨k1, k2, k3⟩ := said_len t.b h.b
 have w := svalid_spec t.s h.txt h.evs
 have x := equalEv_spec (saidE t.b).1 t.s.evs (by omega) h.evs
 have y := known_spec (saidE t.b).1 t.s.id k1 (by omega)
 unfold validT
 generalize saidE t.b = D at *
 refine PCall.body Tryz.func11 rfl rfl Tryz.ntmps11 rfl rfl ?_
 repeat' (first | refine aoQ rfl rfl rfl (fun hg => by first | exact std0 | exact pcW (v) rfl rfl nd rfl nds | exact pcW (w) rfl rfl nd rfl nds | exact std1) (by exact rfl) ?_ | refine sqW ?_ | refine rgK (fun K' hK => ?_) | (refine aoN (hK _ _ ?_); clear hK K') | refine aoE (bxW rfl rfl rfl rfl rfl tI rfl rfl ?_) | refine cdN rfl tI (fun hc => ?_) (fun hc => ?_) | refine blK ?_ | refine skW ?_ | refine rtW ?_ | refine dK2 (by decide +kernel) (by kernel_rfl) (by decide +kernel) rfl (fun K' hK => ?_) | (refine aqN (hK _ ?_); clear hK K') | refine aqQ rfl rfl (fun hg => by first | exact std0 | exact pcW (x) rfl rfl nd rfl nds | exact pcW (y) rfl rfl nd rfl nds | exact std1) (by exact rfl) ?_)
 · refine ⟨.inr rfl, Ent.b ?_⟩
   rw [boolA, hc]; rfl
 · rename_i hc0
   refine ⟨.inr rfl, Ent.b ?_⟩
   have hu : t.up = false := by simpa using hc
   rw [boolA, hc0, hu]
   show (((t.s.evs.length : Nat) : Int) == 0 && t.s.known == 0) = (decide (t.s.evs = []) && decide (t.s.known = 0))
   by_cases h1 : t.s.evs = [] <;> by_cases h2 : t.s.known = 0 <;> simp [h1, h2]
 · rename_i hc0
   refine ⟨.inr rfl, Ent.b ?_⟩
   have hu : t.up = true := by simpa using hc
   have hv : validS t.s = true := by
    revert hc0
    cases validS t.s <;> simp
   rw [boolA, hc0, hu]
   show (((D.2.1 : Nat) : Int) == ((t.b.length : Nat) : Int) && (D.1 == t.s.evs) && (t.s.known == (knownR D.1 t.s.id).1)) = (decide (D.2.1 = t.b.length) && decide (D.1 = t.s.evs) && decide (t.s.known = knownE D.1 t.s.id))
   have e1 : (((D.2.1 : Nat) : Int) == ((t.b.length : Nat) : Int)) = decide (D.2.1 = t.b.length) := by rw [zBm, beq_iff_eq, decide_eq_true_iff]; omega
   have e2 : (D.1 == t.s.evs) = decide (D.1 = t.s.evs) := by rw [zBm, beq_iff_eq, decide_eq_true_iff]
   rw [e1, e2]
   by_cases h1 : D.1 = t.s.evs
   · have hk : knownR D.1 t.s.id = (knownE D.1 t.s.id, 0) := by
      unfold validS at hv
      simp only [zA2] at hv
      rw [h1]
      exact knownR_of hv.1.2.1 hv.1.2.2
     rw [hk]
     congr 1
   · rw [decide_eq_false h1, Bool.and_false, Bool.false_and, Bool.false_and]
theorem said_valid {b : Bs} (h : (saidE b).2.2 = true) : validE (saidE b).1 = true := by
 obtain ⟨h1, h2, h3⟩ := said_true h
 obtain ⟨u1, u2⟩ := un0 h2
 rw [h3, validE_iff]
 exact ⟨fun e he => (loadE b).1 e ((u2 e).1 he), u1, said_small h1⟩
theorem validT_said {t : Sy.Tab} (h : validT t = true) : (saidE t.b).2.2 = true ∧ 0 ≤ t.sure ∧ t.sure ≤ ((saidE t.b).2.1 : Int) ∧ isId t.s.id = true := by
 unfold validT validS at h
 simp only [zA2, dEt] at h
 exact ⟨h.1.1.1.1, h.1.1.1.2, h.1.1.2, h.1.2.1.2.2⟩
set_option maxHeartbeats 1600000 in
theorem crash_spec (t : Sy.Tab) (h : TabIn t) (n : Int) : PCall Tryz.prog 12 [.agg (encTab t), .int n] (tupT (crashT t n)) := by
 have v := tvalid_spec t h
 have w := bclone_spec (t.b.take n.toNat) (by have := h.b; rw [zAk]; omega)
 have hb := h.b
 by_cases hok : validT t = true ∧ t.up = true ∧ t.sure ≤ n ∧ n ≤ (t.b.length : Int)
 · obtain ⟨hv, hu, hr⟩ := hok
   have h0 := (validT_said hv).2.1
   have hn : 0 ≤ n := by omega
   have e : crashT t n = (⟨{ t.s with evs := [], known := 0 }, t.b.take n.toNat, t.sure, false⟩, 0) := by unfold crashT; rw [if_pos hv, if_pos hu, if_pos hr]
   rw [hv] at v
   refine PCall.bodyS tabOk Tryz.func12 rfl rfl Tryz.ntmps12 rfl ?_
   repeat' (first | refine aoQ rfl rfl rfl (fun hg => by first | exact PRun.sliceHiM tabOk rfl rfl nd rfl nd rfl (by omega) | exact std0 | exact pcW (v) rfl rfl nd rfl nds | exact pbD tabOk rfl rfl nds | exact pcW (w) rfl rfl nd rfl nds | exact std1) (by exact rfl) ?_ | refine sqW ?_ | refine rgK (fun K' hK => ?_) | (refine aoN (hK _ _ ?_); clear hK K') | refine aoE (bxW rfl rfl rfl rfl rfl tI rfl rfl ?_) | refine aoE (stW tabOk rfl rfl rfl tI rfl rfl tI rfl rfl rfl rfl rfl rfl rfl ?_) | refine aoE (alW tabOk rfl rfl rfl rfl rfl rfl ?_) | refine cdN rfl tI (fun hc => ?_) (fun hc => ?_) | refine blK ?_ | refine skW ?_ | refine rtW ?_)
   all_goals first | (exfalso; simp at hc; done) | (exfalso; simp [hu] at hc; done) | (exfalso; simp at hc; omega) | skip
   refine ⟨.inr rfl, _, rfl, ?_⟩
   rw [e]
   exact Ent.tup2 (Ent.aggL ⟨Ent.rfl' _, Ent.rfl' _, Ent.rfl' _, Ent.rfl' _, Ent.rfl' _, Ent.rfl' _, Ent.nil, Ent.rfl' _, Ent.rfl' _, Ent.rfl' _, tI⟩) (Ent.rfl' _)
 · refine PCall.bodyS tabOk Tryz.func12 rfl rfl Tryz.ntmps12 rfl ?_
   repeat' (first | refine aoQ rfl rfl rfl (fun hg => by first | exact std0 | exact pcW (v) rfl rfl nd rfl nds | exact pbD tabOk rfl rfl nds | exact std1) (by exact rfl) ?_ | refine sqW ?_ | refine rgK (fun K' hK => ?_) | (refine aoN (hK _ _ ?_); clear hK K') | refine aoE (bxW rfl rfl rfl rfl rfl tI rfl rfl ?_) | refine aoE (stW tabOk rfl rfl rfl tI rfl rfl tI rfl rfl rfl rfl rfl rfl rfl ?_) | refine aoE (alW tabOk rfl rfl rfl rfl rfl rfl ?_) | refine cdN rfl tI (fun hc => ?_) (fun hc => ?_) | refine blK ?_ | refine skW ?_ | refine rtW ?_)
   · refine ⟨.inr rfl, _, rfl, ?_⟩
     rw [show crashT t n = (noTab, 1) from if_neg (by simpa using hc)]
     exact Ent.tup2 ent_no (Ent.rfl' _)
   · rename_i g1
     refine ⟨.inr rfl, _, rfl, ?_⟩
     rw [show crashT t n = (noTab, 6) by unfold crashT; rw [if_pos (by simpa using g1), if_neg (by simpa using hc)]]
     exact Ent.tup2 ent_no (Ent.rfl' _)
   · rename_i g1 g2
     refine ⟨.inr rfl, _, rfl, ?_⟩
     rw [show crashT t n = (noTab, 1) by unfold crashT; rw [if_pos (by simpa using g1), if_pos (by simpa using g2), if_neg (by rintro ⟨a, b⟩; simp at hc; omega)]]
     exact Ent.tup2 ent_no (Ent.rfl' _)
   · rename_i g1 g2
     exact absurd ⟨by simpa using g1, by simpa using g2, by simp at hc; omega, by simp at hc; omega⟩ hok
set_option maxHeartbeats 1600000 in
theorem wake_spec (t : Sy.Tab) (h : TabIn t) : PCall Tryz.prog 13 [.agg (encTab t)] (tupT (wakeT t)) := by
 have v := tvalid_spec t h
 have s := said_spec t.b h.b
 obtain ⟨k1, k2, k3⟩ := said_len t.b h.b
 have w := bclone_spec (t.b.take (saidE t.b).2.1) (by have := h.b; rw [zAk]; omega)
 have y := known_spec (saidE t.b).1 t.s.id k1 (by omega)
 have hb := h.b
 have hk : validT t = true → knownR (saidE t.b).1 t.s.id = (knownE (saidE t.b).1 t.s.id, 0) := fun hv => by
  obtain ⟨q1, _, _, q4⟩ := validT_said hv
  exact knownR_of (said_valid q1) q4
 unfold wakeT
 generalize saidE t.b = D at *
 refine PCall.bodyS tabOk Tryz.func13 rfl rfl Tryz.ntmps13 rfl ?_
 repeat' (first | refine aoQ rfl rfl rfl (fun hg => by first | exact PRun.sliceHiM tabOk rfl rfl nd rfl nd rfl (by omega) | exact std0 | exact pcW (v) rfl rfl nd rfl nds | exact pbD tabOk rfl rfl nds | exact pcW (s) rfl rfl nd rfl nds | exact pcW (w) rfl rfl nd rfl nds | exact pcW (y) rfl rfl nd rfl nds) (by exact rfl) ?_ | refine sqW ?_ | refine rgK (fun K' hK => ?_) | (refine aoN (hK _ _ ?_); clear hK K') | refine aoE (bxW rfl rfl rfl rfl rfl tI rfl rfl ?_) | refine aoE (stW tabOk rfl rfl rfl tI rfl rfl tI rfl rfl rfl rfl rfl rfl rfl ?_) | refine aoE (alW tabOk rfl rfl rfl rfl rfl rfl ?_) | refine cdN rfl tI (fun hc => ?_) (fun hc => ?_) | refine blK ?_ | refine skW ?_ | refine rtW ?_)
 · refine ⟨.inr rfl, _, rfl, ?_⟩
   rw [if_neg (by simpa using hc)]
   exact Ent.tup2 ent_no (Ent.rfl' _)
 · rename_i g1
   refine ⟨.inr rfl, _, rfl, ?_⟩
   rw [if_pos (by simpa using g1), if_pos hc]
   exact Ent.tup2 ent_no (Ent.rfl' _)
 · rename_i g1
   refine ⟨.inr rfl, _, rfl, ?_⟩
   rw [if_pos (by simpa using g1), if_neg (by rw [hc]; decide), hk (by simpa using g1)]
   exact Ent.rfl' _
end Go.Proofs.YtbneeinknlddaaaGreat
namespace Go.Ab
theorem EStep.gd {P : Program} {n : Nat} {ops : Array Oper} {o : Oper} {k : Env → Store → Prop} {env : Env} {σ : Store} {g : GG} (hg : gOf ops env o = some g) (hh : g.holds) (h : EStep P n ops { o with guard := none } k env σ) : EStep P n ops o k env σ := by
 intro G a w hr
 have h' := h G a w hr
 rw [if_pos (by simp [Region.wanted])] at h'
 have hw : Region.wanted o (yielded ops a.tmps) = true := by
  unfold gOf at hg
  split at hg
  · rename_i hgd; simp [Region.wanted, hgd]
  · rename_i j want hgd
    split at hg
    · rename_i d hd
      have hz := hr.vals d
      have key : ∀ t, (t == want) = true → a.tmps.getD d undef = .bool t → Region.wanted o (yielded ops a.tmps) = true := fun t ht h1 => by
       have h2 : a.tmps[d]? = some (.bool t) := by
        cases h : a.tmps[d]? with
        | none => simp [h, undef] at h1
        | some y => simp [h] at h1; rw [h1]
       simp only [Region.wanted, hgd, yielded, hd, Option.bind_some, h2]
       cases t <;> cases want <;> first | rfl | cases ht
      split at hg
      · rename_i t he
        simp at hg; subst hg
        rw [he] at hz
        exact key t hh (VRel.prim_eq hz)
      · rename_i g' t he
        simp at hg; subst hg
        have hh' : g' = true ∧ (t == want) = true := by simpa using hh
        rw [he] at hz
        cases hz with
        | when _ _ _ h0 h1 => exact key t hh'.2 (VRel.prim_eq (h0 hh'.1))
      · simp at hg
    · simp at hg
 rw [if_pos hw]
 exact h'
theorem gOf_yes {ops : Array Oper} {o : Oper} {env : Env} {j d : Nat} {want t : Bool} (h1 : o.guard = some (j, want)) (h2 : (ops[j]?).bind (·.dst) = some d) (h3 : env d = .prim (.bool t)) : gOf ops env o = some (.yes (t == want)) := by
 unfold gOf; rw [h1]; simp only; rw [h2]; simp only; rw [h3]
theorem ex5 {σ : Store} (h : σ.length = 5) : σ = [σ.getD 0 .dead, σ.getD 1 .dead, σ.getD 2 .dead, σ.getD 3 .dead, σ.getD 4 .dead] := by
 match σ, h with
 | [a, b, c, d, e], _ => rfl
end Go.Ab
namespace Go.Proofs.YtbneeinknlddaaaGreat
open Go.Ab Go.Jo Go.Sy
attribute [local irreducible] AWP AOps EStep AQ PStep PRun PCall TCall VCall DStep TDies AWD DCall
abbrev s5 (s : Store) : Store := [s.getD 0 .dead, s.getD 1 .dead, s.getD 2 .dead, s.getD 3 .dead, s.getD 4 .dead]
abbrev yEv (l : List Ev) : List (List AV) := l.map fun e => [.agg (encE e)]
set_option maxHeartbeats 1000000 in
set_option maxRecDepth 20000 in
theorem values_iter (l : List Ev) (hl : l.length ≤ 1000000000) : IterL Tryz.prog 54 [] [.iptr [.sl 14 (l.map encE) .no]] (yEv l) 5 := by
 intro yv S R hS hR hy hyield
 rw [lLm] at *
 have ex : ∀ j, j ≤ l.length → S j = s5 (S j) := fun j hj => ex5 (hS j hj).1
 have hok : ∀ j, j ≤ l.length → (s5 (S j)).all (okObj 5) = true := fun j hj => by rw [← ex j hj]; exact (hS j hj).2
 show TCall _ _ [.opq yv, .iptr [.sl 14 (l.map encE) .no]] (S 0) _
 rw [ex 0 (nZl _)]
 refine TCall.body Tryz.func54 rfl rfl Tryz.ntmps54 rfl rfl ?_
 repeat' (first | refine aoQ rfl rfl rfl (fun hg => by first | exact std0 | exact std1) (by exact rfl) ?_ | refine sqW ?_ | refine rgK (fun K' hK => ?_) | (refine aoN (hK _ _ ?_); clear hK K') | refine blK ?_)
 refine lpD (ι := Nat) (fun k => [(0, .opq yv), (5, .sl 14 (l.map encE) .no), (6, .int l.length), (7, .int k)]) (fun k => s5 (S k)) (fun k => k ≤ l.length) (fun k => l.length - k) 5 (fun _ => rfl) 0 (nZl _) ⟨rfl, rfl, rfl, rfl, tI⟩ rfl (fun k _ => by
  simp only [zCa, List.all_nil, Bool.and_true, zA2]
  exact ⟨hy, rfl, rfl, rfl⟩) (fun k hk => hok k hk) ?_
 intro k hk
 by_cases hlt : k < l.length
 · have hv := VCall.frame (hyield k [.agg (encE (l.getD k default))] (by rw [zAd, zAc hlt, ← getD_lt' hlt]; rfl)) [.var (encE (l.getD k default))]
    (by rw [(hS _ (by omega)).1]; exact (hS _ (by omega)).2) (by rw [(hS _ (by omega)).1]; exact hy) rfl (by
     rintro rv s' (⟨_, rfl⟩ | ⟨_, hh⟩)
     · rw [(hS _ (by omega)).1, (hS _ (by omega)).1]
     · rw [(hS _ (by omega)).1, (hR _ _ hh).1])
   have hv2 : VCall Tryz.prog (.opq yv) [.agg (encE (l.getD k default))] (s5 (S k) ++ [.var (encE (l.getD k default))])
    (fun r t => (r = .b true ∧ t = s5 (S (k + 1)) ++ [.var (encE (l.getD k default))]) ∨ (r = .b false ∧ ∃ t', t = t' ++ [.var (encE (l.getD k default))] ∧ R k t')) := by
    have e1 := ex k (by omega)
    have e2 := ex (k + 1) hlt
    rw [e1] at hv
    refine VCall.mono hv ?_
    rintro r t ⟨t', rfl, (⟨rfl, rfl⟩ | ⟨rfl, hh⟩)⟩
    · refine .inl ⟨rfl, ?_⟩
      conv => lhs; rw [e2]
    · exact .inr ⟨rfl, t', rfl, hh⟩
   clear hv ex hok
   repeat' (first | refine aoQ rfl rfl rfl (fun hg => by first | exact piW tabOk rfl rfl nd rfl nd rfl rfl ⟨zB4 _, zAf.2 hlt⟩ | exact std0) (by exact rfl) ?_ | refine sqW ?_ | refine rgK (fun K' hK => ?_) | (refine aoN (hK _ _ ?_); clear hK K') | refine aoE (stW tabOk rfl rfl rfl tI rfl rfl tI rfl rfl rfl rfl rfl rfl rfl ?_) | refine aoE (alW tabOk rfl rfl rfl rfl rfl rfl ?_) | refine aoE (scT (hv2) rfl rfl rfl rfl rfl nd rfl rfl nds ?_) | refine cdN rfl tI (fun hc => ?_) (fun hc => ?_) | refine blK ?_ | refine exW ?_ | refine skW ?_)
   all_goals (first | (exfalso; omega) | skip)
   rintro r t (⟨rfl, rfl⟩ | ⟨rfl, t', rfl, hh⟩)
   · repeat' (first | refine aoQ rfl rfl rfl (fun hg => by exact std0) (by exact rfl) ?_ | refine rgK (fun K' hK => ?_) | (refine aoN (hK _ _ ?_); clear hK K') | refine cdN rfl tI (fun hc => ?_) (fun hc => ?_) | refine skW ?_ | refine rtW ?_)
     all_goals (first | exact dd | skip)
     exact ⟨k + 1, by omega, by omega, ⟨rfl, rfl, rfl, rfl, tI⟩, rfl⟩
   · repeat' (first | refine aoQ rfl rfl rfl (fun hg => by exact std0) (by exact rfl) ?_ | refine rgK (fun K' hK => ?_) | (refine aoN (hK _ _ ?_); clear hK K') | refine cdN rfl tI (fun hc => ?_) (fun hc => ?_) | refine skW ?_ | refine rtW ?_)
     all_goals (first | exact dd | skip)
     obtain ⟨k1, k2⟩ := hR _ _ hh
     exact ⟨.inr rfl, .tup [], t', .inr ⟨_, hlt, hh⟩, by simp, by rw [k1]; exact nLr _, by rw [k1]; exact k2, rfl, rfl⟩
 · obtain rfl : k = l.length := by omega
   repeat' (first | refine aoQ rfl rfl rfl (fun hg => by first | exact std0 | exact std1) (by exact rfl) ?_ | refine sqW ?_ | refine rgK (fun K' hK => ?_) | (refine aoN (hK _ _ ?_); clear hK K') | refine aoE (stW tabOk rfl rfl rfl tI rfl rfl tI rfl rfl rfl rfl rfl rfl rfl ?_) | refine aoE (alW tabOk rfl rfl rfl rfl rfl rfl ?_) | refine cdN rfl tI (fun hc => ?_) (fun hc => ?_) | refine blK ?_ | refine exW ?_ | refine skW ?_)
   all_goals (first | (exfalso; omega) | skip)
   refine ⟨.inl rfl, .tup [], S l.length, .inl rfl, ?_, ?_, ?_, rfl, rfl⟩
   · rw [(hS _ (nLr _)).1]
     conv => rhs; rw [ex _ (nLr _)]
     rfl
   · rw [(hS _ (nLr _)).1]; exact nLr _
   · rw [(hS _ (nLr _)).1]; exact (hS _ (nLr _)).2
theorem values_spec (l : List Ev) : PCall Tryz.prog 26 [.sl 14 (l.map encE) .no] (.fn (.func 54) [] [.iptr [.sl 14 (l.map encE) .no]]) := by
 refine PCall.body Tryz.func26 rfl rfl Tryz.ntmps26 rfl rfl ?_
 repeat' (first | refine aoQ rfl rfl rfl (fun hg => by exact std0) (by exact rfl) ?_ | refine sqW ?_ | refine rgK (fun K' hK => ?_) | (refine aoN (hK _ _ ?_); clear hK K') | refine aoE (bxW rfl rfl rfl rfl rfl tI rfl rfl ?_))
 refine AWP.freezeV 0 rfl rfl ?_
 refine rtW ⟨.inr rfl, ?_⟩
 exact fun _ _ h => h
theorem missing_spec (d o : Sy.Tab) : PCall Tryz.prog 34 [.agg (encTab d), .agg (encTab o)] (.fn (.func 64) [] [.iptr (encTab o), .iptr (encTab d)]) := by
 refine PCall.body Tryz.func34 rfl rfl Tryz.ntmps34 rfl rfl ?_
 repeat' (first | refine aoQ rfl rfl rfl (fun hg => by exact std0) (by exact rfl) ?_ | refine sqW ?_ | refine rgK (fun K' hK => ?_) | (refine aoN (hK _ _ ?_); clear hK K') | refine aoE (bxW rfl rfl rfl rfl rfl tI rfl rfl ?_))
 refine AWP.freezeV 0 rfl rfl ?_
 refine AWP.freezeV 1 rfl rfl ?_
 refine rtW ⟨.inr rfl, ?_⟩
 exact fun _ _ h => h
theorem miss_yes {l there : List Ev} {k : Nat} (h : k < l.length) (hp : l.getD k default ∉ there) :
 (missE l there)[(missE (l.take k) there).length]? = some (l.getD k default) ∧ (missE (l.take (k + 1)) there).length = (missE (l.take k) there).length + 1 := by
 have e1 : l = l.take k ++ (l.getD k default :: l.drop (k + 1)) := by
  rw [getD_lt' h, ← zBg h, zCb]
 have e2 : l.take (k + 1) = l.take k ++ [l.getD k default] := by rw [getD_lt' h]; exact zB0 h
 constructor
 · have e3 : missE l there = missE (l.take k) there ++ (l.getD k default :: missE (l.drop (k + 1)) there) := by
    conv => lhs; rw [e1]
    unfold missE
    rw [List.filter_append, List.filter_cons_of_pos (by exact decide_eq_true hp)]
   rw [e3]; simp
 · rw [e2]; unfold missE
   rw [List.filter_append, List.filter_cons_of_pos (by exact decide_eq_true hp)]; simp
theorem miss_no {l there : List Ev} {k : Nat} (h : k < l.length) (hp : l.getD k default ∈ there) : (missE (l.take (k + 1)) there).length = (missE (l.take k) there).length := by
 have e2 : l.take (k + 1) = l.take k ++ [l.getD k default] := by rw [getD_lt' h]; exact zB0 h
 rw [e2]; unfold missE
 rw [List.filter_append, List.filter_cons_of_neg (by rw [dEt]; exact fun g => g hp)]; simp
theorem miss_len (l there : List Ev) : (missE l there).length ≤ l.length := List.length_filter_le ..
set_option maxHeartbeats 1000000 in
set_option maxRecDepth 20000 in
theorem missing_iter (d o : Sy.Tab) (hd : d.s.evs.length ≤ 1000000000) (ho : o.s.evs.length ≤ 1000000000) : IterL Tryz.prog 64 [] [.iptr (encTab o), .iptr (encTab d)] (yEv (missE o.s.evs d.s.evs)) 5 := by
 intro yv S R hS hR hy hyield
 rw [lLm] at *
 have hcnt : ∀ k, (missE (o.s.evs.take k) d.s.evs).length ≤ (missE o.s.evs d.s.evs).length := fun k => (List.Sublist.filter _ (List.take_sublist k o.s.evs)).length_le
 have ex : ∀ j, j ≤ (missE o.s.evs d.s.evs).length → S j = s5 (S j) := fun j hj => ex5 (hS j hj).1
 have hok : ∀ j, j ≤ (missE o.s.evs d.s.evs).length → (s5 (S j)).all (okObj 5) = true := fun j hj => by rw [← ex j hj]; exact (hS j hj).2
 show TCall _ _ [.opq yv, .iptr (encTab o), .iptr (encTab d)] (S 0) _
 rw [ex 0 (nZl _)]
 refine TCall.body Tryz.func64 rfl rfl Tryz.ntmps64 rfl rfl ?_
 repeat' (first | refine aoQ rfl rfl rfl (fun hg => by first | exact std0 | exact std1) (by exact rfl) ?_ | refine sqW ?_ | refine rgK (fun K' hK => ?_) | (refine aoN (hK _ _ ?_); clear hK K') | refine blK ?_)
 refine lpD (ι := Nat) (fun k => [(0, .opq yv), (2, .iptr (encTab d)), (8, .sl 14 (o.s.evs.map encE) .no), (9, .int o.s.evs.length), (10, .int k)]) (fun k => s5 (S (missE (o.s.evs.take k) d.s.evs).length)) (fun k => k ≤ o.s.evs.length) (fun k => o.s.evs.length - k) 5 (fun _ => rfl) 0 (nZl _) ⟨rfl, rfl, rfl, rfl, rfl, tI⟩ rfl (fun k _ => by
  simp only [zCa, List.all_nil, Bool.and_true, zA2]
  exact ⟨hy, rfl, rfl, rfl, rfl⟩) (fun k _ => hok _ (hcnt k)) ?_
 intro k hk
 by_cases hlt : k < o.s.evs.length
 · have hh0 := has_spec d.s.evs (o.s.evs.getD k default) hd
   by_cases hp : o.s.evs.getD k default ∈ d.s.evs
   · have h1 := miss_no hlt hp
     rw [decide_eq_true hp] at hh0
     clear ex hok
     repeat' (first | refine aoQ rfl rfl rfl (fun hg => by first | exact piW tabOk rfl rfl nd rfl nd rfl rfl ⟨zB4 _, zAf.2 hlt⟩ | exact std0 | exact pcW (hh0) rfl rfl nd rfl nds | exact (Bool.noConfusion (show false = true from hg) : PRun _ _ _ _ (.b false)) | fail) (by exact rfl) ?_ | refine sqW ?_ | refine rgK (fun K' hK => ?_) | (refine aoN (hK _ _ ?_); clear hK K') | refine aoE (stW tabOk rfl rfl rfl tI rfl rfl tI rfl rfl rfl rfl rfl rfl rfl ?_) | refine aoE (alW tabOk rfl rfl rfl rfl rfl rfl ?_) | refine cdN rfl tI (fun hc => ?_) (fun hc => ?_) | refine blK ?_ | refine exW ?_ | refine skW ?_ | refine rtW ?_)
     all_goals (first | exact dd | skip)
     refine ⟨k + 1, by omega, by omega, ⟨rfl, rfl, rfl, rfl, rfl, tI⟩, ?_⟩
     rw [h1]; rfl
   · obtain ⟨h1, h2⟩ := miss_yes hlt hp
     rw [decide_eq_false hp] at hh0
     have hj : (missE (o.s.evs.take k) d.s.evs).length < (missE o.s.evs d.s.evs).length := by
      have := hcnt (k + 1); omega
     have hc1 := hcnt (k + 1)
     rw [h2] at hc1
     generalize hm : (missE (o.s.evs.take k) d.s.evs).length = m at *
     have hv := VCall.frame (hyield m [.agg (encE (o.s.evs.getD k default))] (by rw [zAd, h1]; rfl)) [.var (encE (o.s.evs.getD k default))]
      (by rw [(hS _ (by omega)).1]; exact (hS _ (by omega)).2) (by rw [(hS _ (by omega)).1]; exact hy) rfl (by
       rintro rv s' (⟨_, rfl⟩ | ⟨_, hh⟩)
       · rw [(hS _ (by omega)).1, (hS _ (by omega)).1]
       · rw [(hS _ (by omega)).1, (hR _ _ hh).1])
     have hv2 : VCall Tryz.prog (.opq yv) [.agg (encE (o.s.evs.getD k default))] (s5 (S m) ++ [.var (encE (o.s.evs.getD k default))])
      (fun r t => (r = .b true ∧ t = s5 (S (m + 1)) ++ [.var (encE (o.s.evs.getD k default))]) ∨ (r = .b false ∧ ∃ t', t = t' ++ [.var (encE (o.s.evs.getD k default))] ∧ R m t')) := by
      have e1 := ex m (by omega)
      have e2 := ex (m + 1) hc1
      rw [e1] at hv
      refine VCall.mono hv ?_
      rintro r t ⟨t', rfl, (⟨rfl, rfl⟩ | ⟨rfl, hh⟩)⟩
      · refine .inl ⟨rfl, ?_⟩
        conv => lhs; rw [e2]
      · exact .inr ⟨rfl, t', rfl, hh⟩
     clear hv ex hok
     repeat' (first | refine aoQ rfl rfl rfl (fun hg => by first | exact piW tabOk rfl rfl nd rfl nd rfl rfl ⟨zB4 _, zAf.2 hlt⟩ | exact std0 | exact pcW (hh0) rfl rfl nd rfl nds) (by exact rfl) ?_ | refine sqW ?_ | refine rgK (fun K' hK => ?_) | (refine aoN (hK _ _ ?_); clear hK K') | refine aoE (stW tabOk rfl rfl rfl tI rfl rfl tI rfl rfl rfl rfl rfl rfl rfl ?_) | refine aoE (alW tabOk rfl rfl rfl rfl rfl rfl ?_) | refine aoE (EStep.gd (gOf_yes rfl rfl rfl) rfl <| scT hv2 rfl rfl rfl rfl rfl (by exact rfl) rfl rfl (by repeat' (first | exact tI | exact rfl | refine ⟨?_, ?_⟩)) ?_) | refine cdN rfl tI (fun hc => ?_) (fun hc => ?_) | refine blK ?_ | refine exW ?_ | refine skW ?_)
     all_goals (first | exact dd | skip)
     rintro r t (⟨rfl, rfl⟩ | ⟨rfl, t', rfl, hh⟩)
     · repeat' (first | refine aoQ rfl rfl rfl (fun hg => by exact std0) (by exact rfl) ?_ | refine rgK (fun K' hK => ?_) | (refine aoN (hK _ _ ?_); clear hK K') | refine cdN rfl tI (fun hc => ?_) (fun hc => ?_) | refine skW ?_ | refine rtW ?_)
       all_goals (first | exact dd | skip)
       refine ⟨k + 1, by omega, by omega, ⟨rfl, rfl, rfl, rfl, rfl, tI⟩, ?_⟩
       rw [h2]; rfl
     · repeat' (first | refine aoQ rfl rfl rfl (fun hg => by exact std0) (by exact rfl) ?_ | refine rgK (fun K' hK => ?_) | (refine aoN (hK _ _ ?_); clear hK K') | refine cdN rfl tI (fun hc => ?_) (fun hc => ?_) | refine skW ?_ | refine rtW ?_)
       all_goals (first | exact dd | skip)
       obtain ⟨k1, k2⟩ := hR _ _ hh
       exact ⟨.inr rfl, .tup [], t', .inr ⟨_, hj, hh⟩, by simp, by rw [k1]; exact nLr _, by rw [k1]; exact k2, rfl, rfl⟩
 · obtain rfl : k = o.s.evs.length := by omega
   repeat' (first | refine aoQ rfl rfl rfl (fun hg => by first | exact std0 | exact std1) (by exact rfl) ?_ | refine sqW ?_ | refine rgK (fun K' hK => ?_) | (refine aoN (hK _ _ ?_); clear hK K') | refine aoE (stW tabOk rfl rfl rfl tI rfl rfl tI rfl rfl rfl rfl rfl rfl rfl ?_) | refine aoE (alW tabOk rfl rfl rfl rfl rfl rfl ?_) | refine cdN rfl tI (fun hc => ?_) (fun hc => ?_) | refine blK ?_ | refine exW ?_ | refine skW ?_)
   all_goals (first | (exfalso; omega) | skip)
   have htk : o.s.evs.take o.s.evs.length = o.s.evs := zB1
   refine ⟨.inl rfl, .tup [], S (missE o.s.evs d.s.evs).length, .inl rfl, ?_, ?_, ?_, rfl, rfl⟩
   · rw [(hS _ (nLr _)).1]
     conv => rhs; rw [ex _ (nLr _)]
     rw [htk]; rfl
   · rw [(hS _ (nLr _)).1]; exact nLr _
   · rw [(hS _ (nLr _)).1]; exact (hS _ (nLr _)).2
end Go.Proofs.YtbneeinknlddaaaGreat
