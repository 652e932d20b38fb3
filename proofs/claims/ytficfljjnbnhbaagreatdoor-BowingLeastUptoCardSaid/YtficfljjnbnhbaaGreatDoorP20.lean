/- Contracts by content: bowing: others, choices; the reference's.  Bowings in plain words: the values that a reader sees. No statement is proved here. -/
import Derived.Test.YtficfljjnbnhbaaGreatDoorP18
import Derived.Test.YtficfljjnbnhbaaGreatDoorP19
set_option linter.unusedVariables false
set_option linter.unusedSimpArgs false
namespace Go.Proofs.YtficfljjnbnhbaaGreatDoor.Bw
open Go.Ab Mk
attribute [local irreducible] AWP AOps EStep AQ PStep PRun PCall TCall VCall DStep TDies AWD DCall
def encC (c : Cl) : List AV := [.sl 1 (c.notes.map eI) .no, .sl 1 (c.vals.map eI) .no, .sl 3 (c.rdrs.map encRd) .no]
set_option maxHeartbeats 16000000 in
set_option maxRecDepth 20000 in
theorem others_spec (c : Cl) (h : c.notes.length = c.vals.length) (hl : c.vals.length ≤ 1000000000) (w : Int) : PCall Tryz.prog 53 [.agg (encC c), .int w] (.sl 1 ((oth (psC c) w).map eI) .no) := by
 refine PCall.body Tryz.func53 rfl rfl Tryz.ntmps53 rfl rfl ?_
 repeat' (first | refine aoQ rfl rfl rfl (fun hg => by first | exact std0 | exact std1) (by exact rfl) ?_ | refine sqW ?_ | refine rgK (fun K' hK => ?_) | (refine aoN (hK _ _ ?_); clear hK K') | refine aoE (bxW rfl rfl rfl rfl rfl tI rfl rfl ?_) | refine blK ?_)
 refine AWP.ownNil (d := 5) (sz := 1) rfl ?_
 refine lpD (ι := Nat) (fun k => [(1, .int w), (2, .ptr 0 0), (5, .sl 1 ((oth ((psC c).take k) w).map eI) (.own 1)), (9, .sl 1 (c.vals.map eI) .no), (10, .int c.vals.length), (11, .int k)]) (fun k => [.var (encC c), .own 1 ((oth ((psC c).take k) w).map eI).length])
  (fun k => k ≤ c.vals.length) (fun k => c.vals.length - k) 2 (fun _ => rfl) 0 (nZl _) ⟨rfl, rfl, rfl, rfl, rfl, rfl, tI⟩ rfl (fun _ _ => rfl) (fun _ _ => rfl) ?_
 intro k hk
 have ho := oth_len w ((psC c).take k)
 rw [zAc, psC_len h] at ho
 by_cases hlt : k < c.vals.length
 · obtain ⟨n, hn⟩ : ∃ n, c.notes.getD k default = n := ⟨_, rfl⟩
   obtain ⟨v, hv⟩ : ∃ v, c.vals.getD k default = v := ⟨_, rfl⟩
   have hs := oth_take h hlt hn hv w
   have hc1 := contains_int (oth ((psC c).take k) w) (by omega) n
   generalize oth ((psC c).take k) w = o at *
   repeat' (first | refine aoQ rfl rfl rfl (fun hg => by first | exact iX eI c.notes ((k : Nat) : Int) hn (hb := by omega) | exact iX eI c.vals ((k : Nat) : Int) hv (hb := by omega) | exact std0 | exact pcW (hc1) rfl rfl nd rfl nds | exact pbS tabOk rfl rfl nds) (by exact rfl) ?_ | refine sqW ?_ | refine rgK (fun K' hK => ?_) | (refine aoN (hK _ _ ?_); clear hK K') | refine aoE (apO tabOk rfl rfl rfl (by decide) (Rd.w rfl tI) rfl (Rd.w rfl tI) (.sl rfl (by first | (intro x hx; rcases zAl.1 hx with rfl; rfl) | exact one_eI [n])) (LOk.of (tabOk.get rfl)) (LOk.of (tabOk.get rfl)) rfl rfl (by simp only [lLm, lLa, zA5, zAb, zAc, zAx]; omega) (by simp only [lLm, lLa, zA5, zAb, zAc, zAx]; omega) ?_) | refine cdN rfl tI (fun hc => ?_) (fun hc => ?_) | refine blK ?_ | refine exW ?_ | refine skW ?_ | refine rtW ?_)
   all_goals (first | (exfalso; omega) | skip)
   · rw [if_pos hc] at hs
     refine ⟨k + 1, hlt, by show c.vals.length - (k + 1) < c.vals.length - k; omega, ⟨rfl, rfl, ?_, rfl, rfl, rfl, tI⟩, ?_⟩
     · rw [hs, zAe]; rfl
     · rw [hs, zAe]; rfl
   · rw [if_neg (by rw [hc]; decide)] at hs
     refine ⟨k + 1, hlt, by show c.vals.length - (k + 1) < c.vals.length - k; omega, ⟨rfl, rfl, ?_, rfl, rfl, rfl, tI⟩, ?_⟩
     · rw [hs]; rfl
     · rw [hs]; rfl
 · obtain rfl : k = c.vals.length := by omega
   rw [← psC_len h, zAr]
   repeat' (first | refine aoQ rfl rfl rfl (fun hg => by first | exact std0 | exact std1) (by exact rfl) ?_ | refine sqW ?_ | refine rgK (fun K' hK => ?_) | (refine aoN (hK _ _ ?_); clear hK K') | refine cdN rfl tI (fun hc => ?_) (fun hc => ?_) | refine blK ?_ | refine exW ?_ | refine skW ?_ | refine rtW ?_)
   all_goals (first | (exfalso; omega) | (exfalso; have := psC_len h; omega) | skip)
   exact ⟨.inr rfl, Ent.of rfl⟩
set_option maxHeartbeats 16000000 in
set_option maxRecDepth 20000 in
theorem rOthers_spec (c : Cl) (h : c.notes.length = c.vals.length) (hl : c.vals.length ≤ 1000000000) (w : Int) : PCall Tryz.prog 28 [.agg (encC c), .int w] (.sl 1 ((oth (psC c) w).map eI) .no) := by
 refine PCall.body Tryz.func28 rfl rfl Tryz.ntmps28 rfl rfl ?_
 repeat' (first | refine aoQ rfl rfl rfl (fun hg => by exact std0) (by exact rfl) ?_ | refine sqW ?_ | refine rgK (fun K' hK => ?_) | (refine aoN (hK _ _ ?_); clear hK K') | refine aoE (bxW rfl rfl rfl rfl rfl tI rfl rfl ?_) | refine blK ?_)
 refine AWP.ownNil (d := 5) (sz := 1) rfl ?_
 refine lpD (ι := Nat) (fun k => [(1, .int w), (2, .ptr 0 0), (5, .sl 1 ((oth ((psC c).take k) w).map eI) (.own 1)), (6, .int k)]) (fun k => [.var (encC c), .own 1 ((oth ((psC c).take k) w).map eI).length])
  (fun k => k ≤ c.vals.length) (fun k => c.vals.length - k) 2 (fun _ => rfl) 0 (nZl _) ⟨rfl, rfl, rfl, rfl, tI⟩ rfl (fun _ _ => rfl) (fun _ _ => rfl) ?_
 intro k hk
 have ho := oth_len w ((psC c).take k)
 rw [zAc, psC_len h] at ho
 by_cases hlt : k < c.vals.length
 · obtain ⟨n, hn⟩ : ∃ n, c.notes.getD k default = n := ⟨_, rfl⟩
   obtain ⟨v, hv⟩ : ∃ v, c.vals.getD k default = v := ⟨_, rfl⟩
   have hs := oth_take h hlt hn hv w
   have hc1 := has20_spec (oth ((psC c).take k) w) (by omega) n
   generalize oth ((psC c).take k) w = o at *
   repeat' (first | refine aoQ rfl rfl rfl (fun hg => by first | exact iX eI c.notes ((k : Nat) : Int) hn (hb := by omega) | exact iX eI c.vals ((k : Nat) : Int) hv (hb := by omega) | exact std0 | exact pcW (hc1) rfl rfl nd rfl nds | exact pbS tabOk rfl rfl nds | exact std1) (by exact rfl) ?_ | refine sqW ?_ | refine rgK (fun K' hK => ?_) | (refine aoN (hK _ _ ?_); clear hK K') | refine aoE (apO tabOk rfl rfl rfl (by decide) (Rd.w rfl tI) rfl (Rd.w rfl tI) (.sl rfl (by first | (intro x hx; rcases zAl.1 hx with rfl; rfl) | exact one_eI [n])) (LOk.of (tabOk.get rfl)) (LOk.of (tabOk.get rfl)) rfl rfl (by simp only [lLm, lLa, zA5, zAb, zAc, zAx]; omega) (by simp only [lLm, lLa, zA5, zAb, zAc, zAx]; omega) ?_) | refine cdN rfl tI (fun hc => ?_) (fun hc => ?_) | refine blK ?_ | refine exW ?_ | refine skW ?_ | refine rtW ?_)
   all_goals (first | (exfalso; omega) | skip)
   · rw [if_pos hc] at hs
     refine ⟨k + 1, hlt, by show c.vals.length - (k + 1) < c.vals.length - k; omega, ⟨rfl, rfl, ?_, rfl, tI⟩, ?_⟩
     · rw [hs, zAe]; rfl
     · rw [hs, zAe]; rfl
   · rw [if_neg (by rw [hc]; decide)] at hs
     refine ⟨k + 1, hlt, by show c.vals.length - (k + 1) < c.vals.length - k; omega, ⟨rfl, rfl, ?_, rfl, tI⟩, ?_⟩
     · rw [hs]; rfl
     · rw [hs]; rfl
 · obtain rfl : k = c.vals.length := by omega
   rw [← psC_len h, zAr]
   repeat' (first | refine aoQ rfl rfl rfl (fun hg => by first | exact std0 | exact std1) (by exact rfl) ?_ | refine sqW ?_ | refine rgK (fun K' hK => ?_) | (refine aoN (hK _ _ ?_); clear hK K') | refine cdN rfl tI (fun hc => ?_) (fun hc => ?_) | refine blK ?_ | refine exW ?_ | refine skW ?_ | refine rtW ?_)
   all_goals (first | (exfalso; omega) | (exfalso; have := psC_len h; omega) | skip)
   exact ⟨.inr rfl, Ent.of rfl⟩
def tupH (r : (List Int × Int) × Int) : AV := .tup [.sl 1 (r.1.1.map eI) .no, .int r.1.2, .int r.2]
def selK (L : Nat → Nat) (m : Int) : Nat → List Int
 | 0 => []
 | k + 1 => if (((L (k + 1) : Nat) : Int) == m) = true then selK L m k ++ [(k : Int) + 1] else selK L m k
theorem selK_len (L : Nat → Nat) (m : Int) : ∀ k, (selK L m k).length ≤ k
 | 0 => nLr _
 | k + 1 => by
   have := selK_len L m k
   unfold selK
   split
   · rw [lLa]; simp; omega
   · omega
theorem bo4_spec (c : Cl) (h : c.notes.length = c.vals.length) (hl : c.vals.length ≤ 1000000000) (v : Int) : PCall Tryz.prog 52 [.int v, .iptr (encC c)] (.int ((oth (psC c) v).length : Nat)) := by
 have h1 := others_spec c h hl v
 refine PCall.body Tryz.func52 rfl rfl Tryz.ntmps52 rfl rfl ?_
 repeat' (first | refine aoQ rfl rfl rfl (fun hg => by first | exact std0 | exact pcW (h1) rfl rfl nd rfl nds | exact std1) (by exact rfl) ?_ | refine sqW ?_ | refine rgK (fun K' hK => ?_) | (refine aoN (hK _ _ ?_); clear hK K') | refine rtW ?_)
 exact ⟨.inr rfl, Ent.int rfl⟩
theorem entH (e : Int) : Ent (.tup [.nils, .int 0, .int e]) (tupH (([], 0), e)) := Ent.tup rfl fun i u v hu hv => by
 match i, hu, hv with
 | 0, hu, hv => cases hu; cases hv; exact Ent.nil
 | 1, hu, hv => cases hu; cases hv; exact Ent.rfl' _
 | 2, hu, hv => cases hu; cases hv; exact Ent.rfl' _
 | i + 3, hu, hv => cases hu
set_option maxHeartbeats 16000000 in
set_option maxRecDepth 20000 in
theorem choices_spec (c : Cl) (hz : c.Sized) : PCall Tryz.prog 15 [.agg (encC c)] (tupH (choR c)) := by
 have h1 := hasI0_spec 46 (fun n => !Jo.isId n) c.notes hz.notes (fun n _ => bo1_spec n)
 have h2 := hasR0_spec 47 (fun n => !Jo.isRdr n) c.rdrs hz.rdrs (fun n _ => bo2_spec n)
 have h3 := hasI0_spec 49 (fun n => n != 1 && n != 2) c.vals hz.vals (fun n _ => bo3_spec n)
 have h4 := contains_int c.vals hz.vals 1
 have h5 := contains_int c.vals hz.vals 2
 rw [findI_any'] at h1 h2 h3
 by_cases hok : clOk c = true
 · have hR : choR c = ((selC c, leastC c), 0) := if_pos hok
   have hok2 := hok
   unfold clOk at hok2
   simp only [zA0] at hok2
   obtain ⟨o1, o2, o3⟩ := hok2
   obtain ⟨e1, e2, e3⟩ := clForm_iff o1
   unfold clForm at o1
   simp only [zA0, zAm, bne_eq_false_iff_eq, dEf] at o1
   obtain ⟨⟨⟨_, p1⟩, p2⟩, p3⟩ := o1
   rw [p1] at h1
   rw [p2] at h2
   rw [p3] at h3
   rw [o2] at h4
   rw [o3] at h5
   have q := fun v => bo4_spec c e1 (by omega) v
   rw [hR]
   have hsel0 : selC c = (if ((oth (psC c) 1).length : Int) == leastC c then [1] else []) ++ (if ((oth (psC c) 2).length : Int) == leastC c then [2] else []) := filt2 fun v => ((oth (psC c) v).length : Int) == leastC c
   unfold leastC at hsel0 ⊢
   rw [hsel0]
   obtain ⟨L, hL⟩ : ∃ L : Nat → Nat, ∀ v : Nat, (oth (psC c) v).length = L v := ⟨fun v => (oth (psC c) v).length, fun _ => rfl⟩
   have hL1 : (oth (psC c) 1).length = L 1 := hL 1
   have hL2 : (oth (psC c) 2).length = L 2 := hL 2
   have q1 := q 1
   have q2 := q 2
   have qk := fun k : Nat => q ((k : Int) + 1)
   have hLk : ∀ k : Nat, (oth (psC c) ((k : Int) + 1)).length = L (k + 1) := fun k => hL (k + 1)
   rw [hL1] at q1 ⊢
   rw [hL2] at q2 ⊢
   simp only [hLk] at qk
   clear hL hL1 hL2 q hLk hR hsel0
   obtain ⟨m, hm⟩ : ∃ m, min ((L 1 : Nat) : Int) ((L 2 : Nat) : Int) = m := ⟨_, rfl⟩
   rw [hm]
   refine PCall.bodyS tabOk Tryz.func15 rfl rfl Tryz.ntmps15 rfl ?_
   repeat' (first | refine aoQ rfl rfl rfl (fun hg => by first | exact std0 | exact pcW (h1) rfl rfl nd rfl nds | exact pcW (h2) rfl rfl nd rfl nds | exact pcW (h3) rfl rfl nd rfl nds | exact pcW (h4) rfl rfl nd rfl nds | exact pcW (h5) rfl rfl nd rfl nds | exact pbW (q1) rfl rfl nd rfl rfl nds | exact pbW (q2) rfl rfl nd rfl rfl nds | exact std1) (by exact rfl) ?_ | refine sqW ?_ | refine rgK (fun K' hK => ?_) | (refine aoN (hK _ _ ?_); clear hK K') | refine aoE (bxW rfl rfl rfl rfl rfl tI rfl rfl ?_) | refine cdN rfl tI (fun hc => ?_) (fun hc => ?_) | refine blK ?_ | refine skW ?_ | refine rtW ?_)
   all_goals (first | (exfalso; simp at hc; done) | (exfalso; simp at hc; omega) | skip)
   refine AWP.ownNil (d := 11) (sz := 1) rfl ?_
   refine lpD (ι := Nat) (fun k => [(1, .ptr 0 0), (9, .fn (.func 52) [] [.ptr 0 0]), (10, .int m), (11, .sl 1 ((selK L m k).map eI) (.own 1)), (12, .int ((k : Int) + 1))]) (fun k => [.var (encC c), .own 1 ((selK L m k).map eI).length])
    (fun k => k ≤ 2) (fun k => 2 - k) 2 (fun _ => rfl) 0 (nZl _) ⟨rfl, rfl, (by rw [← hm]; rfl), rfl, rfl, tI⟩ rfl (fun _ _ => rfl) (fun _ _ => rfl) ?_
   intro k hk
   have hsl := selK_len L m k
   by_cases hlt : k < 2
   · have q0 := qk k
     have hs : selK L m (k + 1) = if (((L (k + 1) : Nat) : Int) == m) = true then selK L m k ++ [(k : Int) + 1] else selK L m k := rfl
     generalize selK L m k = o at *
     clear h1 h2 h3 h4 h5 q1 q2 qk
     repeat' (first | refine aoQ rfl rfl rfl (fun hg => by first | exact std0 | exact pbW (q0) rfl rfl nd rfl rfl nds | exact pbS tabOk rfl rfl nds) (by exact rfl) ?_ | refine sqW ?_ | refine rgK (fun K' hK => ?_) | (refine aoN (hK _ _ ?_); clear hK K') | refine aoE (apO tabOk rfl rfl rfl (by decide) (Rd.w rfl tI) rfl (Rd.w rfl tI) (.sl rfl (by first | (intro x hx; rcases zAl.1 hx with rfl; rfl) | exact one_eI [(k : Int) + 1])) (LOk.of (tabOk.get rfl)) (LOk.of (tabOk.get rfl)) rfl rfl (by simp only [lLm, lLa, zA5, zAb, zAc, zAx]; omega) (by simp only [lLm, lLa, zA5, zAb, zAc, zAx]; omega) ?_) | refine cdN rfl tI (fun hc => ?_) (fun hc => ?_) | refine blK ?_ | refine exW ?_ | refine skW ?_ | refine rtW ?_)
     all_goals (first | (exfalso; omega) | skip)
     · rw [if_pos hc] at hs
       refine ⟨k + 1, hlt, by show 2 - (k + 1) < 2 - k; omega, ⟨rfl, rfl, rfl, ?_, rfl, tI⟩, ?_⟩
       · rw [hs, zAe]; rfl
       · rw [hs, zAe]; rfl
     · rw [if_neg (by rw [hc]; decide)] at hs
       refine ⟨k + 1, hlt, by show 2 - (k + 1) < 2 - k; omega, ⟨rfl, rfl, rfl, ?_, rfl, tI⟩, ?_⟩
       · rw [hs]; rfl
       · rw [hs]; rfl
   · obtain rfl : k = 2 := by omega
     clear h1 h2 h3 h4 h5 q1 q2 qk
     have hs : selK L m 2 = (if (((L 1 : Nat) : Int) == m) = true then [1] else []) ++ (if (((L 2 : Nat) : Int) == m) = true then [2] else []) := by
      unfold selK selK selK
      cases ((L 1 : Nat) : Int) == m <;> cases ((L 2 : Nat) : Int) == m <;> simp_all
     rw [← hs]
     repeat' (first | refine aoQ rfl rfl rfl (fun hg => by exact std0) (by exact rfl) ?_ | refine sqW ?_ | refine rgK (fun K' hK => ?_) | (refine aoN (hK _ _ ?_); clear hK K') | refine cdN rfl tI (fun hc => ?_) (fun hc => ?_) | refine blK ?_ | refine exW ?_ | refine skW ?_ | refine rtW ?_)
     all_goals (first | (exfalso; omega) | skip)
     exact ⟨.inr rfl, _, rfl, Ent.of rfl⟩
 · have hR : choR c = (([], 0), 1) := if_neg hok
   rw [hR]
   have hof : clForm c = true → ((!hasI c.vals 1) || !hasI c.vals 2) = true := fun h => by
    unfold clOk at hok
    rw [h, zBl] at hok
    revert hok
    cases hasI c.vals 1 <;> cases hasI c.vals 2 <;> simp
   have hbd : clForm c = !(((((c.notes.length != c.vals.length || c.rdrs.length != c.vals.length) || decide ((c.vals.length : Int) > 20000)) || c.notes.any fun n => !Jo.isId n) || c.rdrs.any fun r => !Jo.isRdr r) || c.vals.any fun v => v != 1 && v != 2) := by
    unfold clForm
    simp only [Bool.not_or]
   refine PCall.bodyS tabOk Tryz.func15 rfl rfl Tryz.ntmps15 rfl ?_
   repeat' (first | refine aoQ rfl rfl rfl (fun hg => by first | exact std0 | exact pcW (h1) rfl rfl nd rfl nds | exact pcW (h2) rfl rfl nd rfl nds | exact pcW (h3) rfl rfl nd rfl nds | exact pcW (h4) rfl rfl nd rfl nds | exact pcW (h5) rfl rfl nd rfl nds | exact std1) (by exact rfl) ?_ | refine sqW ?_ | refine rgK (fun K' hK => ?_) | (refine aoN (hK _ _ ?_); clear hK K') | refine aoE (bxW rfl rfl rfl rfl rfl tI rfl rfl ?_) | refine cdN rfl tI (fun hc => ?_) (fun hc => ?_) | refine skW ?_ | refine rtW ?_)
   all_goals (first | (exact ⟨.inr rfl, _, rfl, entH 1⟩) | skip)
   rename_i h9
   exfalso
   have h8 : clForm c = true := by
    rw [hbd]
    simp at h9 ⊢
    exact ⟨⟨⟨⟨⟨by omega, by omega⟩, by omega⟩, h9.1.1.2⟩, h9.1.2⟩, h9.2⟩
   have h7 := hof h8
   first | (rw [h7] at hc; cases hc) | simp_all
end Go.Proofs.YtficfljjnbnhbaaGreatDoor.Bw
namespace Go.Ab
def setL {κ α : Type} [DecidableEq κ] (al l : List (κ × α)) : List (κ × α) := l.foldl (fun al p => ins al p.1 p.2) al
theorem setL_snoc {κ α : Type} [DecidableEq κ] (al l : List (κ × α)) (p : κ × α) : setL al (l ++ [p]) = ins (setL al l) p.1 p.2 := by unfold setL; rw [zC7]; rfl
end Go.Ab
namespace Go.Proofs.YtficfljjnbnhbaaGreatDoor.Bw
open Go.Ab Mk
theorem lk_setL_no {κ α : Type} [DecidableEq κ] : ∀ (l al : List (κ × α)) (k : κ), (∀ p ∈ l, p.1 ≠ k) → lk (setL al l) k = lk al k
 | [], _, _, _ => rfl
 | p :: l, al, k, h => by
   show lk (setL (ins al p.1 p.2) l) k = _
   rw [lk_setL_no l _ k fun q hq => h q (zAv _ hq), Go.Proofs.YtficfljjnbnhbaaGreatDoor.lk_ins', if_neg (h p (zAo ..))]
theorem lk_setL_mem {κ α : Type} [DecidableEq κ] : ∀ {l al : List (κ × α)} {k : κ} {v : α}, (l.map (·.1)).Nodup → (k, v) ∈ l → lk (setL al l) k = some v
 | [], _, _, _, _, h => by cases h
 | p :: l, al, k, v, hn, h => by
   rw [zAz, zCb] at hn
   rcases zB7.1 h with h | h
   · subst h
     show lk (setL (ins al k v) l) k = _
     rw [lk_setL_no l _ k fun q hq e => hn.1 (zAi.2 ⟨q, hq, e⟩), Go.Proofs.YtficfljjnbnhbaaGreatDoor.lk_ins', if_pos rfl]
   · exact lk_setL_mem (l := l) hn.2 h
theorem lk_setL_true {κ : Type} [DecidableEq κ] {k : κ} : ∀ {l al : List (κ × Bool)}, (∀ p ∈ l, p.2 = true) → (∀ v, lk al k = some v → v = true) → ((lk (setL al l) k).getD false = true ↔ (lk al k).getD false = true ∨ ∃ p ∈ l, p.1 = k)
 | [], al, _, _ => by simp [setL]
 | p :: l, al, h, ha => by
   have hp := h p (zAo ..)
   show (lk (setL (ins al p.1 p.2) l) k).getD false = true ↔ _
   rw [lk_setL_true (l := l) (al := ins al p.1 p.2) (fun q hq => h q (zAv _ hq)) (fun v hv => by
    rw [Go.Proofs.YtficfljjnbnhbaaGreatDoor.lk_ins'] at hv
    split at hv
    · cases hv; exact hp
    · exact ha v hv), Go.Proofs.YtficfljjnbnhbaaGreatDoor.lk_ins']
   simp only [zB7, exists_eq_or_imp]
   by_cases e : p.1 = k
   · rw [if_pos e]; simp [hp, e]
   · rw [if_neg e]; simp [e]
def lftM (ex : List Int) : List (Int × Bool) := setL [] (ex.map fun id => (id, true))
theorem lftM_succ {ex : List Int} {k : Nat} (h : k < ex.length) : lftM (ex.take (k + 1)) = ins (lftM (ex.take k)) (ex.getD k default) true := by
 unfold lftM
 rw [zBt, zA7 h, zAe, getD_lt h]; exact setL_snoc _ _ _
theorem lftM_lk (ex : List Int) (id : Int) : (lk (lftM ex) id).getD false = decide (id ∈ ex) := by
 have h := lk_setL_true (k := id) (l := ex.map fun id => (id, true)) (al := []) (fun p hp => by obtain ⟨_, _, rfl⟩ := zAi.1 hp; rfl) (fun v hv => by cases hv)
 unfold lftM
 rw [zAs, h, decide_eq_true_iff]
 constructor
 · rintro (h | ⟨p, hp, e⟩)
   · cases h
   · obtain ⟨x, hx, rfl⟩ := zAi.1 hp
     rw [← e]; exact hx
 · exact fun h => .inr ⟨_, zAi.2 ⟨id, h, rfl⟩, rfl⟩
def valM (x : List Jo.Mark) : List (Int × Int) := setL [] ((x.filter fun m => m.kind == 1).map fun m => (m.note, m.value))
theorem valM_yes {x : List Jo.Mark} {k : Nat} (h : k < x.length) {m : Jo.Mark} (hm : x.getD k default = m) (hk : m.kind = 1) : valM (x.take (k + 1)) = ins (valM (x.take k)) m.note m.value := by
 unfold valM
 rw [zBt, zA7 h, ← getD_lt h, hm, zBa, Option.toList_some, zB3 (by simpa using hk), zAe]; exact setL_snoc _ _ _
theorem valM_no {x : List Jo.Mark} {k : Nat} (h : k < x.length) {m : Jo.Mark} (hm : x.getD k default = m) (hk : m.kind ≠ 1) : valM (x.take (k + 1)) = valM (x.take k) := by
 unfold valM
 rw [zBt, zA7 h, ← getD_lt h, hm, zBa, Option.toList_some, zB8 (by simpa using hk)]; simp
theorem valM_seen {s : Score} {l : List Jo.Mark} (hok : scoreOk s = true) (hm : marksOk l = true) {p : Part} {r : Jo.Rdr} {n : Note} (hn : n ∈ playedL s.notes p) :
 (lk (valM (shownL (shownF s l p r) (playedL s.notes p))) n.id).getD 0 = valB s.version p.section_ l r n.id := by
 have hnd := marksOk_nodup hm
 have hf : ∀ n k m, shownF s l p r n k = some m → m.note = n ∧ m.kind = k := fun n k m h => by
  obtain ⟨_, h2, _⟩ := bestM_some hnd h
  unfold okFor at h2
  simp only [zAm, zAh, bne_eq_false_iff_eq, zAp] at h2
  exact ⟨h2.1.1.2, h2.1.2⟩
 have hkn := shown_nodup_key hf (playedL s.notes p) (played_nodup (scoreOk_nodup hok) p)
 obtain ⟨x, hx⟩ : ∃ x, shownL (shownF s l p r) (playedL s.notes p) = x := ⟨_, rfl⟩
 rw [hx] at hkn ⊢
 have hn1 : (((x.filter fun m => m.kind == 1).map fun m => (m.note, m.value)).map (·.1)).Nodup := by
  rw [zC6]
  have h1 : ((x.filter fun m => m.kind == 1).map keyM).Nodup := (List.filter_sublist.map _).nodup hkn
  rw [List.Nodup, List.pairwise_map] at h1 ⊢
  refine h1.imp_of_mem fun {a b} ha hb h e => h ?_
  have ha := (zBn.1 ha).2
  have hb := (zBn.1 hb).2
  simp only [beq_iff_eq] at ha hb
  have e : a.note = b.note := e
  show (a.note, a.kind) = (b.note, b.kind)
  rw [e, ha, hb]
 unfold valB valM
 cases hb : bestM (okFor s.version n.id 1 p.section_ r) l with
 | none =>
   rw [lk_setL_no]
   · rfl
   · intro q hq e
     obtain ⟨m, hm2, rfl⟩ := zAi.1 hq
     obtain ⟨h1, h2⟩ := zBn.1 hm2
     rw [← hx] at h1
     obtain ⟨n', _, k, _, h3⟩ := mem_shownL.1 h1
     obtain ⟨e1, e2⟩ := hf _ _ _ h3
     have h2 : m.kind = 1 := by simpa using h2
     have e : m.note = n.id := e
     have : shownF s l p r n.id 1 = some m := by rw [← e, e1, ← h2, e2]; exact h3
     have h4 : shownF s l p r n.id 1 = none := hb
     rw [h4] at this; cases this
 | some m =>
   have h3 : shownF s l p r n.id 1 = some m := hb
   obtain ⟨e1, e2⟩ := hf _ _ _ h3
   have hmx : m ∈ x := by rw [← hx]; exact mem_shownL.2 ⟨n, hn, 1, by decide, h3⟩
   rw [lk_setL_mem hn1 (zAi.2 ⟨m, zBn.2 ⟨hmx, by simpa using e2⟩, by rw [e1]⟩)]; rfl
theorem bowsOf_append (s : Score) (l : List Jo.Mark) (sec : Int) (ex : List Int) (a b : List (Jo.Rdr × Note)) : bowsOf s l sec ex (a ++ b) = bowsOf s l sec ex a ++ bowsOf s l sec ex b := by unfold bowsOf; exact zCw
theorem bowsOf_len (s : Score) (l : List Jo.Mark) (sec : Int) (ex : List Int) (a : List (Jo.Rdr × Note)) : (bowsOf s l sec ex a).length ≤ a.length := List.length_filterMap_le _ _
end Go.Proofs.YtficfljjnbnhbaaGreatDoor.Bw
