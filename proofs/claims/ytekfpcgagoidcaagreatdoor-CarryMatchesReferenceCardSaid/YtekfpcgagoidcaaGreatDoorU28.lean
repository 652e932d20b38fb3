/- Contracts by content: lists of marks: which are marks, the best one, whether two are the same; of the reference and of the program.  Contracts by content: carry: areMarks, All.  Contracts by content: carry: All.  Contracts by content: the reference of carry: versions, where one is found, which are few. No statement is proved here. -/
import Derived.Test.YtekfpcgagoidcaaGreatDoorU8
import Derived.Test.YtekfpcgagoidcaaGreatDoorU10
import Derived.Test.YtekfpcgagoidcaaGreatDoorU11
import Derived.Test.YtekfpcgagoidcaaGreatDoorU17
import Derived.Test.YtekfpcgagoidcaaGreatDoorU22
import Derived.Test.YtekfpcgagoidcaaGreatDoorU26
import Derived.Test.YtekfpcgagoidcaaGreatDoorU27
set_option linter.unusedVariables false
set_option linter.unusedSimpArgs false
namespace Go.Proofs.YtekfpcgagoidcaaGreatDoor.Mk
open Go.Ab Go.Jo
attribute [local irreducible] AWP AOps EStep AQ PStep PRun PCall TCall VCall DStep TDies AWD DCall
def marksOk (l : List Jo.Mark) : Bool := l.all markOk && decide ((l.map (·.id)).Nodup) && decide (l.length ≤ 20000)
def TextsIn (l : List Jo.Mark) : Prop := ∀ m ∈ l, m.text.length ≤ 9223372036854775807
theorem TextsIn.at {l : List Jo.Mark} (h : TextsIn l) {k : Nat} (hk : k < l.length) : (l.getD k default).text.length ≤ 9223372036854775807 := h _ (by rw [getD_lt hk]; exact lGm hk)
theorem marksOk_bad {l : List Jo.Mark} {k : Nat} (hk : k < l.length) (h : markOk (l.getD k default) = false) : marksOk l = false := by
 unfold marksOk; rw [all_no hk h]; rfl
theorem marksOk_dup {l : List Jo.Mark} {k : Nat} (hk : k < l.length) (h : (l.getD k default).id ∈ (l.take k).map (·.id)) : marksOk l = false := by
 unfold marksOk; rw [decide_eq_false (not_nodup (fun b : Jo.Mark => b.id) l k hk h)]; simp
theorem marks19_spec (l : List Jo.Mark) (hl : l.length ≤ 9223372036854775807) (ht : TextsIn l) : PCall Tryz.prog 77 [.sl 10 (l.map encMk) .no] (.b (marksOk l)) := by
 refine PCall.body Tryz.func77 rfl rfl Tryz.ntmps77 rfl rfl ?_
 repeat' (first | refine aoQ rfl rfl rfl (fun hg => by first | exact std0 | exact std1) (by exact rfl) ?_ | refine sqW ?_ | refine rgK (fun K' hK => ?_) | (refine aoN (hK _ _ ?_); clear hK K') | refine cdN rfl tI (fun hc => ?_) (fun hc => ?_) | refine blK ?_ | refine skW ?_ | refine rtW ?_)
 · refine ⟨.inr rfl, Ent.b (Eq.symm ?_)⟩
   unfold marksOk
   rw [decide_eq_false (show ¬ l.length ≤ 20000 by omega)]; simp
 have hn : l.length ≤ 20000 := by omega
 clear hc
 refine lpW (ι := Nat) (fun k => [(0, .sl 10 (l.map encMk) .no), (3, .int k)]) (fun _ => []) (fun k => k ≤ l.length ∧ (∀ j, j < k → markOk (l.getD j default) = true) ∧ ((l.take k).map (·.id)).Nodup) (fun k => l.length - k) 0 ⟨nZl _, fun j h => absurd h (by omega), by simp⟩ ⟨rfl, rfl, tI⟩ rfl ?_
 rintro k ⟨hk, hall, hnd⟩
 by_cases hlt : k < l.length
 · have hv := valid19_spec (l.getD k default) (ht.at hlt)
   repeat' (first | refine aoQ rfl rfl rfl (fun hg => by first | exact std0 | exact pcW (hv) rfl rfl nd rfl nds | exact std1) (by exact rfl) ?_ | refine sqW ?_ | refine rgK (fun K' hK => ?_) | (refine aoN (hK _ _ ?_); clear hK K') | refine cdN rfl tI (fun hc => ?_) (fun hc => ?_) | refine blK ?_ | refine exW ?_ | refine skW ?_ | refine rtW ?_)
   · exact ⟨.inr rfl, Ent.b (Eq.symm (marksOk_bad hlt (by simpa using hc)))⟩
   · have hbo : markOk (l.getD k default) = true := by simpa using hc
     clear hc hv
     refine lpW (ι := Nat) (fun j => [(0, .sl 10 (l.map encMk) .no), (3, .int k), (5, .int j)]) (fun _ => []) (fun j => j ≤ k ∧ ∀ i, i < j → (l.getD i default).id ≠ (l.getD k default).id) (fun j => k - j) 0 ⟨nZl _, fun j h => absurd h (by omega)⟩ ⟨rfl, rfl, rfl, tI⟩ rfl ?_
     rintro j ⟨hj, hne⟩
     by_cases hjk : j < k
     · repeat' (first | refine aoQ rfl rfl rfl (fun hg => by exact std0) (by exact rfl) ?_ | refine sqW ?_ | refine rgK (fun K' hK => ?_) | (refine aoN (hK _ _ ?_); clear hK K') | refine cdN rfl tI (fun hc => ?_) (fun hc => ?_) | refine blK ?_ | refine exW ?_ | refine skW ?_ | refine rtW ?_ | refine dK2 (by decide +kernel) (by kernel_rfl) (by decide +kernel) rfl (fun K' hK => ?_) | (refine aqN (hK _ ?_); clear hK K') | refine aqQ rfl rfl (fun hg => by first | exact std0 | exact std1) (by exact rfl) ?_)
       · refine ⟨.inr rfl, Ent.b (Eq.symm (marksOk_dup hlt ((mem_take (fun b : Jo.Mark => b.id) hk).2 ⟨j, hjk, ?_⟩)))⟩
         simpa using hc
       · exact ⟨j + 1, ⟨by omega, fun i hi => lt_succ_cases hne (by simpa using hc) hi⟩, by omega, ⟨rfl, rfl, rfl, tI⟩, rfl⟩
       · exfalso; omega
     · repeat' (first | refine aoQ rfl rfl rfl (fun hg => by exact std0) (by exact rfl) ?_ | refine sqW ?_ | refine rgK (fun K' hK => ?_) | (refine aoN (hK _ _ ?_); clear hK K') | refine cdN rfl tI (fun hc => ?_) (fun hc => ?_) | refine blK ?_ | refine exW ?_ | refine skW ?_ | refine rtW ?_ | refine dK2 (by decide +kernel) (by kernel_rfl) (by decide +kernel) rfl (fun K' hK => ?_) | (refine aqN (hK _ ?_); clear hK K') | refine aqQ rfl rfl (fun hg => by first | exact std0 | exact std1) (by exact rfl) ?_)
       all_goals (first | (exfalso; omega) | skip)
       · refine ⟨k + 1, ⟨by omega, fun i hi => lt_succ_cases hall hbo hi, (nodup_succ _ l k hlt).2 ⟨hnd, fun hm => ?_⟩⟩, by omega, ⟨rfl, rfl, tI⟩, rfl⟩
         obtain ⟨i, hi, e⟩ := (mem_take (fun b : Jo.Mark => b.id) hk).1 hm
         exact hne i (by omega) e
   · exfalso; omega
 · repeat' (first | refine aoQ rfl rfl rfl (fun hg => by first | exact std0 | exact std1) (by exact rfl) ?_ | refine sqW ?_ | refine rgK (fun K' hK => ?_) | (refine aoN (hK _ _ ?_); clear hK K') | refine cdN rfl tI (fun hc => ?_) (fun hc => ?_) | refine blK ?_ | refine exW ?_ | refine skW ?_ | refine rtW ?_)
   · exfalso; omega
   · refine ⟨.inr rfl, Ent.b ?_⟩
     have htk : l.take k = l := zAt (by omega)
     rw [htk] at hnd
     unfold marksOk
     rw [all_yes fun j hj => hall j (by omega), decide_eq_true hnd, decide_eq_true hn]; rfl
theorem same19_spec (a b : List Jo.Mark) (ha : a.length ≤ 9223372036854775807) (hb : b.length ≤ 9223372036854775807) : PCall Tryz.prog 36 [.sl 10 (a.map encMk) .no, .sl 10 (b.map encMk) .no] (.b (a == b)) := by
 refine PCall.body Tryz.func36 rfl rfl Tryz.ntmps36 rfl rfl ?_
 repeat' (first | refine aoQ rfl rfl rfl (fun hg => by first | exact std0 | exact std1) (by exact rfl) ?_ | refine sqW ?_ | refine rgK (fun K' hK => ?_) | (refine aoN (hK _ _ ?_); clear hK K') | refine cdN rfl tI (fun hc => ?_) (fun hc => ?_) | refine blK ?_ | refine skW ?_ | refine rtW ?_)
 · refine ⟨.inr rfl, Ent.b (Eq.symm ?_)⟩
   rw [beq_eq_false_iff_ne]
   intro h; subst h; simp at hc
 have hlen : a.length = b.length := by have h9 := hc; simp at h9; omega
 clear hc
 refine lpW (ι := Nat) (fun k => [(0, .sl 10 (a.map encMk) .no), (1, .sl 10 (b.map encMk) .no), (5, .int k)]) (fun _ => []) (fun k => k ≤ a.length ∧ ∀ j, j < k → a.getD j default = b.getD j default) (fun k => a.length - k) 0 ⟨nZl _, fun j h => absurd h (by omega)⟩ ⟨rfl, rfl, rfl, tI⟩ rfl ?_
 rintro k ⟨hk, hall⟩
 by_cases hlt : k < a.length
 · repeat' (first | refine aoQ rfl rfl rfl (fun hg => by first | exact std0 | exact std1) (by exact rfl) ?_ | refine sqW ?_ | refine rgK (fun K' hK => ?_) | (refine aoN (hK _ _ ?_); clear hK K') | refine cdN rfl tI (fun hc => ?_) (fun hc => ?_) | refine blK ?_ | refine exW ?_ | refine skW ?_ | refine rtW ?_ | refine dK2 (by decide +kernel) (by kernel_rfl) (by decide +kernel) rfl (fun K' hK => ?_) | (refine aqN (hK _ ?_); clear hK K') | refine aqQ rfl rfl (fun hg => by first | exact std0 | exact PRun.neN flM rfl rfl nd rfl nd rfl | exact std1) (by exact rfl) ?_)
   · refine ⟨.inr rfl, Ent.b (Eq.symm (list_ne_at (k := k) ?_))⟩
     replace hc : (!eqM (a.getD ((k : Nat) : Int).toNat default) (b.getD ((k : Nat) : Int).toNat default)) = true := hc
     rw [eqM_eq, zA2] at hc
     simpa using hc
   · replace hc : (!eqM (a.getD ((k : Nat) : Int).toNat default) (b.getD ((k : Nat) : Int).toNat default)) = false := hc
     rw [eqM_eq, zA2] at hc
     exact ⟨k + 1, ⟨by omega, fun j hj => lt_succ_cases hall (by simpa using hc) hj⟩, by omega, ⟨rfl, rfl, rfl, tI⟩, rfl⟩
   · exfalso; omega
 · repeat' (first | refine aoQ rfl rfl rfl (fun hg => by first | exact std0 | exact std1) (by exact rfl) ?_ | refine sqW ?_ | refine rgK (fun K' hK => ?_) | (refine aoN (hK _ _ ?_); clear hK K') | refine cdN rfl tI (fun hc => ?_) (fun hc => ?_) | refine blK ?_ | refine exW ?_ | refine skW ?_ | refine rtW ?_ | refine dK2 (by decide +kernel) (by kernel_rfl) (by decide +kernel) rfl (fun K' hK => ?_) | refine aqQ rfl rfl (fun hg => by first | exact std0 | exact std1) (by exact rfl) ?_)
   all_goals (first | (exfalso; omega) | skip)
   exact ⟨.inr rfl, Ent.b (Eq.symm (list_eq_all hlen fun j hj => hall j (by omega)))⟩
set_option maxRecDepth 20000 in
theorem careMarks_spec (l : List Jo.Mark) (hl : l.length ≤ 9223372036854775807) (ht : TextsIn l) : PCall Tryz.prog 75 [.sl 10 (l.map encMk) .no] (.b (marksOk l)) := by
 refine PCall.body Tryz.func75 rfl rfl Tryz.ntmps75 rfl rfl ?_
 repeat' (first | refine aoQ rfl rfl rfl (fun hg => by first | exact std0 | exact std1) (by exact rfl) ?_ | refine sqW ?_ | refine rgK (fun K' hK => ?_) | (refine aoN (hK _ _ ?_); clear hK K') | refine aoE (EStep.makeMapW rfl rfl rfl rfl ?_) | refine blK ?_)
 refine lpD (ι := Nat) (fun k => [(0, .sl 10 (l.map encMk) .no), (3, .map 0), (7, .sl 10 (l.map encMk) .no), (8, .int l.length), (9, .int k)]) (fun k => [.map (Go.Ab.encM ekI AV.b (seenAL (·.id) (l.take k)))])
  (fun k => k ≤ l.length ∧ (∀ j, j < k → markOk (l.getD j default) = true) ∧ ((l.take k).map (·.id)).Nodup) (fun k => l.length - k) 1 (fun _ => rfl) 0 ⟨nZl _, fun j h => absurd h (by omega), by simp⟩ ⟨rfl, rfl, rfl, rfl, rfl, tI⟩ rfl (fun _ _ => rfl) (fun k _ => by simp [okObj, Go.Ab.encM, okRef]) ?_
 rintro k ⟨hk, hall, hnd⟩
 by_cases hlt : k < l.length
 · have hs := lk_seen (fun b : Jo.Mark => b.id) (l.take k) (l.getD k default).id
   have hv := Mk.mvalid_spec (l.getD k default) (ht.at hlt)
   repeat' (first | refine aoQ rfl rfl rfl (fun hg => by first | exact std0 | exact PRun.lookup (ek := ekI) (ev := AV.b) (zv := false) (keyLaw_int (LOk.of (tabOk.get rfl))) (LOk.of (tabOk.get rfl)) (LOk.of (tabOk.get rfl)) rfl rfl (Rd.w rfl nd) (Or.inr ⟨_, rfl, rfl⟩) (Rd.w rfl nd) rfl | exact pcW (hv) rfl rfl nd rfl nds | exact std1) (by exact rfl) ?_ | refine sqW ?_ | refine rgK (fun K' hK => ?_) | (refine aoN (hK _ _ ?_); clear hK K') | refine aoE (stW tabOk rfl rfl rfl tI rfl rfl tI rfl rfl rfl rfl rfl rfl rfl ?_) | refine aoE (alW tabOk rfl rfl rfl rfl rfl rfl ?_) | refine aoE (EStep.mapUpd (ek := ekI) (ev := AV.b) (v := true) (keyLaw_int (LOk.of (tabOk.get rfl))) (LOk.of (tabOk.get rfl)) rfl rfl rfl (Rd.w rfl tI) rfl (Rd.w rfl tI) rfl (Rd.w rfl tI) ?_) | refine cdN rfl tI (fun hc => ?_) (fun hc => ?_) | refine blK ?_ | refine exW ?_ | refine skW ?_ | refine rtW ?_)
   · refine ⟨.inr rfl, Ent.b (Eq.symm ?_)⟩
     rw [zA2] at hc
     rw [hs] at hc
     by_cases hm : (l.getD k default).id ∈ (l.take k).map (fun b => b.id)
     · exact marksOk_dup hlt hm
     · refine marksOk_bad hlt ?_
       rw [decide_eq_false hm] at hc
       simpa using hc
   · rw [zA2] at hc
     rw [hs] at hc
     simp only [zA5, zAe] at hc
     have hm : (l.getD k default).id ∉ (l.take k).map (fun b => b.id) := of_decide_eq_false hc.2
     refine ⟨k + 1, ⟨by omega, fun j hj => lt_succ_cases hall hc.1 hj, (nodup_succ _ l k hlt).2 ⟨hnd, hm⟩⟩, by omega, ⟨rfl, rfl, rfl, rfl, rfl, tI⟩, ?_⟩
     rw [← seen_succ _ l k hlt hm]; rfl
   · exfalso; omega
 · repeat' (first | refine aoQ rfl rfl rfl (fun hg => by first | exact std0 | exact std1) (by exact rfl) ?_ | refine sqW ?_ | refine rgK (fun K' hK => ?_) | (refine aoN (hK _ _ ?_); clear hK K') | refine aoE (stW tabOk rfl rfl rfl tI rfl rfl tI rfl rfl rfl rfl rfl rfl rfl ?_) | refine aoE (alW tabOk rfl rfl rfl rfl rfl rfl ?_) | refine cdN rfl tI (fun hc => ?_) (fun hc => ?_) | refine blK ?_ | refine exW ?_ | refine skW ?_ | refine rtW ?_)
   · exfalso; omega
   · refine ⟨.inr rfl, Ent.b ?_⟩
     have htk : l.take k = l := zAt (by omega)
     rw [htk] at hnd
     unfold marksOk
     rw [all_yes fun j hj => hall j (by omega), decide_eq_true hnd]
     rw [zB4]; simp; omega
end Go.Proofs.YtekfpcgagoidcaaGreatDoor.Mk
namespace Go.Proofs.YtekfpcgagoidcaaGreatDoor.Cy
open Go.Ab Go.Sort Al Mk
attribute [local irreducible] AWP AOps EStep AQ PStep PRun PCall TCall VCall
def placedL (f : Jo.Mark → Option Jo.Mark) (l : List Jo.Mark) : List Jo.Mark := l.filterMap f
def heldL (f : Jo.Mark → Option Jo.Mark) (l : List Jo.Mark) : List Jo.Mark := l.filter fun m => (f m).isNone
theorem placedL_yes {f : Jo.Mark → Option Jo.Mark} {l : List Jo.Mark} {k : Nat} (h : k < l.length) {m x : Jo.Mark} (hm : l.getD k default = m) (hx : f m = some x) : placedL f (l.take (k + 1)) = placedL f (l.take k) ++ [x] ∧ heldL f (l.take (k + 1)) = heldL f (l.take k) := by
 unfold placedL heldL
 rw [takeS h, hm, zD6, zC1]
 simp [hx]
theorem placedL_no {f : Jo.Mark → Option Jo.Mark} {l : List Jo.Mark} {k : Nat} (h : k < l.length) {m : Jo.Mark} (hm : l.getD k default = m) (hx : f m = none) : placedL f (l.take (k + 1)) = placedL f (l.take k) ∧ heldL f (l.take (k + 1)) = heldL f (l.take k) ++ [m] := by
 unfold placedL heldL
 rw [takeS h, hm, zD6, zC1]
 simp [hx]
theorem placedL_len (f : Jo.Mark → Option Jo.Mark) (l : List Jo.Mark) : (placedL f l).length ≤ l.length := List.length_filterMap_le _ _
theorem heldL_len (f : Jo.Mark → Option Jo.Mark) (l : List Jo.Mark) : (heldL f l).length ≤ l.length := zBf _ _
def AO (P H : List Jo.Mark) : Fin 4 → AObj
 | 0 => .var [.sl 10 (P.map encMk) (.own 2)]
 | 1 => .var [.sl 10 (H.map encMk) (.own 3)]
 | 2 => .own 10 (P.map encMk).length
 | 3 => .own 10 (H.map encMk).length
theorem AO_ok (P H : List Jo.Mark) : Pure4 (AO P H 0) (AO P H 1) (AO P H 2) (AO P H 3) := fun m hm => by
 refine ⟨?_, ?_, rfl, rfl⟩
 · show (decide (2 < m) && true) = true
   rw [decide_eq_true (by omega)]; rfl
 · show (decide (3 < m) && true) = true
   rw [decide_eq_true (by omega)]; rfl
def AS (P H : List Jo.Mark) (l : List Score) (to : Score) (al : List (Int × PL)) : Store := CarS (AO P H 0) (AO P H 1) (AO P H 2) (AO P H 3) l to al ++ [.var [.ptr 8 0]]
theorem AS_ok (P H : List Jo.Mark) (l : List Score) (to : Score) (al : List (Int × PL)) : (AS P H l to al).all (okObj 10) = true := by
 unfold AS; rw [zCi, carS_ok (AO_ok P H) (by decide)]; rfl
def putQ (f : Jo.Mark → Option Jo.Mark) (P H : List Jo.Mark) (l : List Score) (v0 : Int) (to : Score) (m : Jo.Mark) (r : AV) (s : Store) : Prop :=
 r = .int 0 ∧ ∃ al, MapsOk l v0 to al ∧ s = AS (match f m with | some x => P ++ [x] | none => P) (match f m with | some _ => H | none => H ++ [m]) l to al
set_option maxHeartbeats 16000000 in
set_option maxRecDepth 20000 in
theorem put_spec (P H : List Jo.Mark) (hP : P.length ≤ 1000000) (hH : H.length ≤ 1000000) (l : List Score) (hl : l.length ≤ 1000000) (hgd : ∀ s ∈ l, Good s) (v0 : Int) (to : Score) (hto : Good to) (al : List (Int × PL)) (hm : MapsOk l v0 to al) (m : Jo.Mark) :
 TCall Tryz.prog 76 [.agg (encMk m), .ptr 9 0, .ptr 0 0, .ptr 1 0] (AS P H l to al) (putQ (carryM l v0 to) P H l v0 to m) := by
 have hc1 := TCall.val (first := []) (caps := []) (avs := [.ptr 8 0, .agg (encMk m)]) (TCall.frame (carry_spec (AO_ok P H) l hl hgd v0 to hto al hm m) [.var [.ptr 8 0], .var (encMk m)] (carS_ok (AO_ok P H) (nLr _) l to al) rfl (fun rv s h => by obtain ⟨_, al', _, h⟩ := h; rw [h]; rfl))
 refine TCall.body Tryz.func76 rfl rfl Tryz.ntmps76 rfl rfl ?_
 repeat' (first | refine aoQ rfl rfl rfl (fun hg => by exact std0) (by exact rfl) ?_ | refine sqW ?_ | refine rgK (fun K' hK => ?_) | (refine aoN (hK _ _ ?_); clear hK K') | refine aoE (bxW rfl rfl rfl rfl rfl tI rfl rfl ?_) | refine aoE (scT (hc1) rfl rfl rfl rfl rfl nd rfl rfl nds ?_))
 rintro _ _ ⟨σ', rfl, rfl, al2, hm2, rfl⟩
 clear hc1
 cases hcm : carryM l v0 to m with
 | none =>
   repeat' (first | refine aoQ rfl rfl rfl (fun hg => by first | exact std0 | exact pbS tabOk rfl rfl nds) (by exact rfl) ?_ | refine sqW ?_ | refine rgK (fun K' hK => ?_) | (refine aoN (hK _ _ ?_); clear hK K') | refine aoE (stW tabOk rfl rfl rfl tI rfl rfl tI rfl rfl rfl rfl rfl rfl rfl ?_) | refine aoE (alW tabOk rfl rfl rfl rfl rfl rfl ?_) | refine aoE (apO tabOk rfl rfl rfl (by decide) (Rd.w rfl tI) rfl (Rd.w rfl tI) (.sl rfl (by first | (intro x hx; rcases zAn.1 hx with rfl; rfl) | exact one_encMk' _)) (LOk.of (tabOk.get rfl)) (LOk.of (tabOk.get rfl)) rfl rfl (by simp only [lLm, lLa, zA8, zAg, zAl, zAx]; omega) (by simp only [lLm, lLa, zA8, zAg, zAl, zAx]; omega) ?_) | refine cdN rfl tI (fun hc => ?_) (fun hc => ?_) | refine blK ?_ | refine rtW ?_)
   all_goals (first | exact dd | skip)
   refine ⟨.inr rfl, _, AS P (H ++ [m]) l to al2, ⟨rfl, al2, hm2, by rw [hcm]⟩, ?_, nLr _, AS_ok _ _ _ _ _, rfl, rfl⟩
   unfold AS AO; rw [zAs]; rfl
 | some x =>
   repeat' (first | refine aoQ rfl rfl rfl (fun hg => by first | exact std0 | exact pbS tabOk rfl rfl nds) (by exact rfl) ?_ | refine sqW ?_ | refine rgK (fun K' hK => ?_) | (refine aoN (hK _ _ ?_); clear hK K') | refine aoE (stW tabOk rfl rfl rfl tI rfl rfl tI rfl rfl rfl rfl rfl rfl rfl ?_) | refine aoE (alW tabOk rfl rfl rfl rfl rfl rfl ?_) | refine aoE (apO tabOk rfl rfl rfl (by decide) (Rd.w rfl tI) rfl (Rd.w rfl tI) (.sl rfl (by first | (intro x hx; rcases zAn.1 hx with rfl; rfl) | exact one_encMk' _)) (LOk.of (tabOk.get rfl)) (LOk.of (tabOk.get rfl)) rfl rfl (by simp only [lLm, lLa, zA8, zAg, zAl, zAx]; omega) (by simp only [lLm, lLa, zA8, zAg, zAl, zAx]; omega) ?_) | refine cdN rfl tI (fun hc => ?_) (fun hc => ?_) | refine blK ?_ | refine rtW ?_)
   all_goals (first | exact dd | skip)
   refine ⟨.inr rfl, _, AS (P ++ [x]) H l to al2, ⟨rfl, al2, hm2, by rw [hcm]⟩, ?_, nLr _, AS_ok _ _ _ _ _, rfl, rfl⟩
   unfold AS AO; rw [zAs]; rfl
def argsOk (l : List Score) (ms : List Jo.Mark) (v : Int) : Bool := numOk v && (marksOk ms && versOk l)
def allR (l : List Score) (ms : List Jo.Mark) (v : Int) : (List Jo.Mark × List Jo.Mark) × Int :=
 if argsOk l ms v = true then (if findV l v < 0 then (([], []), 32) else ((placedL (carryM l v (atS l (findV l v).toNat)) ms, heldL (carryM l v (atS l (findV l v).toNat)) ms), 0)) else (([], []), 1)
def tupA (r : (List Jo.Mark × List Jo.Mark) × Int) : AV := .tup [.sl 10 (r.1.1.map encMk) .no, .sl 10 (r.1.2.map encMk) .no, .int r.2]
theorem entA0 (e : Int) : Ent (.tup [.nils, .nils, .int e]) (tupA (([], []), e)) := Ent.tup rfl fun i u v hu hv => by
 match i, hu, hv with
 | 0, hu, hv => cases hu; cases hv; exact Ent.nil
 | 1, hu, hv => cases hu; cases hv; exact Ent.nil
 | 2, hu, hv => cases hu; cases hv; exact Ent.rfl' _
 | i + 3, hu, hv => cases hu
set_option maxHeartbeats 16000000 in
set_option maxRecDepth 20000 in
theorem All_spec (l : List Score) (hl : l.length ≤ 1000000) (hf : ∀ s ∈ l, few12 s = true) (ms : List Jo.Mark) (hms : ms.length ≤ 1000000) (ht : TextsIn ms) (v : Int) :
 PCall Tryz.prog 34 [.sl 4 (l.map encS) .no, .sl 10 (ms.map encMk) .no, .int v] (tupA (allR l ms v)) := by
 have hsm : ∀ s ∈ l, s.Small := fun s hs => few12_small (hf s hs)
 have v1 := isNumber_spec v
 have v2 := careMarks_spec ms (by omega) ht
 have v3 := areVersions_spec l (by omega) hsm
 have hv := TCall.val (first := []) (caps := []) (avs := [.sl 4 (l.map encS) .no, .int v]) (newCarrier_spec (AO_ok [] []) l hl hsm v)
 refine PCall.bodyS tabOk Tryz.func34 rfl rfl Tryz.ntmps34 rfl ?_
 repeat' (first | refine sqW ?_)
 refine rgK (fun K' hK => ?_)
 refine aoE (alW tabOk rfl rfl rfl rfl rfl rfl ?_)
 refine aoE (alW tabOk rfl rfl rfl rfl rfl rfl ?_)
 refine aoQ rfl rfl rfl (fun hg => std0) (by exact rfl) ?_
 refine aoN (hK _ _ ?_)
 clear hK K'
 show AWP _ _ _ _ _ [.var [.nils], .var [.nils]]
 refine AWP.ownNilV (v := 0) (i := 0) (sz := 10) rfl rfl ?_
 refine AWP.ownNilV (v := 1) (i := 0) (sz := 10) rfl rfl ?_
 show AWP _ _ _ _ _ [AO [] [] 0, AO [] [] 1, AO [] [] 2, AO [] [] 3]
 by_cases hok : argsOk l ms v = true
 · have hR : allR l ms v = if findV l v < 0 then (([], []), 32) else ((placedL (carryM l v (atS l (findV l v).toNat)) ms, heldL (carryM l v (atS l (findV l v).toNat)) ms), 0) := if_pos hok
   unfold argsOk at hok
   simp only [zA0] at hok
   obtain ⟨o1, o2, o3⟩ := hok
   have hgd := vers_good o3 hf
   rw [o1] at v1
   rw [o2] at v2
   rw [o3] at v3
   repeat' (first | refine aoQ rfl rfl rfl (fun hg => by first | exact std0 | exact pcW (v1) rfl rfl nd rfl nds | exact pcW (v2) rfl rfl nd rfl nds | exact pcW (v3) rfl rfl nd rfl nds) (by exact rfl) ?_ | refine sqW ?_ | refine rgK (fun K' hK => ?_) | (refine aoN (hK _ _ ?_); clear hK K') | refine aoE (stW tabOk rfl rfl rfl tI rfl rfl tI rfl rfl rfl rfl rfl rfl rfl ?_) | refine aoE (scT (hv) rfl rfl rfl rfl rfl nd rfl rfl nds ?_) | refine cdN rfl tI (fun hc => ?_) (fun hc => ?_) | refine skW ?_ | refine rtW ?_)
   all_goals (first | exact dd | skip)
   intro r s hr
   unfold ncR at hr
   clear hv
   split at hr
   · rename_i hneg
     obtain ⟨rfl, rfl⟩ := hr
     repeat' (first | refine aoQ rfl rfl rfl (fun hg => by first | exact std0 | exact std1) (by exact rfl) ?_ | refine sqW ?_ | refine rgK (fun K' hK => ?_) | (refine aoN (hK _ _ ?_); clear hK K') | refine aoE (stW tabOk rfl rfl rfl tI rfl rfl tI rfl rfl rfl rfl rfl rfl rfl ?_) | refine aoE (alW tabOk rfl rfl rfl rfl rfl rfl ?_) | refine cdN rfl tI (fun hc => ?_) (fun hc => ?_) | refine blK ?_ | refine skW ?_ | refine rtW ?_)
     all_goals (first | exact dd | skip)
     rw [hR, if_pos hneg]
     exact ⟨.inr rfl, _, rfl, entA0 32⟩
   · rename_i hneg
     obtain ⟨rfl, rfl⟩ := hr
     rw [if_neg hneg] at hR
     obtain ⟨k, hk, hlt, _⟩ := findV_lt hneg
     rw [hk, zA2] at hR ⊢
     have hto : Good (atS l k) := hgd _ (getD_mem hlt)
     have hm0 := MapsOk.first l v (atS l k)
     generalize atS l k = to at *
     repeat' (first | refine aoQ rfl rfl rfl (fun hg => by first | exact std0 | exact std1) (by exact rfl) ?_ | refine sqW ?_ | refine rgK (fun K' hK => ?_) | (refine aoN (hK _ _ ?_); clear hK K') | refine aoE (stW tabOk rfl rfl rfl tI rfl rfl tI rfl rfl rfl rfl rfl rfl rfl ?_) | refine aoE (alW tabOk rfl rfl rfl rfl rfl rfl ?_) | refine cdN rfl tI (fun hc => ?_) (fun hc => ?_) | refine blK ?_ | refine skW ?_ | refine rtW ?_)
     all_goals (first | exact dd | skip)
     refine lpD (ι := Nat × List (Int × PL)) (fun q => [(6, .ptr 0 0), (7, .ptr 1 0), (10, .fn (.func 76) [] [.ptr 9 0, .ptr 0 0, .ptr 1 0]), (37, .sl 10 (ms.map encMk) .no), (38, .int ms.length), (39, .int q.1)]) (fun q => AS (placedL (carryM l v to) (ms.take q.1)) (heldL (carryM l v to) (ms.take q.1)) l to q.2)
      (fun q => q.1 ≤ ms.length ∧ MapsOk l v to q.2) (fun q => ms.length - q.1) 10 (fun _ => rfl) (0, _) ⟨nZl _, hm0⟩ ⟨rfl, rfl, rfl, rfl, rfl, rfl, tI⟩ rfl (fun _ _ => rfl) (fun q _ => AS_ok _ _ _ _ _) ?_
     rintro ⟨k, al⟩ ⟨hk, hma⟩
     dsimp only at hk hma ⊢
     have lp := placedL_len (carryM l v to) (ms.take k)
     have lh := heldL_len (carryM l v to) (ms.take k)
     rw [zAl] at lp lh
     by_cases hlt : k < ms.length
     · obtain ⟨m, hm⟩ : ∃ m, ms.getD k default = m := ⟨_, rfl⟩
       have hy := fun x => placedL_yes (f := carryM l v to) (x := x) hlt hm
       have hn := placedL_no (f := carryM l v to) hlt hm
       have hp := TCall.val (first := []) (caps := [.ptr 9 0, .ptr 0 0, .ptr 1 0]) (avs := [.agg (encMk m)]) (TCall.frame (put_spec (placedL (carryM l v to) (ms.take k)) (heldL (carryM l v to) (ms.take k)) (by omega) (by omega) l hl hgd v to hto al hma m) [.var (encMk m)] (AS_ok _ _ _ _ _) rfl (fun rv s h => by obtain ⟨_, al', _, h⟩ := h; rw [h]; rfl))
       generalize placedL (carryM l v to) (ms.take k) = P at *
       generalize heldL (carryM l v to) (ms.take k) = H at *
       repeat' (first | refine aoQ rfl rfl rfl (fun hg => by first | exact iX encMk ms ((k : Nat) : Int) hm (hb := by omega) | exact std0) (by exact rfl) ?_ | refine sqW ?_ | refine rgK (fun K' hK => ?_) | (refine aoN (hK _ _ ?_); clear hK K') | refine aoE (stW tabOk rfl rfl rfl tI rfl rfl tI rfl rfl rfl rfl rfl rfl rfl ?_) | refine aoE (alW tabOk rfl rfl rfl rfl rfl rfl ?_) | refine aoE (scT (hp) rfl rfl rfl rfl rfl nd rfl rfl nds ?_) | refine cdN rfl tI (fun hc => ?_) (fun hc => ?_) | refine blK ?_ | refine exW ?_ | refine skW ?_)
       all_goals (first | exact dd | skip)
       rintro _ _ ⟨σ', rfl, rfl, al2, hm2, rfl⟩
       clear hp
       cases hcm : carryM l v to m with
       | none =>
         obtain ⟨h1, h2⟩ := hn hcm
         repeat' (first | refine aoQ rfl rfl rfl (fun hg => by exact std0) (by exact rfl) ?_ | refine sqW ?_ | refine rgK (fun K' hK => ?_) | (refine aoN (hK _ _ ?_); clear hK K') | refine aoE (stW tabOk rfl rfl rfl tI rfl rfl tI rfl rfl rfl rfl rfl rfl rfl ?_) | refine cdN rfl tI (fun hc => ?_) (fun hc => ?_) | refine skW ?_ | refine rtW ?_)
         all_goals (first | exact dd | skip)
         exact ⟨(k + 1, al2), ⟨hlt, hm2⟩, by show ms.length - (k + 1) < ms.length - k; omega, ⟨rfl, rfl, rfl, rfl, rfl, rfl, tI⟩, by show _ = AS (placedL (carryM l v to) (ms.take (k + 1))) (heldL (carryM l v to) (ms.take (k + 1))) l to al2; rw [h1, h2]; rfl⟩
       | some x =>
         obtain ⟨h1, h2⟩ := hy x hcm
         repeat' (first | refine aoQ rfl rfl rfl (fun hg => by exact std0) (by exact rfl) ?_ | refine sqW ?_ | refine rgK (fun K' hK => ?_) | (refine aoN (hK _ _ ?_); clear hK K') | refine aoE (stW tabOk rfl rfl rfl tI rfl rfl tI rfl rfl rfl rfl rfl rfl rfl ?_) | refine cdN rfl tI (fun hc => ?_) (fun hc => ?_) | refine skW ?_ | refine rtW ?_)
         all_goals (first | exact dd | skip)
         exact ⟨(k + 1, al2), ⟨hlt, hm2⟩, by show ms.length - (k + 1) < ms.length - k; omega, ⟨rfl, rfl, rfl, rfl, rfl, rfl, tI⟩, by show _ = AS (placedL (carryM l v to) (ms.take (k + 1))) (heldL (carryM l v to) (ms.take (k + 1))) l to al2; rw [h1, h2]; rfl⟩
     · obtain rfl : k = ms.length := by omega
       rw [zB9]
       generalize placedL (carryM l v to) ms = P at *
       generalize heldL (carryM l v to) ms = H at *
       repeat' (first | refine aoQ rfl rfl rfl (fun hg => by first | exact std0 | exact std1) (by exact rfl) ?_ | refine sqW ?_ | refine rgK (fun K' hK => ?_) | (refine aoN (hK _ _ ?_); clear hK K') | refine aoE (stW tabOk rfl rfl rfl tI rfl rfl tI rfl rfl rfl rfl rfl rfl rfl ?_) | refine aoE (alW tabOk rfl rfl rfl rfl rfl rfl ?_) | refine cdN rfl tI (fun hc => ?_) (fun hc => ?_) | refine blK ?_ | refine exW ?_ | refine skW ?_)
       all_goals (first | exact dd | skip)
       refine AWP.drawYM effOp (fun _ => AS P H l to al) rfl (by kernel_rfl) (by decide +kernel) rfl (by decide +kernel) (fun K' hK => ?_)
       repeat' (first
        | refine yqQ (a := 0) (b := 0) rfl (by decide +kernel) (by decide +kernel) rfl rfl rfl (fun k h1 h2 hg => by (have hk : k = 0 := (by omega)); (rcases hk with rfl) <;> (first | exact std0 | exact std1)) (by exact rfl) ?_
        | refine yqQ (a := 0) (b := 1) rfl (by decide +kernel) (by decide +kernel) rfl rfl rfl (fun k h1 h2 hg => by (have hk : k = 0 ∨ k = 1 := (by omega)); (rcases hk with rfl | rfl) <;> (first | exact std0 | exact std1)) (by exact rfl) ?_
        | refine yqQ (a := 1) (b := 1) rfl (by decide +kernel) (by decide +kernel) rfl rfl rfl (fun k h1 h2 hg => by (have hk : k = 1 := (by omega)); (rcases hk with rfl) <;> (first | exact std0 | exact std1)) (by exact rfl) ?_
        | refine yqQ (a := 0) (b := 2) rfl (by decide +kernel) (by decide +kernel) rfl rfl rfl (fun k h1 h2 hg => by (have hk : k = 0 ∨ k = 1 ∨ k = 2 := (by omega)); (rcases hk with rfl | rfl | rfl) <;> (first | exact std0 | exact std1)) (by exact rfl) ?_
        | refine yqQ (a := 1) (b := 2) rfl (by decide +kernel) (by decide +kernel) rfl rfl rfl (fun k h1 h2 hg => by (have hk : k = 1 ∨ k = 2 := (by omega)); (rcases hk with rfl | rfl) <;> (first | exact std0 | exact std1)) (by exact rfl) ?_
        | refine yqQ (a := 2) (b := 2) rfl (by decide +kernel) (by decide +kernel) rfl rfl rfl (fun k h1 h2 hg => by (have hk : k = 2 := (by omega)); (rcases hk with rfl) <;> (first | exact std0 | exact std1)) (by exact rfl) ?_)
       refine YQ.e (v := .any) (d := none) rfl rfl rfl ?_ ?_
       · intro env' he
         exact stW tabOk rfl rfl ((rdv_congr (he 6 (by decide +kernel))).trans rfl) (by rw [rdn_congr (he 6 (by decide +kernel))]; first | exact tI | exact rfl) rfl ((rdv_congr (he 50 (by decide +kernel))).trans rfl) (by rw [rdn_congr (he 50 (by decide +kernel))]; first | exact tI | exact rfl) rfl rfl rfl rfl rfl rfl rfl ⟨rfl, rfl⟩
       repeat' (first
        | refine yqQ (a := 0) (b := 0) rfl (by decide +kernel) (by decide +kernel) rfl rfl rfl (fun k h1 h2 hg => by (have hk : k = 0 := (by omega)); (rcases hk with rfl) <;> (first | exact std0 | exact std1)) (by exact rfl) ?_
        | refine yqQ (a := 0) (b := 1) rfl (by decide +kernel) (by decide +kernel) rfl rfl rfl (fun k h1 h2 hg => by (have hk : k = 0 ∨ k = 1 := (by omega)); (rcases hk with rfl | rfl) <;> (first | exact std0 | exact std1)) (by exact rfl) ?_
        | refine yqQ (a := 1) (b := 1) rfl (by decide +kernel) (by decide +kernel) rfl rfl rfl (fun k h1 h2 hg => by (have hk : k = 1 := (by omega)); (rcases hk with rfl) <;> (first | exact std0 | exact std1)) (by exact rfl) ?_
        | refine yqQ (a := 0) (b := 2) rfl (by decide +kernel) (by decide +kernel) rfl rfl rfl (fun k h1 h2 hg => by (have hk : k = 0 ∨ k = 1 ∨ k = 2 := (by omega)); (rcases hk with rfl | rfl | rfl) <;> (first | exact std0 | exact std1)) (by exact rfl) ?_
        | refine yqQ (a := 1) (b := 2) rfl (by decide +kernel) (by decide +kernel) rfl rfl rfl (fun k h1 h2 hg => by (have hk : k = 1 ∨ k = 2 := (by omega)); (rcases hk with rfl | rfl) <;> (first | exact std0 | exact std1)) (by exact rfl) ?_
        | refine yqQ (a := 2) (b := 2) rfl (by decide +kernel) (by decide +kernel) rfl rfl rfl (fun k h1 h2 hg => by (have hk : k = 2 := (by omega)); (rcases hk with rfl) <;> (first | exact std0 | exact std1)) (by exact rfl) ?_)
       refine YQ.e (v := .any) (d := none) rfl rfl rfl ?_ ?_
       · intro env' he
         exact stW tabOk rfl rfl ((rdv_congr (he 7 (by decide +kernel))).trans rfl) (by rw [rdn_congr (he 7 (by decide +kernel))]; first | exact tI | exact rfl) rfl ((rdv_congr (he 51 (by decide +kernel))).trans rfl) (by rw [rdn_congr (he 51 (by decide +kernel))]; first | exact tI | exact rfl) rfl rfl rfl rfl rfl rfl rfl ⟨rfl, rfl⟩
       repeat' (first
        | refine yqQ (a := 0) (b := 0) rfl (by decide +kernel) (by decide +kernel) rfl rfl rfl (fun k h1 h2 hg => by (have hk : k = 0 := (by omega)); (rcases hk with rfl) <;> (first | exact std0 | exact std1)) (by exact rfl) ?_
        | refine yqQ (a := 0) (b := 1) rfl (by decide +kernel) (by decide +kernel) rfl rfl rfl (fun k h1 h2 hg => by (have hk : k = 0 ∨ k = 1 := (by omega)); (rcases hk with rfl | rfl) <;> (first | exact std0 | exact std1)) (by exact rfl) ?_
        | refine yqQ (a := 1) (b := 1) rfl (by decide +kernel) (by decide +kernel) rfl rfl rfl (fun k h1 h2 hg => by (have hk : k = 1 := (by omega)); (rcases hk with rfl) <;> (first | exact std0 | exact std1)) (by exact rfl) ?_
        | refine yqQ (a := 0) (b := 2) rfl (by decide +kernel) (by decide +kernel) rfl rfl rfl (fun k h1 h2 hg => by (have hk : k = 0 ∨ k = 1 ∨ k = 2 := (by omega)); (rcases hk with rfl | rfl | rfl) <;> (first | exact std0 | exact std1)) (by exact rfl) ?_
        | refine yqQ (a := 1) (b := 2) rfl (by decide +kernel) (by decide +kernel) rfl rfl rfl (fun k h1 h2 hg => by (have hk : k = 1 ∨ k = 2 := (by omega)); (rcases hk with rfl | rfl) <;> (first | exact std0 | exact std1)) (by exact rfl) ?_
        | refine yqQ (a := 2) (b := 2) rfl (by decide +kernel) (by decide +kernel) rfl rfl rfl (fun k h1 h2 hg => by (have hk : k = 2 := (by omega)); (rcases hk with rfl) <;> (first | exact std0 | exact std1)) (by exact rfl) ?_)
       refine YQ.nil (hK _ _ ?_)
       clear hK K'
       show AWP _ _ _ _ _ (AS P H l to al)
       repeat' (first | refine rtW ?_)
       rw [hR]
       exact ⟨.inr rfl, _, rfl, Ent.of rfl⟩
 · have hR : allR l ms v = (([], []), 1) := if_neg hok
   have hno : (numOk v && (marksOk ms && versOk l)) = false := by
    cases h : (numOk v && (marksOk ms && versOk l)) with
    | false => rfl
    | true => exact absurd h hok
   clear hv hok
   generalize numOk v = s1 at *
   generalize marksOk ms = s2 at *
   generalize versOk l = s3 at *
   repeat' (first | refine aoQ rfl rfl rfl (fun hg => by first | exact std0 | exact pcW (v1) rfl rfl nd rfl nds | exact pcW (v2) rfl rfl nd rfl nds | exact pcW (v3) rfl rfl nd rfl nds) (by exact rfl) ?_ | refine sqW ?_ | refine rgK (fun K' hK => ?_) | (refine aoN (hK _ _ ?_); clear hK K') | refine aoE (stW tabOk rfl rfl rfl tI rfl rfl tI rfl rfl rfl rfl rfl rfl rfl ?_) | refine cdN rfl tI (fun hc => ?_) (fun hc => ?_) | refine skW ?_ | refine rtW ?_)
   all_goals (first | (rw [hR]; exact ⟨.inr rfl, _, rfl, entA0 1⟩) | (exfalso; cases s1 <;> cases s2 <;> cases s3 <;> simp at hc hno) | (rename_i h0; exfalso; cases s1 <;> cases s2 <;> cases s3 <;> simp at h0 hno))
end Go.Proofs.YtekfpcgagoidcaaGreatDoor.Cy
namespace Go.Proofs.YtekfpcgagoidcaaGreatDoor.Cy
open Go.Ab Go.Sort Al
attribute [local irreducible] AWP AOps EStep AQ PStep PRun PCall TCall VCall
set_option maxHeartbeats 8000000 in
set_option maxRecDepth 20000 in
theorem versions21_spec (l : List Score) (hl : l.length ≤ 9223372036854775807) (hsm : ∀ s ∈ l, s.Small) : PCall Tryz.prog 73 [.sl 4 (l.map encS) .no] (.b (versOk l)) := by
 refine PCall.body Tryz.func73 rfl rfl Tryz.ntmps73 rfl rfl ?_
 by_cases hr0 : 1 ≤ l.length ∧ l.length ≤ 100
 · have hrg : (decide ((l.length : Int) ≥ 1) && decide ((l.length : Int) ≤ 100)) = true := by simp; omega
   repeat' (first | refine aoQ rfl rfl rfl (fun hg => by first | exact std0 | exact std1) (by exact rfl) ?_ | refine sqW ?_ | refine rgK (fun K' hK => ?_) | (refine aoN (hK _ _ ?_); clear hK K') | refine cdN rfl tI (fun hc => ?_) (fun hc => ?_) | refine blK ?_ | refine skW ?_ | refine rtW ?_)
   all_goals (first | exact dd | skip)
   refine lpW (ι := Nat) (fun k => [(0, .sl 4 (l.map encS) .no), (3, .int k)]) (fun _ => []) (fun k => k ≤ l.length ∧ ∀ j, j < k → stepV l j = true) (fun k => l.length - k) 0 ⟨nZl _, fun j h => absurd h (by omega)⟩ ⟨rfl, rfl, tI⟩ rfl ?_
   rintro k ⟨hk, hall⟩
   by_cases hlt : k < l.length
   · obtain ⟨s, hs⟩ : ∃ s, l.getD k default = s := ⟨_, rfl⟩
     have hv := valid8_spec s (hsm s (by rw [← hs]; exact getD_mem hlt))
     have hst : stepV l k = (scoreOk s && (k == 0 || decide ((atS l (k - 1)).version < s.version))) := by unfold stepV atS; rw [hs]
     cases ho : scoreOk s with
     | false =>
       rw [ho] at hv hst
       repeat' (first | refine aoQ rfl rfl rfl (fun hg => by first | exact std0 | exact std1) (by exact rfl) ?_ | refine sqW ?_ | refine rgK (fun K' hK => ?_) | (refine aoN (hK _ _ ?_); clear hK K') | refine cdN rfl tI (fun hc => ?_) (fun hc => ?_) | refine blK ?_ | refine exW ?_ | refine skW ?_ | refine rtW ?_ | refine dK2 (by decide +kernel) (by kernel_rfl) (by decide +kernel) rfl (fun K' hK => ?_) | (refine aqN (hK _ ?_); clear hK K') | refine aqQ rfl rfl (fun hg => by first | exact iX encS l (((k) : Nat) : Int) hs (hb := by omega) | exact std0 | exact pcW (hv) rfl rfl nd rfl nds | exact (Bool.noConfusion (show false = true from hg) : PRun _ _ _ _ (.b false)) | fail) (by exact rfl) ?_)
       all_goals (first | exact dd | skip)
       exact ⟨.inr rfl, Ent.b (Eq.symm (vers_no hlt hst))⟩
     | true =>
       rw [ho] at hv hst
       cases k with
       | zero =>
         repeat' (first | refine aoQ rfl rfl rfl (fun hg => by first | exact std0 | exact std1) (by exact rfl) ?_ | refine sqW ?_ | refine rgK (fun K' hK => ?_) | (refine aoN (hK _ _ ?_); clear hK K') | refine cdN rfl tI (fun hc => ?_) (fun hc => ?_) | refine blK ?_ | refine exW ?_ | refine skW ?_ | refine rtW ?_ | refine dK2 (by decide +kernel) (by kernel_rfl) (by decide +kernel) rfl (fun K' hK => ?_) | (refine aqN (hK _ ?_); clear hK K') | refine aqQ rfl rfl (fun hg => by first | exact iX encS l (((0) : Nat) : Int) hs (hb := by omega) | exact std0 | exact pcW (hv) rfl rfl nd rfl nds | exact (Bool.noConfusion (show false = true from hg) : PRun _ _ _ _ (.b false)) | fail) (by exact rfl) ?_)
         all_goals (first | exact dd | skip)
         exact ⟨0 + 1, ⟨hlt, fun j hj => by obtain rfl : j = 0 := (by omega); exact hst⟩, by show l.length - (0 + 1) < l.length - 0; omega, ⟨rfl, rfl, tI⟩, rfl⟩
       | succ k =>
         obtain ⟨r, hr⟩ : ∃ r, l.getD k default = r := ⟨_, rfl⟩
         have hst2 : stepV l (k + 1) = decide (r.version < s.version) := by rw [hst, ← hr]; rfl
         by_cases hle : s.version ≤ r.version
         · repeat' (first | refine aoQ rfl rfl rfl (fun hg => by first | exact std0 | exact std1) (by exact rfl) ?_ | refine sqW ?_ | refine rgK (fun K' hK => ?_) | (refine aoN (hK _ _ ?_); clear hK K') | refine cdN rfl tI (fun hc => ?_) (fun hc => ?_) | refine blK ?_ | refine exW ?_ | refine skW ?_ | refine rtW ?_ | refine dK2 (by decide +kernel) (by kernel_rfl) (by decide +kernel) rfl (fun K' hK => ?_) | (refine aqN (hK _ ?_); clear hK K') | refine aqQ rfl rfl (fun hg => by first | exact PRun.eq (PRun.binW rfl rfl nd rfl nd rfl) (show AV.b (decide (s.version ≤ r.version)) = AV.b true from congrArg AV.b (decide_eq_true hle)) | exact PRun.eq (v := .int ((((k + 1 : Nat) : Int)) - 1)) (PRun.step tabOk rfl sd) (congrArg AV.int (show (((k + 1 : Nat) : Int) - 1) = ((k : Nat) : Int) by omega)) | exact iX encS l (((k) : Nat) : Int) hr (hb := by omega) | exact iX encS l (((k + 1) : Nat) : Int) hs (hb := by omega) | exact std0 | exact pcW (hv) rfl rfl nd rfl nds) (by exact rfl) ?_)
           all_goals (first | exact dd | skip)
           exact ⟨.inr rfl, Ent.b (Eq.symm (vers_no hlt (by rw [hst2]; exact decide_eq_false (by omega))))⟩
         · repeat' (first | refine aoQ rfl rfl rfl (fun hg => by first | exact std0 | exact std1) (by exact rfl) ?_ | refine sqW ?_ | refine rgK (fun K' hK => ?_) | (refine aoN (hK _ _ ?_); clear hK K') | refine cdN rfl tI (fun hc => ?_) (fun hc => ?_) | refine blK ?_ | refine exW ?_ | refine skW ?_ | refine rtW ?_ | refine dK2 (by decide +kernel) (by kernel_rfl) (by decide +kernel) rfl (fun K' hK => ?_) | (refine aqN (hK _ ?_); clear hK K') | refine aqQ rfl rfl (fun hg => by first | exact PRun.eq (PRun.binW rfl rfl nd rfl nd rfl) (show AV.b (decide (s.version ≤ r.version)) = AV.b false from congrArg AV.b (decide_eq_false hle)) | exact PRun.eq (v := .int ((((k + 1 : Nat) : Int)) - 1)) (PRun.step tabOk rfl sd) (congrArg AV.int (show (((k + 1 : Nat) : Int) - 1) = ((k : Nat) : Int) by omega)) | exact iX encS l (((k) : Nat) : Int) hr (hb := by omega) | exact iX encS l (((k + 1) : Nat) : Int) hs (hb := by omega) | exact std0 | exact pcW (hv) rfl rfl nd rfl nds) (by exact rfl) ?_)
           all_goals (first | exact dd | skip)
           exact ⟨k + 1 + 1, ⟨hlt, fun j hj => by
            rcases nLg j (k + 1) with g | g
            · exact hall j g
            · obtain rfl : j = k + 1 := (by omega)
              rw [hst2]; exact decide_eq_true (by omega)⟩, by show l.length - (k + 1 + 1) < l.length - (k + 1); omega, ⟨rfl, rfl, tI⟩, rfl⟩
   · obtain rfl : k = l.length := by omega
     repeat' (first | refine aoQ rfl rfl rfl (fun hg => by first | exact std0 | exact std1) (by exact rfl) ?_ | refine sqW ?_ | refine rgK (fun K' hK => ?_) | (refine aoN (hK _ _ ?_); clear hK K') | refine cdN rfl tI (fun hc => ?_) (fun hc => ?_) | refine blK ?_ | refine exW ?_ | refine skW ?_ | refine rtW ?_ | refine dK2 (by decide +kernel) (by kernel_rfl) (by decide +kernel) rfl (fun K' hK => ?_) | refine aqQ rfl rfl (fun hg => by first | exact std0 | exact std1) (by exact rfl) ?_)
     all_goals (first | exact dd | skip)
     exact ⟨.inr rfl, Ent.b (Eq.symm ((vers_yes hall).trans hrg))⟩
 · have e : versOk l = false := by
    unfold versOk
    rw [show (decide ((l.length : Int) ≥ 1) && decide ((l.length : Int) ≤ 100)) = false by simp; omega]; rfl
   rw [e]
   repeat' (first | refine aoQ rfl rfl rfl (fun hg => by first | exact std0 | exact std1) (by exact rfl) ?_ | refine sqW ?_ | refine rgK (fun K' hK => ?_) | (refine aoN (hK _ _ ?_); clear hK K') | refine cdN rfl tI (fun hc => ?_) (fun hc => ?_) | refine blK ?_ | refine skW ?_ | refine rtW ?_)
   · exact ⟨.inr rfl, Ent.b rfl⟩
   all_goals (exfalso; apply hr0; simp at hc; omega)
set_option maxHeartbeats 8000000 in
set_option maxRecDepth 20000 in
theorem find21_spec (l : List Score) (hl : l.length ≤ 9223372036854775807) (v : Int) : PCall Tryz.prog 39 [.sl 4 (l.map encS) .no, .int v] (.int (findV l v)) := by
 refine PCall.body Tryz.func39 rfl rfl Tryz.ntmps39 rfl rfl ?_
 repeat' (first | refine aoQ rfl rfl rfl (fun hg => by exact std0) (by exact rfl) ?_ | refine sqW ?_ | refine rgK (fun K' hK => ?_) | (refine aoN (hK _ _ ?_); clear hK K') | refine blK ?_)
 refine lpW (ι := Nat) (fun k => [(0, .sl 4 (l.map encS) .no), (1, .int v), (5, .int k)]) (fun _ => []) (fun k => k ≤ l.length ∧ ∀ j, j < k → ((l.getD j default).version == v) = false) (fun k => l.length - k) 0 ⟨nZl _, fun j h => absurd h (by omega)⟩ ⟨rfl, rfl, rfl, tI⟩ rfl ?_
 rintro k ⟨hk, hall⟩
 by_cases hlt : k < l.length
 · obtain ⟨s, hs⟩ : ∃ s, l.getD k default = s := ⟨_, rfl⟩
   repeat' (first | refine aoQ rfl rfl rfl (fun hg => by first | exact iX encS l (((k) : Nat) : Int) hs (hb := by omega) | exact std0 | exact std1) (by exact rfl) ?_ | refine sqW ?_ | refine rgK (fun K' hK => ?_) | (refine aoN (hK _ _ ?_); clear hK K') | refine cdN rfl tI (fun hc => ?_) (fun hc => ?_) | refine blK ?_ | refine exW ?_ | refine skW ?_ | refine rtW ?_)
   all_goals (first | exact dd | skip)
   · exact ⟨.inr rfl, Ent.int (Eq.symm (findI_at hlt (by rw [hs]; exact hc) hall))⟩
   · exact ⟨k + 1, ⟨hlt, fun j hj => lt_succ_cases hall (by rw [hs]; exact hc) hj⟩, by omega, ⟨rfl, rfl, rfl, tI⟩, rfl⟩
 · repeat' (first | refine aoQ rfl rfl rfl (fun hg => by first | exact std0 | exact std1) (by exact rfl) ?_ | refine sqW ?_ | refine rgK (fun K' hK => ?_) | (refine aoN (hK _ _ ?_); clear hK K') | refine cdN rfl tI (fun hc => ?_) (fun hc => ?_) | refine blK ?_ | refine exW ?_ | refine skW ?_ | refine rtW ?_)
   all_goals (first | exact dd | skip)
   exact ⟨.inr rfl, Ent.int (Eq.symm (findI_no fun j hj => hall j (by omega)))⟩
def fewL (l : List Score) (n : Nat) : Bool := (l.take 5).all few12 && (decide ((l.length : Int) ≤ 4) && decide ((n : Int) ≤ 12))
theorem fewL_iff {l : List Score} {n : Nat} (h : fewL l n = true) : (∀ s ∈ l, few12 s = true) ∧ l.length ≤ 4 ∧ n ≤ 12 := by
 unfold fewL at h
 simp only [zA0, dEt, zA7] at h
 refine ⟨fun s hs => h.1 s ?_, by omega, by omega⟩
 rw [zAt (by omega)]; exact hs
end Go.Proofs.YtekfpcgagoidcaaGreatDoor.Cy
