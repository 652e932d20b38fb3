/- Contracts by content: lists of marks: which are marks, the best one, whether two are the same; of the reference and of the program.  Contracts by content: score.asked, Bar, Part, Note.  Contracts by content: score.played, an iterator.  Contracts by content: score.Plays. No statement is proved here. -/
import Derived.Test.YtficfljjnbnhbaaGreatDoorP11
import Derived.Test.YtficfljjnbnhbaaGreatDoorP12
import Derived.Test.YtficfljjnbnhbaaGreatDoorP13
import Derived.Test.YtficfljjnbnhbaaGreatDoorP14
set_option linter.unusedVariables false
set_option linter.unusedSimpArgs false
namespace Go.Proofs.YtficfljjnbnhbaaGreatDoor.Mk
open Go.Ab Go.Jo
attribute [local irreducible] AWP AOps EStep AQ PStep PRun PCall TCall VCall DStep TDies AWD DCall
def marksOk (l : List Jo.Mark) : Bool := l.all markOk && decide ((l.map (·.id)).Nodup) && decide (l.length ≤ 20000)
def TextsIn (l : List Jo.Mark) : Prop := ∀ m ∈ l, m.text.length ≤ 9223372036854775807
theorem TextsIn.at {l : List Jo.Mark} (h : TextsIn l) {k : Nat} (hk : k < l.length) : (l.getD k default).text.length ≤ 9223372036854775807 := h _ (by rw [getD_lt hk]; exact lGm hk)
theorem marksOk_bad {l : List Jo.Mark} {k : Nat} (hk : k < l.length) (h : markOk (l.getD k default) = false) : marksOk l = false := by
 unfold marksOk; rw [all_no hk h]; rfl
theorem marksOk_dup {l : List Jo.Mark} {k : Nat} (hk : k < l.length) (h : (l.getD k default).id ∈ (l.take k).map (·.id)) : marksOk l = false := by
 unfold marksOk; rw [decide_eq_false (not_nodup (fun b : Jo.Mark => b.id) l k hk h)]; simp
set_option maxRecDepth 20000 in
theorem areMarks_spec (l : List Jo.Mark) (hl : l.length ≤ 9223372036854775807) (ht : TextsIn l) : PCall Tryz.prog 61 [.sl 10 (l.map encMk) .no] (.b (marksOk l)) := by
 refine PCall.body Tryz.func61 rfl rfl Tryz.ntmps61 rfl rfl ?_
 repeat' (first | refine aoQ rfl rfl rfl (fun hg => by first | exact std0 | exact std1) (by exact rfl) ?_ | refine sqW ?_ | refine rgK (fun K' hK => ?_) | (refine aoN (hK _ _ ?_); clear hK K') | refine aoE (bxW rfl rfl rfl rfl rfl tI rfl rfl ?_) | refine aoE (stW tabOk rfl rfl rfl tI rfl rfl tI rfl rfl rfl rfl rfl rfl rfl ?_) | refine aoE (alW tabOk rfl rfl rfl rfl rfl rfl ?_) | refine aoE (EStep.makeMapW rfl rfl rfl rfl ?_) | refine cdN rfl tI (fun hc => ?_) (fun hc => ?_) | refine blK ?_ | refine exW ?_ | refine skW ?_ | refine rtW ?_ | refine dK2 (by decide +kernel) (by kernel_rfl) (by decide +kernel) rfl (fun K' hK => ?_) | refine dL2 (by kernel_rfl) (by decide +kernel) rfl (fun K' hK => ?_) | (refine aqN (hK _ ?_); clear hK K') | refine aqN ?_ | refine aqQ rfl rfl (fun hg => by first | exact std0 | exact std1) (by exact rfl) ?_)
 refine lpD (ι := Nat) (fun k => [(0, .sl 10 (l.map encMk) .no), (3, .map 0), (7, .sl 10 (l.map encMk) .no), (8, .int l.length), (9, .int k)]) (fun k => [.map (Go.Ab.encM ekI AV.b (seenAL (·.id) (l.take k)))])
  (fun k => k ≤ l.length ∧ (∀ j, j < k → markOk (l.getD j default) = true) ∧ ((l.take k).map (·.id)).Nodup) (fun k => l.length - k) 1 (fun _ => rfl) 0 ⟨nZl _, fun j h => absurd h (by omega), by simp⟩ ⟨rfl, rfl, rfl, rfl, rfl, tI⟩ rfl (fun _ _ => rfl) (fun k _ => by simp [okObj, Go.Ab.encM, okRef]) ?_
 rintro k ⟨hk, hall, hnd⟩
 by_cases hlt : k < l.length
 · have hs := lk_seen (fun b : Jo.Mark => b.id) (l.take k) (l.getD k default).id
   have hv := mvalid_spec (l.getD k default) (ht.at hlt)
   repeat' (first | refine aoQ rfl rfl rfl (fun hg => by first | exact std0 | exact PRun.lookup (ek := ekI) (ev := AV.b) (zv := false) (keyLaw_int (LOk.of (tabOk.get rfl))) (LOk.of (tabOk.get rfl)) (LOk.of (tabOk.get rfl)) rfl rfl (Rd.w rfl nd) (Or.inr ⟨_, rfl, rfl⟩) (Rd.w rfl nd) rfl | exact pcW (hv) rfl rfl nd rfl nds | exact std1) (by exact rfl) ?_ | refine sqW ?_ | refine rgK (fun K' hK => ?_) | (refine aoN (hK _ _ ?_); clear hK K') | refine aoE (bxW rfl rfl rfl rfl rfl tI rfl rfl ?_) | refine aoE (stW tabOk rfl rfl rfl tI rfl rfl tI rfl rfl rfl rfl rfl rfl rfl ?_) | refine aoE (alW tabOk rfl rfl rfl rfl rfl rfl ?_) | refine aoE (EStep.mapUpd (ek := ekI) (ev := AV.b) (v := true) (keyLaw_int (LOk.of (tabOk.get rfl))) (LOk.of (tabOk.get rfl)) rfl rfl rfl (Rd.w rfl tI) rfl (Rd.w rfl tI) rfl (Rd.w rfl tI) ?_) | refine cdN rfl tI (fun hc => ?_) (fun hc => ?_) | refine blK ?_ | refine exW ?_ | refine skW ?_ | refine rtW ?_ | refine dK2 (by decide +kernel) (by kernel_rfl) (by decide +kernel) rfl (fun K' hK => ?_) | refine dL2 (by kernel_rfl) (by decide +kernel) rfl (fun K' hK => ?_) | (refine aqN (hK _ ?_); clear hK K') | refine aqN ?_ | refine aqQ rfl rfl (fun hg => by first | exact std0 | exact PRun.lookup (ek := ekI) (ev := AV.b) (zv := false) (keyLaw_int (LOk.of (tabOk.get rfl))) (LOk.of (tabOk.get rfl)) (LOk.of (tabOk.get rfl)) rfl rfl (Rd.w rfl nd) (Or.inr ⟨_, rfl, rfl⟩) (Rd.w rfl nd) rfl | exact pcW (hv) rfl rfl nd rfl nds | exact std1) (by exact rfl) ?_)
   · refine ⟨.inr rfl, Ent.b (Eq.symm ?_)⟩
     rw [zAj] at hc
     rw [hs] at hc
     by_cases hm : (l.getD k default).id ∈ (l.take k).map (fun b => b.id)
     · exact marksOk_dup hlt hm
     · refine marksOk_bad hlt ?_
       rw [decide_eq_false hm] at hc
       simpa using hc
   · rw [zAj] at hc
     rw [hs] at hc
     simp only [zAh, zAp] at hc
     have hm : (l.getD k default).id ∉ (l.take k).map (fun b => b.id) := of_decide_eq_false hc.1
     refine ⟨k + 1, ⟨by omega, fun j hj => lt_succ_cases hall hc.2 hj, (nodup_succ _ l k hlt).2 ⟨hnd, hm⟩⟩, by omega, ⟨rfl, rfl, rfl, rfl, rfl, tI⟩, ?_⟩
     rw [← seen_succ _ l k hlt hm]; rfl
   · exfalso; omega
 · repeat' (first | refine aoQ rfl rfl rfl (fun hg => by first | exact std0 | exact std1) (by exact rfl) ?_ | refine sqW ?_ | refine rgK (fun K' hK => ?_) | (refine aoN (hK _ _ ?_); clear hK K') | refine aoE (bxW rfl rfl rfl rfl rfl tI rfl rfl ?_) | refine aoE (stW tabOk rfl rfl rfl tI rfl rfl tI rfl rfl rfl rfl rfl rfl rfl ?_) | refine aoE (alW tabOk rfl rfl rfl rfl rfl rfl ?_) | refine cdN rfl tI (fun hc => ?_) (fun hc => ?_) | refine blK ?_ | refine exW ?_ | refine skW ?_ | refine rtW ?_ | refine dK2 (by decide +kernel) (by kernel_rfl) (by decide +kernel) rfl (fun K' hK => ?_) | refine dL2 (by kernel_rfl) (by decide +kernel) rfl (fun K' hK => ?_) | (refine aqN (hK _ ?_); clear hK K') | refine aqN ?_ | refine aqQ rfl rfl (fun hg => by first | exact std0 | exact std1) (by exact rfl) ?_)
   · exfalso; omega
   · refine ⟨.inr rfl, Ent.b ?_⟩
     have htk : l.take k = l := zAu (by omega)
     rw [htk] at hnd
     unfold marksOk
     rw [all_yes fun j hj => hall j (by omega), decide_eq_true hnd]
     rw [zAs]; simp; omega
theorem marks19_spec (l : List Jo.Mark) (hl : l.length ≤ 9223372036854775807) (ht : TextsIn l) : PCall Tryz.prog 88 [.sl 10 (l.map encMk) .no] (.b (marksOk l)) := by
 refine PCall.body Tryz.func88 rfl rfl Tryz.ntmps88 rfl rfl ?_
 repeat' (first | refine aoQ rfl rfl rfl (fun hg => by first | exact std0 | exact std1) (by exact rfl) ?_ | refine sqW ?_ | refine rgK (fun K' hK => ?_) | (refine aoN (hK _ _ ?_); clear hK K') | refine cdN rfl tI (fun hc => ?_) (fun hc => ?_) | refine blK ?_ | refine skW ?_ | refine rtW ?_)
 · refine ⟨.inr rfl, Ent.b (Eq.symm ?_)⟩
   unfold marksOk
   rw [decide_eq_false (show ¬ l.length ≤ 20000 by omega)]; simp
 have hn : l.length ≤ 20000 := by omega
 clear hc
 refine lpW (ι := Nat) (fun k => [(0, .sl 10 (l.map encMk) .no), (3, .int k)]) (fun _ => []) (fun k => k ≤ l.length ∧ (∀ j, j < k → markOk (l.getD j default) = true) ∧ ((l.take k).map (·.id)).Nodup) (fun k => l.length - k) 0 ⟨nZl _, fun j h => absurd h (by omega), by simp⟩ ⟨rfl, rfl, tI⟩ rfl ?_
 rintro k ⟨hk, hall, hnd⟩
 by_cases hlt : k < l.length
 · have hv := valid19_spec (l.getD k default) (ht.at hlt)
   repeat' (first | refine aoQ rfl rfl rfl (fun hg => by first | exact std0 | exact pcW (hv) rfl rfl nd rfl nds | exact std1) (by exact rfl) ?_ | refine sqW ?_ | refine rgK (fun K' hK => ?_) | (refine aoN (hK _ _ ?_); clear hK K') | refine cdN rfl tI (fun hc => ?_) (fun hc => ?_) | refine blK ?_ | refine exW ?_ | refine skW ?_ | refine rtW ?_)
   · exact ⟨.inr rfl, Ent.b (Eq.symm (marksOk_bad hlt (by simpa using hc)))⟩
   · have hbo : markOk (l.getD k default) = true := by simpa using hc
     clear hc hv
     refine lpW (ι := Nat) (fun j => [(0, .sl 10 (l.map encMk) .no), (3, .int k), (5, .int j)]) (fun _ => []) (fun j => j ≤ k ∧ ∀ i, i < j → (l.getD i default).id ≠ (l.getD k default).id) (fun j => k - j) 0 ⟨nZl _, fun j h => absurd h (by omega)⟩ ⟨rfl, rfl, rfl, tI⟩ rfl ?_
     rintro j ⟨hj, hne⟩
     by_cases hjk : j < k
     · repeat' (first | refine aoQ rfl rfl rfl (fun hg => by exact std0) (by exact rfl) ?_ | refine sqW ?_ | refine rgK (fun K' hK => ?_) | (refine aoN (hK _ _ ?_); clear hK K') | refine cdN rfl tI (fun hc => ?_) (fun hc => ?_) | refine blK ?_ | refine exW ?_ | refine skW ?_ | refine rtW ?_ | refine dK2 (by decide +kernel) (by kernel_rfl) (by decide +kernel) rfl (fun K' hK => ?_) | (refine aqN (hK _ ?_); clear hK K') | refine aqQ rfl rfl (fun hg => by first | exact std0 | exact std1) (by exact rfl) ?_)
       · refine ⟨.inr rfl, Ent.b (Eq.symm (marksOk_dup hlt ((mem_take (fun b : Jo.Mark => b.id) hk).2 ⟨j, hjk, ?_⟩)))⟩
         simpa using hc
       · exact ⟨j + 1, ⟨by omega, fun i hi => lt_succ_cases hne (by simpa using hc) hi⟩, by omega, ⟨rfl, rfl, rfl, tI⟩, rfl⟩
       · exfalso; omega
     · repeat' (first | refine aoQ rfl rfl rfl (fun hg => by exact std0) (by exact rfl) ?_ | refine sqW ?_ | refine rgK (fun K' hK => ?_) | (refine aoN (hK _ _ ?_); clear hK K') | refine cdN rfl tI (fun hc => ?_) (fun hc => ?_) | refine blK ?_ | refine exW ?_ | refine skW ?_ | refine rtW ?_ | refine dK2 (by decide +kernel) (by kernel_rfl) (by decide +kernel) rfl (fun K' hK => ?_) | (refine aqN (hK _ ?_); clear hK K') | refine aqQ rfl rfl (fun hg => by first | exact std0 | exact std1) (by exact rfl) ?_)
       all_goals (first | (exfalso; omega) | skip)
       · refine ⟨k + 1, ⟨by omega, fun i hi => lt_succ_cases hall hbo hi, (nodup_succ _ l k hlt).2 ⟨hnd, fun hm => ?_⟩⟩, by omega, ⟨rfl, rfl, tI⟩, rfl⟩
         obtain ⟨i, hi, e⟩ := (mem_take (fun b : Jo.Mark => b.id) hk).1 hm
         exact hne i (by omega) e
   · exfalso; omega
 · repeat' (first | refine aoQ rfl rfl rfl (fun hg => by first | exact std0 | exact std1) (by exact rfl) ?_ | refine sqW ?_ | refine rgK (fun K' hK => ?_) | (refine aoN (hK _ _ ?_); clear hK K') | refine cdN rfl tI (fun hc => ?_) (fun hc => ?_) | refine blK ?_ | refine exW ?_ | refine skW ?_ | refine rtW ?_)
   · exfalso; omega
   · refine ⟨.inr rfl, Ent.b ?_⟩
     have htk : l.take k = l := zAu (by omega)
     rw [htk] at hnd
     unfold marksOk
     rw [all_yes fun j hj => hall j (by omega), decide_eq_true hnd, decide_eq_true hn]; rfl
theorem same19_spec (a b : List Jo.Mark) (ha : a.length ≤ 9223372036854775807) (hb : b.length ≤ 9223372036854775807) : PCall Tryz.prog 20 [.sl 10 (a.map encMk) .no, .sl 10 (b.map encMk) .no] (.b (a == b)) := by
 refine PCall.body Tryz.func20 rfl rfl Tryz.ntmps20 rfl rfl ?_
 repeat' (first | refine aoQ rfl rfl rfl (fun hg => by first | exact std0 | exact std1) (by exact rfl) ?_ | refine sqW ?_ | refine rgK (fun K' hK => ?_) | (refine aoN (hK _ _ ?_); clear hK K') | refine cdN rfl tI (fun hc => ?_) (fun hc => ?_) | refine blK ?_ | refine skW ?_ | refine rtW ?_)
 · refine ⟨.inr rfl, Ent.b (Eq.symm ?_)⟩
   rw [beq_eq_false_iff_ne]
   intro h; subst h; simp at hc
 have hlen : a.length = b.length := by have h9 := hc; simp at h9; omega
 clear hc
 refine lpW (ι := Nat) (fun k => [(0, .sl 10 (a.map encMk) .no), (1, .sl 10 (b.map encMk) .no), (5, .int k)]) (fun _ => []) (fun k => k ≤ a.length ∧ ∀ j, j < k → a.getD j default = b.getD j default) (fun k => a.length - k) 0 ⟨nZl _, fun j h => absurd h (by omega)⟩ ⟨rfl, rfl, rfl, tI⟩ rfl ?_
 rintro k ⟨hk, hall⟩
 by_cases hlt : k < a.length
 · repeat' (first | refine aoQ rfl rfl rfl (fun hg => by first | exact std0 | exact std1) (by exact rfl) ?_ | refine sqW ?_ | refine rgK (fun K' hK => ?_) | (refine aoN (hK _ _ ?_); clear hK K') | refine cdN rfl tI (fun hc => ?_) (fun hc => ?_) | refine blK ?_ | refine exW ?_ | refine skW ?_ | refine rtW ?_ | refine dK2 (by decide +kernel) (by kernel_rfl) (by decide +kernel) rfl (fun K' hK => ?_) | (refine aqN (hK _ ?_); clear hK K') | refine aqQ rfl rfl (fun hg => by first | exact std0 | exact PRun.neN flM rfl rfl nd rfl nd rfl | exact std1) (by exact rfl) ?_)
   · refine ⟨.inr rfl, Ent.b (Eq.symm (list_ne_at (k := k) ?_))⟩
     replace hc : (!eqM (a.getD ((k : Nat) : Int).toNat default) (b.getD ((k : Nat) : Int).toNat default)) = true := hc
     rw [eqM_eq, zAj] at hc
     simpa using hc
   · replace hc : (!eqM (a.getD ((k : Nat) : Int).toNat default) (b.getD ((k : Nat) : Int).toNat default)) = false := hc
     rw [eqM_eq, zAj] at hc
     exact ⟨k + 1, ⟨by omega, fun j hj => lt_succ_cases hall (by simpa using hc) hj⟩, by omega, ⟨rfl, rfl, rfl, tI⟩, rfl⟩
   · exfalso; omega
 · repeat' (first | refine aoQ rfl rfl rfl (fun hg => by first | exact std0 | exact std1) (by exact rfl) ?_ | refine sqW ?_ | refine rgK (fun K' hK => ?_) | (refine aoN (hK _ _ ?_); clear hK K') | refine cdN rfl tI (fun hc => ?_) (fun hc => ?_) | refine blK ?_ | refine exW ?_ | refine skW ?_ | refine rtW ?_ | refine dK2 (by decide +kernel) (by kernel_rfl) (by decide +kernel) rfl (fun K' hK => ?_) | refine aqQ rfl rfl (fun hg => by first | exact std0 | exact std1) (by exact rfl) ?_)
   all_goals (first | (exfalso; omega) | skip)
   exact ⟨.inr rfl, Ent.b (Eq.symm (list_eq_all hlen fun j hj => hall j (by omega)))⟩
def okFor (v note kind sec : Int) (r : Rdr) (m : Jo.Mark) : Bool := !(((m.version != v || m.note != note) || m.kind != kind) || !forM m sec r)
def bestN (q : Jo.Mark → Bool) (l : List Jo.Mark) : Nat → Int
 | 0 => -1
 | k + 1 => if q (l.getD k default) && (decide (bestN q l k < 0) || cnt (l.getD k default) (l.getD (bestN q l k).toNat default)) then (k : Int) else bestN q l k
def better (b : Option Jo.Mark) (m : Jo.Mark) : Option Jo.Mark := match b with
 | none => some m
 | some w => if cnt m w then some m else some w
def bestM (q : Jo.Mark → Bool) (l : List Jo.Mark) : Option Jo.Mark := l.foldl (fun b m => if q m then better b m else b) none
theorem bestN_in (q : Jo.Mark → Bool) (l : List Jo.Mark) : ∀ k, -1 ≤ bestN q l k ∧ bestN q l k < k
 | 0 => by simp [bestN]
 | k + 1 => by
   have := bestN_in q l k
   unfold bestN
   split <;> omega
theorem bestM_snoc (q : Jo.Mark → Bool) (l : List Jo.Mark) (m : Jo.Mark) : bestM q (l ++ [m]) = if q m then better (bestM q l) m else bestM q l := by
 unfold bestM; rw [zC7]; rfl
theorem bestM_take (q : Jo.Mark → Bool) (l : List Jo.Mark) : ∀ k, k ≤ l.length → bestM q (l.take k) = if bestN q l k < 0 then none else some (l.getD (bestN q l k).toNat default)
 | 0, _ => rfl
 | k + 1, hk => by
   have ih := bestM_take q l k (by omega)
   have hin := bestN_in q l k
   have hst : bestN q l (k + 1) = if q (l.getD k default) && (decide (bestN q l k < 0) || cnt (l.getD k default) (l.getD (bestN q l k).toNat default)) then (k : Int) else bestN q l k := rfl
   rw [take_snoc (show k < l.length by omega), bestM_snoc, ih]
   rw [hst]
   generalize bestN q l k = b at *
   by_cases hq : q (l.getD k default) = true
   · rw [hq, if_pos rfl, zBl]
     by_cases hb : b < 0
     · rw [if_pos hb, decide_eq_true hb, Bool.true_or, if_pos rfl, if_neg (by omega)]
       simp [better]
     · rw [if_neg hb, decide_eq_false hb, zDn]
       simp only [better]
       by_cases hcn : cnt (l.getD k default) (l.getD b.toNat default) = true
       · rw [if_pos hcn, if_pos hcn, if_neg (by omega)]; simp
       · rw [if_neg hcn, if_neg hcn, if_neg hb]
   · rw [if_neg hq, show q (l.getD k default) = false by simpa using hq, Bool.false_and]
     rfl
theorem bestM_N (q : Jo.Mark → Bool) (l : List Jo.Mark) : bestM q l = if bestN q l l.length < 0 then none else some (l.getD (bestN q l l.length).toNat default) := by
 have := bestM_take q l l.length (nLr _)
 rwa [zAr] at this
set_option maxRecDepth 20000 in
theorem best19_spec (l : List Jo.Mark) (hl : l.length ≤ 1000000000) (v note kind sec : Int) (r : Rdr) :
 PCall Tryz.prog 89 [.sl 10 (l.map encMk) .no, .int v, .int note, .int kind, .int sec, .agg (encRd r)] (.int (bestN (okFor v note kind sec r) l l.length)) := by
 refine PCall.body Tryz.func89 rfl rfl Tryz.ntmps89 rfl rfl ?_
 repeat' (first | refine aoQ rfl rfl rfl (fun hg => by first | exact std0 | exact std1) (by exact rfl) ?_ | refine sqW ?_ | refine rgK (fun K' hK => ?_) | (refine aoN (hK _ _ ?_); clear hK K') | refine aoE (bxW rfl rfl rfl rfl rfl tI rfl rfl ?_) | refine aoE (stW tabOk rfl rfl rfl tI rfl rfl tI rfl rfl rfl rfl rfl rfl rfl ?_) | refine aoE (alW tabOk rfl rfl rfl rfl rfl rfl ?_) | refine cdN rfl tI (fun hc => ?_) (fun hc => ?_) | refine blK ?_ | refine exW ?_ | refine skW ?_ | refine rtW ?_ | refine dK2 (by decide +kernel) (by kernel_rfl) (by decide +kernel) rfl (fun K' hK => ?_) | refine dL2 (by kernel_rfl) (by decide +kernel) rfl (fun K' hK => ?_) | (refine aqN (hK _ ?_); clear hK K') | refine aqN ?_ | refine aqQ rfl rfl (fun hg => by first | exact std0 | exact std1) (by exact rfl) ?_)
 refine lpD (ι := Nat) (fun k => [(0, .sl 10 (l.map encMk) .no), (1, .int v), (2, .int note), (3, .int kind), (4, .int sec), (11, .ptr 0 0), (13, .int (bestN (okFor v note kind sec r) l k)), (14, .int k)]) (fun _ => [.var (encRd r)])
  (fun k => k ≤ l.length) (fun k => l.length - k) 1 (fun _ => rfl) 0 (nZl _) ⟨rfl, rfl, rfl, rfl, rfl, rfl, rfl, rfl, tI⟩ rfl (fun _ _ => rfl) (fun _ _ => rfl) ?_
 intro k hk
 by_cases hlt : k < l.length
 · have hb := bestN_in (okFor v note kind sec r) l k
   have hv := for19_spec (l.getD k default) sec r
   have hcn := counts19_spec (l.getD k default) (l.getD (bestN (okFor v note kind sec r) l k).toNat default)
   have hst : bestN (okFor v note kind sec r) l (k + 1) = if okFor v note kind sec r (l.getD k default) && (decide (bestN (okFor v note kind sec r) l k < 0) || cnt (l.getD k default) (l.getD (bestN (okFor v note kind sec r) l k).toNat default)) then (k : Int) else bestN (okFor v note kind sec r) l k := rfl
   generalize bestN (okFor v note kind sec r) l k = b at *
   repeat' (first | refine aoQ rfl rfl rfl (fun hg => by first | exact piW tabOk rfl rfl nd rfl nd rfl rfl (by have h9 := hg; simp at h9; omega) | exact std0 | exact pcW (hv) rfl rfl nd rfl nds | exact pcW (hcn) rfl rfl nd rfl nds | exact std1) (by exact rfl) ?_ | refine sqW ?_ | refine rgK (fun K' hK => ?_) | (refine aoN (hK _ _ ?_); clear hK K') | refine aoE (bxW rfl rfl rfl rfl rfl tI rfl rfl ?_) | refine aoE (stW tabOk rfl rfl rfl tI rfl rfl tI rfl rfl rfl rfl rfl rfl rfl ?_) | refine aoE (alW tabOk rfl rfl rfl rfl rfl rfl ?_) | refine cdN rfl tI (fun hc => ?_) (fun hc => ?_) | refine blK ?_ | refine exW ?_ | refine skW ?_ | refine rtW ?_ | refine dK2 (by decide +kernel) (by kernel_rfl) (by decide +kernel) rfl (fun K' hK => ?_) | refine dL2 (by kernel_rfl) (by decide +kernel) rfl (fun K' hK => ?_) | (refine aqN (hK _ ?_); clear hK K') | refine aqN ?_ | refine aqQ rfl rfl (fun hg => by first | exact piW tabOk rfl rfl nd rfl nd rfl rfl (by have h9 := hg; simp at h9; omega) | exact std0 | exact pcW (hv) rfl rfl nd rfl nds | exact pcW (hcn) rfl rfl nd rfl nds | exact std1) (by exact rfl) ?_)
   all_goals (first | (exfalso; omega) | skip)
   · have hq : okFor v note kind sec r (l.getD k default) = false := by
      rw [zAj] at hc
      unfold okFor; rw [hc]; rfl
     rw [hq, Bool.false_and] at hst
     refine ⟨k + 1, by omega, by omega, ⟨rfl, rfl, rfl, rfl, rfl, rfl, ?_, rfl, tI⟩, rfl⟩
     rw [hst]; rfl
   · rename_i h1
     have hq : okFor v note kind sec r (l.getD k default) = true := by
      rw [zAj] at h1
      unfold okFor; rw [h1]; rfl
     rw [hq, zBl, hc] at hst
     refine ⟨k + 1, by omega, by omega, ⟨rfl, rfl, rfl, rfl, rfl, rfl, ?_, rfl, tI⟩, rfl⟩
     rw [hst]; rfl
   · rename_i h1
     have hq : okFor v note kind sec r (l.getD k default) = true := by
      rw [zAj] at h1
      unfold okFor; rw [h1]; rfl
     rw [hq, zBl, hc] at hst
     refine ⟨k + 1, by omega, by omega, ⟨rfl, rfl, rfl, rfl, rfl, rfl, ?_, rfl, tI⟩, rfl⟩
     rw [hst]; rfl
 · repeat' (first | refine aoQ rfl rfl rfl (fun hg => by first | exact std0 | exact std1) (by exact rfl) ?_ | refine sqW ?_ | refine rgK (fun K' hK => ?_) | (refine aoN (hK _ _ ?_); clear hK K') | refine aoE (bxW rfl rfl rfl rfl rfl tI rfl rfl ?_) | refine aoE (stW tabOk rfl rfl rfl tI rfl rfl tI rfl rfl rfl rfl rfl rfl rfl ?_) | refine aoE (alW tabOk rfl rfl rfl rfl rfl rfl ?_) | refine cdN rfl tI (fun hc => ?_) (fun hc => ?_) | refine blK ?_ | refine exW ?_ | refine skW ?_ | refine rtW ?_ | refine dK2 (by decide +kernel) (by kernel_rfl) (by decide +kernel) rfl (fun K' hK => ?_) | refine dL2 (by kernel_rfl) (by decide +kernel) rfl (fun K' hK => ?_) | (refine aqN (hK _ ?_); clear hK K') | refine aqN ?_ | refine aqQ rfl rfl (fun hg => by first | exact std0 | exact std1) (by exact rfl) ?_)
   all_goals (first | (exfalso; omega) | skip)
   refine ⟨.inr rfl, Ent.int ?_⟩
   rw [show k = l.length by omega]
theorem pairK : KeyLaw Tryz.prog 116 ekP := keyLaw_pair (e := 3) (by kernel_rfl) (by kernel_rfl) (by kernel_rfl) (by kernel_rfl)
def stepAL (v sec : Int) (r : Rdr) (al : List ((Int × Int) × Jo.Mark)) (m : Jo.Mark) : List ((Int × Int) × Jo.Mark) :=
 if (m.version != v || !forM m sec r) = true then al else if (!(lk al (m.note, m.kind)).isSome || cnt m ((lk al (m.note, m.kind)).getD noMark)) = true then ins al (m.note, m.kind) m else al
def bestAL (v sec : Int) (r : Rdr) (l : List Jo.Mark) : List ((Int × Int) × Jo.Mark) := l.foldl (stepAL v sec r) []
theorem bestAL_snoc (v sec : Int) (r : Rdr) (l : List Jo.Mark) (m : Jo.Mark) : bestAL v sec r (l ++ [m]) = stepAL v sec r (bestAL v sec r l) m := by
 unfold bestAL; rw [zC7]; rfl
theorem lk_step (v sec : Int) (r : Rdr) (al : List ((Int × Int) × Jo.Mark)) (m : Jo.Mark) (n k : Int) (b : Option Jo.Mark) (hb : lk al (n, k) = b) :
 lk (stepAL v sec r al m) (n, k) = if okFor v n k sec r m then better b m else b := by
 subst hb
 unfold stepAL okFor
 by_cases h1 : (m.version != v || !forM m sec r) = true
 · rw [if_pos h1, if_neg]
   intro h
   simp only [zBe, zAm, zAh, zAp] at h h1
   rcases h1 with h1 | h1
   · rw [h.1.1.1] at h1; cases h1
   · rw [h.2] at h1; cases h1
 · rw [if_neg h1]
   simp only [zBe, not_or, zCr, zAp] at h1
   obtain ⟨h2, h3⟩ := h1
   rw [h2, h3]
   by_cases hk : (m.note, m.kind) = (n, k)
   · obtain ⟨rfl, rfl⟩ := Prod.mk.inj hk
     have e0 : (!(((false || m.note != m.note) || m.kind != m.kind) || !true)) = true := by simp
     rw [if_pos e0]
     cases hl : lk al (m.note, m.kind) with
     | none => simp [better, lk_ins']
     | some w =>
       simp only [Option.isSome_some, Bool.not_true, zDn, zD3, better]
       cases hcn : cnt m w with
       | true => simp [lk_ins']
       | false => simp [hl]
   · have e0 : ¬ (!(((false || m.note != n) || m.kind != k) || !true)) = true := by
      intro h
      simp at h
      exact hk (by rw [h.1, h.2])
     rw [if_neg e0]
     split
     · rw [lk_ins', if_neg hk]
     · rfl
theorem lk_best (v sec : Int) (r : Rdr) (l : List Jo.Mark) (n k : Int) : lk (bestAL v sec r l) (n, k) = bestM (okFor v n k sec r) l := by
 have gen : ∀ (l : List Jo.Mark) (al : List ((Int × Int) × Jo.Mark)) (b : Option Jo.Mark), lk al (n, k) = b → lk (l.foldl (stepAL v sec r) al) (n, k) = l.foldl (fun b m => if okFor v n k sec r m then better b m else b) b := by
  intro l
  induction l with
  | nil => intro al b h; exact h
  | cons m t ih =>
    intro al b h
    rw [zDm, zDm]
    exact ih _ _ (lk_step v sec r al m n k b h)
 exact gen l [] none rfl
end Go.Proofs.YtficfljjnbnhbaaGreatDoor.Mk
namespace Go.Proofs.YtficfljjnbnhbaaGreatDoor
open Go.Ab
attribute [local irreducible] AWP AOps EStep AQ PStep PRun PCall TCall VCall
def askedB (s : Score) (id : Int) : Bool := scoreOk s && inB id 1 1000000
theorem asked_spec (s : Score) (hs : s.Small) (id : Int) : PCall Tryz.prog 96 [.agg (encS s), .int id] (.b (askedB s id)) := by
 refine PCall.body Tryz.func96 rfl rfl Tryz.ntmps96 rfl rfl ?_
 repeat' (first | refine aoQ rfl rfl rfl (fun hg => by first | exact std0 | exact pcW (svalid_spec s hs) rfl rfl nd rfl nds | exact pcW (sisID_spec _) rfl rfl nd rfl nds) (by exact rfl) ?_ | refine sqW ?_ | refine rgK (fun K' hK => ?_) | (refine aoN (hK _ _ ?_); clear hK K') | refine aoE (bxW rfl rfl rfl rfl rfl tI rfl rfl ?_) | refine rtW ?_)
 exact ⟨.inr rfl, Ent.b rfl⟩
def idR (ok : Bool) (i : Int) : Int × Bool × Int := if ok then ((idxR i).1, (idxR i).2, 0) else (0, false, 1)
def at3 (r : Int × Bool × Int) : AV := .tup [.int r.1, .b r.2.1, .int r.2.2]
def partR (s : Score) (id : Int) : Int × Bool × Int := idR (askedB s id) (findI (fun x : Part => x.id == id) s.parts)
theorem sPart_spec (s : Score) (hs : s.Small) (id : Int) : PCall Tryz.prog 63 [.agg (encS s), .int id] (at3 (partR s id)) := by
 have ha := asked_spec s hs id
 obtain ⟨h1, h2, h3⟩ := hs
 refine PCall.body Tryz.func63 rfl rfl Tryz.ntmps63 rfl rfl ?_
 repeat' (first | refine aoQ rfl rfl rfl (fun hg => by first | exact std0 | exact pcW (ha) rfl rfl nd rfl nds | exact pcW (indexPart_spec s.parts id (by omega)) rfl rfl nd rfl nds) (by exact rfl) ?_ | refine sqW ?_ | refine rgK (fun K' hK => ?_) | (refine aoN (hK _ _ ?_); clear hK K') | refine aoE (bxW rfl rfl rfl rfl rfl tI rfl rfl ?_) | refine cdN rfl tI (fun hc => ?_) (fun hc => ?_) | refine skW ?_ | refine rtW ?_)
 · refine ⟨.inr rfl, Ent.of ?_⟩
   rw [show partR s id = (0, false, 1) from by unfold partR idR; rw [if_neg (by simpa using hc)]]; rfl
 · refine ⟨.inr rfl, Ent.of ?_⟩
   unfold partR idR; rw [if_pos (by simpa using hc)]; rfl
def playN (p : Part) (n : Note) : Note := { n with part := p.id, pitch := { n.pitch with oct := n.pitch.oct + p.octave } }
def srcOf (p : Part) : Int := if p.of_ == 0 then p.id else p.of_
def playedL (l : List Note) (p : Part) : List Note := (l.filter fun n => n.part == srcOf p).map (playN p)
theorem played_spec (s : Score) (p : Part) : PCall Tryz.prog 99 [.agg (encS s), .agg (encP p)] (.fn (.func 147) [] [.iptr (encS s), .iptr [.int (srcOf p)], .iptr (encP p)]) := by
 refine PCall.body Tryz.func99 rfl rfl Tryz.ntmps99 rfl rfl ?_
 repeat' (first | refine aoQ rfl rfl rfl (fun hg => by exact std0) (by exact rfl) ?_ | refine sqW ?_ | refine rgK (fun K' hK => ?_) | (refine aoN (hK _ _ ?_); clear hK K') | refine aoE (bxW rfl rfl rfl rfl rfl tI rfl rfl ?_) | refine aoE (stW tabOk rfl rfl rfl tI rfl rfl tI rfl rfl rfl rfl rfl rfl rfl ?_) | refine aoE (alW tabOk rfl rfl rfl rfl rfl rfl ?_) | refine cdN rfl tI (fun hc => ?_) (fun hc => ?_) | refine skW ?_)
 all_goals
  refine AWP.freezeV 0 rfl rfl ?_
  refine AWP.freezeV 1 rfl rfl ?_
  refine AWP.freezeV 2 rfl rfl ?_
 · refine rtW ⟨.inr rfl, ?_⟩
   have e : srcOf p = p.id := if_pos hc
   rw [e]
   exact fun _ _ h => h
 · refine rtW ⟨.inr rfl, ?_⟩
   have e : srcOf p = p.of_ := if_neg (by rw [hc]; decide)
   rw [e]
   exact fun _ _ h => h
theorem played_len (l : List Note) (p : Part) : (playedL l p).length ≤ l.length := by
 unfold playedL; rw [lLm]; exact zB2 _ _
theorem played_yes {l : List Note} {p : Part} {k : Nat} (h : k < l.length) (hp : ((l.getD k default).part == srcOf p) = true) :
 (playedL l p)[(playedL (l.take k) p).length]? = some (playN p (l.getD k default)) ∧ (playedL (l.take (k + 1)) p).length = (playedL (l.take k) p).length + 1 := by
 have e1 : l = l.take k ++ (l.getD k default :: l.drop (k + 1)) := by
  rw [getD_lt h, ← zBc h, zCu]
 have e2 : l.take (k + 1) = l.take k ++ [l.getD k default] := by
  rw [zBt, getD_lt h]; simp [h]
 constructor
 · have e3 : playedL l p = playedL (l.take k) p ++ (playN p (l.getD k default) :: playedL (l.drop (k + 1)) p) := by
    conv => lhs; rw [e1]
    unfold playedL
    rw [zBa, zB3 (by exact hp), zAe, zAz]
   rw [e3]; simp
 · rw [e2]; unfold playedL
   rw [zBa, zB3 (by exact hp)]; simp
theorem played_no {l : List Note} {p : Part} {k : Nat} (h : k < l.length) (hp : ((l.getD k default).part == srcOf p) = false) : (playedL (l.take (k + 1)) p).length = (playedL (l.take k) p).length := by
 have e2 : l.take (k + 1) = l.take k ++ [l.getD k default] := by
  rw [zBt, getD_lt h]; simp [h]
 rw [e2]; unfold playedL
 rw [zBa, zB8 (by rw [hp]; decide)]; simp
theorem bne_f {a b : Int} (h : (a != b) = false) : (a == b) = true := by simpa using h
theorem bne_t {a b : Int} (h : (a != b) = true) : (a == b) = false := by simpa using h
def octIn (l : List Note) : Prop := ∀ n ∈ l, -1000 ≤ n.pitch.oct ∧ n.pitch.oct ≤ 1000
theorem ex4 {σ : Store} (h : σ.length = 4) : σ = [σ.getD 0 .dead, σ.getD 1 .dead, σ.getD 2 .dead, σ.getD 3 .dead] := by
 match σ, h with
 | [a, b, c, d], _ => rfl
set_option maxHeartbeats 1000000 in
set_option maxRecDepth 20000 in
theorem played_iter (s : Score) (p : Part) (hl : s.notes.length ≤ 1000000000) (ho : octIn s.notes) (hp : -1000 ≤ p.octave ∧ p.octave ≤ 1000) :
 IterL Tryz.prog 147 [] [.iptr (encS s), .iptr [.int (srcOf p)], .iptr (encP p)] ((playedL s.notes p).map fun n => [.agg (encN n)]) 4 := by
 intro yv S R hS hR hy hyield
 rw [lLm] at *
 have hcnt : ∀ k, (playedL (s.notes.take k) p).length ≤ (playedL s.notes p).length := fun k => by
  unfold playedL
  rw [lLm, lLm]
  exact (List.Sublist.filter _ (List.take_sublist k s.notes)).length_le
 have ex : ∀ j, j ≤ (playedL s.notes p).length → S j = [(S j).getD 0 .dead, (S j).getD 1 .dead, (S j).getD 2 .dead, (S j).getD 3 .dead] := fun j hj => ex4 (hS j hj).1
 have hok : ∀ j, j ≤ (playedL s.notes p).length → [(S j).getD 0 .dead, (S j).getD 1 .dead, (S j).getD 2 .dead, (S j).getD 3 .dead].all (okObj 4) = true := fun j hj => by rw [← ex j hj]; exact (hS j hj).2
 show TCall _ _ [.opq yv, .iptr (encS s), .iptr [.int (srcOf p)], .iptr (encP p)] (S 0) _
 rw [ex 0 (nZl _)]
 refine TCall.body Tryz.func147 rfl rfl Tryz.ntmps147 rfl rfl ?_
 repeat' (first | refine aoQ rfl rfl rfl (fun hg => by first | exact std0 | exact std1) (by exact rfl) ?_ | refine sqW ?_ | refine rgK (fun K' hK => ?_) | (refine aoN (hK _ _ ?_); clear hK K') | refine blK ?_)
 refine lpD (ι := Nat) (fun k => [(0, .opq yv), (2, .iptr [.int (srcOf p)]), (3, .iptr (encP p)), (8, .sl 12 (s.notes.map encN) .no), (9, .int s.notes.length), (10, .int k)])
  (fun k => [(S (playedL (s.notes.take k) p).length).getD 0 .dead, (S (playedL (s.notes.take k) p).length).getD 1 .dead, (S (playedL (s.notes.take k) p).length).getD 2 .dead, (S (playedL (s.notes.take k) p).length).getD 3 .dead])
  (fun k => k ≤ s.notes.length) (fun k => s.notes.length - k) 4 (fun _ => rfl) 0 (nZl _) ⟨rfl, rfl, rfl, rfl, rfl, rfl, tI⟩ rfl (fun k _ => by
   simp only [zBu, zC8, zBm, zA0]
   exact ⟨hy, rfl, rfl, rfl, rfl, rfl⟩) (fun k _ => hok _ (hcnt k)) ?_
 intro k hk
 by_cases hlt : k < s.notes.length
 · have hq := ho (s.notes.getD k default) (by rw [getD_lt hlt]; exact lGm hlt)
   cases hpart : ((s.notes.getD k default).part == srcOf p) with
   | false =>
     have h1 := played_no hlt hpart
     clear ex hok
     repeat' (first | refine aoQ rfl rfl rfl (fun hg => by first | exact std0 | exact std1) (by exact rfl) ?_ | refine sqW ?_ | refine rgK (fun K' hK => ?_) | (refine aoN (hK _ _ ?_); clear hK K') | refine aoE (stW tabOk rfl rfl rfl tI rfl rfl tI rfl rfl rfl rfl rfl rfl rfl ?_) | refine aoE (alW tabOk rfl rfl rfl rfl rfl rfl ?_) | refine cdN rfl tI (fun hc => ?_) (fun hc => ?_) | refine blK ?_ | refine exW ?_ | refine skW ?_)
     all_goals (first | (exfalso; omega) | skip)
     · refine ⟨k + 1, by omega, by omega, ⟨rfl, rfl, rfl, rfl, rfl, rfl, tI⟩, ?_⟩
       rw [h1]; rfl
     all_goals
      exfalso
      have h5 := bne_f hc
      rw [zAj, hpart] at h5
      cases h5
   | true =>
     obtain ⟨h1, h2⟩ := played_yes hlt hpart
     have hj : (playedL (s.notes.take k) p).length < (playedL s.notes p).length := by
      have := hcnt (k + 1); omega
     have hc1 := hcnt (k + 1)
     rw [h2] at hc1
     have hv := VCall.frame (hyield (playedL (s.notes.take k) p).length [.agg (encN (playN p (s.notes.getD k default)))] (by rw [zAa, h1]; rfl)) [.var (encN (playN p (s.notes.getD k default)))]
      (by rw [(hS _ (by omega)).1]; exact (hS _ (by omega)).2) (by rw [(hS _ (by omega)).1]; exact hy) rfl (by
       rintro rv s' (⟨_, rfl⟩ | ⟨_, hh⟩)
       · rw [(hS _ (by omega)).1, (hS _ (by omega)).1]
       · rw [(hS _ (by omega)).1, (hR _ _ hh).1])
     have hv2 : VCall Tryz.prog (.opq yv) [.agg (encN (playN p (s.notes.getD k default)))] [(S (playedL (s.notes.take k) p).length).getD 0 .dead, (S (playedL (s.notes.take k) p).length).getD 1 .dead, (S (playedL (s.notes.take k) p).length).getD 2 .dead, (S (playedL (s.notes.take k) p).length).getD 3 .dead, .var (encN (playN p (s.notes.getD k default)))]
      (fun r t => (r = .b true ∧ t = [(S (playedL (s.notes.take (k + 1)) p).length).getD 0 .dead, (S (playedL (s.notes.take (k + 1)) p).length).getD 1 .dead, (S (playedL (s.notes.take (k + 1)) p).length).getD 2 .dead, (S (playedL (s.notes.take (k + 1)) p).length).getD 3 .dead, .var (encN (playN p (s.notes.getD k default)))]) ∨ (r = .b false ∧ ∃ t', t = t' ++ [.var (encN (playN p (s.notes.getD k default)))] ∧ R (playedL (s.notes.take k) p).length t')) := by
      have e1 := ex (playedL (s.notes.take k) p).length (by omega)
      have e2 := ex ((playedL (s.notes.take k) p).length + 1) hc1
      rw [e1] at hv
      refine VCall.mono hv ?_
      rintro r t ⟨t', rfl, (⟨rfl, rfl⟩ | ⟨rfl, hh⟩)⟩
      · refine .inl ⟨rfl, ?_⟩
        rw [h2]
        conv => lhs; rw [e2]
        rfl
      · exact .inr ⟨rfl, t', rfl, hh⟩
     clear hv ex hok
     repeat' (first | refine aoQ rfl rfl rfl (fun hg => by first | exact std0 | exact std1) (by exact rfl) ?_ | refine sqW ?_ | refine rgK (fun K' hK => ?_) | (refine aoN (hK _ _ ?_); clear hK K') | refine aoE (stW tabOk rfl rfl rfl tI rfl rfl tI rfl rfl rfl rfl rfl rfl rfl ?_) | refine aoE (alW tabOk rfl rfl rfl rfl rfl rfl ?_) | refine aoE (scT (hv2) rfl rfl rfl rfl rfl nd rfl rfl nds ?_) | refine cdN rfl tI (fun hc => ?_) (fun hc => ?_) | refine blK ?_ | refine exW ?_ | refine skW ?_)
     all_goals (first | (exfalso; omega) | skip)
     · exfalso
       have h5 := bne_t hc
       rw [zAj, hpart] at h5
       cases h5
     · rintro r t (⟨rfl, rfl⟩ | ⟨rfl, t', rfl, hh⟩)
       · repeat' (first | refine aoQ rfl rfl rfl (fun hg => by exact std0) (by exact rfl) ?_ | refine rgK (fun K' hK => ?_) | (refine aoN (hK _ _ ?_); clear hK K') | refine cdN rfl tI (fun hc => ?_) (fun hc => ?_) | refine skW ?_ | refine rtW ?_)
         · exfalso; simp at hc
         · exact ⟨k + 1, by omega, by omega, ⟨rfl, rfl, rfl, rfl, rfl, rfl, tI⟩, rfl⟩
       · repeat' (first | refine aoQ rfl rfl rfl (fun hg => by exact std0) (by exact rfl) ?_ | refine rgK (fun K' hK => ?_) | (refine aoN (hK _ _ ?_); clear hK K') | refine cdN rfl tI (fun hc => ?_) (fun hc => ?_) | refine skW ?_ | refine rtW ?_)
         · obtain ⟨k1, k2⟩ := hR _ _ hh
           exact ⟨.inr rfl, .tup [], t', .inr ⟨_, hj, hh⟩, by simp, by rw [k1]; exact nLr _, by rw [k1]; exact k2, rfl, rfl⟩
         · exfalso; simp at hc
 · repeat' (first | refine aoQ rfl rfl rfl (fun hg => by first | exact std0 | exact std1) (by exact rfl) ?_ | refine sqW ?_ | refine rgK (fun K' hK => ?_) | (refine aoN (hK _ _ ?_); clear hK K') | refine aoE (stW tabOk rfl rfl rfl tI rfl rfl tI rfl rfl rfl rfl rfl rfl rfl ?_) | refine aoE (alW tabOk rfl rfl rfl rfl rfl rfl ?_) | refine cdN rfl tI (fun hc => ?_) (fun hc => ?_) | refine blK ?_ | refine exW ?_ | refine skW ?_)
   all_goals (first | (exfalso; omega) | skip)
   have htk : s.notes.take k = s.notes := zAu (by omega)
   refine ⟨.inl rfl, .tup [], S (playedL s.notes p).length, .inl rfl, ?_, ?_, ?_, rfl, rfl⟩
   · rw [(hS _ (nLr _)).1]
     conv => rhs; rw [ex _ (nLr _)]
     rw [htk]; rfl
   · rw [(hS _ (nLr _)).1]; exact nLr _
   · rw [(hS _ (nLr _)).1]; exact (hS _ (nLr _)).2
theorem scoreOk_oct {s : Score} (h : scoreOk s = true) : octIn s.notes ∧ ∀ p ∈ s.parts, -1000 ≤ p.octave ∧ p.octave ≤ 1000 := by
 unfold scoreOk scoreBad at h
 simp only [zA0, zAm, zAh, zAp] at h
 obtain ⟨⟨⟨⟨⟨h1, h2⟩, h3⟩, h4⟩, h5⟩, h6⟩ := h
 constructor
 · intro n hn
   unfold notesOk at h4
   simp only [zA0, zA8] at h4
   have h7 := h4.1.2 n hn
   unfold noteOk at h7
   split at h7
   · unfold nformed noteForm noteP at h7
     simp only [zA0] at h7
     have := h7.2.2.2
     simp only [inB, zA0, dEt] at this
     omega
   · cases h7
 · intro p hp
   unfold partsOk at h3
   simp only [zA0, zA8] at h3
   have h7 := h3.1.2 p hp
   unfold partOk partBad partNums at h7
   simp only [zA0, zAm, zAh, zAp] at h7
   have := h7.1.1.1.1.1.2
   simp only [inB, zA0, dEt] at this
   omega
def playsR (s : Score) (id : Int) : List Note × Int := if scoreOk s then (if findI (fun x : Part => x.id == id) s.parts ≥ 0 then (playedL s.notes (s.parts.getD (findI (fun x : Part => x.id == id) s.parts).toNat default), 0) else ([], 22)) else ([], 1)
theorem plays_spec (s : Score) (hs : s.Small) (id : Int) : PCall Tryz.prog 64 [.agg (encS s), .int id] (.tup [.sl 12 ((playsR s id).1.map encN) .no, .int (playsR s id).2]) := by
 have hv := svalid_spec s hs
 obtain ⟨h1, h2, h3⟩ := hs
 have hi := indexPart_spec s.parts id (by omega)
 by_cases hok : scoreOk s = true
 · by_cases hf : findI (fun x : Part => x.id == id) s.parts ≥ 0
   · obtain ⟨k, e1, e2, e3, e4⟩ := findI_lt hf
     have er : playsR s id = (playedL s.notes (s.parts.getD k default), 0) := by unfold playsR; rw [if_pos hok, if_pos hf, e1]; rfl
     rw [er]
     rw [e1] at hi
     have hmx : (idxR (k : Int)).1 = k := by unfold idxR; simp
     rw [hmx] at hi
     have hpl := played_spec s (s.parts.getD k default)
     obtain ⟨o1, o2⟩ := scoreOk_oct hok
     have hit := played_iter s (s.parts.getD k default) h3 o1 (o2 _ (by rw [getD_lt e2]; exact lGm e2))
     have hpn := played_len s.notes (s.parts.getD k default)
     generalize hP : s.parts.getD k default = p at *
     refine PCall.body Tryz.func64 rfl rfl Tryz.ntmps64 rfl rfl ?_
     repeat' (first | refine aoQ rfl rfl rfl (fun hg => by first | exact std0 | exact pcW (hv) rfl rfl nd rfl nds | exact pcW (hi) rfl rfl nd rfl nds) (by exact rfl) ?_ | refine sqW ?_ | refine rgK (fun K' hK => ?_) | (refine aoN (hK _ _ ?_); clear hK K') | refine aoE (bxW rfl rfl rfl rfl rfl tI rfl rfl ?_) | refine aoE (alW tabOk rfl rfl rfl rfl rfl rfl ?_) | refine cdN rfl tI (fun hc => ?_) (fun hc => ?_) | refine blK ?_ | refine skW ?_ | refine rtW ?_ | refine dK2 (by decide +kernel) (by kernel_rfl) (by decide +kernel) rfl (fun K' hK => ?_) | (refine aqN (hK _ ?_); clear hK K') | refine aqQ rfl rfl (fun hg => by first | exact piW tabOk rfl rfl nd rfl nd rfl rfl ⟨zCv _, Int.ofNat_lt.2 e2⟩ | exact std0 | exact pcW hpl rfl rfl nd (by simp only [zAj]; rw [hP]; rfl) nds) (by exact rfl) ?_)
     · exfalso; rw [hok] at hc; cases hc
     · exfalso; simp [idxR] at hc
     refine AWP.ownNilV (v := 1) (i := 0) (sz := 12) (cs := [.nils]) rfl rfl ?_
     refine AWP.rangeFunc (k := 147) (first := []) (caps := [.iptr (encS s), .iptr [.int (srcOf p)], .iptr (encP p)]) ((playedL s.notes p).map fun n => [.agg (encN n)]) [(8, .ptr 1 0)] (fun j => [.var (encS s), .var [.sl 12 (((playedL s.notes p).take j).map encN) (.own 2)], .own 12 (((playedL s.notes p).take j).map encN).length]) (fun _ _ _ => False)
      hit rfl tI ?_ ?_ rfl ⟨rfl, tI⟩ rfl rfl (fun j _ => ⟨rfl, rfl⟩) (fun _ _ _ h => h.elim) ?_ ?_ (fun _ _ _ _ h => h.elim)
     · intro x hx
       obtain ⟨n, _, rfl⟩ := zAi.1 hx; rfl
     · intro x hx
       obtain ⟨n, _, rfl⟩ := zAi.1 hx; rfl
     · intro j x hx
       simp only [zAa, zA6] at hx
       obtain ⟨n, hn, rfl⟩ := hx
       have hj : j < (playedL s.notes p).length := by
        rcases nLg j (playedL s.notes p).length with h | h
        · exact h
        · simp [zA2 h] at hn
       repeat' (first | refine rgK (fun K' hK => ?_) | (refine aoN (hK _ _ ?_); clear hK K') | refine aoE (stW tabOk rfl rfl rfl tI rfl rfl tI rfl rfl rfl rfl rfl rfl rfl ?_) | refine aoE (alW tabOk rfl rfl rfl rfl rfl rfl ?_))
       refine ⟨rfl, ?_⟩
       repeat' (first | refine aoQ rfl rfl rfl (fun hg => by first | exact std0 | exact pbS tabOk rfl rfl nds) (by exact rfl) ?_ | refine rgK (fun K' hK => ?_) | (refine aoN (hK _ _ ?_); clear hK K') | refine aoE (stW tabOk rfl rfl rfl tI rfl rfl tI rfl rfl rfl rfl rfl rfl rfl ?_) | refine aoE (apO tabOk rfl rfl rfl (by decide) (Rd.w rfl tI) rfl (Rd.w rfl tI) (.sl rfl (by first | (intro x hx; rcases zAl.1 hx with rfl; rfl) | exact one_encN _)) (LOk.of (tabOk.get rfl)) (LOk.of (tabOk.get rfl)) rfl rfl (by simp only [lLm, lLa, zA5, zAb, zAc, zAx]; omega) (by simp only [lLm, lLa, zA5, zAb, zAc, zAx]; omega) ?_) | refine blK ?_)
       show [_, _, _] = [_, _, _]
       have e : (playedL s.notes p).take (j + 1) = (playedL s.notes p).take j ++ [n] := by
        rw [zBt, hn]; rfl
       rw [e, zAe]; rfl
     · repeat' (first | refine aoQ rfl rfl rfl (fun hg => by exact std0) (by exact rfl) ?_ | refine sqW ?_ | refine rgK (fun K' hK => ?_) | (refine aoN (hK _ _ ?_); clear hK K') | refine rtW ?_)
       refine ⟨.inr rfl, Ent.of ?_⟩
       rw [lLm, zAr]; rfl
   · have er : playsR s id = ([], 22) := by unfold playsR; rw [if_pos hok, if_neg hf]
     rw [er]
     have hm : (idxR (findI (fun x : Part => x.id == id) s.parts)).2 = false := by unfold idxR; simpa using hf
     rw [hm] at hi
     have dead : ∀ {b : Bool}, b = (!false) → b = false → False := fun h1 h2 => by rw [h2] at h1; cases h1
     refine PCall.body Tryz.func64 rfl rfl Tryz.ntmps64 rfl rfl ?_
     repeat' (first | refine aoQ rfl rfl rfl (fun hg => by first | exact std0 | exact pcW (hv) rfl rfl nd rfl nds | exact pcW (hi) rfl rfl nd rfl nds) (by exact rfl) ?_ | refine sqW ?_ | refine rgK (fun K' hK => ?_) | (refine aoN (hK _ _ ?_); clear hK K') | refine aoE (bxW rfl rfl rfl rfl rfl tI rfl rfl ?_) | refine aoE (alW tabOk rfl rfl rfl rfl rfl rfl ?_) | refine cdN rfl tI (fun hc => ?_) (fun hc => ?_) | refine skW ?_ | refine rtW ?_)
     · exfalso; rw [hok] at hc; cases hc
     · exact ⟨.inr rfl, Ent.tup2 Ent.nil (Ent.rfl' _)⟩
     · exfalso; simp at hc
 · have er : playsR s id = ([], 1) := by unfold playsR; rw [if_neg hok]
   rw [er]
   refine PCall.body Tryz.func64 rfl rfl Tryz.ntmps64 rfl rfl ?_
   repeat' (first | refine aoQ rfl rfl rfl (fun hg => by first | exact std0 | exact pcW (hv) rfl rfl nd rfl nds | exact pcW (hi) rfl rfl nd rfl nds) (by exact rfl) ?_ | refine sqW ?_ | refine rgK (fun K' hK => ?_) | (refine aoN (hK _ _ ?_); clear hK K') | refine aoE (bxW rfl rfl rfl rfl rfl tI rfl rfl ?_) | refine aoE (alW tabOk rfl rfl rfl rfl rfl rfl ?_) | refine cdN rfl tI (fun hc => ?_) (fun hc => ?_) | refine skW ?_ | refine rtW ?_)
   · exact ⟨.inr rfl, Ent.tup2 Ent.nil (Ent.rfl' _)⟩
   all_goals (exfalso; rename_i hc0; exact hok (by simpa using hc0))
end Go.Proofs.YtficfljjnbnhbaaGreatDoor
