/- Carried marks in plain words: what belongs together with a note of a version.  Contracts by content: the reference of align: Cost, Pairs, Total.  Contracts by content: the reference of align: table. No statement is proved here. -/
import Derived.Test.YtekfpcgagoidcaaGreatDoorU19
import Derived.Test.YtekfpcgagoidcaaGreatDoorU21
import Derived.Test.YtekfpcgagoidcaaGreatDoorU22
import Derived.Test.YtekfpcgagoidcaaGreatDoorU29
set_option linter.unusedVariables false
set_option linter.unusedSimpArgs false
namespace Go.Proofs.YtekfpcgagoidcaaGreatDoor.Cy
open Go.Ab Go.Sort Al Mk
def fstB (L : PL) (id : Int) : Int := if findI (fun p : Int × Int => p.1 == id) L < 0 then 0 else (L.getD (findI (fun p : Int × Int => p.1 == id) L).toNat default).2
theorem fstB_lk {L : PL} (hn : (L.map (·.1)).Nodup) (id : Int) : fstB L id = (lk (insL [] L) id).getD 0 := by
 unfold fstB
 split
 · rename_i h
   rw [lk_insL]
   · rfl
   · intro p hp e
     have := findI_exA (p := fun p : Int × Int => p.1 == id) (l := L)
     exact absurd (this.2 ⟨p, hp, by simpa using e⟩) (by omega)
 · rename_i h
   obtain ⟨k, hk, h2, h3, _⟩ := findI_lt (p := fun p : Int × Int => p.1 == id) (l := L) (by omega)
   rw [hk, zA2]
   have e : (L.getD k default).1 = id := by simpa using h3
   have hm : (id, (L.getD k default).2) ∈ L := by
    have := getD_mem h2 (l := L)
    rw [show L.getD k default = ((L.getD k default).1, (L.getD k default).2) from rfl, e] at this
    exact this
   rw [lk_insL_mem hn hm]; rfl
theorem own_nodup {s : Score} (h : scoreOk s = true) : ((ownP s).map (·.1)).Nodup := by
 unfold ownP
 rw [zD3]
 exact (ok_sc h).notes
theorem own_lk {s : Score} (h : scoreOk s = true) (id : Int) : lk (insL [] (ownP s)) id = if noteAt s.notes id < 0 then none else some id := by
 split
 · rename_i hn
   rw [lk_insL]
   · rfl
   · intro p hp e
     obtain ⟨n, hn2, rfl⟩ := zAu.1 hp
     have := findI_exA (p := fun x : Note => x.id == id) (l := s.notes)
     have h2 := this.2 ⟨n, hn2, by simpa using e⟩
     unfold noteAt at hn
     omega
 · rename_i hn
   obtain ⟨k, _, h2, h3, _⟩ := findI_lt (p := fun x : Note => x.id == id) (l := s.notes) (by unfold noteAt at hn; omega)
   refine lk_insL_mem (own_nodup h) (zAu.2 ⟨_, getD_mem h2, ?_⟩)
   have e : (s.notes.getD k default).id = id := by simpa using h3
   rw [e]
def pairsN (s to : Score) : PL := notesM s to (np (alignR (costR s to) s.bars.length to.bars.length))
theorem pairsN_facts {s to : Score} (hs : scoreOk s = true) (ht : scoreOk to = true) : OutF s to (np (alignR (costR s to) s.bars.length to.bars.length)) (pairsN s to) := by
 have hpo := (alignR_ok (costR s to) s.bars.length to.bars.length).1
 exact out_facts (ok_sc hs) (ok_sc ht) (pairsOk_of hpo)
theorem marksOk_at {l : List Jo.Mark} (h : marksOk l = true) {m : Jo.Mark} (hm : m ∈ l) : Jo.markOk m = true := by
 unfold marksOk at h
 simp only [zA0, dEt, zA7] at h
 exact h.1.1 m hm
theorem note_id {s : Score} (h : scoreOk s = true) {n : Note} (hn : n ∈ s.notes) : 1 ≤ n.id := by
 obtain ⟨_, _, _, h4, _⟩ := ok_parts h
 obtain ⟨_, _, h6⟩ := notesOk_all h4
 obtain ⟨j, _, _, h7⟩ := note_bar (h6 n hn)
 unfold nformed fits noteForm noteP pitchOk inB at h7
 simp only [zA0, dEt] at h7
 omega
def toN (l : List Score) (v : Int) (to : Score) (w id : Int) : Option Int := lk (mapF l v to w) id
theorem toN_own {l : List Score} {v : Int} {to : Score} (ht : scoreOk to = true) (id : Int) : toN l v to v id = if noteAt to.notes id < 0 then none else some id := by
 unfold toN mapF; rw [if_pos rfl]; exact own_lk ht id
theorem toN_no {l : List Score} {v w : Int} {to : Score} (hw : w ≠ v) (hf : findV l w < 0) (id : Int) : toN l v to w id = none := by
 unfold toN mapF mapW; rw [if_neg hw, if_pos hf]; rfl
theorem toN_at {l : List Score} {v w : Int} {to : Score} (hw : w ≠ v) {k : Nat} (hf : findV l w = k) (id : Int) : toN l v to w id = lk (insL [] (pairsN (atS l k) to)) id := by
 unfold toN mapF mapW pairsN; rw [if_neg hw, if_neg (by omega), hf, zA2]
theorem pairs_lk {s to : Score} (hs : scoreOk s = true) (ht : scoreOk to = true) {a b : Int} : lk (insL [] (pairsN s to)) a = some b ↔ (a, b) ∈ pairsN s to := by
 constructor
 · intro h
   rcases lk_insL_some h with h | h
   · cases h
   · exact h
 · exact fun h => lk_insL_mem (pairsN_facts hs ht).fst h
theorem noteAt_mem {l : List Note} {id : Int} {i : Nat} (hi : i < l.length) (h : noteAt l id = i) : (l.getD i default).id = id := by
 obtain ⟨k, hk, h2, h3, _⟩ := findI_lt (p := fun x : Note => x.id == id) (l := l) (by unfold noteAt at h; omega)
 have : k = i := by unfold noteAt at h; omega
 subst this
 simpa using h3
theorem toN_some {l : List Score} {v w : Int} {to : Score} (hgd : ∀ s ∈ l, scoreOk s = true) (ht : scoreOk to = true) {k : Nat} (hk : findV l v = k) (hto : atS l k = to) {id n : Int} (h : toN l v to w id = some n) :
 ∃ i a b : Nat, findV l w = i ∧ i < l.length ∧ noteAt (atS l i).notes id = a ∧ a < (atS l i).notes.length ∧ noteAt to.notes n = b ∧ b < to.notes.length ∧ ((atS l i).notes.getD a default).part = (to.notes.getD b default).part ∧ 1 ≤ n := by
 by_cases hw : w = v
 · subst hw
   rw [toN_own ht] at h
   split at h
   · cases h
   · rename_i hn
     cases h
     obtain ⟨k2, hk2, hlt, _⟩ := findV_lt (l := l) (v := w) (by omega)
     have : k2 = k := by omega
     subst this
     obtain ⟨j, hj, h2, h3, _⟩ := findI_lt (p := fun x : Note => x.id == id) (l := to.notes) (by unfold noteAt at hn; omega)
     refine ⟨k2, j, j, hk, hlt, by rw [hto]; exact hj, by rw [hto]; exact h2, hj, h2, by rw [hto], ?_⟩
     have e : (to.notes.getD j default).id = id := by simpa using h3
     rw [← e]; exact note_id ht (getD_mem h2)
 · by_cases hf : findV l w < 0
   · rw [toN_no hw hf] at h; cases h
   · obtain ⟨i, hi, hlt, _⟩ := findV_lt hf
     have hs : scoreOk (atS l i) = true := hgd _ (getD_mem hlt)
     rw [toN_at hw hi, pairs_lk hs ht] at h
     obtain ⟨a, b, h1, h2, h3, h4, h5, _⟩ := (pairsN_facts hs ht).of _ h
     refine ⟨i, a, b, hi, hlt, h3, h1, h4, h2, h5, ?_⟩
     have := noteAt_mem h2 h4
     dsimp only at this
     rw [← this]; exact note_id ht (getD_mem h2)
theorem carryM_eq (l : List Score) (v : Int) (to : Score) (m : Jo.Mark) : carryM l v to m = (toN l v to m.version m.note).map fun n => { m with version := to.version, note := n } := rfl
theorem carryR_ok {l : List Score} (hv : versOk l = true) {m : Jo.Mark} (hm : Jo.markOk m = true) {v : Int} (hn : numOk v = true) {k : Nat} (hk : findV l v = k) : carryR l m v = (carryM l v (atS l k) m, 0) := by
 unfold carryR
 rw [if_pos (show argOk l m v = true by unfold argOk; rw [hn, hm, hv]; rfl), if_neg (by rw [hk]; omega), hk, zA2]
end Go.Proofs.YtekfpcgagoidcaaGreatDoor.Cy
namespace Go.Proofs.YtekfpcgagoidcaaGreatDoor.Al
open Go.Ab Go.Sort
attribute [local irreducible] AWP AOps EStep AQ PStep PRun PCall TCall VCall
def lastP (l : PL) (k : Nat) : Int × Int := if k = 0 then (-1, -1) else l.getD (k - 1) default
set_option maxHeartbeats 16000000 in
set_option maxRecDepth 20000 in
theorem rPairs_spec (a b : Score) (ha : a.Small) (hb : b.Small) (l : PL) (hl : l.length ≤ 1000000) : PCall Tryz.prog 56 [.agg (encS a), .agg (encS b), .sl 2 (l.map encPr) .no] (.b (pOk a.bars.length b.bars.length (-1) (-1) l)) := by
 have ha1 := ha.1
 have hb1 := hb.1
 refine PCall.body Tryz.func56 rfl rfl Tryz.ntmps56 rfl rfl ?_
 repeat' (first | refine aoQ rfl rfl rfl (fun hg => by exact std0) (by exact rfl) ?_ | refine sqW ?_ | refine rgK (fun K' hK => ?_) | (refine aoN (hK _ _ ?_); clear hK K') | refine aoE (bxW rfl rfl rfl rfl rfl tI rfl rfl ?_) | refine blK ?_)
 refine lpD (ι := Nat) (fun k => [(2, .sl 2 (l.map encPr) .no), (3, .ptr 0 0), (4, .ptr 1 0), (7, .int k)]) (fun _ => [.var (encS a), .var (encS b)])
  (fun k => k ≤ l.length ∧ pOk a.bars.length b.bars.length (-1) (-1) l = pOk a.bars.length b.bars.length (lastP l k).1 (lastP l k).2 (l.drop k) ∧ -1 ≤ (lastP l k).1 ∧ -1 ≤ (lastP l k).2) (fun k => l.length - k) 2 (fun _ => rfl) 0 ⟨nZl _, rfl, (by show (-1 : Int) ≤ -1; decide), (by show (-1 : Int) ≤ -1; decide)⟩ ⟨rfl, rfl, rfl, rfl, tI⟩ rfl (fun _ _ => rfl) (fun _ _ => rfl) ?_
 rintro k ⟨hk, hp, q1, q2⟩
 by_cases hlt : k < l.length
 · obtain ⟨z, hz⟩ : ∃ z, l.getD k default = z := ⟨_, rfl⟩
   rw [drop_at hlt, hz] at hp
   rcases zBd k with h0 | h0
   · subst h0
     have hL : lastP l 0 = (-1, -1) := rfl
     rw [hL] at hp q1 q2
     repeat' (first | refine aoQ rfl rfl rfl (fun hg => by first | exact std0 | exact std1) (by exact rfl) ?_ | refine sqW ?_ | refine rgK (fun K' hK => ?_) | (refine aoN (hK _ _ ?_); clear hK K') | refine cdN rfl tI (fun hc => ?_) (fun hc => ?_) | refine blK ?_ | refine exW ?_ | refine skW ?_ | refine rtW ?_ | refine dK2 (by decide +kernel) (by kernel_rfl) (by decide +kernel) rfl (fun K' hK => ?_) | (refine aqN (hK _ ?_); clear hK K') | refine aqQ rfl rfl (fun hg => by first | exact iX encPr l ((0 : Nat) : Int) hz (hb := by omega) | exact std0 | exact (Bool.noConfusion (show false = true from hg) : PRun _ _ _ _ (.b false)) | exact std1) (by exact rfl) ?_)
     all_goals (first | exact dd | skip)
     · exact ⟨.inr rfl, Ent.b (Eq.symm (by rw [hp]; refine pOk_bad ?_; (try dsimp only); (simp only [zA2, zAi, zA0, zA5, zAf, dEt, dEf, zAh, zAe, beq_iff_eq, beq_eq_false_iff_ne, bne_iff_ne, bne_eq_false_iff_eq, gt_iff_lt, ge_iff_le, ne_eq] at hc); omega))⟩
     · rename_i h1
       (try simp only [zA2, zAi, zA0, zA5, zAf, dEt, dEf, zAh, zAe, beq_iff_eq, beq_eq_false_iff_ne, bne_iff_ne, bne_eq_false_iff_eq, gt_iff_lt, ge_iff_le, ne_eq] at h1)
       (try simp only [zA2, zAi, zA0, zA5, zAf, dEt, dEf, zAh, zAe, beq_iff_eq, beq_eq_false_iff_ne, bne_iff_ne, bne_eq_false_iff_eq, gt_iff_lt, ge_iff_le, ne_eq] at hc)
       have hn : ¬ (z.1 ≤ ((-1, -1) : Int × Int).1 ∨ z.2 ≤ ((-1, -1) : Int × Int).2 ∨ (a.bars.length : Int) ≤ z.1 ∨ (b.bars.length : Int) ≤ z.2) := by (try dsimp only); omega
       rw [pOk_good hn] at hp
       have hL' : lastP l (0 + 1) = z := by unfold lastP; rw [if_neg (by omega)]; exact hz
       exact ⟨0 + 1, ⟨hlt, by rw [hL']; exact hp, by rw [hL']; omega, by rw [hL']; omega⟩, by omega, ⟨rfl, rfl, rfl, rfl, tI⟩, rfl⟩
   · obtain ⟨k, rfl⟩ : ∃ j, k = j + 1 := ⟨k - 1, by omega⟩
     obtain ⟨y, hy⟩ : ∃ y, l.getD k default = y := ⟨_, rfl⟩
     have hL : lastP l (k + 1) = y := by unfold lastP; rw [if_neg (by omega)]; exact hy
     rw [hL] at hp q1 q2
     repeat' (first | refine aoQ rfl rfl rfl (fun hg => by first | exact std0 | exact std1) (by exact rfl) ?_ | refine sqW ?_ | refine rgK (fun K' hK => ?_) | (refine aoN (hK _ _ ?_); clear hK K') | refine cdN rfl tI (fun hc => ?_) (fun hc => ?_) | refine blK ?_ | refine exW ?_ | refine skW ?_ | refine rtW ?_ | refine dK2 (by decide +kernel) (by kernel_rfl) (by decide +kernel) rfl (fun K' hK => ?_) | (refine aqN (hK _ ?_); clear hK K') | refine aqQ rfl rfl (fun hg => by first | exact iX encPr l ((k : Nat) : Int) hy (hb := by omega) | exact PRun.eq (v := .int ((((k + 1 : Nat) : Int)) - 1)) (PRun.step tabOk rfl sd) (congrArg AV.int (show (((k + 1 : Nat) : Int) - 1) = ((k : Nat) : Int) by omega)) | exact iX encPr l ((k + 1 : Nat) : Int) hz (hb := by omega) | exact std0 | exact std1) (by exact rfl) ?_)
     all_goals (first | exact dd | skip)
     · exact ⟨.inr rfl, Ent.b (Eq.symm (by rw [hp]; refine pOk_bad ?_; (try dsimp only); (simp only [zA2, zAi, zA0, zA5, zAf, dEt, dEf, zAh, zAe, beq_iff_eq, beq_eq_false_iff_ne, bne_iff_ne, bne_eq_false_iff_eq, gt_iff_lt, ge_iff_le, ne_eq] at hc); omega))⟩
     · exact ⟨.inr rfl, Ent.b (Eq.symm (by rw [hp]; refine pOk_bad ?_; (try dsimp only); (simp only [zA2, zAi, zA0, zA5, zAf, dEt, dEf, zAh, zAe, beq_iff_eq, beq_eq_false_iff_ne, bne_iff_ne, bne_eq_false_iff_eq, gt_iff_lt, ge_iff_le, ne_eq] at hc); omega))⟩
     · rename_i h1
       (try simp only [zA2, zAi, zA0, zA5, zAf, dEt, dEf, zAh, zAe, beq_iff_eq, beq_eq_false_iff_ne, bne_iff_ne, bne_eq_false_iff_eq, gt_iff_lt, ge_iff_le, ne_eq] at h1)
       (try simp only [zA2, zAi, zA0, zA5, zAf, dEt, dEf, zAh, zAe, beq_iff_eq, beq_eq_false_iff_ne, bne_iff_ne, bne_eq_false_iff_eq, gt_iff_lt, ge_iff_le, ne_eq] at hc)
       have hn : ¬ (z.1 ≤ y.1 ∨ z.2 ≤ y.2 ∨ (a.bars.length : Int) ≤ z.1 ∨ (b.bars.length : Int) ≤ z.2) := by (try dsimp only); omega
       rw [pOk_good hn] at hp
       have hL' : lastP l ((k + 1) + 1) = z := by unfold lastP; rw [if_neg (by omega)]; exact hz
       exact ⟨(k + 1) + 1, ⟨hlt, by rw [hL']; exact hp, by rw [hL']; omega, by rw [hL']; omega⟩, by omega, ⟨rfl, rfl, rfl, rfl, tI⟩, rfl⟩
 · repeat' (first | refine aoQ rfl rfl rfl (fun hg => by first | exact std0 | exact std1) (by exact rfl) ?_ | refine sqW ?_ | refine rgK (fun K' hK => ?_) | (refine aoN (hK _ _ ?_); clear hK K') | refine cdN rfl tI (fun hc => ?_) (fun hc => ?_) | refine blK ?_ | refine exW ?_ | refine skW ?_ | refine rtW ?_ | refine dK2 (by decide +kernel) (by kernel_rfl) (by decide +kernel) rfl (fun K' hK => ?_) | (refine aqN (hK _ ?_); clear hK K') | refine aqQ rfl rfl (fun hg => by first | exact std0 | exact std1) (by exact rfl) ?_)
   all_goals (first | exact dd | skip)
   refine ⟨.inr rfl, Ent.b (Eq.symm ?_)⟩
   rw [hp, List.drop_eq_nil_of_le (by omega)]; rfl
set_option maxHeartbeats 16000000 in
set_option maxRecDepth 20000 in
theorem rTable_spec (a b : Score) (ha : a.Small) (hb : b.Small) : PCall Tryz.prog 52 [.agg (encS a), .agg (encS b)] (.sl 1 ((tableL (costR a b) (a.bars.length + 1) (b.bars.length + 1)).map encRow) .no) := by
 have ha1 := ha.1
 have hb1 := hb.1
 refine PCall.body Tryz.func52 rfl rfl Tryz.ntmps52 rfl rfl ?_
 repeat' (first | refine aoQ rfl rfl rfl (fun hg => by exact std0) (by exact rfl) ?_ | refine sqW ?_ | refine rgK (fun K' hK => ?_) | (refine aoN (hK _ _ ?_); clear hK K') | refine aoE (bxW rfl rfl rfl rfl rfl tI rfl rfl ?_) | refine blK ?_)
 refine AWP.ownNil (d := 5) (sz := 1) rfl ?_
 refine lpD (ι := Nat) (fun i => [(2, .ptr 0 0), (3, .ptr 1 0), (5, .sl 1 ((tableL (costR a b) i (b.bars.length + 1)).map encRow) (.own 2)), (6, .int i)]) (fun i => [.var (encS a), .var (encS b), .own 1 ((tableL (costR a b) i (b.bars.length + 1)).map encRow).length])
  (fun i => i ≤ a.bars.length + 1) (fun i => a.bars.length + 1 - i) 3 (fun _ => rfl) 0 (nZl _) ⟨rfl, rfl, rfl, rfl, tI⟩ rfl (fun _ _ => rfl) (fun _ _ => rfl) ?_
 intro i hi
 have l1 := tableL_len (costR a b) i (b.bars.length + 1)
 have et := tabE (costR a b) i (b.bars.length + 1)
 by_cases hlt : i < a.bars.length + 1
 · repeat' (first | refine aoQ rfl rfl rfl (fun hg => by first | exact std0 | exact std1) (by exact rfl) ?_ | refine sqW ?_ | refine rgK (fun K' hK => ?_) | (refine aoN (hK _ _ ?_); clear hK K') | refine cdN rfl tI (fun hc => ?_) (fun hc => ?_) | refine blK ?_ | refine exW ?_ | refine skW ?_ | refine rtW ?_)
   all_goals (first | exact dd | skip)
   refine AWP.ownNil (d := 7) (sz := 1) rfl ?_
   skip
   refine lpD (ι := Nat) (fun k => [(2, .ptr 0 0), (3, .ptr 1 0), (5, .sl 1 ((tableL (costR a b) i (b.bars.length + 1)).map encRow) (.own 2)), (6, .int i), (7, .sl 1 ((rowL (costR a b) i k).map encI) (.own 3)), (8, .int k)])
    (fun k => [.var (encS a), .var (encS b), .own 1 ((tableL (costR a b) i (b.bars.length + 1)).map encRow).length, .own 1 ((rowL (costR a b) i k).map encI).length])
    (fun k => k ≤ b.bars.length + 1) (fun k => b.bars.length + 1 - k) 4 (fun _ => rfl) 0 (nZl _) ⟨rfl, rfl, rfl, rfl, rfl, rfl, tI⟩ rfl (fun _ _ => rfl) (fun _ _ => rfl) ?_
   intro k hk
   have l2 := rowL_len (costR a b) i k
   by_cases hlk : k < b.bars.length + 1
   · have er := rowE (costR a b) i k
     have t0 := T_in a b i k
     rcases zBd i with hi0 | hi0 <;> rcases zBd k with hk0 | hk0
     · subst hi0
       subst hk0
       have tS := T_zero (c := costR a b) 0
       obtain ⟨y, hy⟩ : ∃ y, T (costR a b) 0 0 = y := ⟨_, rfl⟩
       rw [hy] at er t0
       rw [hy] at tS
       repeat' (first | refine aoQ rfl rfl rfl (fun hg => by first | exact std0 | exact (Bool.noConfusion (show false = true from hg) : PRun _ _ _ _ (.b false)) | exact pbS tabOk rfl rfl nds | exact std1) (by exact rfl) ?_ | refine sqW ?_ | refine rgK (fun K' hK => ?_) | (refine aoN (hK _ _ ?_); clear hK K') | refine aoE (apO tabOk rfl rfl rfl (by decide) (Rd.w rfl tI) rfl (Rd.w rfl tI) (.sl rfl (by first | (intro x hx; rcases zAn.1 hx with rfl; rfl) | exact one_encN _)) (LOk.of (tabOk.get rfl)) (LOk.of (tabOk.get rfl)) rfl rfl (by simp only [lLm, lLa, zA8, zAg, zAl, zAx]; omega) (by simp only [lLm, lLa, zA8, zAg, zAl, zAx]; omega) ?_) | refine cdN rfl tI (fun hc => ?_) (fun hc => ?_) | refine blK ?_ | refine exW ?_ | refine skW ?_ | refine dK2 (by decide +kernel) (by kernel_rfl) (by decide +kernel) rfl (fun K' hK => ?_) | (refine aqN (hK _ ?_); clear hK K') | refine aqQ rfl rfl (fun hg => by first | exact std0 | exact (Bool.noConfusion (show false = true from hg) : PRun _ _ _ _ (.b false)) | fail) (by exact rfl) ?_)
       all_goals (first | exact dd | skip)
       all_goals (try (rename_i h1 h2; (try simp only [zA2, zAi, zA0, zA5, zAf, dEt, dEf, zAh, zAe, beq_iff_eq, beq_eq_false_iff_ne, bne_iff_ne, bne_eq_false_iff_eq, gt_iff_lt, ge_iff_le, ne_eq] at h1); (try simp only [zA2, zAi, zA0, zA5, zAf, dEt, dEf, zAh, zAe, beq_iff_eq, beq_eq_false_iff_ne, bne_iff_ne, bne_eq_false_iff_eq, gt_iff_lt, ge_iff_le, ne_eq] at h2)))
       all_goals (try simp only [zA2, zAi, zA0, zA5, zAf, dEt, dEf, zAh, zAe, beq_iff_eq, beq_eq_false_iff_ne, bne_iff_ne, bne_eq_false_iff_eq, gt_iff_lt, ge_iff_le, ne_eq] at hc)
       all_goals (first | (obtain rfl : y = 2 * (((0 : Nat) : Int) + ((0 : Nat) : Int)) := (by omega); exact ⟨0 + 1, hlk, by omega, ⟨rfl, rfl, rfl, rfl, (by show _ = AV.sl 1 ((rowL (costR a b) 0 (0 + 1)).map encI) (.own 3); rw [er]; rfl), rfl, tI⟩, (by show _ = [_, _, _, AObj.own 1 ((rowL (costR a b) 0 (0 + 1)).map encI).length]; rw [er]; rfl)⟩))
     · subst hi0
       obtain ⟨k, rfl⟩ : ∃ j, k = j + 1 := ⟨k - 1, by omega⟩
       have tS := T_zero (c := costR a b) (k + 1)
       have tW := T_zero (c := costR a b) k
       have a2 := T_in a b 0 k
       obtain ⟨w, hw⟩ : ∃ w, T (costR a b) 0 k = w := ⟨_, rfl⟩
       have hw0 : (rowL (costR a b) 0 (k + 1)).getD ((k : Nat) : Int).toNat default = w := by rw [← hw]; exact rowL_get (by omega) _
       obtain ⟨y, hy⟩ : ∃ y, T (costR a b) 0 (k + 1) = y := ⟨_, rfl⟩
       rw [hy] at er t0
       rw [hy] at tS
       rw [hw] at tW
       rw [hw] at a2
       repeat' (first | refine aoQ rfl rfl rfl (fun hg => by first | exact PRun.eq (PRun.binW rfl rfl nd rfl nd rfl) (show AV.b (decide (((k + 1 : Nat) : Int) > 0)) = AV.b true from congrArg AV.b (decide_eq_true (by omega))) | exact iX encI (rowL (costR a b) 0 (k + 1)) ((k : Nat) : Int) hw0 (hb := by rw [l2]; omega) | exact PRun.eq (v := .int ((((k + 1 : Nat) : Int)) - 1)) (PRun.step tabOk rfl sd) (congrArg AV.int (show (((k + 1 : Nat) : Int) - 1) = ((k : Nat) : Int) by omega)) | exact std0 | exact (Bool.noConfusion (show false = true from hg) : PRun _ _ _ _ (.b false)) | exact pbS tabOk rfl rfl nds | exact std1) (by exact rfl) ?_ | refine sqW ?_ | refine rgK (fun K' hK => ?_) | (refine aoN (hK _ _ ?_); clear hK K') | refine aoE (apO tabOk rfl rfl rfl (by decide) (Rd.w rfl tI) rfl (Rd.w rfl tI) (.sl rfl (by first | (intro x hx; rcases zAn.1 hx with rfl; rfl) | exact one_encN _)) (LOk.of (tabOk.get rfl)) (LOk.of (tabOk.get rfl)) rfl rfl (by simp only [lLm, lLa, zA8, zAg, zAl, zAx]; omega) (by simp only [lLm, lLa, zA8, zAg, zAl, zAx]; omega) ?_) | refine cdN rfl tI (fun hc => ?_) (fun hc => ?_) | refine blK ?_ | refine exW ?_ | refine skW ?_ | refine dK2 (by decide +kernel) (by kernel_rfl) (by decide +kernel) rfl (fun K' hK => ?_) | (refine aqN (hK _ ?_); clear hK K') | refine aqQ rfl rfl (fun hg => by first | exact PRun.eq (PRun.binW rfl rfl nd rfl nd rfl) (show AV.b (decide (((k + 1 : Nat) : Int) > 0)) = AV.b true from congrArg AV.b (decide_eq_true (by omega))) | exact PRun.eq (v := .int ((((k + 1 : Nat) : Int)) - 1)) (PRun.step tabOk rfl sd) (congrArg AV.int (show (((k + 1 : Nat) : Int) - 1) = ((k : Nat) : Int) by omega)) | exact std0 | exact (Bool.noConfusion (show false = true from hg) : PRun _ _ _ _ (.b false)) | fail) (by exact rfl) ?_)
       all_goals (first | exact dd | skip)
       all_goals (try (rename_i h1 h2; (try simp only [zA2, zAi, zA0, zA5, zAf, dEt, dEf, zAh, zAe, beq_iff_eq, beq_eq_false_iff_ne, bne_iff_ne, bne_eq_false_iff_eq, gt_iff_lt, ge_iff_le, ne_eq] at h1); (try simp only [zA2, zAi, zA0, zA5, zAf, dEt, dEf, zAh, zAe, beq_iff_eq, beq_eq_false_iff_ne, bne_iff_ne, bne_eq_false_iff_eq, gt_iff_lt, ge_iff_le, ne_eq] at h2)))
       all_goals (try simp only [zA2, zAi, zA0, zA5, zAf, dEt, dEf, zAh, zAe, beq_iff_eq, beq_eq_false_iff_ne, bne_iff_ne, bne_eq_false_iff_eq, gt_iff_lt, ge_iff_le, ne_eq] at hc)
       all_goals (first | (obtain rfl : y = w + 2 := (by omega); exact ⟨(k + 1) + 1, hlk, by omega, ⟨rfl, rfl, rfl, rfl, (by show _ = AV.sl 1 ((rowL (costR a b) 0 ((k + 1) + 1)).map encI) (.own 3); rw [er]; rfl), rfl, tI⟩, (by show _ = [_, _, _, AObj.own 1 ((rowL (costR a b) 0 ((k + 1) + 1)).map encI).length]; rw [er]; rfl)⟩) | (obtain rfl : y = 2 * (((0 : Nat) : Int) + ((k + 1 : Nat) : Int)) := (by omega); exact ⟨(k + 1) + 1, hlk, by omega, ⟨rfl, rfl, rfl, rfl, (by show _ = AV.sl 1 ((rowL (costR a b) 0 ((k + 1) + 1)).map encI) (.own 3); rw [er]; rfl), rfl, tI⟩, (by show _ = [_, _, _, AObj.own 1 ((rowL (costR a b) 0 ((k + 1) + 1)).map encI).length]; rw [er]; rfl)⟩))
     · obtain ⟨i, rfl⟩ : ∃ j, i = j + 1 := ⟨i - 1, by omega⟩
       subst hk0
       have tS := T_left (c := costR a b) (i + 1)
       have tU := T_left (c := costR a b) i
       have a1 := T_in a b i 0
       obtain ⟨r, hr⟩ : ∃ r, rowL (costR a b) i (b.bars.length + 1) = r := ⟨_, rfl⟩
       have hr0 : (tableL (costR a b) (i + 1) (b.bars.length + 1)).getD ((i : Nat) : Int).toNat default = r := by rw [← hr]; exact tableL_get (by omega) _
       have hrl : r.length = b.bars.length + 1 := by rw [← hr]; exact rowL_len _ _ _
       obtain ⟨u, hu⟩ : ∃ u, T (costR a b) i 0 = u := ⟨_, rfl⟩
       have hu0 : r.getD ((0 : Nat) : Int).toNat default = u := by rw [← hr, ← hu]; exact rowL_get (by omega) _
       obtain ⟨y, hy⟩ : ∃ y, T (costR a b) (i + 1) 0 = y := ⟨_, rfl⟩
       rw [hy] at er t0
       rw [hy] at tS
       rw [hu] at tU
       rw [hu] at a1
       repeat' (first | refine aoQ rfl rfl rfl (fun hg => by first | exact PRun.eq (PRun.binW rfl rfl nd rfl nd rfl) (show AV.b (decide (((i + 1 : Nat) : Int) > 0)) = AV.b true from congrArg AV.b (decide_eq_true (by omega))) | exact iX encI r ((0 : Nat) : Int) hu0 (hb := by rw [hrl]; omega) | exact iX encRow (tableL (costR a b) (i + 1) (b.bars.length + 1)) ((i : Nat) : Int) hr0 (hb := by rw [l1]; omega) | exact PRun.eq (v := .int ((((i + 1 : Nat) : Int)) - 1)) (PRun.step tabOk rfl sd) (congrArg AV.int (show (((i + 1 : Nat) : Int) - 1) = ((i : Nat) : Int) by omega)) | exact std0 | exact (Bool.noConfusion (show false = true from hg) : PRun _ _ _ _ (.b false)) | exact pbS tabOk rfl rfl nds | exact std1) (by exact rfl) ?_ | refine sqW ?_ | refine rgK (fun K' hK => ?_) | (refine aoN (hK _ _ ?_); clear hK K') | refine aoE (apO tabOk rfl rfl rfl (by decide) (Rd.w rfl tI) rfl (Rd.w rfl tI) (.sl rfl (by first | (intro x hx; rcases zAn.1 hx with rfl; rfl) | exact one_encN _)) (LOk.of (tabOk.get rfl)) (LOk.of (tabOk.get rfl)) rfl rfl (by simp only [lLm, lLa, zA8, zAg, zAl, zAx]; omega) (by simp only [lLm, lLa, zA8, zAg, zAl, zAx]; omega) ?_) | refine cdN rfl tI (fun hc => ?_) (fun hc => ?_) | refine blK ?_ | refine exW ?_ | refine skW ?_ | refine dK2 (by decide +kernel) (by kernel_rfl) (by decide +kernel) rfl (fun K' hK => ?_) | (refine aqN (hK _ ?_); clear hK K') | refine aqQ rfl rfl (fun hg => by first | exact PRun.eq (PRun.binW rfl rfl nd rfl nd rfl) (show AV.b (decide (((i + 1 : Nat) : Int) > 0)) = AV.b true from congrArg AV.b (decide_eq_true (by omega))) | exact iX encRow (tableL (costR a b) (i + 1) (b.bars.length + 1)) ((i : Nat) : Int) hr0 (hb := by rw [l1]; omega) | exact PRun.eq (v := .int ((((i + 1 : Nat) : Int)) - 1)) (PRun.step tabOk rfl sd) (congrArg AV.int (show (((i + 1 : Nat) : Int) - 1) = ((i : Nat) : Int) by omega)) | exact std0 | exact (Bool.noConfusion (show false = true from hg) : PRun _ _ _ _ (.b false)) | fail) (by exact rfl) ?_)
       all_goals (first | exact dd | skip)
       all_goals (try (rename_i h1 h2; (try simp only [zA2, zAi, zA0, zA5, zAf, dEt, dEf, zAh, zAe, beq_iff_eq, beq_eq_false_iff_ne, bne_iff_ne, bne_eq_false_iff_eq, gt_iff_lt, ge_iff_le, ne_eq] at h1); (try simp only [zA2, zAi, zA0, zA5, zAf, dEt, dEf, zAh, zAe, beq_iff_eq, beq_eq_false_iff_ne, bne_iff_ne, bne_eq_false_iff_eq, gt_iff_lt, ge_iff_le, ne_eq] at h2)))
       all_goals (try simp only [zA2, zAi, zA0, zA5, zAf, dEt, dEf, zAh, zAe, beq_iff_eq, beq_eq_false_iff_ne, bne_iff_ne, bne_eq_false_iff_eq, gt_iff_lt, ge_iff_le, ne_eq] at hc)
       all_goals (first | (obtain rfl : y = u + 2 := (by omega); exact ⟨0 + 1, hlk, by omega, ⟨rfl, rfl, rfl, rfl, (by show _ = AV.sl 1 ((rowL (costR a b) (i + 1) (0 + 1)).map encI) (.own 3); rw [er]; rfl), rfl, tI⟩, (by show _ = [_, _, _, AObj.own 1 ((rowL (costR a b) (i + 1) (0 + 1)).map encI).length]; rw [er]; rfl)⟩) | (obtain rfl : y = 2 * (((i + 1 : Nat) : Int) + ((0 : Nat) : Int)) := (by omega); exact ⟨0 + 1, hlk, by omega, ⟨rfl, rfl, rfl, rfl, (by show _ = AV.sl 1 ((rowL (costR a b) (i + 1) (0 + 1)).map encI) (.own 3); rw [er]; rfl), rfl, tI⟩, (by show _ = [_, _, _, AObj.own 1 ((rowL (costR a b) (i + 1) (0 + 1)).map encI).length]; rw [er]; rfl)⟩))
     · obtain ⟨i, rfl⟩ : ∃ j, i = j + 1 := ⟨i - 1, by omega⟩
       obtain ⟨k, rfl⟩ : ∃ j, k = j + 1 := ⟨k - 1, by omega⟩
       have tS := T_succ (c := costR a b) i k
       have a1 := T_in a b i (k + 1)
       obtain ⟨r, hr⟩ : ∃ r, rowL (costR a b) i (b.bars.length + 1) = r := ⟨_, rfl⟩
       have hr0 : (tableL (costR a b) (i + 1) (b.bars.length + 1)).getD ((i : Nat) : Int).toNat default = r := by rw [← hr]; exact tableL_get (by omega) _
       have hrl : r.length = b.bars.length + 1 := by rw [← hr]; exact rowL_len _ _ _
       obtain ⟨u, hu⟩ : ∃ u, T (costR a b) i (k + 1) = u := ⟨_, rfl⟩
       have hu0 : r.getD ((k + 1 : Nat) : Int).toNat default = u := by rw [← hr, ← hu]; exact rowL_get (by omega) _
       have a2 := T_in a b (i + 1) k
       obtain ⟨w, hw⟩ : ∃ w, T (costR a b) (i + 1) k = w := ⟨_, rfl⟩
       have hw0 : (rowL (costR a b) (i + 1) (k + 1)).getD ((k : Nat) : Int).toNat default = w := by rw [← hw]; exact rowL_get (by omega) _
       have a3 := T_in a b i k
       obtain ⟨x, hx⟩ : ∃ x, T (costR a b) i k = x := ⟨_, rfl⟩
       have hx0 : r.getD ((k : Nat) : Int).toNat default = x := by rw [← hr, ← hx]; exact rowL_get (by omega) _
       have hc0 := cost12_spec a b ha hb i k (by omega) (by omega)
       have c1 := costR_in a b i k
       obtain ⟨y, hy⟩ : ∃ y, T (costR a b) (i + 1) (k + 1) = y := ⟨_, rfl⟩
       rw [hy] at er t0
       rw [hy, hu, hw, hx] at tS
       rw [hu] at a1
       rw [hw] at a2
       rw [hx] at a3
       generalize costR a b i k = C at c1 hc0 tS
       repeat' (first | refine aoQ rfl rfl rfl (fun hg => by first | exact PRun.eq (PRun.binW rfl rfl nd rfl nd rfl) (show AV.b (decide (((k + 1 : Nat) : Int) > 0)) = AV.b true from congrArg AV.b (decide_eq_true (by omega))) | exact PRun.eq (PRun.binW rfl rfl nd rfl nd rfl) (show AV.b (decide (((i + 1 : Nat) : Int) > 0)) = AV.b true from congrArg AV.b (decide_eq_true (by omega))) | exact iX encI (rowL (costR a b) (i + 1) (k + 1)) ((k : Nat) : Int) hw0 (hb := by rw [l2]; omega) | exact PRun.eq (v := .int ((((k + 1 : Nat) : Int)) - 1)) (PRun.step tabOk rfl sd) (congrArg AV.int (show (((k + 1 : Nat) : Int) - 1) = ((k : Nat) : Int) by omega)) | exact iX encI r ((k + 1 : Nat) : Int) hu0 (hb := by rw [hrl]; omega) | exact iX encRow (tableL (costR a b) (i + 1) (b.bars.length + 1)) ((i : Nat) : Int) hr0 (hb := by rw [l1]; omega) | exact PRun.eq (v := .int ((((i + 1 : Nat) : Int)) - 1)) (PRun.step tabOk rfl sd) (congrArg AV.int (show (((i + 1 : Nat) : Int) - 1) = ((i : Nat) : Int) by omega)) | exact std0 | exact pbS tabOk rfl rfl nds | exact std1) (by exact rfl) ?_ | refine sqW ?_ | refine rgK (fun K' hK => ?_) | (refine aoN (hK _ _ ?_); clear hK K') | refine aoE (apO tabOk rfl rfl rfl (by decide) (Rd.w rfl tI) rfl (Rd.w rfl tI) (.sl rfl (by first | (intro x hx; rcases zAn.1 hx with rfl; rfl) | exact one_encN _)) (LOk.of (tabOk.get rfl)) (LOk.of (tabOk.get rfl)) rfl rfl (by simp only [lLm, lLa, zA8, zAg, zAl, zAx]; omega) (by simp only [lLm, lLa, zA8, zAg, zAl, zAx]; omega) ?_) | refine cdN rfl tI (fun hc => ?_) (fun hc => ?_) | refine blK ?_ | refine exW ?_ | refine skW ?_ | refine dK2 (by decide +kernel) (by kernel_rfl) (by decide +kernel) rfl (fun K' hK => ?_) | (refine aqN (hK _ ?_); clear hK K') | refine aqQ rfl rfl (fun hg => by first | exact PRun.eq (PRun.binW rfl rfl nd rfl nd rfl) (show AV.b (decide (((k + 1 : Nat) : Int) > 0)) = AV.b true from congrArg AV.b (decide_eq_true (by omega))) | exact PRun.eq (PRun.binW rfl rfl nd rfl nd rfl) (show AV.b (decide (((i + 1 : Nat) : Int) > 0)) = AV.b true from congrArg AV.b (decide_eq_true (by omega))) | exact iX encI r ((k : Nat) : Int) hx0 (hb := by rw [hrl]; omega) | exact PRun.eq (v := .int ((((k + 1 : Nat) : Int)) - 1)) (PRun.step tabOk rfl sd) (congrArg AV.int (show (((k + 1 : Nat) : Int) - 1) = ((k : Nat) : Int) by omega)) | exact iX encRow (tableL (costR a b) (i + 1) (b.bars.length + 1)) ((i : Nat) : Int) hr0 (hb := by rw [l1]; omega) | exact PRun.eq (v := .int ((((i + 1 : Nat) : Int)) - 1)) (PRun.step tabOk rfl sd) (congrArg AV.int (show (((i + 1 : Nat) : Int) - 1) = ((i : Nat) : Int) by omega)) | exact std0 | exact pcW (hc0) rfl rfl nd rfl nds) (by exact rfl) ?_)
       all_goals (first | exact dd | skip)
       all_goals (try (rename_i h1 h2; (try simp only [zA2, zAi, zA0, zA5, zAf, dEt, dEf, zAh, zAe, beq_iff_eq, beq_eq_false_iff_ne, bne_iff_ne, bne_eq_false_iff_eq, gt_iff_lt, ge_iff_le, ne_eq] at h1); (try simp only [zA2, zAi, zA0, zA5, zAf, dEt, dEf, zAh, zAe, beq_iff_eq, beq_eq_false_iff_ne, bne_iff_ne, bne_eq_false_iff_eq, gt_iff_lt, ge_iff_le, ne_eq] at h2)))
       all_goals (try simp only [zA2, zAi, zA0, zA5, zAf, dEt, dEf, zAh, zAe, beq_iff_eq, beq_eq_false_iff_ne, bne_iff_ne, bne_eq_false_iff_eq, gt_iff_lt, ge_iff_le, ne_eq] at hc)
       all_goals (try simp only [reduceCtorEq, false_or, or_false, true_and, and_true] at h1 h2 hc)
       all_goals (try simp only [reduceCtorEq, false_or, or_false, true_and, and_true] at h1)
       all_goals (try simp only [reduceCtorEq, false_or, or_false, true_and, and_true] at h2)
       all_goals (try simp only [reduceCtorEq, false_or, or_false, true_and, and_true] at hc)
       all_goals (first | (obtain rfl : y = x + C := (by omega); exact ⟨(k + 1) + 1, hlk, by omega, ⟨rfl, rfl, rfl, rfl, (by show _ = AV.sl 1 ((rowL (costR a b) (i + 1) ((k + 1) + 1)).map encI) (.own 3); rw [er]; rfl), rfl, tI⟩, (by show _ = [_, _, _, AObj.own 1 ((rowL (costR a b) (i + 1) ((k + 1) + 1)).map encI).length]; rw [er]; rfl)⟩) | (obtain rfl : y = w + 2 := (by omega); exact ⟨(k + 1) + 1, hlk, by omega, ⟨rfl, rfl, rfl, rfl, (by show _ = AV.sl 1 ((rowL (costR a b) (i + 1) ((k + 1) + 1)).map encI) (.own 3); rw [er]; rfl), rfl, tI⟩, (by show _ = [_, _, _, AObj.own 1 ((rowL (costR a b) (i + 1) ((k + 1) + 1)).map encI).length]; rw [er]; rfl)⟩) | (obtain rfl : y = u + 2 := (by omega); exact ⟨(k + 1) + 1, hlk, by omega, ⟨rfl, rfl, rfl, rfl, (by show _ = AV.sl 1 ((rowL (costR a b) (i + 1) ((k + 1) + 1)).map encI) (.own 3); rw [er]; rfl), rfl, tI⟩, (by show _ = [_, _, _, AObj.own 1 ((rowL (costR a b) (i + 1) ((k + 1) + 1)).map encI).length]; rw [er]; rfl)⟩) | (obtain rfl : y = 2 * (((i + 1 : Nat) : Int) + ((k + 1 : Nat) : Int)) := (by omega); exact ⟨(k + 1) + 1, hlk, by omega, ⟨rfl, rfl, rfl, rfl, (by show _ = AV.sl 1 ((rowL (costR a b) (i + 1) ((k + 1) + 1)).map encI) (.own 3); rw [er]; rfl), rfl, tI⟩, (by show _ = [_, _, _, AObj.own 1 ((rowL (costR a b) (i + 1) ((k + 1) + 1)).map encI).length]; rw [er]; rfl)⟩))
   · obtain rfl : k = b.bars.length + 1 := by omega
     repeat' (first | refine aoQ rfl rfl rfl (fun hg => by first | exact std0 | exact pbS tabOk rfl rfl nds | exact std1) (by exact rfl) ?_ | refine sqW ?_ | refine rgK (fun K' hK => ?_) | (refine aoN (hK _ _ ?_); clear hK K') | refine aoE (apO tabOk rfl rfl rfl (by decide) (Rd.w rfl tI) rfl (Rd.w rfl tI) (.sl rfl (by first | (intro x hx; rcases zAn.1 hx with rfl; rfl) | exact one_encN _)) (LOk.of (tabOk.get rfl)) (LOk.of (tabOk.get rfl)) rfl rfl (by simp only [lLm, lLa, zA8, zAg, zAl, zAx]; omega) (by simp only [lLm, lLa, zA8, zAg, zAl, zAx]; omega) ?_) | refine cdN rfl tI (fun hc => ?_) (fun hc => ?_) | refine blK ?_ | refine exW ?_ | refine skW ?_ | refine dK2 (by decide +kernel) (by kernel_rfl) (by decide +kernel) rfl (fun K' hK => ?_) | refine aqQ rfl rfl (fun hg => by first | exact std0 | exact std1) (by exact rfl) ?_)
     all_goals (first | exact dd | skip)
     refine ⟨i + 1, hlt, by omega, ⟨rfl, rfl, ?_, rfl, tI⟩, ?_⟩
     · show _ = AV.sl 1 ((tableL (costR a b) (i + 1) (b.bars.length + 1)).map encRow) (.own 2)
       rw [et]; rfl
     · show _ = [_, _, AObj.own 1 ((tableL (costR a b) (i + 1) (b.bars.length + 1)).map encRow).length]
       rw [et]; rfl
 · obtain rfl : i = a.bars.length + 1 := by omega
   refine AWP.unownA 5 rfl ?_
   repeat' (first | refine aoQ rfl rfl rfl (fun hg => by first | exact std0 | exact std1) (by exact rfl) ?_ | refine sqW ?_ | refine rgK (fun K' hK => ?_) | (refine aoN (hK _ _ ?_); clear hK K') | refine cdN rfl tI (fun hc => ?_) (fun hc => ?_) | refine blK ?_ | refine exW ?_ | refine skW ?_ | refine rtW ?_)
   all_goals (first | exact dd | skip)
   exact ⟨.inr rfl, Ent.of rfl⟩
end Go.Proofs.YtekfpcgagoidcaaGreatDoor.Al
