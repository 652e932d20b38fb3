/- Contracts by content: bowing: areMarks, the bowings of a section.  Maps whose keys are triples of integers.  A slice of an array that does not change; variables that are told with less.  DERIVED: THE SHELF's CONTRACTS AT THIS DUMP, IN PLAIN WORDS (tools/lay-plain.mjs out of 'YtficfljjnbnhbaaGreatDoorShelfK.lean', which tools/lay-shelf.mjs wrote): THE SAME DECLARATIONS UNDER THE SAME NAMES: 'import', 'namespace', 'open', 'def', 'theorem' AND NOTHING ELSE: no command of the shelf's: FOR A HAND-IN. Each laying: the table of numbers ('.._ren') and one theorem, a field a fact of the dump's own or t No statement is proved here. -/
import Derived.Shelf.SlSortCmp.WholeK
import Derived.Test.YtficfljjnbnhbaaGreatDoorChecked
import Derived.Test.YtficfljjnbnhbaaGreatDoorP6
import Derived.Test.YtficfljjnbnhbaaGreatDoorP11
import Derived.Test.YtficfljjnbnhbaaGreatDoorP16
import Derived.Test.YtficfljjnbnhbaaGreatDoorP20
import Derived.Test.YtficfljjnbnhbaaGreatDoorP21
set_option linter.unusedVariables false
set_option linter.unusedSimpArgs false
namespace Go.Proofs.YtficfljjnbnhbaaGreatDoor.Bw
open Go.Ab Mk
attribute [local irreducible] AWP AOps EStep AQ PStep PRun PCall TCall VCall DStep TDies AWD DCall
def encW (s : Score) (l : List Jo.Mark) (sec : Int) : List AV := [.int s.version, .sl 4 (s.bars.map encB) .no, .sl 13 (s.parts.map encP) .no, .sl 12 (s.notes.map encN) .no, .sl 10 (l.map encMk) .no, .int sec]
def encBow (b : Bow) : List AV := [.int b.rdr.part, .int b.rdr.desk, .int b.rdr.seat, .int b.note.id, .int b.note.part, .int b.note.bar, .int b.note.voice, .int b.note.ossia, .int b.note.start.n, .int b.note.start.d, .int b.note.len.n, .int b.note.len.d, .int b.note.pitch.step, .int b.note.pitch.alter, .int b.note.pitch.oct, .int b.val]
theorem one_encBow (l : List Bow) : ∀ x ∈ l.map encBow, x.all oneAV = true := fun x hx => by
 obtain ⟨c, _, rfl⟩ := zAi.1 hx; rfl
theorem okMapB (m : Nat) (al : List (Int × Bool)) : okObj m (.map (Go.Ab.encM ekI AV.b al)) = true := by
 show (Go.Ab.encM ekI AV.b al).all (fun kv => okRef m 3 kv.2) = true
 rw [zA8]; intro x hx
 obtain ⟨p, _, rfl⟩ := zAi.1 hx
 rfl
theorem okMapI (m : Nat) (al : List (Int × Int)) : okObj m (.map (Go.Ab.encM ekI AV.int al)) = true := by
 show (Go.Ab.encM ekI AV.int al).all (fun kv => okRef m 3 kv.2) = true
 rw [zA8]; intro x hx
 obtain ⟨p, _, rfl⟩ := zAi.1 hx
 rfl
theorem findI_idP {l : List Part} (hn : (l.map fun p => p.id).Nodup) {i : Nat} (hi : i < l.length) : findI (fun x : Part => x.id == (l.getD i default).id) l = i :=
 findI_at hi (by simp) fun j hj => by
  have : (l.getD j default).id ≠ (l.getD i default).id := fun e => by
   have := nodup_at (fun p : Part => p.id) hn (show j < l.length by omega) hi e
   omega
  simpa using this
theorem part_seat {s : Score} (h : scoreOk s = true) {k : Nat} (hk : k < s.parts.length) {p : Part} (hp : s.parts.getD k default = p) : Jo.isId p.id = true ∧ p.desks ≤ 40 ∧ partI s p.id = k := by
 have h1 : partsOk s.parts = true := by
  unfold scoreOk scoreBad at h
  simp only [zA0, zAm, zAh, zAp] at h
  exact h.1.1.1.2
 obtain ⟨a, b⟩ := part_seat0 h hk hp
 exact ⟨a, b, by unfold partI; rw [← hp]; exact findI_idP (partsOk_nodup h1) hk⟩
theorem bowN_seen {s : Score} {l : List Jo.Mark} (hok : scoreOk s = true) (hm : marksOk l = true) {p : Part} {sec : Int} (hs : p.section_ = sec) {ex : List Int} {r : Jo.Rdr} {n : Note} (hn : n ∈ playedL s.notes p) {v : Int} (hv : (lk (valM (shownL (shownF s l p r) (playedL s.notes p))) n.id).getD 0 = v) :
 bowN s.version sec l ex r n = if (decide (v > 0) && !(lk (lftM ex) n.id).getD false) = true then some ⟨r, n, v⟩ else none := by
 rw [valM_seen hok hm hn, hs] at hv
 unfold bowN
 rw [hv, lftM_lk]
 by_cases h1 : 0 < v
 · by_cases h2 : n.id ∈ ex
   · rw [if_neg (fun h => h.2 h2), if_neg]; simp [h2]
   · rw [if_pos ⟨h1, h2⟩, if_pos]; simp [h1, h2]
 · rw [if_neg (fun h => h1 h.1), if_neg]; simp [h1]
def BS (s : Score) (l : List Jo.Mark) (sec : Int) (ex : List Int) (A : List Bow) : Store := [.var (encW s l sec), .map (Go.Ab.encM ekI AV.b (lftM ex)), .own 16 (A.map encBow).length]
theorem BS_ok (s : Score) (l : List Jo.Mark) (sec : Int) (ex : List Int) (A : List Bow) (m : Nat) : (BS s l sec ex A).all (okObj m) = true := by
 unfold BS; simp only [zBu, zC8, okMapB, zBm, zBl]; exact Bool.and_eq_true_iff.2 ⟨rfl, rfl⟩
set_option maxHeartbeats 32000000 in
set_option maxRecDepth 20000 in
theorem bows_spec (s : Score) (hs : s.Small) (hp : s.parts.length ≤ 100) (hn : s.notes.length ≤ 1000) (hok : scoreOk s = true) (l : List Jo.Mark) (hl : l.length ≤ 1000000) (ht : TextsIn l) (hm : marksOk l = true) (sec : Int) (ex : List Int) (hex : ex.length ≤ 1000000) :
 PCall Tryz.prog 37 [.agg (encW s l sec), .sl 1 (ex.map eI) .no] (.sl 16 ((bowsL s l sec ex).map encBow) .no) := by
 refine PCall.body Tryz.func37 rfl rfl Tryz.ntmps37 rfl rfl ?_
 repeat' (first | refine aoQ rfl rfl rfl (fun hg => by first | exact std0 | exact std1) (by exact rfl) ?_ | refine sqW ?_ | refine rgK (fun K' hK => ?_) | (refine aoN (hK _ _ ?_); clear hK K') | refine aoE (bxW rfl rfl rfl rfl rfl tI rfl rfl ?_) | refine aoE (EStep.makeMapRW tabOk rfl rfl rfl rfl rfl tI rfl ?_) | refine blK ?_)
 refine lpD (ι := Nat) (fun k => [(1, .sl 1 (ex.map eI) .no), (2, .ptr 0 0), (5, .map 1), (26, .sl 1 (ex.map eI) .no), (27, .int ex.length), (28, .int k)]) (fun k => [.var (encW s l sec), .map (Go.Ab.encM ekI AV.b (lftM (ex.take k)))])
  (fun k => k ≤ ex.length) (fun k => ex.length - k) 2 (fun _ => rfl) 0 (nZl _) ⟨rfl, rfl, rfl, rfl, rfl, rfl, tI⟩ rfl (fun _ _ => rfl) (fun k _ => by simp only [zBu, zC8, okMapB, zBm]; rfl) ?_
 intro k hk
 by_cases hlt : k < ex.length
 · obtain ⟨x, hx⟩ : ∃ x, ex.getD k default = x := ⟨_, rfl⟩
   have h1 := lftM_succ hlt
   rw [hx] at h1
   repeat' (first | refine aoQ rfl rfl rfl (fun hg => by first | exact iX eI ex ((k : Nat) : Int) hx (hb := by omega) | exact std0 | exact std1) (by exact rfl) ?_ | refine sqW ?_ | refine rgK (fun K' hK => ?_) | (refine aoN (hK _ _ ?_); clear hK K') | refine aoE (EStep.mapUpd (ek := ekI) (ev := AV.b) (v := true) (keyLaw_int (LOk.of (tabOk.get rfl))) (LOk.of (tabOk.get rfl)) rfl rfl rfl (Rd.w rfl tI) rfl (Rd.w rfl tI) rfl (Rd.w rfl tI) ?_) | refine cdN rfl tI (fun hc => ?_) (fun hc => ?_) | refine blK ?_ | refine exW ?_ | refine skW ?_)
   all_goals (first | (exfalso; omega) | skip)
   exact ⟨k + 1, hlt, by show ex.length - (k + 1) < ex.length - k; omega, ⟨rfl, rfl, rfl, rfl, rfl, rfl, tI⟩, by show _ = [_, AObj.map (Go.Ab.encM ekI AV.b (lftM (ex.take (k + 1))))]; rw [h1]; rfl⟩
 obtain rfl : k = ex.length := by omega
 rw [zAr]
 clear hlt hk
 repeat' (first | refine aoQ rfl rfl rfl (fun hg => by first | exact std0 | exact std1) (by exact rfl) ?_ | refine sqW ?_ | refine rgK (fun K' hK => ?_) | (refine aoN (hK _ _ ?_); clear hK K') | refine cdN rfl tI (fun hc => ?_) (fun hc => ?_) | refine blK ?_ | refine exW ?_ | refine skW ?_)
 all_goals (first | (exfalso; omega) | skip)
 refine AWP.ownNil (d := 8) (sz := 16) rfl ?_
 refine lpD (ι := Nat) (fun i => [(2, .ptr 0 0), (5, .map 1), (8, .sl 16 ((bowsOf s l sec ex (((s.parts.take i).filter fun p => p.section_ == sec).flatMap (seatsP s))).map encBow) (.own 2)), (37, .sl 13 (s.parts.map encP) .no), (38, .int s.parts.length), (39, .int i)])
  (fun i => BS s l sec ex (bowsOf s l sec ex (((s.parts.take i).filter fun p => p.section_ == sec).flatMap (seatsP s))))
  (fun i => i ≤ s.parts.length ∧ (bowsOf s l sec ex (((s.parts.take i).filter fun p => p.section_ == sec).flatMap (seatsP s))).length ≤ 40000 * i) (fun i => s.parts.length - i) 3 (fun _ => rfl) 0 ⟨nZl _, nZl _⟩ ⟨rfl, rfl, rfl, rfl, rfl, rfl, tI⟩ rfl (fun _ _ => rfl) (fun i _ => BS_ok _ _ _ _ _ _) ?_
 rintro i ⟨hi, hA⟩
 by_cases hlt : i < s.parts.length
 · obtain ⟨p, hpp⟩ : ∃ p, s.parts.getD i default = p := ⟨_, rfl⟩
   obtain ⟨p1, p2, p3⟩ := part_seat hok hlt hpp
   have htk : s.parts.take (i + 1) = s.parts.take i ++ [p] := by rw [takeS' hlt, hpp]
   by_cases hse : p.section_ = sec
   · have hnx : bowsOf s l sec ex (((s.parts.take (i + 1)).filter fun p => p.section_ == sec).flatMap (seatsP s)) = bowsOf s l sec ex (((s.parts.take i).filter fun p => p.section_ == sec).flatMap (seatsP s)) ++ bowsOf s l sec ex (seatsP s p) := by
      rw [htk, zBa, zB3 (by simpa using hse), zC2, bowsOf_append]
      congr 1
      show bowsOf s l sec ex (List.flatMap (seatsP s) [p]) = _
      simp
     generalize bowsOf s l sec ex (((s.parts.take i).filter fun p => p.section_ == sec).flatMap (seatsP s)) = A at *
     have pl := plays_spec s hs p.id
     rw [playsR_yes hok p3 hpp] at pl
     obtain ⟨ns, hns⟩ : ∃ ns, playedL s.notes p = ns := ⟨_, rfl⟩
     have hnl : ns.length ≤ 1000 := by
      rw [← hns]; unfold playedL; rw [lLm]; exact zBb (zB2 _ _) hn
     have hnm : ∀ n ∈ ns, n ∈ playedL s.notes p := fun n h => by rw [hns]; exact h
     have hsd : ∀ d, seatsD s p d = ns.map fun n => (rdrOf p d, n) := fun d => by unfold seatsD; rw [hns]
     rw [hns] at pl
     have hne : (p.section_ != sec) = false := by rw [hse]; simp
     repeat' (first | refine aoQ rfl rfl rfl (fun hg => by first | exact iX encP s.parts ((i : Nat) : Int) hpp (hb := by omega) | exact std0 | exact pcW (pl) rfl rfl nd rfl nds) (by exact rfl) ?_ | refine sqW ?_ | refine rgK (fun K' hK => ?_) | (refine aoN (hK _ _ ?_); clear hK K') | refine aoE (stW tabOk rfl rfl rfl tI rfl rfl tI rfl rfl rfl rfl rfl rfl rfl ?_) | refine aoE (alW tabOk rfl rfl rfl rfl rfl rfl ?_) | refine cdN rfl tI (fun hc => ?_) (fun hc => ?_) | refine blK ?_ | refine exW ?_ | refine skW ?_ | refine rtW ?_)
     all_goals (first | (exfalso; omega) | (exact absurd (hne.symm.trans hc) (by decide)) | skip)
     clear pl
     refine lpD (ι := Nat) (fun d => [(2, .ptr 0 0), (5, .map 1), (8, .sl 16 ((A ++ bowsOf s l sec ex ((List.range d).flatMap (seatsD s p))).map encBow) (.own 2)), (10, .ptr 3 0), (11, .sl 12 (ns.map encN) .no), (13, .int ((d : Int) + 1)), (37, .sl 13 (s.parts.map encP) .no), (38, .int s.parts.length), (39, .int i)])
      (fun d => BS s l sec ex (A ++ bowsOf s l sec ex ((List.range d).flatMap (seatsD s p))) ++ [.var (encP p)])
      (fun d => d ≤ p.desks.toNat ∧ (bowsOf s l sec ex ((List.range d).flatMap (seatsD s p))).length ≤ 1000 * d) (fun d => p.desks.toNat - d) 4 (fun _ => rfl) 0 ⟨nZl _, nZl _⟩ ⟨rfl, rfl, (by simp [bowsOf]; try rfl), rfl, rfl, rfl, rfl, rfl, rfl, tI⟩ (by simp [bowsOf]; try rfl) (fun _ _ => rfl) (fun d _ => by rw [zCi, BS_ok]; rfl) ?_
     rintro d ⟨hd, hD⟩
     by_cases hdl : d < p.desks.toNat
     · have hnd : bowsOf s l sec ex ((List.range (d + 1)).flatMap (seatsD s p)) = bowsOf s l sec ex ((List.range d).flatMap (seatsD s p)) ++ bowsOf s l sec ex (ns.map fun n => (rdrOf p d, n)) := by
        rw [zDo, zC2, bowsOf_append]
        congr 1
        show bowsOf s l sec ex (List.flatMap (seatsD s p) [d]) = _
        rw [← hsd]; simp
       generalize bowsOf s l sec ex ((List.range d).flatMap (seatsD s p)) = D at *
       have hrd : Jo.isRdr (rdrOf p d) = true := by
        unfold Jo.isRdr rdrOf
        rw [p1]; unfold Jo.inR; simp; omega
       have sh := shown_spec s hs (by omega) l (by omega) ht (rdrOf p d)
       rw [shownR_yes hok hm hrd (k := i) p3 hpp (by show ¬ p.desks < (d : Int) + 1; omega), hns] at sh
       have hbn := fun n (h : n ∈ ns) v hv => bowN_seen (ex := ex) (r := rdrOf p d) (v := v) hok hm hse (hnm n h) hv
       rw [hns] at hbn
       have hxl := shownL_len (shownF s l p (rdrOf p d)) ns
       obtain ⟨x, hx⟩ : ∃ x, shownL (shownF s l p (rdrOf p d)) ns = x := ⟨_, rfl⟩
       rw [hx] at sh hbn hxl
       repeat' (first | refine aoQ rfl rfl rfl (fun hg => by first | exact std0 | exact pbD tabOk rfl rfl nds | exact pcW (sh) rfl rfl nd rfl nds | exact std1) (by exact rfl) ?_ | refine sqW ?_ | refine rgK (fun K' hK => ?_) | (refine aoN (hK _ _ ?_); clear hK K') | refine aoE (stW tabOk rfl rfl rfl tI rfl rfl tI rfl rfl rfl rfl rfl rfl rfl ?_) | refine aoE (alW tabOk rfl rfl rfl rfl rfl rfl ?_) | refine aoE (EStep.makeMapW rfl rfl rfl rfl ?_) | refine cdN rfl tI (fun hc => ?_) (fun hc => ?_) | refine blK ?_ | refine exW ?_ | refine skW ?_)
       all_goals (first | (exfalso; omega) | skip)
       clear sh hx
       refine lpD (ι := Nat) (fun k => [(2, .ptr 0 0), (5, .map 1), (8, .sl 16 ((A ++ D).map encBow) (.own 2)), (10, .ptr 3 0), (11, .sl 12 (ns.map encN) .no), (13, .int ((d : Int) + 1)), (14, .ptr 4 0), (17, .map 5), (37, .sl 13 (s.parts.map encP) .no), (38, .int s.parts.length), (39, .int i), (76, .sl 10 (x.map encMk) .no), (77, .int x.length), (78, .int k)])
        (fun k => BS s l sec ex (A ++ D) ++ [.var (encP p), .var (encRd (rdrOf p d)), .map (Go.Ab.encM ekI AV.int (valM (x.take k)))])
        (fun k => k ≤ x.length) (fun k => x.length - k) 6 (fun _ => rfl) 0 (nZl _) ⟨rfl, rfl, rfl, rfl, rfl, rfl, rfl, rfl, rfl, rfl, rfl, rfl, rfl, rfl, tI⟩ rfl (fun _ _ => rfl) (fun k _ => by rw [zCi, BS_ok]; simp only [zBu, zC8, okMapI, zBm]; rfl) ?_
       intro k hk
       by_cases hkl : k < x.length
       · obtain ⟨m, hmm⟩ : ∃ m, x.getD k default = m := ⟨_, rfl⟩
         have hy := valM_yes hkl hmm
         have hno := valM_no hkl hmm
         generalize valM (x.take k) = al at *
         by_cases hkd : m.kind = 1
         · have hbe : (m.kind == 1) = true := by simpa using hkd
           repeat' (first | refine aoQ rfl rfl rfl (fun hg => by first | exact iX encMk x ((k : Nat) : Int) hmm (hb := by omega) | exact std0 | exact std1) (by exact rfl) ?_ | refine sqW ?_ | refine rgK (fun K' hK => ?_) | (refine aoN (hK _ _ ?_); clear hK K') | refine aoE (stW tabOk rfl rfl rfl tI rfl rfl tI rfl rfl rfl rfl rfl rfl rfl ?_) | refine aoE (alW tabOk rfl rfl rfl rfl rfl rfl ?_) | refine aoE (EStep.mapUpd (l := 5) (ek := ekI) (ev := AV.int) (v := m.value) (keyLaw_int (LOk.of (tabOk.get rfl))) (LOk.of (tabOk.get rfl)) rfl rfl rfl (Rd.w rfl tI) rfl (Rd.w rfl tI) rfl (Rd.w rfl tI) ?_) | refine cdN rfl tI (fun hc => ?_) (fun hc => ?_) | refine blK ?_ | refine exW ?_ | refine skW ?_)
           all_goals (first | (exfalso; omega) | (exact absurd (hbe.symm.trans hc) (by decide)) | skip)
           exact ⟨k + 1, hkl, by show x.length - (k + 1) < x.length - k; omega, ⟨rfl, rfl, rfl, rfl, rfl, rfl, rfl, rfl, rfl, rfl, rfl, rfl, rfl, rfl, tI⟩, by rw [hy hkd]; rfl⟩
         · have hbe : (m.kind == 1) = false := by simpa using hkd
           repeat' (first | refine aoQ rfl rfl rfl (fun hg => by first | exact iX encMk x ((k : Nat) : Int) hmm (hb := by omega) | exact std0 | exact std1) (by exact rfl) ?_ | refine sqW ?_ | refine rgK (fun K' hK => ?_) | (refine aoN (hK _ _ ?_); clear hK K') | refine aoE (stW tabOk rfl rfl rfl tI rfl rfl tI rfl rfl rfl rfl rfl rfl rfl ?_) | refine aoE (alW tabOk rfl rfl rfl rfl rfl rfl ?_) | refine cdN rfl tI (fun hc => ?_) (fun hc => ?_) | refine blK ?_ | refine exW ?_ | refine skW ?_)
           all_goals (first | (exfalso; omega) | (exact absurd (hbe.symm.trans hc) (by decide)) | skip)
           exact ⟨k + 1, hkl, by show x.length - (k + 1) < x.length - k; omega, ⟨rfl, rfl, rfl, rfl, rfl, rfl, rfl, rfl, rfl, rfl, rfl, rfl, rfl, rfl, tI⟩, by rw [hno hkd]; rfl⟩
       · obtain rfl : k = x.length := by omega
         rw [zAr]
         generalize valM x = al at *
         clear hk hkl
         repeat' (first | refine aoQ rfl rfl rfl (fun hg => by first | exact std0 | exact std1) (by exact rfl) ?_ | refine sqW ?_ | refine rgK (fun K' hK => ?_) | (refine aoN (hK _ _ ?_); clear hK K') | refine aoE (stW tabOk rfl rfl rfl tI rfl rfl tI rfl rfl rfl rfl rfl rfl rfl ?_) | refine aoE (alW tabOk rfl rfl rfl rfl rfl rfl ?_) | refine cdN rfl tI (fun hc => ?_) (fun hc => ?_) | refine blK ?_ | refine exW ?_ | refine skW ?_)
         all_goals (first | (exfalso; omega) | skip)
         refine lpD (ι := Nat) (fun k => [(2, .ptr 0 0), (5, .map 1), (8, .sl 16 ((A ++ D ++ bowsOf s l sec ex ((ns.take k).map fun n => (rdrOf p d, n))).map encBow) (.own 2)), (10, .ptr 3 0), (11, .sl 12 (ns.map encN) .no), (13, .int ((d : Int) + 1)), (14, .ptr 4 0), (17, .map 5), (37, .sl 13 (s.parts.map encP) .no), (38, .int s.parts.length), (39, .int i), (91, .sl 12 (ns.map encN) .no), (92, .int ns.length), (93, .int k)])
          (fun k => BS s l sec ex (A ++ D ++ bowsOf s l sec ex ((ns.take k).map fun n => (rdrOf p d, n))) ++ [.var (encP p), .var (encRd (rdrOf p d)), .map (Go.Ab.encM ekI AV.int al)])
          (fun k => k ≤ ns.length) (fun k => ns.length - k) 6 (fun _ => rfl) 0 (nZl _) ⟨rfl, rfl, (by simp [bowsOf]; try rfl), rfl, rfl, rfl, rfl, rfl, rfl, rfl, rfl, rfl, rfl, rfl, tI⟩ (by simp [bowsOf]; try rfl) (fun _ _ => rfl) (fun k _ => by rw [zCi, BS_ok]; simp only [zBu, zC8, okMapI, zBm]; rfl) ?_
         intro k hk
         have hlB := bowsOf_len s l sec ex ((ns.take k).map fun n => (rdrOf p d, n))
         rw [lLm, zAc] at hlB
         by_cases hkl : k < ns.length
         · obtain ⟨n, hnn⟩ : ∃ n, ns.getD k default = n := ⟨_, rfl⟩
           obtain ⟨v, hv⟩ : ∃ v, (lk al n.id).getD 0 = v := ⟨_, rfl⟩
           have hb := hbn n (by rw [← hnn]; exact getD_mem hkl) v hv
           have hst : bowsOf s l sec ex ((ns.take (k + 1)).map fun n => (rdrOf p d, n)) = bowsOf s l sec ex ((ns.take k).map fun n => (rdrOf p d, n)) ++ (bowN s.version sec l ex (rdrOf p d) n).toList := by
            rw [takeS' hkl, hnn, zAe, bowsOf_append]
            congr 1
            all_goals (unfold bowsOf; cases h9 : bowN s.version sec l ex (rdrOf p d) n <;> simp [h9])
           generalize bowsOf s l sec ex ((ns.take k).map fun n => (rdrOf p d, n)) = B at *
           have hAD : (A ++ D).length ≤ 40000 * i + 1000 * d := by rw [lLa]; omega
           generalize A ++ D = C at *
           repeat' (first | refine aoQ rfl rfl rfl (fun hg => by first | exact PRun.eq (v := AV.int ((lk al n.id).getD 0)) (PRun.lookup (ok := false) (ek := ekI) (ev := AV.int) (zv := 0) (keyLaw_int (LOk.of (tabOk.get rfl))) (LOk.of (tabOk.get rfl)) (LOk.of (tabOk.get rfl)) rfl rfl (Rd.w rfl nd) (Or.inr ⟨_, rfl, rfl⟩) (Rd.w rfl nd) rfl) (congrArg AV.int hv) | exact iX encN ns ((k : Nat) : Int) hnn (hb := by omega) | exact std0 | exact PRun.lookup (ek := ekI) (ev := AV.b) (zv := false) (keyLaw_int (LOk.of (tabOk.get rfl))) (LOk.of (tabOk.get rfl)) (LOk.of (tabOk.get rfl)) rfl rfl (Rd.w rfl nd) (Or.inr ⟨_, rfl, rfl⟩) (Rd.w rfl nd) rfl | exact pbD tabOk rfl rfl nds | exact pbS tabOk rfl rfl nds) (by exact rfl) ?_ | refine sqW ?_ | refine rgK (fun K' hK => ?_) | (refine aoN (hK _ _ ?_); clear hK K') | refine aoE (stW tabOk rfl rfl rfl tI rfl rfl tI rfl rfl rfl rfl rfl rfl rfl ?_) | refine aoE (alW tabOk rfl rfl rfl rfl rfl rfl ?_) | refine aoE (apO tabOk rfl rfl rfl (by decide) (Rd.w rfl tI) rfl (Rd.w rfl tI) (.sl rfl (by first | (intro x hx; rcases zAl.1 hx with rfl; rfl) | exact one_encBow [⟨rdrOf p d, n, v⟩])) (LOk.of (tabOk.get rfl)) (LOk.of (tabOk.get rfl)) rfl rfl (by simp only [lLm, lLa, zA5, zAb, zAc, zAx]; omega) (by simp only [lLm, lLa, zA5, zAb, zAc, zAx]; omega) ?_) | refine cdN rfl tI (fun hc => ?_) (fun hc => ?_) | refine blK ?_ | refine exW ?_ | refine skW ?_)
           all_goals (first | (exfalso; omega) | skip)
           · have hb2 := hb.trans (if_pos hc)
             rw [hb2] at hst
             have e1 : (C ++ bowsOf s l sec ex ((ns.take (k + 1)).map fun n => (rdrOf p d, n))).map encBow = (C ++ B).map encBow ++ [encBow ⟨rdrOf p d, n, v⟩] := by rw [hst, ← zAt, zAe]; rfl
             exact ⟨k + 1, hkl, by show ns.length - (k + 1) < ns.length - k; omega, ⟨rfl, rfl, (by rw [e1]; rfl), rfl, rfl, rfl, rfl, rfl, rfl, rfl, rfl, rfl, rfl, rfl, tI⟩, (by unfold BS; rw [e1]; rfl)⟩
           · have hb2 := hb.trans (if_neg (by rw [hc]; decide))
             rw [hb2] at hst
             have e1 : bowsOf s l sec ex ((ns.take (k + 1)).map fun n => (rdrOf p d, n)) = B := by rw [hst]; simp
             exact ⟨k + 1, hkl, by show ns.length - (k + 1) < ns.length - k; omega, ⟨rfl, rfl, (by rw [e1]; rfl), rfl, rfl, rfl, rfl, rfl, rfl, rfl, rfl, rfl, rfl, rfl, tI⟩, (by rw [e1]; rfl)⟩
         · obtain rfl : k = ns.length := by omega
           rw [zAr]
           have hlB2 := bowsOf_len s l sec ex (ns.map fun n => (rdrOf p d, n))
           rw [lLm] at hlB2
           generalize bowsOf s l sec ex (ns.map fun n => (rdrOf p d, n)) = B at *
           repeat' (first | refine aoQ rfl rfl rfl (fun hg => by first | exact std0 | exact std1) (by exact rfl) ?_ | refine sqW ?_ | refine rgK (fun K' hK => ?_) | (refine aoN (hK _ _ ?_); clear hK K') | refine aoE (stW tabOk rfl rfl rfl tI rfl rfl tI rfl rfl rfl rfl rfl rfl rfl ?_) | refine aoE (alW tabOk rfl rfl rfl rfl rfl rfl ?_) | refine cdN rfl tI (fun hc => ?_) (fun hc => ?_) | refine blK ?_ | refine exW ?_ | refine skW ?_)
           all_goals (first | (exfalso; omega) | skip)
           refine ⟨d + 1, ⟨hdl, by rw [hnd, lLa]; omega⟩, by show p.desks.toNat - (d + 1) < p.desks.toNat - d; omega, ⟨rfl, rfl, ?_, rfl, rfl, rfl, rfl, rfl, rfl, tI⟩, ?_⟩
           · rw [hnd, ← zAt]; rfl
           · rw [hnd, ← zAt]; rfl
     · obtain rfl : d = p.desks.toNat := by omega
       have hall : bowsOf s l sec ex ((List.range p.desks.toNat).flatMap (seatsD s p)) = bowsOf s l sec ex (seatsP s p) := rfl
       rw [hall] at hD ⊢
       generalize bowsOf s l sec ex (seatsP s p) = D at *
       repeat' (first | refine aoQ rfl rfl rfl (fun hg => by exact std0) (by exact rfl) ?_ | refine sqW ?_ | refine rgK (fun K' hK => ?_) | (refine aoN (hK _ _ ?_); clear hK K') | refine cdN rfl tI (fun hc => ?_) (fun hc => ?_) | refine blK ?_ | refine exW ?_ | refine skW ?_)
       all_goals (first | (exfalso; omega) | skip)
       refine ⟨i + 1, ⟨hlt, by rw [hnx, lLa]; omega⟩, by show s.parts.length - (i + 1) < s.parts.length - i; omega, ⟨rfl, rfl, ?_, rfl, rfl, rfl, tI⟩, ?_⟩
       · rw [hnx]; rfl
       · rw [hnx]; rfl
   · have hnx : bowsOf s l sec ex (((s.parts.take (i + 1)).filter fun p => p.section_ == sec).flatMap (seatsP s)) = bowsOf s l sec ex (((s.parts.take i).filter fun p => p.section_ == sec).flatMap (seatsP s)) := by
      rw [htk, zBa, zB8 (by simpa using hse)]; simp
     generalize bowsOf s l sec ex (((s.parts.take i).filter fun p => p.section_ == sec).flatMap (seatsP s)) = A at *
     have hne : (p.section_ != sec) = true := by simpa using hse
     repeat' (first | refine aoQ rfl rfl rfl (fun hg => by first | exact iX encP s.parts ((i : Nat) : Int) hpp (hb := by omega) | exact std0) (by exact rfl) ?_ | refine sqW ?_ | refine rgK (fun K' hK => ?_) | (refine aoN (hK _ _ ?_); clear hK K') | refine aoE (stW tabOk rfl rfl rfl tI rfl rfl tI rfl rfl rfl rfl rfl rfl rfl ?_) | refine aoE (alW tabOk rfl rfl rfl rfl rfl rfl ?_) | refine cdN rfl tI (fun hc => ?_) (fun hc => ?_) | refine blK ?_ | refine exW ?_ | refine skW ?_ | refine rtW ?_)
     all_goals (first | (exfalso; omega) | (exact absurd (hne.symm.trans hc) (by decide)) | skip)
     refine ⟨i + 1, ⟨hlt, by rw [hnx]; omega⟩, by show s.parts.length - (i + 1) < s.parts.length - i; omega, ⟨rfl, rfl, ?_, rfl, rfl, rfl, tI⟩, ?_⟩
     · rw [hnx]; rfl
     · rw [hnx]; rfl
 · obtain rfl : i = s.parts.length := by omega
   have hall : bowsOf s l sec ex (((s.parts.take s.parts.length).filter fun p => p.section_ == sec).flatMap (seatsP s)) = bowsL s l sec ex := by rw [zAr]; rfl
   rw [hall]
   repeat' (first | refine aoQ rfl rfl rfl (fun hg => by first | exact std0 | exact std1) (by exact rfl) ?_ | refine sqW ?_ | refine rgK (fun K' hK => ?_) | (refine aoN (hK _ _ ?_); clear hK K') | refine aoE (stW tabOk rfl rfl rfl tI rfl rfl tI rfl rfl rfl rfl rfl rfl rfl ?_) | refine aoE (alW tabOk rfl rfl rfl rfl rfl rfl ?_) | refine cdN rfl tI (fun hc => ?_) (fun hc => ?_) | refine blK ?_ | refine exW ?_ | refine skW ?_ | refine rtW ?_)
   all_goals (first | (exfalso; omega) | skip)
   exact ⟨.inr rfl, Ent.of rfl⟩
end Go.Proofs.YtficfljjnbnhbaaGreatDoor.Bw
namespace Go.Ab
def ekT (p : Int × Int × Int) : Value := .agg #[.int .i64 p.1, .int .i64 p.2.1, .int .i64 p.2.2]
theorem keyLaw_triple {P : Program} {kt e : TypeId} (hk : P.underlying kt = some (.array 3 e)) (he : P.underlying e = some (.int .i64)) (hfe : flatT P 7 e = some [.int .i64]) (hf : flatT P 8 kt = some [.int .i64, .int .i64, .int .i64]) : KeyLaw P kt ekT where
 check w em k := by
  have hv : ∀ a : Value, valT P e [a] = a := fun a => by simp [valT, he, ltOf, LT.isAgg]
  have p0 := run_part hfe #[.int .i64 k.1, .int .i64 k.2.1, .int .i64 k.2.2] 0 (by simp) w
  have p1 := run_part hfe #[.int .i64 k.1, .int .i64 k.2.1, .int .i64 k.2.2] 1 (by simp) w
  have p2 := run_part hfe #[.int .i64 k.1, .int .i64 k.2.1, .int .i64 k.2.2] 2 (by simp) w
  have q0 : (List.take [LT.int IntKind.i64].length (List.drop 0 (#[Value.int .i64 k.1, Value.int .i64 k.2.1, Value.int .i64 k.2.2]).toList)) = [.int .i64 k.1] := rfl
  have q1 : (List.take [LT.int IntKind.i64].length (List.drop 1 (#[Value.int .i64 k.1, Value.int .i64 k.2.1, Value.int .i64 k.2.2]).toList)) = [.int .i64 k.2.1] := rfl
  have q2 : (List.take [LT.int IntKind.i64].length (List.drop 2 (#[Value.int .i64 k.1, Value.int .i64 k.2.1, Value.int .i64 k.2.2]).toList)) = [.int .i64 k.2.2] := rfl
  rw [q0, hv] at p0
  rw [q1, hv] at p1
  rw [q2, hv] at p2
  obtain ⟨_, i2, hu2, hi2, hs2, _⟩ := flatT_info hfe
  have hz : (sizeOf e).run P w = .ok 1 w := by simp [sizeOf, typeInfo, hi2, hs2]
  have c : ∀ a, (Instr.checkKey em 9999 e (.int .i64 a)).run P w = .ok () w := fun a => by
   show (Instr.checkKey em (9998 + 1) e (.int .i64 a)).run P w = _
   rw [Instr.checkKey, Sem.run_bind, run_underlying he w]; rfl
  show (Instr.checkKey em (9999 + 1) kt (ekT k)).run P w = _
  unfold ekT
  rw [Instr.checkKey, Sem.run_bind, run_underlying hk w]
  simp only [Result.andThen_ok]
  simp only [Std.Legacy.Range.forIn_eq_forIn_range', Std.Legacy.Range.size]
  simp [List.range', Sem.run_bind, hz, p0, p1, p2, c, Result.andThen]
 find w k es ks h := by
  have heq : ∀ a b (w : World), (Op.equal kt (ekT a) (ekT b)).run P w = .ok (decide (b = a)) w := fun a b w => by
   have e := run_eqT w 8 kt _ hf 10000 (by decide) [.int .i64 a.1, .int .i64 a.2.1, .int .i64 a.2.2] [.int .i64 b.1, .int .i64 b.2.1, .int .i64 b.2.2] (decide (b = a)) (by
    obtain ⟨a1, a2, a3⟩ := a
    obtain ⟨b1, b2, b3⟩ := b
    have e1 : eqLs [LT.int IntKind.i64, LT.int IntKind.i64, LT.int IntKind.i64] [.int .i64 a1, .int .i64 a2, .int .i64 a3] [.int .i64 b1, .int .i64 b2, .int .i64 b3] = some (a1 == b1 && (a2 == b2 && (a3 == b3 && true))) := by simp [eqLs, eqV]
    rw [e1]
    congr 1
    rw [zAs]; simp
    exact ⟨fun ⟨h1, h2, h3⟩ => ⟨h1.symm, h2.symm, h3.symm⟩, fun ⟨h1, h2, h3⟩ => ⟨h1.symm, h2.symm, h3.symm⟩⟩)
   have hv : ∀ z : List Value, valT P kt z = .agg z.toArray := fun z => by simp [valT, hk, ltOf, LT.isAgg]
   rw [hv, hv] at e
   exact e
  unfold Instr.findKey
  rw [Sem.run_bind, run_underlying hk w]
  simp only [Result.andThen_ok]
  match es, ks, h with
  | [], [], _ => rfl
  | [], _ :: _, h => simp at h
  | _ :: _, [], h => simp at h
  | e0 :: es, x :: ks, h =>
    have hn : Instr.findNow (.array 3 e) (ekT k) (e0 :: es) 0 = none := rfl
    rw [hn]
    have := findAsking_find heq w k (e0 :: es) (x :: ks) 0 h
    simpa using this
 stays w k := by
  unfold Instr.keyThatStays
  have : Instr.sameBits 10000 (ekT k) (ekT k) = true := by
   show Instr.sameBits (9999 + 1) (ekT k) (ekT k) = true
   simp [Instr.sameBits, ekT]
  rw [if_pos this]; rfl
theorem PRun.sliceI {P : Program} {o : Oper} {env : Env} {σ : Store} {T : Tab} {cs : List AV} (hT : T.Ok P) {t e : TypeId} {x : Operand} {m s1 b1 : Nat} {z : List Z} {le : LI} (ho : o.op = .slice t x none none none) (hx : rdv env x = some (.iptr cs)) (nx : rdn env x)
 (hl : T.get t = some ⟨.arr m e, s1, b1, z⟩) (he : T.get e = some le) (h1 : le.size = 1) (hm : cs.length = m) (hpos : 0 < m) : PRun P o env σ (.sl 1 (cs.map fun c => [c]) .no) :=
 .of fun G A w hs hv => by
  have hX := rd (Rd.w hx nx) (by simp [ho, Op.operands]) hv
  generalize hA : A.eval x = v at hX
  cases hX with
  | iptr _ b off f hm' hr =>
    have hle := LOk.of (hT.get he)
    have hla := LOk.of (hT.get hl)
    refine ⟨.slice (some ⟨b, off, none⟩) m m, ?_, ?_⟩
    · simp only [execOp, ho, hA, Instr.sliceAt, Instr.sliceBounds]
      have hm0 : ¬ m = 0 := by omega
      simp [hla.arr w, hle.run_size w, Instr.sureAddr, hm0, Addr.add]
    · have e1 : (cs.map fun c => [c]).length = m := by rw [zBv]; exact hm
      rw [← e1]
      refine .sl 1 _ .no b off _ (fun i j => f i) (fun e he => ?_) (fun i j hi hj => ?_) (fun i j e c hi hj => ?_) (zAw _) trivial
      · obtain ⟨c, _, rfl⟩ := zAi.1 he; rfl
      · rw [zBv] at hi
        have := hm' i hi
        rw [← this]; congr 1; omega
      · rw [zAa] at hi
        cases hc : cs[i]? with
        | none => rw [hc] at hi; cases hi
        | some c' =>
          rw [hc] at hi
          cases hi
          match j, hj with
          | 0, hj => cases hj; exact hr _ _ hc
          | j + 1, hj => cases hj
theorem AWP.varWeak {P : Program} {n : Nat} {c : Code} {K : Exit → Env → Store → Prop} {env : Env} {σ : Store} (l : Nat) {cs cs' : List AV} (hσ : σ[l]? = some (.var cs)) (hl : cs'.length = cs.length)
 (he : ∀ (i : Nat) u v, cs[i]? = some u → cs'[i]? = some v → ∀ M B x, VRel M B u x → VRel M B v x) (hk : AWP P n c K env (σ.set l (.var cs'))) : AWP P n c K env σ := by
 intro G a w hr
 exact hk G a w ⟨hr.size, hr.defers, hr.vals, SRel.retell (o' := .var cs') hr.st hσ fun g _ h => by
  cases h with
  | var b _ c T fr hb hf hl2 hr2 hm =>
    refine .var b cs' c T fr hb hf (hl2.trans hl.symm) (fun i a hi => ?_) hm
    have hlt : i < cs.length := by
     rw [← hl]; exact (zAf.1 hi).1
    exact he i _ a (zA7 hlt) hi _ _ _ (hr2 i _ (zA7 hlt))⟩
theorem PRun.lookupB {P : Program} {o : Oper} {env : Env} {σ : Store} {κ α : Type} [DecidableEq κ] {ek : κ → Value} {ev : α → AV} {t kt et : TypeId} {m x : Operand} {al : List (κ × α)} {key : κ} {zv : α} {uk um : AV} {ok : Bool} {s1 b1 : Nat} {z : List Z} {le : LI} {r : Option α} (h : lk al key = r)
 (K : KeyLaw P kt ek) (hl : LOk P t ⟨.map kt et, s1, b1, z⟩) (he : LOk P et le) (hz : zeroAV le = ev zv) (ho : o.op = .lookup t m x ok) (hm : Rd env m um)
 (hum : um = .imap (encM ek ev al) ∨ ∃ l, um = .map l ∧ σ[l]? = some (.map (encM ek ev al)))
 (hx : Rd env x uk) (hex : exactV uk = some (ek key)) : PRun P o env σ (if ok then .tup [ev (r.getD zv), .b r.isSome] else ev (r.getD zv)) := h ▸ PRun.lookup K hl he hz ho hm hum hx hex
end Go.Ab
/-
 DERIVED: THE SHELF's CONTRACTS AT THIS DUMP, IN PLAIN WORDS (tools/lay-plain.mjs out of 'YtficfljjnbnhbaaGreatDoorShelfK.lean', which tools/lay-shelf.mjs wrote): THE SAME DECLARATIONS UNDER THE SAME NAMES: 'import', 'namespace', 'open', 'def', 'theorem' AND NOTHING ELSE: no command of the shelf's: FOR A HAND-IN. Each laying: the table of numbers ('.._ren') and one theorem, a field a fact of the dump's own or the kernel's comparison; each contract: ONE APPLICATION.
-/
namespace Go.Proofs
open Go.Shelf
def Tryz.sortKey_ren : Go.Shelf.Ren := ⟨fun | 6 => 39 | 15 => 85 | 14 => 84 | 28 => 129 | 29 => 130 | 20 => 121 | 21 => 122 | 22 => 123 | 23 => 124 | 24 => 125 | 25 => 126 | 26 => 127 | 27 => 128 | 46 => 162 | 47 => 163 | 48 => 164 | 49 => 165 | 50 => 166 | 57 => 181 | n => n, fun | 22 => 83 | 24 => 88 | 25 => 93 | 3 => 3 | 39 => 139 | 0 => 0 | 53 => 173 | 55 => 175 | 4 => 4 | 46 => 167 | 45 => 166 | 50 => 147 | 5 => 5 | 9 => 9 | 66 => 191 | 70 => 195 | 76 => 209 | 77 => 210 | n => n, fun | n => n⟩
theorem Tryz.sortKey : Go.Proofs.SlLaysF0.n6 Tryz.prog Tryz.sortKey_ren := {
 mixed := by kernel_rfl
 f6 := ⟨Tryz.f39.name, by decide, Tryz.func39.trans (congrArg some (by kernel_rfl))⟩
 f14 := ⟨Tryz.f84.name, by decide, Tryz.func84.trans (congrArg some (by kernel_rfl))⟩
 f15 := Tryz.func85.trans (congrArg some (by kernel_rfl))
 f20 := ⟨Tryz.f121.name, by decide, Tryz.func121.trans (congrArg some (by kernel_rfl))⟩
 f21 := ⟨Tryz.f122.name, by decide, Tryz.func122.trans (congrArg some (by kernel_rfl))⟩
 f22 := ⟨Tryz.f123.name, by decide, Tryz.func123.trans (congrArg some (by kernel_rfl))⟩
 f23 := ⟨Tryz.f124.name, by decide, Tryz.func124.trans (congrArg some (by kernel_rfl))⟩
 f24 := ⟨Tryz.f125.name, by decide, Tryz.func125.trans (congrArg some (by kernel_rfl))⟩
 f25 := ⟨Tryz.f126.name, by decide, Tryz.func126.trans (congrArg some (by kernel_rfl))⟩
 f26 := ⟨Tryz.f127.name, by decide, Tryz.func127.trans (congrArg some (by kernel_rfl))⟩
 f27 := ⟨Tryz.f128.name, by decide, Tryz.func128.trans (congrArg some (by kernel_rfl))⟩
 f28 := Tryz.func129.trans (congrArg some (by kernel_rfl))
 f29 := Tryz.func130.trans (congrArg some (by kernel_rfl))
 f46 := ⟨Tryz.f162.name, by decide, Tryz.func162.trans (congrArg some (by kernel_rfl))⟩
 f47 := Tryz.func163.trans (congrArg some (by kernel_rfl))
 f48 := Tryz.func164.trans (congrArg some (by kernel_rfl))
 f49 := ⟨Tryz.f165.name, by decide, Tryz.func165.trans (congrArg some (by kernel_rfl))⟩
 f50 := ⟨Tryz.f166.name, by decide, Tryz.func166.trans (congrArg some (by kernel_rfl))⟩
 f57 := ⟨Tryz.f181.name, by decide, Tryz.func181.trans (congrArg some (by kernel_rfl))⟩
 t0 := Tryz.underlying0
 a0 := Tryz.isAgg0
 z0 := Tryz.sizeOf0
 v0 := Tryz.zeroValue0
 t3 := Tryz.underlying3
 a3 := Tryz.isAgg3
 z3 := Tryz.sizeOf3
 v3 := Tryz.zeroValue3
 t4 := Tryz.underlying4
 a4 := Tryz.isAgg4
 z4 := Tryz.sizeOf4
 v4 := Tryz.zeroValue4
 t5 := Tryz.underlying5
 a5 := Tryz.isAgg5
 z5 := Tryz.sizeOf5
 v5 := Tryz.zeroValue5
 t9 := Tryz.underlying9
 a9 := Tryz.isAgg9
 z9 := Tryz.sizeOf9
 v9 := Tryz.zeroValue9
 t22 := Tryz.underlying83
 a22 := Tryz.isAgg83
 z22 := Tryz.sizeOf83
 v22 := Tryz.zeroValue83
 t25 := Tryz.underlying93
 a25 := Tryz.isAgg93
 z25 := Tryz.sizeOf93
 v25 := Tryz.zeroValue93
 t39 := Tryz.underlying139
 a39 := Tryz.isAgg139
 z39 := Tryz.sizeOf139
 v39 := Tryz.zeroValue139
 t45 := Tryz.underlying166
 a45 := Tryz.isAgg166
 z45 := Tryz.sizeOf166
 v45 := Tryz.zeroValue166
 t46 := Tryz.underlying167
 a46 := Tryz.isAgg167
 z46 := Tryz.sizeOf167
 v46 := Tryz.zeroValue167
 t50 := Tryz.underlying147
 a50 := Tryz.isAgg147
 z50 := Tryz.sizeOf147
 v50 := Tryz.zeroValue147
 t53 := Tryz.underlying173
 a53 := Tryz.isAgg173
 z53 := Tryz.sizeOf173
 v53 := Tryz.zeroValue173
 t55 := Tryz.underlying175
 a55 := Tryz.isAgg175
 z55 := Tryz.sizeOf175
 v55 := Tryz.zeroValue175
 t66 := Tryz.underlying191
 a66 := Tryz.isAgg191
 z66 := Tryz.sizeOf191
 v66 := Tryz.zeroValue191
 t70 := Tryz.underlying195
 a70 := Tryz.isAgg195
 z70 := Tryz.sizeOf195
 v70 := Tryz.zeroValue195
 t76 := Tryz.underlying209
 a76 := Tryz.isAgg209
 z76 := Tryz.sizeOf209
 v76 := Tryz.zeroValue209
 t77 := Tryz.underlying210
 a77 := Tryz.isAgg210
 z77 := Tryz.sizeOf210
 v77 := Tryz.zeroValue210 }
end Go.Proofs
namespace Go.Proofs.YtficfljjnbnhbaaGreatDoor.Bw
open Go.Ab Mk
abbrev GB3 := List (K3 × (List Bow × Nat))
theorem ins_none {κ α : Type} [DecidableEq κ] {k : κ} (v : α) : ∀ {al : List (κ × α)}, lk al k = none → ins al k v = al ++ [(k, v)]
 | [], _ => rfl
 | (x, y) :: r, h => by
   simp only [lk] at h
   split at h
   · cases h
   · rename_i hne
     simp only [ins]
     rw [if_neg hne, ins_none v h]; rfl
theorem ins_at {κ α : Type} [DecidableEq κ] {k : κ} (v : α) {w : α} : ∀ {al : List (κ × α)} {j : Nat}, (al.map (·.1)).Nodup → al[j]? = some (k, w) → ins al k v = al.set j (k, v)
 | [], j, _, h => by cases h
 | (x, y) :: r, 0, _, h => by
   simp at h
   simp only [ins]
   rw [if_pos h.1, h.1]; rfl
 | (x, y) :: r, j + 1, hn, h => by
   rw [zAz, zCb] at hn
   have h2 : r[j]? = some (k, w) := by simpa using h
   have hne : x ≠ k := by
    rintro rfl
    exact hn.1 (zAi.2 ⟨_, zAg h2, rfl⟩)
   simp only [ins]
   rw [if_neg hne, ins_at v hn.2 h2]; rfl
theorem lk_at {κ α : Type} [DecidableEq κ] {k : κ} {w : α} : ∀ {al : List (κ × α)} {j : Nat}, (al.map (·.1)).Nodup → al[j]? = some (k, w) → lk al k = some w
 | [], j, _, h => by cases h
 | (x, y) :: r, 0, _, h => by
   simp at h
   simp only [lk]
   rw [if_pos h.1, h.2]
 | (x, y) :: r, j + 1, hn, h => by
   rw [zAz, zCb] at hn
   have h2 : r[j]? = some (k, w) := by simpa using h
   have hne : x ≠ k := by
    rintro rfl
    exact hn.1 (zAi.2 ⟨_, zAg h2, rfl⟩)
   simp only [lk]
   rw [if_neg hne]; exact lk_at hn.2 h2
theorem lk_some_at {κ α : Type} [DecidableEq κ] {k : κ} {w : α} : ∀ {al : List (κ × α)}, lk al k = some w → ∃ j : Nat, al[j]? = some (k, w)
 | [], h => by cases h
 | (x, y) :: r, h => by
   simp only [lk] at h
   split at h
   · rename_i e
     cases h
     exact ⟨0, by simp [e]⟩
   · obtain ⟨j, hj⟩ := lk_some_at h
     exact ⟨j + 1, by simpa using hj⟩
theorem lk_none_at {κ α : Type} [DecidableEq κ] {k : κ} : ∀ {al : List (κ × α)}, lk al k = none → k ∉ al.map (·.1)
 | [], _ => by simp
 | (x, y) :: r, h => by
   simp only [lk] at h
   split at h
   · cases h
   · rename_i hne
     rw [zAz, zB7]
     rintro (e | e)
     · exact hne e.symm
     · exact lk_none_at h e
theorem nodup_idx {β : Type} {l : List β} (h : l.Nodup) {i j : Nat} (hi : i < l.length) (hj : j < l.length) (e : l[i] = l[j]) : i = j := by
 have hp := zC1.1 h
 rcases Nat.lt_trichotomy i j with g | g | g
 · exact absurd e (hp i j hi hj g)
 · exact g
 · exact absurd e.symm (hp j i hj hi g)
def entB (al : GB3) (k : K3) : List Bow × Nat := (lk al k).getD ([], al.length)
def addB (key : Note → K3) (al : GB3) (b : Bow) : GB3 := ins al (key b.note) ((entB al (key b.note)).1 ++ [b], (entB al (key b.note)).2)
structure GOk (key : Note → K3) (bs : List Bow) (al : GB3) : Prop where
 nd : (al.map (·.1)).Nodup
 idx : ∀ (j : Nat) p, al[j]? = some p → p.2.2 = j
 grp : ∀ p ∈ al, p.2.1 = grp key bs p.1 ∧ p.2.1 ≠ []
 all : ∀ b ∈ bs, key b.note ∈ al.map (·.1)
 len : al.length ≤ bs.length
theorem GOk.nil (key : Note → K3) : GOk key [] [] := ⟨zCx, fun j p h => (by cases h), fun p h => (by cases h), fun b h => (by cases h), nLr _⟩
theorem grp_snoc (key : Note → K3) (bs : List Bow) (b : Bow) (k : K3) : grp key (bs ++ [b]) k = if key b.note = k then grp key bs k ++ [b] else grp key bs k := by
 unfold Bw.grp
 rw [zBa]
 split
 · rename_i h; rw [zB3 (by simpa using h)]; rfl
 · rename_i h; rw [zB8 (by simpa using h)]; simp
theorem grp_nil {key : Note → K3} {bs : List Bow} {k : K3} (h : ∀ b ∈ bs, key b.note ≠ k) : grp key bs k = [] := by
 unfold Bw.grp
 rw [List.filter_eq_nil_iff]
 intro b hb
 simpa using h b hb
theorem GOk.new {key : Note → K3} {bs : List Bow} {al : GB3} (h : GOk key bs al) {b : Bow} (hn : lk al (key b.note) = none) : addB key al b = al ++ [(key b.note, ([b], al.length))] ∧ GOk key (bs ++ [b]) (addB key al b) := by
 have hno := lk_none_at hn
 have e : addB key al b = al ++ [(key b.note, ([b], al.length))] := by
  unfold addB entB
  rw [hn, ins_none _ hn]; rfl
 refine ⟨e, ?_⟩
 rw [e]
 refine ⟨?_, fun j p hj => ?_, fun p hp => ?_, fun c hc => ?_, ?_⟩
 · rw [zAe, zBx]
   exact ⟨h.nd, by simp, fun a ha c hc e2 => by
    simp only [zAz, zD9, zAl] at hc
    subst e2; subst hc; exact hno ha⟩
 · rcases nLg j al.length with g | g
   · rw [zA3 g] at hj; exact h.idx j p hj
   · rw [zA4 g] at hj
     have : j - al.length = 0 := by
      rcases zBk (j - al.length) with g2 | g2
      · exact g2
      · rw [zA2 (by simp; omega)] at hj; cases hj
     rw [this] at hj
     cases hj
     show al.length = j
     omega
 · rcases zB5.1 hp with hp | hp
   · obtain ⟨h1, h2⟩ := h.grp p hp
     have hne : key b.note ≠ p.1 := fun e2 => hno (by rw [e2]; exact zAi.2 ⟨p, hp, rfl⟩)
     rw [grp_snoc, if_neg hne]; exact ⟨h1, h2⟩
   · rw [zAl] at hp
     subst hp
     rw [grp_snoc, if_pos rfl, grp_nil fun c hc (e2 : key c.note = key b.note) => hno (by rw [← e2]; exact h.all c hc)]
     exact ⟨rfl, by simp⟩
 · rw [zAe, zB5]
   rcases zB5.1 hc with hc | hc
   · exact .inl (h.all c hc)
   · rw [zAl] at hc
     subst hc; exact .inr (by simp)
 · have := h.len
   simp only [lLa, zA5, zAb]; omega
theorem GOk.old {key : Note → K3} {bs : List Bow} {al : GB3} (h : GOk key bs al) {b : Bow} {g : List Bow} {j : Nat} (hs : lk al (key b.note) = some (g, j)) :
 al[j]? = some (key b.note, (g, j)) ∧ addB key al b = al.set j (key b.note, (g ++ [b], j)) ∧ GOk key (bs ++ [b]) (addB key al b) := by
 obtain ⟨i, hi⟩ := lk_some_at hs
 have hij : j = i := h.idx i _ hi
 subst hij
 have e : addB key al b = al.set j (key b.note, (g ++ [b], j)) := by
  unfold addB entB
  rw [hs, ins_at _ h.nd hi]; rfl
 refine ⟨hi, e, ?_⟩
 have hjl : j < al.length := (zAf.1 hi).1
 have hk : (al.set j (key b.note, (g ++ [b], j))).map (·.1) = al.map (·.1) := by
  rw [List.map_set]
  refine zCf fun i => ?_
  by_cases hij : j = i
  · subst hij
    rw [zAd (by rw [lLm]; exact hjl), zAa, hi]; rfl
  · rw [zAk hij]
 rw [e]
 refine ⟨by rw [hk]; exact h.nd, fun i p hp => ?_, fun p hp => ?_, fun c hc => ?_, by rw [zDp, lLa]; have := h.len; omega⟩
 · by_cases hij : j = i
   · subst hij
     rw [zAd hjl] at hp
     cases hp; rfl
   · rw [zAk hij] at hp
     exact h.idx i p hp
 · obtain ⟨i, hp2⟩ := List.mem_iff_getElem?.1 hp
   by_cases hij : j = i
   · subst hij
     rw [zAd hjl] at hp2
     cases hp2
     have h1 := (h.grp _ (zAg hi)).1
     rw [grp_snoc, if_pos rfl]
     exact ⟨by show g ++ [b] = _; rw [show g = _ from h1], by simp⟩
   · rw [zAk hij] at hp2
     obtain ⟨h1, h2⟩ := h.grp p (zAg hp2)
     have hne : key b.note ≠ p.1 := fun e2 => by
      have hi2 : i < al.length := (zAf.1 hp2).1
      have := nodup_idx h.nd (i := j) (j := i) (by rw [lLm]; exact hjl) (by rw [lLm]; exact hi2) (by
       rw [zCo, zCo, (zAf.1 hi).2, (zAf.1 hp2).2]; exact e2)
      exact hij this
     rw [grp_snoc, if_neg hne]; exact ⟨h1, h2⟩
 · rw [hk]
   rcases zB5.1 hc with hc | hc
   · exact h.all c hc
   · rw [zAl] at hc
     subst hc
     exact zAi.2 ⟨_, zAg hi, rfl⟩
def lenB (al : GB3) (j : Nat) : Nat := match al[j]? with | some p => p.2.1.length | none => 0
def objZ (sz : Nat) (f : Nat → Nat) (N : Nat) : Store := (List.range N).map fun j => .own sz (f j)
theorem objZ_at {sz N j : Nat} {f : Nat → Nat} (h : j < N) : (objZ sz f N)[j]? = some (.own sz (f j)) := by
 unfold objZ; rw [zAa, List.getElem?_range h]; rfl
theorem objZ_set {sz N j m : Nat} {f : Nat → Nat} (h : j < N) : (objZ sz f N).set j (.own sz m) = objZ sz (fun i => if i = j then m else f i) N := by
 unfold objZ
 refine zCf fun i => ?_
 by_cases hij : j = i
 · subst hij
   rw [zAd (by simpa using h), zAa, List.getElem?_range h]
   simp
 · rw [zAk hij, zAa, zAa]
   rcases nLg i N with g | g
   · rw [List.getElem?_range g]; simp [Ne.symm hij]
   · rw [zA2 (by simpa using g)]; rfl
theorem objZ_len (sz N : Nat) (f : Nat → Nat) : (objZ sz f N).length = N := by simp [objZ]
theorem lenB_new {key : Note → K3} {bs : List Bow} {al : GB3} (h : GOk key bs al) {b : Bow} (hn : lk al (key b.note) = none) : lenB (addB key al b) = fun i => if i = al.length then 1 else lenB al i := by
 rw [(h.new hn).1]
 funext i
 unfold lenB
 by_cases hi : i = al.length
 · subst hi; simp
 · rw [if_neg hi]
   rcases nLg i al.length with g | g
   · rw [zA3 g]
   · rw [zA2 (by simp; omega), zA2 g]
theorem lenB_old {key : Note → K3} {bs : List Bow} {al : GB3} (h : GOk key bs al) {b : Bow} {g : List Bow} {j : Nat} (hs : lk al (key b.note) = some (g, j)) : lenB (addB key al b) = fun i => if i = j then g.length + 1 else lenB al i := by
 obtain ⟨h1, h2, _⟩ := h.old hs
 have hjl : j < al.length := (zAf.1 h1).1
 rw [h2]
 funext i
 unfold lenB
 by_cases hi : i = j
 · subst hi; rw [zAd hjl]; simp
 · rw [if_neg hi, zAk (Ne.symm hi)]
def grpsL (key : Note → K3) (bs : List Bow) : GB3 := bs.foldl (addB key) []
theorem grps_snoc (key : Note → K3) (bs : List Bow) (b : Bow) : grpsL key (bs ++ [b]) = addB key (grpsL key bs) b := by unfold grpsL; rw [zC7]; rfl
theorem grps_ok (key : Note → K3) (bs : List Bow) : ∀ k, k ≤ bs.length → GOk key (bs.take k) (grpsL key (bs.take k))
 | 0, _ => GOk.nil key
 | k + 1, h => by
   have ih := grps_ok key bs k (by omega)
   obtain ⟨b, hb⟩ : ∃ b, bs.getD k default = b := ⟨_, rfl⟩
   have e : bs.take (k + 1) = bs.take k ++ [b] := by rw [zBt, ← hb]; simp [List.getD, show k < bs.length by omega]
   rw [e, grps_snoc]
   cases hl : lk (grpsL key (bs.take k)) (key b.note) with
   | none => exact (ih.new hl).2
   | some p => obtain ⟨g, j⟩ := p; exact (ih.old hl).2.2
theorem grps_all (key : Note → K3) (bs : List Bow) : GOk key bs (grpsL key bs) := by
 have := grps_ok key bs bs.length (nLr _)
 rwa [zAr] at this
theorem grps_keys {key : Note → K3} {bs : List Bow} {ks : List K3} (hp : ks.Perm ((grpsL key bs).map (·.1))) (hs : ks.Pairwise fun a b => lt3 b a = false) : ks = keysB key bs := by
 have h := grps_all key bs
 have hnd : ks.Nodup := hp.nodup_iff.2 h.nd
 refine ord3_uniq ?_ (kinds_ord key _) fun k => ?_
 · refine (hs.and hnd).imp fun {a b} hab => ?_
   rcases lt3_total hab.2 with g | g
   · exact g
   · rw [hab.1] at g; cases g
 · rw [hp.mem_iff]
   show _ ↔ k ∈ keysB key bs
   rw [keysB_mem]
   constructor
   · intro hk
     obtain ⟨p, hp2, rfl⟩ := zAi.1 hk
     obtain ⟨h1, h2⟩ := h.grp p hp2
     cases hg : p.2.1 with
     | nil => exact absurd hg h2
     | cons b r =>
       have : b ∈ grp key bs p.1 := by rw [← h1, hg]; exact zAo ..
       exact ⟨b, (mem_grp.1 this).1, (mem_grp.1 this).2⟩
   · rintro ⟨b, hb, rfl⟩
     exact h.all b hb
theorem grps_lk {key : Note → K3} {bs : List Bow} {k : K3} (hk : k ∈ keysB key bs) : ∃ j, lk (grpsL key bs) k = some (grp key bs k, j) := by
 have h := grps_all key bs
 obtain ⟨b, hb, rfl⟩ := (keysB_mem key bs k).1 hk
 obtain ⟨p, hp, e⟩ := zAi.1 (h.all b hb)
 obtain ⟨j, hj⟩ := List.mem_iff_getElem?.1 hp
 obtain ⟨k', g, i⟩ := p
 have e : k' = key b.note := e
 subst e
 have h1 := (h.grp _ hp).1
 exact ⟨i, by rw [lk_at h.nd hj, show g = _ from h1]⟩
end Go.Proofs.YtficfljjnbnhbaaGreatDoor.Bw
