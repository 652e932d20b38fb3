/- Contracts by content: the reference of bowing: bowings, kinds.  Rules that Align needs: entries of maps, variables that are made again and again, what is told in weaker words.  Rules: a middle state between two codes, appends whatever the token, calls that are lent arrays. No statement is proved here. -/
import Derived.Test.YtficfljjnbnhbaaGreatDoorP23
import Derived.Test.YtficfljjnbnhbaaGreatDoorP24
import Derived.Test.YtficfljjnbnhbaaGreatDoorP25
set_option linter.unusedVariables false
set_option linter.unusedSimpArgs false
namespace Go.Proofs.YtficfljjnbnhbaaGreatDoor.Bw
open Go.Ab Go.Sort Mk
attribute [local irreducible] AWP AOps EStep AQ PStep PRun PCall TCall VCall DStep TDies AWD DCall
theorem oct_in {s : Score} (h : scoreOk s = true) : octIn s.notes := fun n hn => by
 have h1 : notesOk s.bars s.notes = true := by
  unfold scoreOk scoreBad at h
  simp only [zA0, zAm, zAh, zAp] at h
  exact h.1.1.2
 have h2 : noteOk s.bars n = true := by
  unfold notesOk at h1
  simp only [zA0, zA8] at h1
  exact h1.1.2 n hn
 unfold noteOk at h2
 split at h2
 · unfold nformed noteForm noteP pitchOk inB at h2
   simp only [zA0, dEt] at h2
   omega
 · cases h2
theorem part_oct {s : Score} (h : scoreOk s = true) {k : Nat} (hk : k < s.parts.length) {p : Part} (hp : s.parts.getD k default = p) : -1000 ≤ p.octave ∧ p.octave ≤ 1000 := by
 have h1 : partsOk s.parts = true := by
  unfold scoreOk scoreBad at h
  simp only [zA0, zAm, zAh, zAp] at h
  exact h.1.1.1.2
 have h2 := partsOk_all h1 p (by rw [← hp]; exact getD_mem hk)
 unfold partOk partBad partNums inB at h2
 simp only [zA0, zAm, zAh, zAp, dEt] at h2
 omega
theorem bowN_best (v sec : Int) (l : List Jo.Mark) (ex : List Int) (r : Jo.Rdr) (n : Note) {b : Int} (hb : bestN (okFor v n.id 1 sec r) l l.length = b) :
 bowN v sec l ex r n = if (decide (b < 0) || hasI ex n.id) = true then none else if decide ((l.getD b.toNat default).value > 0) = true then some ⟨r, n, (l.getD b.toNat default).value⟩ else none := by
 have h1 := bestM_N (okFor v n.id 1 sec r) l
 rw [hb] at h1
 have h2 : hasI ex n.id = decide (n.id ∈ ex) := by rw [zAs, hasI_iff, decide_eq_true_iff]
 unfold bowN valB
 rw [h1, h2]
 by_cases hn : b < 0
 · rw [if_pos hn]
   have h0 : ¬ ((0 : Int) < 0 ∧ n.id ∉ ex) := fun h => by omega
   rw [if_neg h0, if_pos (by simp [hn])]
 · rw [if_neg hn]
   dsimp only
   by_cases hx : n.id ∈ ex
   · rw [if_neg (fun h => h.2 hx), if_pos (by simp [hx])]
   · have hcond : ¬ ((decide (b < 0) || decide (n.id ∈ ex)) = true) := by simp [hn, hx]
     rw [if_neg hcond]
     by_cases hv : 0 < (l.getD b.toNat default).value
     · rw [if_pos ⟨hv, hx⟩, if_pos (decide_eq_true hv)]
     · rw [if_neg (fun h => hv h.1), if_neg (fun h => hv (of_decide_eq_true h))]
set_option maxHeartbeats 32000000 in
set_option maxRecDepth 20000 in
theorem rBows_spec (s : Score) (hp : s.parts.length ≤ 100) (hn : s.notes.length ≤ 1000) (hok : scoreOk s = true) (l : List Jo.Mark) (hl : l.length ≤ 1000000) (sec : Int) (ex : List Int) (hex : ex.length ≤ 1000000) :
 PCall Tryz.prog 44 [.agg (encS s), .sl 10 (l.map encMk) .no, .int sec, .sl 1 (ex.map eI) .no] (.sl 16 ((bowsL s l sec ex).map encBow) .no) := by
 refine PCall.body Tryz.func44 rfl rfl Tryz.ntmps44 rfl rfl ?_
 repeat' (first | refine aoQ rfl rfl rfl (fun hg => by first | exact std0 | exact std1) (by exact rfl) ?_ | refine sqW ?_ | refine rgK (fun K' hK => ?_) | (refine aoN (hK _ _ ?_); clear hK K') | refine aoE (bxW rfl rfl rfl rfl rfl tI rfl rfl ?_) | refine aoE (stW tabOk rfl rfl rfl tI rfl rfl tI rfl rfl rfl rfl rfl rfl rfl ?_) | refine aoE (alW tabOk rfl rfl rfl rfl rfl rfl ?_) | refine cdN rfl tI (fun hc => ?_) (fun hc => ?_) | refine blK ?_ | refine exW ?_ | refine skW ?_ | refine rtW ?_ | refine dK2 (by decide +kernel) (by kernel_rfl) (by decide +kernel) rfl (fun K' hK => ?_) | refine dL2 (by kernel_rfl) (by decide +kernel) rfl (fun K' hK => ?_) | (refine aqN (hK _ ?_); clear hK K') | refine aqN ?_ | refine aqQ rfl rfl (fun hg => by first | exact std0 | exact std1) (by exact rfl) ?_)
 refine AWP.ownNil (d := 9) (sz := 16) rfl ?_
 refine lpD (ι := Nat) (fun i => [(1, .sl 10 (l.map encMk) .no), (2, .int sec), (3, .sl 1 (ex.map eI) .no), (4, .ptr 0 0), (9, .sl 16 ((bowsOf s l sec ex (((s.parts.take i).filter fun p => p.section_ == sec).flatMap (seatsP s))).map encBow) (.own 1)), (10, .int i)])
  (fun i => [.var (encS s), .own 16 ((bowsOf s l sec ex (((s.parts.take i).filter fun p => p.section_ == sec).flatMap (seatsP s))).map encBow).length])
  (fun i => i ≤ s.parts.length ∧ (bowsOf s l sec ex (((s.parts.take i).filter fun p => p.section_ == sec).flatMap (seatsP s))).length ≤ 40000 * i) (fun i => s.parts.length - i) 2 (fun _ => rfl) 0 ⟨nZl _, nZl _⟩ ⟨rfl, rfl, rfl, rfl, rfl, rfl, tI⟩ rfl (fun _ _ => rfl) (fun _ _ => rfl) ?_
 rintro i ⟨hi, hA⟩
 by_cases hlt : i < s.parts.length
 · obtain ⟨p, hpp⟩ : ∃ p, s.parts.getD i default = p := ⟨_, rfl⟩
   obtain ⟨p1, p2, p3⟩ := part_seat hok hlt hpp
   have htk : s.parts.take (i + 1) = s.parts.take i ++ [p] := by rw [takeS' hlt, hpp]
   by_cases hse : p.section_ = sec
   · have hnx : bowsOf s l sec ex (((s.parts.take (i + 1)).filter fun p => p.section_ == sec).flatMap (seatsP s)) = bowsOf s l sec ex (((s.parts.take i).filter fun p => p.section_ == sec).flatMap (seatsP s)) ++ bowsOf s l sec ex (seatsP s p) := by
      rw [htk, zBa, zB3 (by simpa using hse), zC2, bowsOf_append]
      congr 1
      show bowsOf s l sec ex (List.flatMap (seatsP s) [p]) = _
      simp
     generalize bowsOf s l sec ex (((s.parts.take i).filter fun p => p.section_ == sec).flatMap (seatsP s)) = A at *
     have pl := played8_spec s p (by omega) (oct_in hok) (part_oct hok hlt hpp)
     obtain ⟨ns, hns⟩ : ∃ ns, playedL s.notes p = ns := ⟨_, rfl⟩
     have hnl : ns.length ≤ 1000 := by
      rw [← hns]; unfold playedL; rw [lLm]; exact zBb (zB2 _ _) hn
     have hsd : ∀ d, seatsD s p d = ns.map fun n => (rdrOf p d, n) := fun d => by unfold seatsD; rw [hns]
     rw [hns] at pl
     have hne : (p.section_ != sec) = false := by rw [hse]; simp
     repeat' (first | refine aoQ rfl rfl rfl (fun hg => by first | exact iX encP s.parts ((i : Nat) : Int) hpp (hb := by omega) | exact std0 | exact pcW (pl) rfl rfl nd rfl nds | exact std1) (by exact rfl) ?_ | refine sqW ?_ | refine rgK (fun K' hK => ?_) | (refine aoN (hK _ _ ?_); clear hK K') | refine aoE (bxW rfl rfl rfl rfl rfl tI rfl rfl ?_) | refine aoE (stW tabOk rfl rfl rfl tI rfl rfl tI rfl rfl rfl rfl rfl rfl rfl ?_) | refine aoE (alW tabOk rfl rfl rfl rfl rfl rfl ?_) | refine cdN rfl tI (fun hc => ?_) (fun hc => ?_) | refine blK ?_ | refine exW ?_ | refine skW ?_ | refine rtW ?_ | refine dK2 (by decide +kernel) (by kernel_rfl) (by decide +kernel) rfl (fun K' hK => ?_) | refine dL2 (by kernel_rfl) (by decide +kernel) rfl (fun K' hK => ?_) | (refine aqN (hK _ ?_); clear hK K') | refine aqN ?_ | refine aqQ rfl rfl (fun hg => by first | exact iX encP s.parts ((i : Nat) : Int) hpp (hb := by omega) | exact std0 | exact pcW (pl) rfl rfl nd rfl nds | exact std1) (by exact rfl) ?_)
     all_goals (first | (exfalso; omega) | (exact absurd (hne.symm.trans hc) (by decide)) | skip)
     clear pl
     refine lpD (ι := Nat) (fun d => [(1, .sl 10 (l.map encMk) .no), (2, .int sec), (3, .sl 1 (ex.map eI) .no), (4, .ptr 0 0), (9, .sl 16 ((A ++ bowsOf s l sec ex ((List.range d).flatMap (seatsD s p))).map encBow) (.own 1)), (10, .int i), (11, .ptr 2 0), (12, .sl 12 (ns.map encN) .no), (13, .int ((d : Int) + 1))])
      (fun d => [.var (encS s), .own 16 ((A ++ bowsOf s l sec ex ((List.range d).flatMap (seatsD s p))).map encBow).length, .var (encP p)])
      (fun d => d ≤ p.desks.toNat ∧ (bowsOf s l sec ex ((List.range d).flatMap (seatsD s p))).length ≤ 1000 * d) (fun d => p.desks.toNat - d) 3 (fun _ => rfl) 0 ⟨nZl _, nZl _⟩ ⟨rfl, rfl, rfl, rfl, (by simp [bowsOf]; try rfl), rfl, rfl, rfl, rfl, tI⟩ (by simp [bowsOf]; try rfl) (fun _ _ => rfl) (fun _ _ => rfl) ?_
     rintro d ⟨hd, hD⟩
     by_cases hdl : d < p.desks.toNat
     · have hnd : bowsOf s l sec ex ((List.range (d + 1)).flatMap (seatsD s p)) = bowsOf s l sec ex ((List.range d).flatMap (seatsD s p)) ++ bowsOf s l sec ex (ns.map fun n => (rdrOf p d, n)) := by
        rw [zDo, zC2, bowsOf_append]
        congr 1
        show bowsOf s l sec ex (List.flatMap (seatsD s p) [d]) = _
        rw [← hsd]; simp
       generalize bowsOf s l sec ex ((List.range d).flatMap (seatsD s p)) = D at *
       repeat' (first | refine aoQ rfl rfl rfl (fun hg => by first | exact std0 | exact pbD tabOk rfl rfl nds | exact std1) (by exact rfl) ?_ | refine sqW ?_ | refine rgK (fun K' hK => ?_) | (refine aoN (hK _ _ ?_); clear hK K') | refine aoE (bxW rfl rfl rfl rfl rfl tI rfl rfl ?_) | refine aoE (stW tabOk rfl rfl rfl tI rfl rfl tI rfl rfl rfl rfl rfl rfl rfl ?_) | refine aoE (alW tabOk rfl rfl rfl rfl rfl rfl ?_) | refine cdN rfl tI (fun hc => ?_) (fun hc => ?_) | refine blK ?_ | refine exW ?_ | refine skW ?_ | refine rtW ?_ | refine dK2 (by decide +kernel) (by kernel_rfl) (by decide +kernel) rfl (fun K' hK => ?_) | refine dL2 (by kernel_rfl) (by decide +kernel) rfl (fun K' hK => ?_) | (refine aqN (hK _ ?_); clear hK K') | refine aqN ?_ | refine aqQ rfl rfl (fun hg => by first | exact std0 | exact pbD tabOk rfl rfl nds | exact std1) (by exact rfl) ?_)
       all_goals (first | (exfalso; omega) | skip)
       refine lpD (ι := Nat) (fun k => [(1, .sl 10 (l.map encMk) .no), (2, .int sec), (3, .sl 1 (ex.map eI) .no), (4, .ptr 0 0), (9, .sl 16 ((A ++ D ++ bowsOf s l sec ex ((ns.take k).map fun n => (rdrOf p d, n))).map encBow) (.own 1)), (10, .int i), (11, .ptr 2 0), (12, .sl 12 (ns.map encN) .no), (13, .int ((d : Int) + 1)), (14, .ptr 3 0), (15, .int k)])
        (fun k => [.var (encS s), .own 16 ((A ++ D ++ bowsOf s l sec ex ((ns.take k).map fun n => (rdrOf p d, n))).map encBow).length, .var (encP p), .var (encRd (rdrOf p d))])
        (fun k => k ≤ ns.length) (fun k => ns.length - k) 4 (fun _ => rfl) 0 (nZl _) ⟨rfl, rfl, rfl, rfl, (by simp [bowsOf]; try rfl), rfl, rfl, rfl, rfl, rfl, rfl, tI⟩ (by simp [bowsOf]; try rfl) (fun _ _ => rfl) (fun _ _ => rfl) ?_
       intro k hk
       have hlB := bowsOf_len s l sec ex ((ns.take k).map fun n => (rdrOf p d, n))
       rw [lLm, zAc] at hlB
       by_cases hkl : k < ns.length
       · obtain ⟨n, hnn⟩ : ∃ n, ns.getD k default = n := ⟨_, rfl⟩
         have hbs := best19_spec l (by omega) s.version n.id 1 sec (rdrOf p d)
         obtain ⟨b, hbv⟩ : ∃ b, bestN (okFor s.version n.id 1 sec (rdrOf p d)) l l.length = b := ⟨_, rfl⟩
         have hbr := bestN_in (okFor s.version n.id 1 sec (rdrOf p d)) l l.length
         have hb := bowN_best s.version sec l ex (rdrOf p d) n hbv
         rw [hbv] at hbs hbr
         have hhs := has20_spec ex (by omega) n.id
         have hst : bowsOf s l sec ex ((ns.take (k + 1)).map fun n => (rdrOf p d, n)) = bowsOf s l sec ex ((ns.take k).map fun n => (rdrOf p d, n)) ++ (bowN s.version sec l ex (rdrOf p d) n).toList := by
          rw [takeS' hkl, hnn, zAe, bowsOf_append]
          congr 1
          all_goals (unfold bowsOf; cases h9 : bowN s.version sec l ex (rdrOf p d) n <;> simp [h9])
         generalize bowsOf s l sec ex ((ns.take k).map fun n => (rdrOf p d, n)) = B at *
         have hAD : (A ++ D).length ≤ 40000 * i + 1000 * d := by rw [lLa]; omega
         generalize A ++ D = C at *
         generalize hasI ex n.id = hx at *
         by_cases hb0 : (decide (b < 0) || hx) = true
         · rw [if_pos hb0] at hb
           rw [hb] at hst
           repeat' (first | refine aoQ rfl rfl rfl (fun hg => by first | exact iX encN ns ((k : Nat) : Int) hnn (hb := by omega) | exact std0 | exact pcW (hbs) rfl rfl nd rfl nds | exact pcW (hhs) rfl rfl nd rfl nds | exact std1) (by exact rfl) ?_ | refine sqW ?_ | refine rgK (fun K' hK => ?_) | (refine aoN (hK _ _ ?_); clear hK K') | refine aoE (bxW rfl rfl rfl rfl rfl tI rfl rfl ?_) | refine aoE (stW tabOk rfl rfl rfl tI rfl rfl tI rfl rfl rfl rfl rfl rfl rfl ?_) | refine aoE (alW tabOk rfl rfl rfl rfl rfl rfl ?_) | refine cdN rfl tI (fun hc => ?_) (fun hc => ?_) | refine blK ?_ | refine exW ?_ | refine skW ?_ | refine rtW ?_ | refine dK2 (by decide +kernel) (by kernel_rfl) (by decide +kernel) rfl (fun K' hK => ?_) | refine dL2 (by kernel_rfl) (by decide +kernel) rfl (fun K' hK => ?_) | (refine aqN (hK _ ?_); clear hK K') | refine aqN ?_ | refine aqQ rfl rfl (fun hg => by first | exact iX encN ns ((k : Nat) : Int) hnn (hb := by omega) | exact std0 | exact pcW (hbs) rfl rfl nd rfl nds | exact pcW (hhs) rfl rfl nd rfl nds | exact std1) (by exact rfl) ?_)
           all_goals (first | (exfalso; omega) | (exact absurd (hb0.symm.trans hc) (by decide)) | skip)
           have e1 : bowsOf s l sec ex ((ns.take (k + 1)).map fun n => (rdrOf p d, n)) = B := by rw [hst]; simp
           exact ⟨k + 1, hkl, by show ns.length - (k + 1) < ns.length - k; omega, ⟨rfl, rfl, rfl, rfl, (by rw [e1]; rfl), rfl, rfl, rfl, rfl, rfl, rfl, tI⟩, (by rw [e1]; rfl)⟩
         · rw [if_neg hb0] at hb
           obtain ⟨j, rfl⟩ : ∃ j : Nat, b = j := ⟨b.toNat, by
            have : ¬ b < 0 := fun h => hb0 (by simp [h])
            omega⟩
           rw [zAj] at hb
           obtain ⟨m, hm⟩ : ∃ m, l.getD j default = m := ⟨_, rfl⟩
           rw [hm] at hb
           have hjl : j < l.length := by omega
           repeat' (first | refine aoQ rfl rfl rfl (fun hg => by first | exact iX encMk l ((j : Nat) : Int) hm (hb := by omega) | exact iX encN ns ((k : Nat) : Int) hnn (hb := by omega) | exact std0 | exact pcW (hbs) rfl rfl nd rfl nds | exact pcW (hhs) rfl rfl nd rfl nds | exact std1) (by exact rfl) ?_ | refine sqW ?_ | refine rgK (fun K' hK => ?_) | (refine aoN (hK _ _ ?_); clear hK K') | refine aoE (bxW rfl rfl rfl rfl rfl tI rfl rfl ?_) | refine aoE (stW tabOk rfl rfl rfl tI rfl rfl tI rfl rfl rfl rfl rfl rfl rfl ?_) | refine aoE (alW tabOk rfl rfl rfl rfl rfl rfl ?_) | refine cdN rfl tI (fun hc => ?_) (fun hc => ?_) | refine blK ?_ | refine exW ?_ | refine skW ?_ | refine rtW ?_ | refine dK2 (by decide +kernel) (by kernel_rfl) (by decide +kernel) rfl (fun K' hK => ?_) | refine dL2 (by kernel_rfl) (by decide +kernel) rfl (fun K' hK => ?_) | (refine aqN (hK _ ?_); clear hK K') | refine aqN ?_ | refine aqQ rfl rfl (fun hg => by first | exact iX encMk l ((j : Nat) : Int) hm (hb := by omega) | exact iX encN ns ((k : Nat) : Int) hnn (hb := by omega) | exact std0 | exact pcW (hbs) rfl rfl nd rfl nds | exact pcW (hhs) rfl rfl nd rfl nds | exact std1) (by exact rfl) ?_)
           all_goals (first | (exfalso; omega) | (exfalso; exact hb0 hc) | skip)
           · rw [if_pos (decide_eq_true hc)] at hb
             rw [hb] at hst
             have e1 : (C ++ bowsOf s l sec ex ((ns.take (k + 1)).map fun n => (rdrOf p d, n))).map encBow = (C ++ B).map encBow ++ [encBow ⟨rdrOf p d, n, m.value⟩] := by rw [hst, ← zAt, zAe]; rfl
             refine AWP.drawYM effOp (fun q => [.var (encS s), .own 16 (match q with | 0 => ((C ++ B).map encBow).length | _ => ((C ++ B).map encBow ++ [encBow ⟨rdrOf p d, n, m.value⟩]).length), .var (encP p), .var (encRd (rdrOf p d))]) rfl (by kernel_rfl) (by decide +kernel) rfl (by decide +kernel) (fun K' hK => ?_)
             repeat' (first | refine yqQ rfl rfl rfl (by decide +kernel) rfl rfl (fun k9 h1 h2 hg => by first | exact iX encMk l ((j : Nat) : Int) hm (hb := by omega) | exact iX encN ns ((k : Nat) : Int) hnn (hb := by omega) | exact std0 | exact pbD tabOk rfl rfl nds | exact pbS tabOk rfl rfl nds | exact std1) (by exact rfl) ?_ | refine yqQ (a := 0) (b := 3) rfl (by decide +kernel) (by decide +kernel) rfl rfl rfl (fun k9 h1 h2 hg => by (have hk : k9 = 0 ∨ k9 = 1 ∨ k9 = 2 ∨ k9 = 3 := (by omega)); (rcases hk with rfl | rfl | rfl | rfl) <;> (first | exact iX encMk l ((j : Nat) : Int) hm (hb := by omega) | exact iX encN ns ((k : Nat) : Int) hnn (hb := by omega) | exact std0 | exact pbD tabOk rfl rfl nds | exact pbS tabOk rfl rfl nds | exact std1)) (by exact rfl) ?_)
             refine YQ.e (v := .sl 16 ((C ++ B).map encBow ++ [encBow ⟨rdrOf p d, n, m.value⟩]) (.own 1)) (d := some 95) rfl rfl rfl ?_ ?_
             · intro env' he
               exact apO (l := 1) tabOk rfl rfl rfl (by decide) (Rd.w ((rdv_congr (he 82 (by decide +kernel))).trans rfl) (by rw [rdn_congr (he 82 (by decide +kernel))]; first | exact tI | exact rfl)) rfl (Rd.w ((rdv_congr (he 94 (by decide +kernel))).trans rfl) (by rw [rdn_congr (he 94 (by decide +kernel))]; first | exact tI | exact rfl)) (.sl rfl (one_encBow [⟨rdrOf p d, n, m.value⟩])) (LOk.of (tabOk.get rfl)) (LOk.of (tabOk.get rfl)) rfl rfl (by simp only [lLm, lLa, zA5, zAb] at *; omega) (by simp only [lLm, lLa, zA5, zAb] at *; omega) ⟨rfl, rfl⟩
             repeat' (first | refine yqQ rfl rfl rfl (by decide +kernel) rfl rfl (fun k9 h1 h2 hg => by first | exact std0 | exact std1) (by exact rfl) ?_ | refine yqQ (a := 0) (b := 3) rfl (by decide +kernel) (by decide +kernel) rfl rfl rfl (fun k9 h1 h2 hg => by (have hk : k9 = 0 ∨ k9 = 1 ∨ k9 = 2 ∨ k9 = 3 := (by omega)); (rcases hk with rfl | rfl | rfl | rfl) <;> (first | exact std0 | exact std1)) (by exact rfl) ?_)
             refine YQ.nil (hK _ _ ?_)
             clear hK K'
             repeat' (first | refine aoQ rfl rfl rfl (fun hg => by first | exact std0 | exact std1) (by exact rfl) ?_ | refine sqW ?_ | refine rgK (fun K' hK => ?_) | (refine aoN (hK _ _ ?_); clear hK K') | refine aoE (bxW rfl rfl rfl rfl rfl tI rfl rfl ?_) | refine aoE (stW tabOk rfl rfl rfl tI rfl rfl tI rfl rfl rfl rfl rfl rfl rfl ?_) | refine aoE (alW tabOk rfl rfl rfl rfl rfl rfl ?_) | refine cdN rfl tI (fun hc => ?_) (fun hc => ?_) | refine blK ?_ | refine exW ?_ | refine skW ?_ | refine rtW ?_ | refine dK2 (by decide +kernel) (by kernel_rfl) (by decide +kernel) rfl (fun K' hK => ?_) | refine dL2 (by kernel_rfl) (by decide +kernel) rfl (fun K' hK => ?_) | (refine aqN (hK _ ?_); clear hK K') | refine aqN ?_ | refine aqQ rfl rfl (fun hg => by first | exact std0 | exact std1) (by exact rfl) ?_)
             exact ⟨k + 1, hkl, by show ns.length - (k + 1) < ns.length - k; omega, ⟨rfl, rfl, rfl, rfl, (by rw [e1]; rfl), rfl, rfl, rfl, rfl, rfl, rfl, tI⟩, (by rw [e1]; rfl)⟩
           · rw [if_neg (by simpa using hc)] at hb
             rw [hb] at hst
             have e1 : bowsOf s l sec ex ((ns.take (k + 1)).map fun n => (rdrOf p d, n)) = B := by rw [hst]; simp
             exact ⟨k + 1, hkl, by show ns.length - (k + 1) < ns.length - k; omega, ⟨rfl, rfl, rfl, rfl, (by rw [e1]; rfl), rfl, rfl, rfl, rfl, rfl, rfl, tI⟩, (by rw [e1]; rfl)⟩
       · obtain rfl : k = ns.length := by omega
         rw [zAr]
         have hlB2 := bowsOf_len s l sec ex (ns.map fun n => (rdrOf p d, n))
         rw [lLm] at hlB2
         generalize bowsOf s l sec ex (ns.map fun n => (rdrOf p d, n)) = B at *
         repeat' (first | refine aoQ rfl rfl rfl (fun hg => by first | exact std0 | exact std1) (by exact rfl) ?_ | refine sqW ?_ | refine rgK (fun K' hK => ?_) | (refine aoN (hK _ _ ?_); clear hK K') | refine aoE (bxW rfl rfl rfl rfl rfl tI rfl rfl ?_) | refine aoE (stW tabOk rfl rfl rfl tI rfl rfl tI rfl rfl rfl rfl rfl rfl rfl ?_) | refine aoE (alW tabOk rfl rfl rfl rfl rfl rfl ?_) | refine cdN rfl tI (fun hc => ?_) (fun hc => ?_) | refine blK ?_ | refine exW ?_ | refine skW ?_ | refine rtW ?_ | refine dK2 (by decide +kernel) (by kernel_rfl) (by decide +kernel) rfl (fun K' hK => ?_) | refine dL2 (by kernel_rfl) (by decide +kernel) rfl (fun K' hK => ?_) | (refine aqN (hK _ ?_); clear hK K') | refine aqN ?_ | refine aqQ rfl rfl (fun hg => by first | exact std0 | exact std1) (by exact rfl) ?_)
         all_goals (first | (exfalso; omega) | skip)
         refine ⟨d + 1, ⟨hdl, by rw [hnd, lLa]; omega⟩, by show p.desks.toNat - (d + 1) < p.desks.toNat - d; omega, ⟨rfl, rfl, rfl, rfl, ?_, rfl, rfl, rfl, rfl, tI⟩, ?_⟩
         · rw [hnd, ← zAt]; rfl
         · rw [hnd, ← zAt]; rfl
     · obtain rfl : d = p.desks.toNat := by omega
       have hall : bowsOf s l sec ex ((List.range p.desks.toNat).flatMap (seatsD s p)) = bowsOf s l sec ex (seatsP s p) := rfl
       rw [hall] at hD ⊢
       generalize bowsOf s l sec ex (seatsP s p) = D at *
       repeat' (first | refine aoQ rfl rfl rfl (fun hg => by first | exact std0 | exact std1) (by exact rfl) ?_ | refine sqW ?_ | refine rgK (fun K' hK => ?_) | (refine aoN (hK _ _ ?_); clear hK K') | refine aoE (bxW rfl rfl rfl rfl rfl tI rfl rfl ?_) | refine aoE (stW tabOk rfl rfl rfl tI rfl rfl tI rfl rfl rfl rfl rfl rfl rfl ?_) | refine aoE (alW tabOk rfl rfl rfl rfl rfl rfl ?_) | refine cdN rfl tI (fun hc => ?_) (fun hc => ?_) | refine blK ?_ | refine exW ?_ | refine skW ?_ | refine rtW ?_ | refine dK2 (by decide +kernel) (by kernel_rfl) (by decide +kernel) rfl (fun K' hK => ?_) | refine dL2 (by kernel_rfl) (by decide +kernel) rfl (fun K' hK => ?_) | (refine aqN (hK _ ?_); clear hK K') | refine aqN ?_ | refine aqQ rfl rfl (fun hg => by first | exact std0 | exact std1) (by exact rfl) ?_)
       all_goals (first | (exfalso; omega) | skip)
       refine ⟨i + 1, ⟨hlt, by rw [hnx, lLa]; omega⟩, by show s.parts.length - (i + 1) < s.parts.length - i; omega, ⟨rfl, rfl, rfl, rfl, ?_, rfl, tI⟩, ?_⟩
       · rw [hnx]; rfl
       · rw [hnx]; rfl
   · have hnx : bowsOf s l sec ex (((s.parts.take (i + 1)).filter fun p => p.section_ == sec).flatMap (seatsP s)) = bowsOf s l sec ex (((s.parts.take i).filter fun p => p.section_ == sec).flatMap (seatsP s)) := by
      rw [htk, zBa, zB8 (by simpa using hse)]; simp
     generalize bowsOf s l sec ex (((s.parts.take i).filter fun p => p.section_ == sec).flatMap (seatsP s)) = A at *
     have hne : (p.section_ != sec) = true := by simpa using hse
     repeat' (first | refine aoQ rfl rfl rfl (fun hg => by first | exact iX encP s.parts ((i : Nat) : Int) hpp (hb := by omega) | exact std0 | exact std1) (by exact rfl) ?_ | refine sqW ?_ | refine rgK (fun K' hK => ?_) | (refine aoN (hK _ _ ?_); clear hK K') | refine aoE (bxW rfl rfl rfl rfl rfl tI rfl rfl ?_) | refine aoE (stW tabOk rfl rfl rfl tI rfl rfl tI rfl rfl rfl rfl rfl rfl rfl ?_) | refine aoE (alW tabOk rfl rfl rfl rfl rfl rfl ?_) | refine cdN rfl tI (fun hc => ?_) (fun hc => ?_) | refine blK ?_ | refine exW ?_ | refine skW ?_ | refine rtW ?_ | refine dK2 (by decide +kernel) (by kernel_rfl) (by decide +kernel) rfl (fun K' hK => ?_) | refine dL2 (by kernel_rfl) (by decide +kernel) rfl (fun K' hK => ?_) | (refine aqN (hK _ ?_); clear hK K') | refine aqN ?_ | refine aqQ rfl rfl (fun hg => by first | exact iX encP s.parts ((i : Nat) : Int) hpp (hb := by omega) | exact std0 | exact std1) (by exact rfl) ?_)
     all_goals (first | (exfalso; omega) | (exact absurd (hne.symm.trans hc) (by decide)) | skip)
     refine ⟨i + 1, ⟨hlt, by rw [hnx]; omega⟩, by show s.parts.length - (i + 1) < s.parts.length - i; omega, ⟨rfl, rfl, rfl, rfl, ?_, rfl, tI⟩, ?_⟩
     · rw [hnx]; rfl
     · rw [hnx]; rfl
 · obtain rfl : i = s.parts.length := by omega
   have hall : bowsOf s l sec ex (((s.parts.take s.parts.length).filter fun p => p.section_ == sec).flatMap (seatsP s)) = bowsL s l sec ex := by rw [zAr]; rfl
   rw [hall]
   repeat' (first | refine aoQ rfl rfl rfl (fun hg => by first | exact std0 | exact std1) (by exact rfl) ?_ | refine sqW ?_ | refine rgK (fun K' hK => ?_) | (refine aoN (hK _ _ ?_); clear hK K') | refine aoE (bxW rfl rfl rfl rfl rfl tI rfl rfl ?_) | refine aoE (stW tabOk rfl rfl rfl tI rfl rfl tI rfl rfl rfl rfl rfl rfl rfl ?_) | refine aoE (alW tabOk rfl rfl rfl rfl rfl rfl ?_) | refine cdN rfl tI (fun hc => ?_) (fun hc => ?_) | refine blK ?_ | refine exW ?_ | refine skW ?_ | refine rtW ?_ | refine dK2 (by decide +kernel) (by kernel_rfl) (by decide +kernel) rfl (fun K' hK => ?_) | refine dL2 (by kernel_rfl) (by decide +kernel) rfl (fun K' hK => ?_) | (refine aqN (hK _ ?_); clear hK K') | refine aqN ?_ | refine aqQ rfl rfl (fun hg => by first | exact std0 | exact std1) (by exact rfl) ?_)
   all_goals (first | (exfalso; omega) | skip)
   exact ⟨.inr rfl, Ent.of rfl⟩
end Go.Proofs.YtficfljjnbnhbaaGreatDoor.Bw
namespace Go.Ab
theorem EStep.allocArrV {P : Program} {T : Tab} {n : Nat} {ops : Array Oper} {o : Oper} {env : Env} {σ : Store} {k : Env → Store → Prop} (hT : T.Ok P) {t : TypeId} {d l sz ver : Nat} {es0 : List (List AV)} {li : LI} {cs : List AV} (ho : o.op = .alloc t) (hg : o.guard = none) (hd : o.dst = some d) (hdn : (decide (d < n)) = true) (hl : T.get t = some li) (hf : forceL (li.zero.map Z.av) = some cs) (hsz : decide (li.zero.length = sz ∧ 0 < sz) = true)
 (hσ : σ[l]? = some (.arr sz ver es0)) (hk : k (env.put d (.eptr l sz 0 0 (ver + 1))) (σ.set l (.arr sz (ver + 1) [cs]))) : EStep P n ops o k env σ := by
 refine EStep.plain hg fun G a w hr => ?_
 have hl := LOk.of (hT.get hl)
 have hzl := (of_decide_eq_true hsz).1
 have hrun : (execOp a.eval o).run P w = .ok (.value (.pointer (some ⟨w.heap.size, 0, none⟩))) (w.alloc (.cells li.zeroVal.cells t)) := by
  simp [execOp, ho, Instr.alloc, newVar, newRow, hl.run_zero w]
 have hcells : li.zeroVal.cells = (li.zero.map Z.val).toArray := by
  unfold LI.zeroVal
  cases ha : li.lt.isAgg with
  | true => rfl
  | false =>
    obtain ⟨z, hz⟩ := hl.one ha
    rw [hz]
    cases z <;> rfl
 unfold OWP
 rw [hrun]
 have hcs : cs = li.zero.map Z.av := (forceL_eq hf).symm
 obtain ⟨ob, cap, hB, _, _⟩ := arr_at hr.st hσ
 have hm := mem_lt hr.st.memok
 have hls : l < G.B.length := by
  rcases zA9 l G.B.length with h | h
  · exact h
  · simp [zA2 h] at hB
 have hgl : GB.Le (.own ob cap ver) (.own (some w.heap.size) 1 (ver + 1)) := .inr ⟨_, _, _, rfl, by omega⟩
 have hal := hr.st.alloc (o := .cells li.zeroVal.cells t) (g := .own (some w.heap.size) 1 (ver + 1)) (ao := .arr sz (ver + 1) [cs]) rfl (.arr w.heap.size 1 sz (ver + 1) [cs] li.zeroVal.cells t (0, 0) (by rw [heap_alloc, if_pos rfl]) (by intro o _; simp) (by rw [hcells]; simp [hzl]) (by simp) (fun e he => by
  simp at he; subst he; rw [hcs]; simp [hzl]) (fun i j e c h1 h2 => by
  match i, h1 with
  | 0, h1 =>
    simp at h1; subst h1
    rw [hcs] at h2
    simp only [zAa, zA6] at h2
    obtain ⟨z, hz, rfl⟩ := h2
    rw [hcells]
    have : (li.zero.map Z.val).toArray.getD (0 * sz + j) undef = z.val := by simp [hz, zA1]
    rw [this]; cases z <;> first | exact .prim _ | exact .nils | exact .imapz
  | i + 1, h1 => simp at h1) (hm _ (zAw _)).1)
 have hs : SRel { G with M := G.M, B := G.B.set l (.own (some w.heap.size) 1 (ver + 1)) } (σ.set l (.arr sz (ver + 1) [cs])) (w.alloc (.cells li.zeroVal.cells t)) := by
  refine hr.st.regrow (w' := w.alloc (.cells li.zeroVal.cells t)) hB (Mem.Le.refl _) hgl rfl (by simp) (fun k hk hk2 => by rw [heap_alloc, if_neg (by omega)]) rfl (fun b hb o => rfl) hal.memok (.inr (zAw _)) (by simp) OutR.r ?_
  refine .arr w.heap.size 1 sz (ver + 1) [cs] li.zeroVal.cells t (0, 0) (by rw [heap_alloc, if_pos rfl]) (by intro o _; simp) (by rw [hcells]; simp [hzl]) (by simp) (fun e he => by
   simp at he; subst he; rw [hcs]; simp [hzl]) (fun i j e c h1 h2 => ?_) (hm _ (zAw _)).1
  match i, h1 with
  | 0, h1 =>
    simp at h1; subst h1
    rw [hcs] at h2
    simp only [zAa, zA6] at h2
    obtain ⟨z, hz, rfl⟩ := h2
    rw [hcells]
    have : (li.zero.map Z.val).toArray.getD (0 * sz + j) undef = z.val := by simp [hz, zA1]
    rw [this]; cases z <;> first | exact .prim _ | exact .nils | exact .imapz
  | i + 1, h1 => simp at h1
 have hle : BLe G.B (G.B.set l (.own (some w.heap.size) 1 (ver + 1))) := by
  intro l' g1 h1
  by_cases e : l = l'
  · subst e
    rw [hB] at h1; simp at h1; subst h1
    exact ⟨_, by rw [zAd hls], hgl⟩
  · exact ⟨g1, by rw [zAk e]; exact h1, GB.Le.refl _⟩
 refine ⟨_, _, _, hk, .upB hle, ?_⟩
 rw [hd]
 have hr' : ARel n { G with B := G.B.set l (.own (some w.heap.size) 1 (ver + 1)) } env (σ.set l (.arr sz (ver + 1) [cs])) a (w.alloc (.cells li.zeroVal.cells t)) := hr.later (.upB hle) hs
 refine hr'.put (of_decide_eq_true hdn) ?_
 exact .eptr l sz 0 0 (ver + 1) w.heap.size 0 ⟨some w.heap.size, 1, ver + 1, by rw [zAd hls], zAw _, fun _ => ⟨by omega, (of_decide_eq_true hsz).2, by simp, rfl⟩⟩
section
variable {P : Program} {n : Nat} {ops : Array Oper} {o : Oper} {env : Env} {σ : Store} {T : Tab} {k : Env → Store → Prop}
theorem PRun.ent {v v' : AV} (h : PRun P o env σ v) (he : ∀ M B x, VRel M B v x → VRel M B v' x) : PRun P o env σ v' := fun G a w hs hv =>
 uponQ_mono (fun _ _ ⟨x, G', h1, h2, h3, h4⟩ => ⟨x, G', h1, he _ _ _ h2, h3, h4⟩) (h G a w hs hv)
theorem AWP.mapWeak {c : Code} {K : Exit → Env → Store → Prop} {κ α β : Type} {ek : κ → Value} {ev : α → AV} {ev' : β → AV} {al : List (κ × α)} (l : Nat) (f : α → β) (hσ : σ[l]? = some (.map (encM ek ev al))) (hf : ∀ a M B x, VRel M B (ev a) x → VRel M B (ev' (f a)) x)
 (h : AWP P n c K env (σ.set l (.map (encM ek ev' (al.map fun p => (p.1, f p.2)))))) : AWP P n c K env σ := by
 intro G a w hr
 have hs := SRel.retell (o' := .map (encM ek ev' (al.map fun p => (p.1, f p.2)))) hr.st hσ fun g hg ho => by
  cases ho with
  | map b _ es clock hbb hlen hkk hrr hmm hst =>
    refine .map b _ es clock hbb (by rw [encM_length] at hlen ⊢; simpa using hlen) (fun i k v e h1 h2 => ?_) (fun i k v e h1 h2 => ?_) hmm hst
    · obtain ⟨p, h6, rfl, rfl⟩ := encM_get h1
      rw [zAa, zA6] at h6
      obtain ⟨q, h7, rfl⟩ := h6
      exact hkk i _ (ev q.2) e (by simp [encM, h7]) h2
    · obtain ⟨p, h6, rfl, rfl⟩ := encM_get h1
      rw [zAa, zA6] at h6
      obtain ⟨q, h7, rfl⟩ := h6
      exact hf _ _ _ _ (hrr i (ek q.1) (ev q.2) e (by simp [encM, h7]) h2)
 exact h G a w ⟨hr.size, hr.defers, hr.vals, hs⟩
end
end Go.Ab
namespace Go.Ab
section
variable {P : Program} {n : Nat} {K : Exit → Env → Store → Prop} {env : Env} {σ : Store}
theorem AWP.mid {c d : Code} (E : List (Nat × AV)) (S : Store) (h1 : AWP P n c (thenK (fun e s => WeakL e E ∧ s = S) K) env σ) (h2 : AWP P n d K (Env.of E) S) : AWP P n c (thenK (AWP P n d K) K) env σ := by
 refine AWP.mono h1 fun x e s hk => ?_
 cases x
 case normal =>
  obtain ⟨hw, rfl⟩ := hk
  exact AWP.weaken hw.weak h2
 all_goals exact hk
theorem AWP.slaNil {c : Code} (d l : Nat) {sz ver : Nat} {t : Tok} {es : List (List AV)} (hd : env d = .sl sz [] t) (hσ : σ[l]? = some (.arr sz ver es)) (hk : AWP P n c K (env.put d (.sla l sz 0 0 ver)) σ) : AWP P n c K env σ := by
 intro G a w hr
 obtain ⟨ob, cap, hB, _⟩ := arr_at hr.st hσ
 refine hk G a w ⟨hr.size, hr.defers, fun i => ?_, hr.st⟩
 unfold Env.put
 by_cases hi : i = d
 · subst hi
   have h := hr.vals i
   rw [hd] at h
   rw [if_pos rfl]
   generalize a.tmps.getD i undef = y at h ⊢
   cases h with
   | sl _ _ _ b off c f hz hm hr2 hc ht => exact .sla l sz 0 0 ver _ _ ⟨ob, cap, ver, hB, zAw _, fun _ => ⟨Nat.zero_le _, .inl rfl⟩⟩
   | slz _ t ht => exact .sla l sz 0 0 ver _ _ ⟨ob, cap, ver, hB, zAw _, fun _ => ⟨Nat.zero_le _, .inl rfl⟩⟩
   | slzz => exact .sla l sz 0 0 ver _ _ ⟨ob, cap, ver, hB, zAw _, fun _ => ⟨Nat.zero_le _, .inl rfl⟩⟩
 · rw [if_neg hi]; exact hr.vals i
theorem AWP.nilFresh {c : Code} (d sz : Nat) (hd : env d = .nils) (hk : AWP P n c K (env.put d (.sl sz [] .fresh)) σ) : AWP P n c K env σ :=
 AWP.weaken (fun M B i x hx => by
  unfold Env.put
  by_cases hi : i = d
  · subst hi
    rw [hd] at hx
    rw [if_pos rfl]
    cases hx with
    | nils => exact .slz sz .fresh rfl
  · rw [if_neg hi]; exact hx) hk
theorem EStep.appendU {ops : Array Oper} {o : Oper} {T : Tab} {k : Env → Store → Prop} (hT : T.Ok P) {s x : Operand} {t tx e : TypeId} {d l sz m : Nat} {es es2 es3 : List (List AV)} {tk : Tok} {u : AV} {s1 b1 : Nat} {z : List Z} {le : LI} (ho : o.op = .call { callee := .builtin .append, args := #[s, x], argTypes := #[t, tx] })
 (hg : o.guard = none) (hd : o.dst = some d) (hdn : d < n) (htok : tk = .own l ∨ es = [] ∧ tk = .fresh) (hs : Rd env s (.sl sz es tk)) (hσ : σ[l]? = some (.own sz es.length)) (hx : Rd env x u) (hsrc : AppSrc T tx sz u es2) (hpos : 0 < es2.length)
 (hl : LOk P t ⟨.slice e, s1, b1, z⟩) (he : LOk P e le) (hsz : le.size = sz) (hz0 : le.zero.length = le.size) (hbound : (es.length + es2.length) * le.bytes ≤ 140737488355328) (hb2 : es.length + es2.length ≤ 9223372036854775807) (h3 : es ++ es2 = es3) (hm : es.length + es2.length = m)
 (hk : k (env.put d (.sl sz es3 (.own l))) (σ.set l (.own sz m))) : EStep P n ops o k env σ := by
 subst h3; subst hm
 rcases htok with rfl | ⟨rfl, rfl⟩
 · exact EStep.appendOwn hT ho hg hd hdn hs hσ hx hsrc hl he hsz hz0 hbound hb2 hk
 · refine EStep.appendAt hT ho hg hd hdn hs hσ hx hsrc hpos hl he hsz hz0 (by simpa using hbound) (by simpa using hb2) ?_
   simpa using hk
theorem Rd.nilF {env : Env} {s : Operand} {sz : Nat} (h : Rd env s .nils) : Rd env s (.sl sz [] .fresh) := fun M B y hy => by
 have := h M B y hy
 cases this; exact .slz sz .fresh rfl
theorem EStep.appendV {ops : Array Oper} {o : Oper} {T : Tab} {k : Env → Store → Prop} (hT : T.Ok P) {s x : Operand} {t tx e : TypeId} {d l sz m : Nat} {es es2 es3 : List (List AV)} {tk : Tok} {u : AV} {s1 b1 : Nat} {z : List Z} {le : LI} (ho : o.op = .call { callee := .builtin .append, args := #[s, x], argTypes := #[t, tx] })
 (hg : o.guard = none) (hd : o.dst = some d) (hdn : d < n) (htok : tk = .own l ∨ es = [] ∧ tk = .fresh) (hs : Rd env s (.sl sz es tk)) (hσ : σ[l]? = some (.own sz es.length)) (hx : Rd env x u) (hsrc : AppSrc T tx sz u es2)
 (hl : LOk P t ⟨.slice e, s1, b1, z⟩) (he : LOk P e le) (hsz : le.size = sz) (hz0 : le.zero.length = le.size) (hbound : (es.length + es2.length) * le.bytes ≤ 140737488355328) (hb2 : es.length + es2.length ≤ 9223372036854775807) (h3 : es ++ es2 = es3) (hm : es.length + es2.length = m)
 (hk : ∀ tk', tk' = .own l ∨ es3 = [] ∧ tk' = .fresh → k (env.put d (.sl sz es3 tk')) (σ.set l (.own sz m))) : EStep P n ops o k env σ := by
 subst h3; subst hm
 rcases htok with rfl | ⟨rfl, rfl⟩
 · exact EStep.appendOwn hT ho hg hd hdn hs hσ hx hsrc hl he hsz hz0 hbound hb2 (hk _ (.inl rfl))
 · cases es2 with
   | nil =>
     have h := hk .fresh (.inr ⟨rfl, rfl⟩)
     have e : σ.set l (.own sz 0) = σ := by
      refine zCf fun i => ?_
      by_cases hi : l = i
      · subst hi
        rw [zAd (zAf.1 hσ).1, hσ]; rfl
      · rw [zAk hi]
     have h : k (env.put d (.sl sz [] .fresh)) (σ.set l (.own sz 0)) := h
     rw [e] at h
     exact EStep.appendE hT ho hg hd hdn hs hx hsrc hl he hsz h
   | cons a r => exact EStep.appendAt hT ho hg hd hdn hs hσ hx hsrc (zB6 _) hl he hsz hz0 (by simpa using hbound) (by simpa using hb2) (by simpa using hk _ (.inl rfl))
def Lend (σ : Store) (u v : AV) : Prop := ∀ (G : Gh) (w : World), SRel G σ w → ∀ x, VRel G.M G.B u x → VRel (memOf w) [] v x
theorem Lend.bor (k : Nat) (u : AV) : Lend σ u (bor k σ u) := fun _ _ hs x h => bor_rel hs k u x h
theorem Lend.of {u v : AV} (k : Nat) (h : Go.Ab.bor k σ u = v) : Lend σ u v := h ▸ Lend.bor k u
theorem Lend.eptr {l sz i ver : Nat} {es : List (List AV)} {e : List AV} (hσ : σ[l]? = some (.arr sz ver es)) (hi : i < es.length) (he : (es.getD i []).map (Go.Ab.bor 3 σ) = e) : Lend σ (.eptr l sz i 0 ver) (.iptr e) := fun G w hs x h => by
 subst he
 cases h with
 | eptr _ _ _ _ _ b q hrr =>
   obtain ⟨ob, cap, n, hB, hle, heq⟩ := hrr
   have ho := hs.objs l _ _ hB hσ
   cases ho with
   | arrz => simp at hi
   | arr b2 cap2 sz2 ver2 es2 c T fr hb hf hl hn hz hr hm =>
     obtain ⟨g1, g2, g3, g4⟩ := heq rfl
     obtain rfl : b2 = b := Option.some.inj g4
     subst g3
     have e1 : es[i]? = some es[i] := zA7 hi
     have e2 : es.getD i [] = es[i] := by rw [zCe, e1]; rfl
     have hzl := hz es[i] (zCm hi)
     refine .iptr _ b2 _ (fun j => c.getD (i * sz + 0 + j) undef) (fun j hj => ?_) fun j c' hj => ?_
     · rw [e2, zBv, hzl] at hj
       have hlt : i * sz + 0 + j < c.size := by
        rw [hl]
        have : (i + 1) * sz ≤ cap * sz := zB9 _ (by omega)
        rw [zBf] at this; omega
       have hlt2 : i * sz + j < c.size := by rw [zBy] at hlt; exact hlt
       simp [memOf, World.cell?, hb, hlt2]
     · rw [e2, zAa, zA6] at hj
       obtain ⟨a, ha, rfl⟩ := hj
       exact bor_rel hs 3 _ _ (hr i j es[i] a e1 ha)
theorem Lend.fn {f : Fn} {a c a' c' : List AV} (ha : a'.length = a.length) (hc : c'.length = c.length) (h1 : ∀ (i : Nat) u v, a[i]? = some u → a'[i]? = some v → Lend σ u v) (h2 : ∀ (i : Nat) u v, c[i]? = some u → c'[i]? = some v → Lend σ u v) : Lend σ (.fn f a c) (.fn f a' c') := fun G w hs x h => by
 cases h with
 | fn _ _ _ vf vc hf hc0 g1 g2 =>
   refine .fn f a' c' vf vc (hf.trans ha.symm) (hc0.trans hc.symm) (fun i v hi => ?_) fun i v hi => ?_
   · have hlt : i < a.length := by rw [← ha]; exact (zAf.1 hi).1
     exact h1 i _ v (zA7 hlt) hi G w hs _ (g1 i _ (zA7 hlt))
   · have hlt : i < c.length := by rw [← hc]; exact (zAf.1 hi).1
     exact h2 i _ v (zA7 hlt) hi G w hs _ (g2 i _ (zA7 hlt))
def LendL (σ : Store) : List AV → List AV → Prop
 | [], [] => True
 | u :: l, v :: m => Lend σ u v ∧ LendL σ l m
 | _, _ => False
theorem LendL.get : ∀ {l m : List AV}, LendL σ l m → m.length = l.length ∧ ∀ (i : Nat) (c : AV), m[i]? = some c → ∃ u, l[i]? = some u ∧ Lend σ u c
 | [], [], _ => ⟨rfl, fun i c h => by cases h⟩
 | u :: l, v :: m, h => by
   obtain ⟨h1, h2⟩ := LendL.get h.2
   refine ⟨by rw [zA5, zA5, h1], fun i c hi => ?_⟩
   match i, hi with
   | 0, hi => cases hi; exact ⟨u, rfl, h.1⟩
   | i + 1, hi => exact h2 i c hi
 | [], _ :: _, h => h.elim
 | _ :: _, [], h => h.elim
theorem Lend.fn1 {f : Fn} {u v : AV} (h : Lend σ u v) : Lend σ (.fn f [] [u]) (.fn f [] [v]) := Lend.fn rfl rfl (fun i _ _ hi _ => by cases hi) fun i a b hi hj => by
 match i, hi, hj with
 | 0, hi, hj => cases hi; cases hj; exact h
 | i + 1, hi, _ => cases hi
theorem PRun.callL {o : Oper} {fo : Operand} {args : Array Operand} {Ts : Array TypeId} {k : Nat} {first caps avs : List AV} {r : AV} (h : PCall P k avs r)
 (ho : o.op = .call { callee := .value fo, args := args, argTypes := Ts }) (hf0 : rdv env fo = some (.fn (.func k) first caps)) (nf : rdn env fo)
 (ha : LendL σ (first ++ ((args.toList.map fun x => (envOp env x).st) ++ caps)) avs) (hr : flat r = true) (hn : rdns env args.toList) : PRun P o env σ r := by
 have hf := Rd.w hf0 nf
 have hn := rdns_needs hn
 intro G a w hs hv
 have h1 := rd hf (by simp [ho, Op.operands, Call.operands]) hv
 generalize hA : a.eval fo = y at h1
 cases h1 with
 | fn _ _ _ vf vc hvf hvc h2 h3 =>
   have hrun : (execOp a.eval o).run P w = .ok (.enter k (vf ++ args.map a.eval ++ vc)) w := by
    simp only [execOp, ho, resolve, hA, Deferred.ofValue, Sem.run_bind, Sem.run_pure, Result.andThen_ok, invoke]
    exact run_callFunc h.1 _ w
   unfold OWP
   rw [hrun]
   simp only [uponQ]
   have hargs : ArgsRel (memOf w) avs (vf ++ args.map a.eval ++ vc) := by
    obtain ⟨ha1, ha2⟩ := ha.get
    have hl := hvf
    have hl2 := hvc
    refine ⟨by simp only [ha1, zCl, zBv, zDa, Array.size_map, zBp, hl, hl2, zC9], fun i c hi0 => ?_⟩
    obtain ⟨c', hi, hle⟩ := ha2 i c hi0
    refine hle G w hs _ ?_
    rcases zA9 i vf.size with hlt | hge
    · rw [zA3 (by simpa [← hl] using hlt)] at hi
      have := h2 i c' hi
      have e : (vf ++ args.map a.eval ++ vc).getD i undef = vf.getD i undef := by
       simp only [zA1]
       rw [zBq, zAn hlt]
      rw [e]; exact this
    · rw [zA4 (by simpa [← hl] using hge)] at hi
      simp only [← hl] at hi
      rcases zA9 (i - vf.size) args.size with hlt2 | hge2
      · rw [zA3 (by simpa using hlt2)] at hi
        simp only [zAa, zA6] at hi
        obtain ⟨x, hx, rfl⟩ := hi
        have hxm : x ∈ args.toList := zAg hx
        have := rd (hn.rd x hxm) (by simp [ho, Op.operands, Call.operands]; right; simpa using hxm) hv
        have e : (vf ++ args.map a.eval ++ vc).getD i undef = a.eval x := by
         simp only [zA1]
         rw [zBq, zB1 hge, zAn (by simpa using hlt2)]
         simp only [zBr] at hx
         simp [hx]
        rw [e]; exact this
      · rw [zA4 (by simpa using hge2)] at hi
        simp only [zBv, zBp] at hi
        have := h3 _ c' hi
        have e : (vf ++ args.map a.eval ++ vc).getD i undef = vc.getD (i - vf.size - args.size) undef := by
         simp only [zA1]
         rw [zBq, zB1 hge, zB1 (by simpa using hge2)]
         simp
        rw [e]; exact this
   refine (h.2 (memOf w) w _ (memOf_ok w (hs.memok.g.mono (le_memOf hs.memok))) hargs).mono ?_
   rintro e w' ⟨v, M', rfl, hr', hp⟩
   refine ⟨v, G, rfl, flat_rel hr hr', Gh.Le.refl G, ?_⟩
   have hp' : Post G.M w G.M w' := ⟨Mem.Le.refl _, ⟨fun b o v hb => by
    have h1 := hs.memok.1 b o v hb
    have hlt := World.block_lt_of_cell? _ _ h1
    simp only [World.cell?] at h1 ⊢
    rw [hp.heap b hlt]; exact h1, fun b es hb => by
    obtain ⟨clock, h1⟩ := hs.memok.2 b es hb
    have hlt : b < w.heap.size := by
     rcases zA9 b w.heap.size with h | h
     · exact h
     · simp [zAy h] at h1
    exact ⟨clock, by rw [hp.heap b hlt]; exact h1⟩, hs.memok.g⟩, hp.size, hp.heap, fun _ _ => ⟨fun _ => rfl, rfl⟩, hp.out⟩
   exact hs.after hp'
end
end Go.Ab
