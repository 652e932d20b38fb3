/- Contracts by content: the reference of bowing: clashes. No statement is proved here. -/
import Derived.Test.YtficfljjnbnhbaaGreatDoorP27
set_option linter.unusedVariables false
set_option linter.unusedSimpArgs false
namespace Go.Proofs.YtficfljjnbnhbaaGreatDoor.Bw
open Go.Ab Go.Sort Mk
attribute [local irreducible] AWP AOps EStep AQ PStep PRun PCall TCall VCall DStep TDies AWD DCall
theorem differs_snoc (g : List Bow) (b h : Bow) (hh : (g ++ [b]).getD 0 default = h) : differs (g ++ [b]) = (differs g || b.val != h.val) := by
 subst hh
 unfold differs
 cases g with
 | nil => simp
 | cons c g => simp [List.any_append, Bool.or_assoc]
theorem nE_snoc (g : List Bow) (b : Bow) : nE (g ++ [b]) = nE g ++ [eI b.note.id] := by unfold nE; rw [zAe]; rfl
theorem vE_snoc (g : List Bow) (b : Bow) : vE (g ++ [b]) = vE g ++ [eI b.val] := by unfold vE; rw [zAe]; rfl
theorem rE_snoc (g : List Bow) (b : Bow) : rE (g ++ [b]) = rE g ++ [encRd b.rdr] := by unfold rE; rw [zAe]; rfl
theorem nE_len (g : List Bow) : (nE g).length = g.length := lLm ..
theorem vE_len (g : List Bow) : (vE g).length = g.length := lLm ..
theorem rE_len (g : List Bow) : (rE g).length = g.length := lLm ..
def RC (s : Score) (A : List (List Bow)) (x y z : List (List AV)) (i j k : Nat) : Store :=
 [.var (encS s), .own 3 (A.map clE).length, .var [.sl 1 x (.own 3), .sl 1 y (.own 4), .sl 3 z (.own 5)], .own 1 i, .own 1 j, .own 3 k]
def outC (key : Note → K3) (bs : List Bow) (K : List Note) (i : Nat) : List (List Bow) := ((K.take i).map fun n => grp key bs (key n)).filter differs
theorem outC_step {key : Note → K3} {bs : List Bow} {K : List Note} {i : Nat} (h : i < K.length) {n : Note} (hn : K.getD i default = n) :
 outC key bs K (i + 1) = if differs (grp key bs (key n)) = true then outC key bs K i ++ [grp key bs (key n)] else outC key bs K i := by
 unfold outC
 rw [takeS' h, hn, zAe, zBa]
 split
 · rename_i h1
   rw [zAz, zD9, zB3 h1, zC0]
 · rename_i h1
   rw [zAz, zD9, zB8 h1, zC0, zBh]
theorem outC_len (key : Note → K3) (bs : List Bow) (K : List Note) (i : Nat) : (outC key bs K i).length ≤ i := by
 unfold outC
 refine zBb (zB2 _ _) ?_
 rw [lLm, zAc]; omega
theorem outC_all (key : Note → K3) (bs : List Bow) : outC key bs (kindsL key (bs.map (·.note))) (kindsL key (bs.map (·.note))).length = clashL key bs := by
 unfold outC clashL clashG keysB
 rw [zAr, zC6]; rfl
theorem entT (e : Int) : Ent (.tup [.nils, .int e]) (tupC ([], e)) := Ent.tup rfl fun i u v hu hv => by
 match i, hu, hv with
 | 0, hu, hv => cases hu; cases hv; exact Ent.nil
 | 1, hu, hv => cases hu; cases hv; exact Ent.rfl' _
 | i + 2, hu, hv => cases hu
set_option maxHeartbeats 32000000 in
set_option maxRecDepth 20000 in
theorem rclashes_spec {s : Score} {l : List Jo.Mark} {sec : Int} {ex : List Int} (h20 : In20 s l sec ex) :
 PCall Tryz.prog 13 [.agg (encS s), .sl 10 (l.map encMk) .no, .int sec, .sl 1 (ex.map eI) .no] (tupC (clashesR s l sec ex)) := by
 obtain ⟨hs, hp, hn, hb, hl, ht, hex, hbl⟩ := h20
 have f1 := form20_spec s hs l (by omega) ht sec ex (by omega)
 by_cases hf : formB s l sec ex = true
 · replace hbl := hbl hf
   have hok : scoreOk s = true := by
    have h := hf
    unfold formB at h
    simp only [zA0] at h
    exact h.1.1.1
   have f2 := rBows_spec s hp hn hok l hl sec ex hex
   have hkd := keyed hok l sec ex
   have f3 := rkinds_spec s hb (bowsL s l sec ex) (by omega) hkd
   have hR : clashesR s l sec ex = (clashL (keyT s.bars) (bowsL s l sec ex), 0) := if_pos hf
   rw [hf] at f1
   rw [hR, ← outC_all]
   have hKl := kinds_len (keyT s.bars) ((bowsL s l sec ex).map (·.note))
   rw [lLm] at hKl
   have hsub : ∀ x ∈ kindsL (keyT s.bars) ((bowsL s l sec ex).map (·.note)), ∃ a ∈ bowsL s l sec ex, a.note = x := fun x hx => by
    rcases kinds_sub (keyT s.bars) _ [] x hx with h | h
    · cases h
    · obtain ⟨a, ha, e⟩ := zAi.1 h
      exact ⟨a, ha, e⟩
   clear hR hf
   generalize bowsL s l sec ex = bs at *
   generalize hK : kindsL (keyT s.bars) (bs.map (·.note)) = K at *
   have hali : ∀ n ∈ K, ∀ b ∈ bs, alikeB n b.note = decide (keyT s.bars b.note = keyT s.bars n) := fun n hn b hb => by
    obtain ⟨a, ha, rfl⟩ := hsub n hn
    rw [hkd.ali a ha b hb, zAs, beq_iff_eq, decide_eq_true_iff]
    exact eq_comm
   generalize keyT s.bars = key at *
   clear hsub hkd
   refine PCall.bodyS tabOk Tryz.func13 rfl rfl Tryz.ntmps13 rfl ?_
   repeat' (first | refine aoQ rfl rfl rfl (fun hg => by first | exact std0 | exact pcW (f1) rfl rfl nd rfl nds | exact pcW (f2) rfl rfl nd rfl nds | exact pcW (f3) rfl rfl nd rfl nds | exact std1) (by exact rfl) ?_ | refine sqW ?_ | refine rgK (fun K' hK => ?_) | (refine aoN (hK _ _ ?_); clear hK K') | refine aoE (bxW rfl rfl rfl rfl rfl tI rfl rfl ?_) | refine aoE (stW tabOk rfl rfl rfl tI rfl rfl tI rfl rfl rfl rfl rfl rfl rfl ?_) | refine aoE (alW tabOk rfl rfl rfl rfl rfl rfl ?_) | refine cdN rfl tI (fun hc => ?_) (fun hc => ?_) | refine blK ?_ | refine exW ?_ | refine skW ?_ | refine rtW ?_ | refine dK2 (by decide +kernel) (by kernel_rfl) (by decide +kernel) rfl (fun K' hK => ?_) | refine dL2 (by kernel_rfl) (by decide +kernel) rfl (fun K' hK => ?_) | (refine aqN (hK _ ?_); clear hK K') | refine aqN ?_ | refine aqQ rfl rfl (fun hg => by first | exact std0 | exact pcW (f1) rfl rfl nd rfl nds | exact pcW (f2) rfl rfl nd rfl nds | exact pcW (f3) rfl rfl nd rfl nds | exact std1) (by exact rfl) ?_)
   all_goals (first | exact dd | skip)
   clear f1 f2 f3
   refine AWP.ownNil (d := 13) (sz := 3) rfl ?_
   refine lpD (ι := Nat) (fun i => [(11, .sl 16 (bs.map encBow) .no), (12, .sl 12 (K.map encN) .no), (13, .sl 3 ((outC key bs K i).map clE) (.own 1)), (14, .int i)]) (fun i => [.var (encS s), .own 3 ((outC key bs K i).map clE).length])
    (fun i => i ≤ K.length) (fun i => K.length - i) 2 (fun _ => rfl) 0 (nZl _) ⟨rfl, rfl, rfl, rfl, tI⟩ rfl (fun _ _ => rfl) (fun _ _ => rfl) ?_
   intro i hi
   have hol := outC_len key bs K i
   by_cases hlt : i < K.length
   · obtain ⟨n, hnn⟩ : ∃ n, K.getD i default = n := ⟨_, rfl⟩
     have hst := outC_step (key := key) (bs := bs) hlt hnn
     have hal := hali n (by rw [← hnn]; exact getD_mem hlt)
     generalize outC key bs K i = A at *
     repeat' (first | refine aoQ rfl rfl rfl (fun hg => by first | exact std0 | exact std1) (by exact rfl) ?_ | refine sqW ?_ | refine rgK (fun K' hK => ?_) | (refine aoN (hK _ _ ?_); clear hK K') | refine aoE (bxW rfl rfl rfl rfl rfl tI rfl rfl ?_) | refine aoE (stW tabOk rfl rfl rfl tI rfl rfl tI rfl rfl rfl rfl rfl rfl rfl ?_) | refine aoE (alW tabOk rfl rfl rfl rfl rfl rfl ?_) | refine cdN rfl tI (fun hc => ?_) (fun hc => ?_) | refine blK ?_ | refine exW ?_ | refine skW ?_ | refine rtW ?_ | refine dK2 (by decide +kernel) (by kernel_rfl) (by decide +kernel) rfl (fun K' hK => ?_) | refine dL2 (by kernel_rfl) (by decide +kernel) rfl (fun K' hK => ?_) | (refine aqN (hK _ ?_); clear hK K') | refine aqN ?_ | refine aqQ rfl rfl (fun hg => by first | exact std0 | exact std1) (by exact rfl) ?_)
     all_goals (first | exact dd | skip)
     refine AWP.ownNilV3 2 1 1 3 rfl ?_
     show AWP _ _ _ _ _ (RC s A (nE []) (vE []) (rE []) 0 0 0)
     refine lpD (ι := Nat) (fun j => [(11, .sl 16 (bs.map encBow) .no), (12, .sl 12 (K.map encN) .no), (13, .sl 3 (A.map clE) (.own 1)), (14, .int i), (15, .ptr 2 0), (16, .b (differs (grp key (bs.take j) (key n)))), (17, .int j)])
      (fun j => RC s A (nE (grp key (bs.take j) (key n))) (vE (grp key (bs.take j) (key n))) (rE (grp key (bs.take j) (key n))) (nE (grp key (bs.take j) (key n))).length (vE (grp key (bs.take j) (key n))).length (rE (grp key (bs.take j) (key n))).length)
      (fun j => j ≤ bs.length) (fun j => bs.length - j) 6 (fun _ => rfl) 0 (nZl _) ⟨rfl, rfl, rfl, rfl, rfl, rfl, rfl, tI⟩ rfl (fun _ _ => rfl) (fun _ _ => rfl) ?_
     intro j hj
     by_cases hjl : j < bs.length
     · obtain ⟨b, hbb⟩ : ∃ b, bs.getD j default = b := ⟨_, rfl⟩
       have a1 := ralike_spec n b.note
       rw [hal b (by rw [← hbb]; exact getD_mem hjl)] at a1
       have hgs := grp_snoc key (bs.take j) b (key n)
       rw [← hbb, ← takeS' hjl, hbb] at hgs
       have hgl : (grp key (bs.take j) (key n)).length ≤ j := by
        unfold grp
        exact zBb (zB2 _ _) (by rw [zAc]; omega)
       generalize hgq : grp key (bs.take (j + 1)) (key n) = g' at *
       generalize grp key (bs.take j) (key n) = g at *
       by_cases hke : key b.note = key n
       · rw [if_pos hke] at hgs
         subst hgs
         rw [decide_eq_true hke] at a1
         obtain ⟨h, hh⟩ : ∃ h, (g ++ [b]).getD 0 default = h := ⟨_, rfl⟩
         have hds := differs_snoc g b h hh
         have hpos : 0 < (g ++ [b]).length := by rw [lLa]; show 0 < _ + 1; omega
         have l1 := nE_len g
         have l2 := vE_len g
         have l3 := rE_len g
         repeat' (first | refine aoQ rfl rfl rfl (fun hg => by first | exact iX encBow bs ((j : Nat) : Int) hbb (hb := by omega) | exact iX encN K ((i : Nat) : Int) hnn (hb := by omega) | exact std0 | exact pcW (a1) rfl rfl nd rfl nds | exact std1) (by exact rfl) ?_ | refine sqW ?_ | refine rgK (fun K' hK => ?_) | (refine aoN (hK _ _ ?_); clear hK K') | refine aoE (bxW rfl rfl rfl rfl rfl tI rfl rfl ?_) | refine aoE (stW tabOk rfl rfl rfl tI rfl rfl tI rfl rfl rfl rfl rfl rfl rfl ?_) | refine aoE (alW tabOk rfl rfl rfl rfl rfl rfl ?_) | refine cdN rfl tI (fun hc => ?_) (fun hc => ?_) | refine blK ?_ | refine exW ?_ | refine skW ?_ | refine rtW ?_ | refine dK2 (by decide +kernel) (by kernel_rfl) (by decide +kernel) rfl (fun K' hK => ?_) | refine dL2 (by kernel_rfl) (by decide +kernel) rfl (fun K' hK => ?_) | (refine aqN (hK _ ?_); clear hK K') | refine aqN ?_ | refine aqQ rfl rfl (fun hg => by first | exact iX encBow bs ((j : Nat) : Int) hbb (hb := by omega) | exact iX encN K ((i : Nat) : Int) hnn (hb := by omega) | exact std0 | exact pcW (a1) rfl rfl nd rfl nds | exact std1) (by exact rfl) ?_)
         all_goals (first | exact dd | skip)
         refine AWP.drawYM effOp (fun j => match j with | 0 => RC s A (nE g) (vE g) (rE g) (nE g).length (vE g).length (rE g).length | 1 => RC s A (nE g) (vE g) (rE g) (nE g ++ [eI b.note.id]).length (vE g).length (rE g).length | _ => RC s A (nE g ++ [eI b.note.id]) (vE g) (rE g) (nE g ++ [eI b.note.id]).length (vE g).length (rE g).length) rfl (by kernel_rfl) (by decide +kernel) rfl (by decide +kernel) (fun K' hK => ?_)
         repeat' (first
          | refine yqQ (a := 0) (b := 0) rfl (by decide +kernel) (by decide +kernel) rfl rfl rfl (fun k h1 h2 hg => by (have hk : k = 0 := (by omega)); (rcases hk with rfl) <;> (first | exact iX encBow bs ((j : Nat) : Int) hbb (hb := by omega) | exact std0 | exact pbS tabOk rfl rfl nds | exact std1)) (by exact rfl) ?_
          | refine yqQ (a := 0) (b := 1) rfl (by decide +kernel) (by decide +kernel) rfl rfl rfl (fun k h1 h2 hg => by (have hk : k = 0 ∨ k = 1 := (by omega)); (rcases hk with rfl | rfl) <;> (first | exact iX encBow bs ((j : Nat) : Int) hbb (hb := by omega) | exact std0 | exact pbS tabOk rfl rfl nds | exact std1)) (by exact rfl) ?_
          | refine yqQ (a := 1) (b := 1) rfl (by decide +kernel) (by decide +kernel) rfl rfl rfl (fun k h1 h2 hg => by (have hk : k = 1 := (by omega)); (rcases hk with rfl) <;> (first | exact iX encBow bs ((j : Nat) : Int) hbb (hb := by omega) | exact std0 | exact pbS tabOk rfl rfl nds | exact std1)) (by exact rfl) ?_
          | refine yqQ (a := 0) (b := 2) rfl (by decide +kernel) (by decide +kernel) rfl rfl rfl (fun k h1 h2 hg => by (have hk : k = 0 ∨ k = 1 ∨ k = 2 := (by omega)); (rcases hk with rfl | rfl | rfl) <;> (first | exact iX encBow bs ((j : Nat) : Int) hbb (hb := by omega) | exact std0 | exact pbS tabOk rfl rfl nds | exact std1)) (by exact rfl) ?_
          | refine yqQ (a := 1) (b := 2) rfl (by decide +kernel) (by decide +kernel) rfl rfl rfl (fun k h1 h2 hg => by (have hk : k = 1 ∨ k = 2 := (by omega)); (rcases hk with rfl | rfl) <;> (first | exact iX encBow bs ((j : Nat) : Int) hbb (hb := by omega) | exact std0 | exact pbS tabOk rfl rfl nds | exact std1)) (by exact rfl) ?_
          | refine yqQ (a := 2) (b := 2) rfl (by decide +kernel) (by decide +kernel) rfl rfl rfl (fun k h1 h2 hg => by (have hk : k = 2 := (by omega)); (rcases hk with rfl) <;> (first | exact iX encBow bs ((j : Nat) : Int) hbb (hb := by omega) | exact std0 | exact pbS tabOk rfl rfl nds | exact std1)) (by exact rfl) ?_)
         refine YQ.e (v := .sl 1 (nE g ++ [eI b.note.id]) (.own 3)) (d := some 67) rfl rfl rfl ?_ ?_
         · intro env' he
           exact apO (l := 3) tabOk rfl rfl rfl (by decide) (Rd.w ((rdv_congr (he 59 (by decide +kernel))).trans rfl) (by rw [rdn_congr (he 59 (by decide +kernel))]; first | exact tI | exact rfl)) rfl (Rd.w ((rdv_congr (he 66 (by decide +kernel))).trans rfl) (by rw [rdn_congr (he 66 (by decide +kernel))]; first | exact tI | exact rfl)) (.sl rfl (by intro x hx; rcases zAl.1 hx with rfl; rfl)) (LOk.of (tabOk.get rfl)) (LOk.of (tabOk.get rfl)) rfl rfl (by simp only [l1, zA5, zAb]; omega) (by simp only [l1, zA5, zAb]; omega) ⟨rfl, rfl⟩
         repeat' (first
          | refine yqQ (a := 0) (b := 0) rfl (by decide +kernel) (by decide +kernel) rfl rfl rfl (fun k h1 h2 hg => by (have hk : k = 0 := (by omega)); (rcases hk with rfl) <;> (first | exact std0 | exact std1)) (by exact rfl) ?_
          | refine yqQ (a := 0) (b := 1) rfl (by decide +kernel) (by decide +kernel) rfl rfl rfl (fun k h1 h2 hg => by (have hk : k = 0 ∨ k = 1 := (by omega)); (rcases hk with rfl | rfl) <;> (first | exact std0 | exact std1)) (by exact rfl) ?_
          | refine yqQ (a := 1) (b := 1) rfl (by decide +kernel) (by decide +kernel) rfl rfl rfl (fun k h1 h2 hg => by (have hk : k = 1 := (by omega)); (rcases hk with rfl) <;> (first | exact std0 | exact std1)) (by exact rfl) ?_
          | refine yqQ (a := 0) (b := 2) rfl (by decide +kernel) (by decide +kernel) rfl rfl rfl (fun k h1 h2 hg => by (have hk : k = 0 ∨ k = 1 ∨ k = 2 := (by omega)); (rcases hk with rfl | rfl | rfl) <;> (first | exact std0 | exact std1)) (by exact rfl) ?_
          | refine yqQ (a := 1) (b := 2) rfl (by decide +kernel) (by decide +kernel) rfl rfl rfl (fun k h1 h2 hg => by (have hk : k = 1 ∨ k = 2 := (by omega)); (rcases hk with rfl | rfl) <;> (first | exact std0 | exact std1)) (by exact rfl) ?_
          | refine yqQ (a := 2) (b := 2) rfl (by decide +kernel) (by decide +kernel) rfl rfl rfl (fun k h1 h2 hg => by (have hk : k = 2 := (by omega)); (rcases hk with rfl) <;> (first | exact std0 | exact std1)) (by exact rfl) ?_)
         refine YQ.e (v := .any) (d := none) rfl rfl rfl ?_ ?_
         · intro env' he
           exact stW tabOk rfl rfl ((rdv_congr (he 68 (by decide +kernel))).trans rfl) (by rw [rdn_congr (he 68 (by decide +kernel))]; first | exact tI | exact rfl) rfl ((rdv_congr (he 67 (by decide +kernel))).trans rfl) (by rw [rdn_congr (he 67 (by decide +kernel))]; first | exact tI | exact rfl) rfl rfl rfl rfl rfl rfl rfl ⟨rfl, rfl⟩
         repeat' (first
          | refine yqQ (a := 0) (b := 0) rfl (by decide +kernel) (by decide +kernel) rfl rfl rfl (fun k h1 h2 hg => by (have hk : k = 0 := (by omega)); (rcases hk with rfl) <;> (first | exact std0 | exact std1)) (by exact rfl) ?_
          | refine yqQ (a := 0) (b := 1) rfl (by decide +kernel) (by decide +kernel) rfl rfl rfl (fun k h1 h2 hg => by (have hk : k = 0 ∨ k = 1 := (by omega)); (rcases hk with rfl | rfl) <;> (first | exact std0 | exact std1)) (by exact rfl) ?_
          | refine yqQ (a := 1) (b := 1) rfl (by decide +kernel) (by decide +kernel) rfl rfl rfl (fun k h1 h2 hg => by (have hk : k = 1 := (by omega)); (rcases hk with rfl) <;> (first | exact std0 | exact std1)) (by exact rfl) ?_
          | refine yqQ (a := 0) (b := 2) rfl (by decide +kernel) (by decide +kernel) rfl rfl rfl (fun k h1 h2 hg => by (have hk : k = 0 ∨ k = 1 ∨ k = 2 := (by omega)); (rcases hk with rfl | rfl | rfl) <;> (first | exact std0 | exact std1)) (by exact rfl) ?_
          | refine yqQ (a := 1) (b := 2) rfl (by decide +kernel) (by decide +kernel) rfl rfl rfl (fun k h1 h2 hg => by (have hk : k = 1 ∨ k = 2 := (by omega)); (rcases hk with rfl | rfl) <;> (first | exact std0 | exact std1)) (by exact rfl) ?_
          | refine yqQ (a := 2) (b := 2) rfl (by decide +kernel) (by decide +kernel) rfl rfl rfl (fun k h1 h2 hg => by (have hk : k = 2 := (by omega)); (rcases hk with rfl) <;> (first | exact std0 | exact std1)) (by exact rfl) ?_)
         refine YQ.nil (hK _ _ ?_)
         clear hK K'
         show AWP _ _ _ _ _ (RC s A (nE g ++ [eI b.note.id]) (vE g) (rE g) (nE g ++ [eI b.note.id]).length (vE g).length (rE g).length)
         rw [← nE_snoc]
         repeat' (first | refine aoQ rfl rfl rfl (fun hg => by first | exact std0 | exact std1) (by exact rfl) ?_ | refine sqW ?_ | refine rgK (fun K' hK => ?_) | (refine aoN (hK _ _ ?_); clear hK K') | refine aoE (bxW rfl rfl rfl rfl rfl tI rfl rfl ?_) | refine aoE (stW tabOk rfl rfl rfl tI rfl rfl tI rfl rfl rfl rfl rfl rfl rfl ?_) | refine aoE (alW tabOk rfl rfl rfl rfl rfl rfl ?_) | refine cdN rfl tI (fun hc => ?_) (fun hc => ?_) | refine blK ?_ | refine exW ?_ | refine skW ?_ | refine rtW ?_ | (refine aqN (hK _ ?_); clear hK K') | refine aqN ?_ | refine aqQ rfl rfl (fun hg => by first | exact std0 | exact std1) (by exact rfl) ?_)
         refine AWP.drawYM effOp (fun j => match j with | 0 => RC s A (nE (g ++ [b])) (vE g) (rE g) (nE (g ++ [b])).length (vE g).length (rE g).length | 1 => RC s A (nE (g ++ [b])) (vE g) (rE g) (nE (g ++ [b])).length (vE g).length (rE g ++ [encRd b.rdr]).length | _ => RC s A (nE (g ++ [b])) (vE g) (rE g ++ [encRd b.rdr]) (nE (g ++ [b])).length (vE g).length (rE g ++ [encRd b.rdr]).length) rfl (by kernel_rfl) (by decide +kernel) rfl (by decide +kernel) (fun K' hK => ?_)
         repeat' (first
          | refine yqQ (a := 0) (b := 0) rfl (by decide +kernel) (by decide +kernel) rfl rfl rfl (fun k h1 h2 hg => by (have hk : k = 0 := (by omega)); (rcases hk with rfl) <;> (first | exact iX encBow bs ((j : Nat) : Int) hbb (hb := by omega) | exact std0 | exact pbS tabOk rfl rfl nds | exact std1)) (by exact rfl) ?_
          | refine yqQ (a := 0) (b := 1) rfl (by decide +kernel) (by decide +kernel) rfl rfl rfl (fun k h1 h2 hg => by (have hk : k = 0 ∨ k = 1 := (by omega)); (rcases hk with rfl | rfl) <;> (first | exact iX encBow bs ((j : Nat) : Int) hbb (hb := by omega) | exact std0 | exact pbS tabOk rfl rfl nds | exact std1)) (by exact rfl) ?_
          | refine yqQ (a := 1) (b := 1) rfl (by decide +kernel) (by decide +kernel) rfl rfl rfl (fun k h1 h2 hg => by (have hk : k = 1 := (by omega)); (rcases hk with rfl) <;> (first | exact iX encBow bs ((j : Nat) : Int) hbb (hb := by omega) | exact std0 | exact pbS tabOk rfl rfl nds | exact std1)) (by exact rfl) ?_
          | refine yqQ (a := 0) (b := 2) rfl (by decide +kernel) (by decide +kernel) rfl rfl rfl (fun k h1 h2 hg => by (have hk : k = 0 ∨ k = 1 ∨ k = 2 := (by omega)); (rcases hk with rfl | rfl | rfl) <;> (first | exact iX encBow bs ((j : Nat) : Int) hbb (hb := by omega) | exact std0 | exact pbS tabOk rfl rfl nds | exact std1)) (by exact rfl) ?_
          | refine yqQ (a := 1) (b := 2) rfl (by decide +kernel) (by decide +kernel) rfl rfl rfl (fun k h1 h2 hg => by (have hk : k = 1 ∨ k = 2 := (by omega)); (rcases hk with rfl | rfl) <;> (first | exact iX encBow bs ((j : Nat) : Int) hbb (hb := by omega) | exact std0 | exact pbS tabOk rfl rfl nds | exact std1)) (by exact rfl) ?_
          | refine yqQ (a := 2) (b := 2) rfl (by decide +kernel) (by decide +kernel) rfl rfl rfl (fun k h1 h2 hg => by (have hk : k = 2 := (by omega)); (rcases hk with rfl) <;> (first | exact iX encBow bs ((j : Nat) : Int) hbb (hb := by omega) | exact std0 | exact pbS tabOk rfl rfl nds | exact std1)) (by exact rfl) ?_)
         refine YQ.e (v := .sl 3 (rE g ++ [encRd b.rdr]) (.own 5)) (d := some 77) rfl rfl rfl ?_ ?_
         · intro env' he
           exact apO (l := 5) tabOk rfl rfl rfl (by decide) (Rd.w ((rdv_congr (he 70 (by decide +kernel))).trans rfl) (by rw [rdn_congr (he 70 (by decide +kernel))]; first | exact tI | exact rfl)) rfl (Rd.w ((rdv_congr (he 76 (by decide +kernel))).trans rfl) (by rw [rdn_congr (he 76 (by decide +kernel))]; first | exact tI | exact rfl)) (.sl rfl (by intro x hx; rcases zAl.1 hx with rfl; rfl)) (LOk.of (tabOk.get rfl)) (LOk.of (tabOk.get rfl)) rfl rfl (by simp only [l3, zA5, zAb]; omega) (by simp only [l3, zA5, zAb]; omega) ⟨rfl, rfl⟩
         repeat' (first
          | refine yqQ (a := 0) (b := 0) rfl (by decide +kernel) (by decide +kernel) rfl rfl rfl (fun k h1 h2 hg => by (have hk : k = 0 := (by omega)); (rcases hk with rfl) <;> (first | exact std0 | exact std1)) (by exact rfl) ?_
          | refine yqQ (a := 0) (b := 1) rfl (by decide +kernel) (by decide +kernel) rfl rfl rfl (fun k h1 h2 hg => by (have hk : k = 0 ∨ k = 1 := (by omega)); (rcases hk with rfl | rfl) <;> (first | exact std0 | exact std1)) (by exact rfl) ?_
          | refine yqQ (a := 1) (b := 1) rfl (by decide +kernel) (by decide +kernel) rfl rfl rfl (fun k h1 h2 hg => by (have hk : k = 1 := (by omega)); (rcases hk with rfl) <;> (first | exact std0 | exact std1)) (by exact rfl) ?_
          | refine yqQ (a := 0) (b := 2) rfl (by decide +kernel) (by decide +kernel) rfl rfl rfl (fun k h1 h2 hg => by (have hk : k = 0 ∨ k = 1 ∨ k = 2 := (by omega)); (rcases hk with rfl | rfl | rfl) <;> (first | exact std0 | exact std1)) (by exact rfl) ?_
          | refine yqQ (a := 1) (b := 2) rfl (by decide +kernel) (by decide +kernel) rfl rfl rfl (fun k h1 h2 hg => by (have hk : k = 1 ∨ k = 2 := (by omega)); (rcases hk with rfl | rfl) <;> (first | exact std0 | exact std1)) (by exact rfl) ?_
          | refine yqQ (a := 2) (b := 2) rfl (by decide +kernel) (by decide +kernel) rfl rfl rfl (fun k h1 h2 hg => by (have hk : k = 2 := (by omega)); (rcases hk with rfl) <;> (first | exact std0 | exact std1)) (by exact rfl) ?_)
         refine YQ.e (v := .any) (d := none) rfl rfl rfl ?_ ?_
         · intro env' he
           exact stW tabOk rfl rfl ((rdv_congr (he 78 (by decide +kernel))).trans rfl) (by rw [rdn_congr (he 78 (by decide +kernel))]; first | exact tI | exact rfl) rfl ((rdv_congr (he 77 (by decide +kernel))).trans rfl) (by rw [rdn_congr (he 77 (by decide +kernel))]; first | exact tI | exact rfl) rfl rfl rfl rfl rfl rfl rfl ⟨rfl, rfl⟩
         repeat' (first
          | refine yqQ (a := 0) (b := 0) rfl (by decide +kernel) (by decide +kernel) rfl rfl rfl (fun k h1 h2 hg => by (have hk : k = 0 := (by omega)); (rcases hk with rfl) <;> (first | exact std0 | exact std1)) (by exact rfl) ?_
          | refine yqQ (a := 0) (b := 1) rfl (by decide +kernel) (by decide +kernel) rfl rfl rfl (fun k h1 h2 hg => by (have hk : k = 0 ∨ k = 1 := (by omega)); (rcases hk with rfl | rfl) <;> (first | exact std0 | exact std1)) (by exact rfl) ?_
          | refine yqQ (a := 1) (b := 1) rfl (by decide +kernel) (by decide +kernel) rfl rfl rfl (fun k h1 h2 hg => by (have hk : k = 1 := (by omega)); (rcases hk with rfl) <;> (first | exact std0 | exact std1)) (by exact rfl) ?_
          | refine yqQ (a := 0) (b := 2) rfl (by decide +kernel) (by decide +kernel) rfl rfl rfl (fun k h1 h2 hg => by (have hk : k = 0 ∨ k = 1 ∨ k = 2 := (by omega)); (rcases hk with rfl | rfl | rfl) <;> (first | exact std0 | exact std1)) (by exact rfl) ?_
          | refine yqQ (a := 1) (b := 2) rfl (by decide +kernel) (by decide +kernel) rfl rfl rfl (fun k h1 h2 hg => by (have hk : k = 1 ∨ k = 2 := (by omega)); (rcases hk with rfl | rfl) <;> (first | exact std0 | exact std1)) (by exact rfl) ?_
          | refine yqQ (a := 2) (b := 2) rfl (by decide +kernel) (by decide +kernel) rfl rfl rfl (fun k h1 h2 hg => by (have hk : k = 2 := (by omega)); (rcases hk with rfl) <;> (first | exact std0 | exact std1)) (by exact rfl) ?_)
         refine YQ.nil (hK _ _ ?_)
         clear hK K'
         show AWP _ _ _ _ _ (RC s A (nE (g ++ [b])) (vE g) (rE g ++ [encRd b.rdr]) (nE (g ++ [b])).length (vE g).length (rE g ++ [encRd b.rdr]).length)
         rw [← rE_snoc]
         repeat' (first | refine aoQ rfl rfl rfl (fun hg => by first | exact std0 | exact std1) (by exact rfl) ?_ | refine sqW ?_ | refine rgK (fun K' hK => ?_) | (refine aoN (hK _ _ ?_); clear hK K') | refine aoE (bxW rfl rfl rfl rfl rfl tI rfl rfl ?_) | refine aoE (stW tabOk rfl rfl rfl tI rfl rfl tI rfl rfl rfl rfl rfl rfl rfl ?_) | refine aoE (alW tabOk rfl rfl rfl rfl rfl rfl ?_) | refine cdN rfl tI (fun hc => ?_) (fun hc => ?_) | refine blK ?_ | refine exW ?_ | refine skW ?_ | refine rtW ?_ | (refine aqN (hK _ ?_); clear hK K') | refine aqN ?_ | refine aqQ rfl rfl (fun hg => by first | exact std0 | exact std1) (by exact rfl) ?_)
         refine AWP.drawYM effOp (fun j => match j with | 0 => RC s A (nE (g ++ [b])) (vE g) (rE (g ++ [b])) (nE (g ++ [b])).length (vE g).length (rE (g ++ [b])).length | 1 => RC s A (nE (g ++ [b])) (vE g) (rE (g ++ [b])) (nE (g ++ [b])).length (vE g ++ [eI b.val]).length (rE (g ++ [b])).length | _ => RC s A (nE (g ++ [b])) (vE g ++ [eI b.val]) (rE (g ++ [b])) (nE (g ++ [b])).length (vE g ++ [eI b.val]).length (rE (g ++ [b])).length) rfl (by kernel_rfl) (by decide +kernel) rfl (by decide +kernel) (fun K' hK => ?_)
         repeat' (first
          | refine yqQ (a := 0) (b := 0) rfl (by decide +kernel) (by decide +kernel) rfl rfl rfl (fun k h1 h2 hg => by (have hk : k = 0 := (by omega)); (rcases hk with rfl) <;> (first | exact iX encBow bs ((j : Nat) : Int) hbb (hb := by omega) | exact std0 | exact pbS tabOk rfl rfl nds | exact std1)) (by exact rfl) ?_
          | refine yqQ (a := 0) (b := 1) rfl (by decide +kernel) (by decide +kernel) rfl rfl rfl (fun k h1 h2 hg => by (have hk : k = 0 ∨ k = 1 := (by omega)); (rcases hk with rfl | rfl) <;> (first | exact iX encBow bs ((j : Nat) : Int) hbb (hb := by omega) | exact std0 | exact pbS tabOk rfl rfl nds | exact std1)) (by exact rfl) ?_
          | refine yqQ (a := 1) (b := 1) rfl (by decide +kernel) (by decide +kernel) rfl rfl rfl (fun k h1 h2 hg => by (have hk : k = 1 := (by omega)); (rcases hk with rfl) <;> (first | exact iX encBow bs ((j : Nat) : Int) hbb (hb := by omega) | exact std0 | exact pbS tabOk rfl rfl nds | exact std1)) (by exact rfl) ?_
          | refine yqQ (a := 0) (b := 2) rfl (by decide +kernel) (by decide +kernel) rfl rfl rfl (fun k h1 h2 hg => by (have hk : k = 0 ∨ k = 1 ∨ k = 2 := (by omega)); (rcases hk with rfl | rfl | rfl) <;> (first | exact iX encBow bs ((j : Nat) : Int) hbb (hb := by omega) | exact std0 | exact pbS tabOk rfl rfl nds | exact std1)) (by exact rfl) ?_
          | refine yqQ (a := 1) (b := 2) rfl (by decide +kernel) (by decide +kernel) rfl rfl rfl (fun k h1 h2 hg => by (have hk : k = 1 ∨ k = 2 := (by omega)); (rcases hk with rfl | rfl) <;> (first | exact iX encBow bs ((j : Nat) : Int) hbb (hb := by omega) | exact std0 | exact pbS tabOk rfl rfl nds | exact std1)) (by exact rfl) ?_
          | refine yqQ (a := 2) (b := 2) rfl (by decide +kernel) (by decide +kernel) rfl rfl rfl (fun k h1 h2 hg => by (have hk : k = 2 := (by omega)); (rcases hk with rfl) <;> (first | exact iX encBow bs ((j : Nat) : Int) hbb (hb := by omega) | exact std0 | exact pbS tabOk rfl rfl nds | exact std1)) (by exact rfl) ?_)
         refine YQ.e (v := .sl 1 (vE g ++ [eI b.val]) (.own 4)) (d := some 87) rfl rfl rfl ?_ ?_
         · intro env' he
           exact apO (l := 4) tabOk rfl rfl rfl (by decide) (Rd.w ((rdv_congr (he 80 (by decide +kernel))).trans rfl) (by rw [rdn_congr (he 80 (by decide +kernel))]; first | exact tI | exact rfl)) rfl (Rd.w ((rdv_congr (he 86 (by decide +kernel))).trans rfl) (by rw [rdn_congr (he 86 (by decide +kernel))]; first | exact tI | exact rfl)) (.sl rfl (by intro x hx; rcases zAl.1 hx with rfl; rfl)) (LOk.of (tabOk.get rfl)) (LOk.of (tabOk.get rfl)) rfl rfl (by simp only [l2, zA5, zAb]; omega) (by simp only [l2, zA5, zAb]; omega) ⟨rfl, rfl⟩
         repeat' (first
          | refine yqQ (a := 0) (b := 0) rfl (by decide +kernel) (by decide +kernel) rfl rfl rfl (fun k h1 h2 hg => by (have hk : k = 0 := (by omega)); (rcases hk with rfl) <;> (first | exact std0 | exact std1)) (by exact rfl) ?_
          | refine yqQ (a := 0) (b := 1) rfl (by decide +kernel) (by decide +kernel) rfl rfl rfl (fun k h1 h2 hg => by (have hk : k = 0 ∨ k = 1 := (by omega)); (rcases hk with rfl | rfl) <;> (first | exact std0 | exact std1)) (by exact rfl) ?_
          | refine yqQ (a := 1) (b := 1) rfl (by decide +kernel) (by decide +kernel) rfl rfl rfl (fun k h1 h2 hg => by (have hk : k = 1 := (by omega)); (rcases hk with rfl) <;> (first | exact std0 | exact std1)) (by exact rfl) ?_
          | refine yqQ (a := 0) (b := 2) rfl (by decide +kernel) (by decide +kernel) rfl rfl rfl (fun k h1 h2 hg => by (have hk : k = 0 ∨ k = 1 ∨ k = 2 := (by omega)); (rcases hk with rfl | rfl | rfl) <;> (first | exact std0 | exact std1)) (by exact rfl) ?_
          | refine yqQ (a := 1) (b := 2) rfl (by decide +kernel) (by decide +kernel) rfl rfl rfl (fun k h1 h2 hg => by (have hk : k = 1 ∨ k = 2 := (by omega)); (rcases hk with rfl | rfl) <;> (first | exact std0 | exact std1)) (by exact rfl) ?_
          | refine yqQ (a := 2) (b := 2) rfl (by decide +kernel) (by decide +kernel) rfl rfl rfl (fun k h1 h2 hg => by (have hk : k = 2 := (by omega)); (rcases hk with rfl) <;> (first | exact std0 | exact std1)) (by exact rfl) ?_)
         refine YQ.e (v := .any) (d := none) rfl rfl rfl ?_ ?_
         · intro env' he
           exact stW tabOk rfl rfl ((rdv_congr (he 88 (by decide +kernel))).trans rfl) (by rw [rdn_congr (he 88 (by decide +kernel))]; first | exact tI | exact rfl) rfl ((rdv_congr (he 87 (by decide +kernel))).trans rfl) (by rw [rdn_congr (he 87 (by decide +kernel))]; first | exact tI | exact rfl) rfl rfl rfl rfl rfl rfl rfl ⟨rfl, rfl⟩
         repeat' (first
          | refine yqQ (a := 0) (b := 0) rfl (by decide +kernel) (by decide +kernel) rfl rfl rfl (fun k h1 h2 hg => by (have hk : k = 0 := (by omega)); (rcases hk with rfl) <;> (first | exact std0 | exact std1)) (by exact rfl) ?_
          | refine yqQ (a := 0) (b := 1) rfl (by decide +kernel) (by decide +kernel) rfl rfl rfl (fun k h1 h2 hg => by (have hk : k = 0 ∨ k = 1 := (by omega)); (rcases hk with rfl | rfl) <;> (first | exact std0 | exact std1)) (by exact rfl) ?_
          | refine yqQ (a := 1) (b := 1) rfl (by decide +kernel) (by decide +kernel) rfl rfl rfl (fun k h1 h2 hg => by (have hk : k = 1 := (by omega)); (rcases hk with rfl) <;> (first | exact std0 | exact std1)) (by exact rfl) ?_
          | refine yqQ (a := 0) (b := 2) rfl (by decide +kernel) (by decide +kernel) rfl rfl rfl (fun k h1 h2 hg => by (have hk : k = 0 ∨ k = 1 ∨ k = 2 := (by omega)); (rcases hk with rfl | rfl | rfl) <;> (first | exact std0 | exact std1)) (by exact rfl) ?_
          | refine yqQ (a := 1) (b := 2) rfl (by decide +kernel) (by decide +kernel) rfl rfl rfl (fun k h1 h2 hg => by (have hk : k = 1 ∨ k = 2 := (by omega)); (rcases hk with rfl | rfl) <;> (first | exact std0 | exact std1)) (by exact rfl) ?_
          | refine yqQ (a := 2) (b := 2) rfl (by decide +kernel) (by decide +kernel) rfl rfl rfl (fun k h1 h2 hg => by (have hk : k = 2 := (by omega)); (rcases hk with rfl) <;> (first | exact std0 | exact std1)) (by exact rfl) ?_)
         refine YQ.nil (hK _ _ ?_)
         clear hK K'
         show AWP _ _ _ _ _ (RC s A (nE (g ++ [b])) (vE g ++ [eI b.val]) (rE (g ++ [b])) (nE (g ++ [b])).length (vE g ++ [eI b.val]).length (rE (g ++ [b])).length)
         rw [← vE_snoc]
         generalize differs g = df at *
         repeat' (first | refine aoQ rfl rfl rfl (fun hg => by first | exact PRun.eq (v := .iptr ((fun b : Bow => eI b.val) ((g ++ [b]).getD (0 : Int).toNat default))) (piW (i := 0) tabOk rfl rfl nd rfl nd rfl rfl ⟨by decide, by omega⟩) (congrArg (fun x => AV.iptr ((fun b : Bow => eI b.val) x)) (show (g ++ [b]).getD (0 : Int).toNat default = h from hh)) | exact iX encBow bs ((j : Nat) : Int) hbb (hb := by omega) | exact std0 | exact std1) (by exact rfl) ?_ | refine sqW ?_ | refine rgK (fun K' hK => ?_) | (refine aoN (hK _ _ ?_); clear hK K') | refine aoE (bxW rfl rfl rfl rfl rfl tI rfl rfl ?_) | refine aoE (stW tabOk rfl rfl rfl tI rfl rfl tI rfl rfl rfl rfl rfl rfl rfl ?_) | refine aoE (alW tabOk rfl rfl rfl rfl rfl rfl ?_) | refine cdN rfl tI (fun hc => ?_) (fun hc => ?_) | refine blK ?_ | refine exW ?_ | refine skW ?_ | refine rtW ?_ | refine dK2 (by decide +kernel) (by kernel_rfl) (by decide +kernel) rfl (fun K' hK => ?_) | refine dL2 (by kernel_rfl) (by decide +kernel) rfl (fun K' hK => ?_) | (refine aqN (hK _ ?_); clear hK K') | refine aqN ?_ | refine aqQ rfl rfl (fun hg => by first | exact PRun.eq (v := .iptr ((fun b : Bow => eI b.val) ((g ++ [b]).getD (0 : Int).toNat default))) (piW (i := 0) tabOk rfl rfl nd rfl nd rfl rfl ⟨by decide, by omega⟩) (congrArg (fun x => AV.iptr ((fun b : Bow => eI b.val) x)) (show (g ++ [b]).getD (0 : Int).toNat default = h from hh)) | exact iX encBow bs ((j : Nat) : Int) hbb (hb := by omega) | exact std0 | exact std1) (by exact rfl) ?_)
         all_goals (first | exact dd | skip)
         refine ⟨j + 1, hjl, by show bs.length - (j + 1) < bs.length - j; omega, ⟨rfl, rfl, rfl, rfl, rfl, ?_, rfl, tI⟩, by rw [hgq]; rfl⟩
         rw [hgq, hds]; first | rfl | (cases df <;> rfl)
       · rw [if_neg hke] at hgs
         subst hgs
         rw [decide_eq_false hke] at a1
         repeat' (first | refine aoQ rfl rfl rfl (fun hg => by first | exact iX encBow bs ((j : Nat) : Int) hbb (hb := by omega) | exact iX encN K ((i : Nat) : Int) hnn (hb := by omega) | exact std0 | exact pcW (a1) rfl rfl nd rfl nds | exact std1) (by exact rfl) ?_ | refine sqW ?_ | refine rgK (fun K' hK => ?_) | (refine aoN (hK _ _ ?_); clear hK K') | refine aoE (bxW rfl rfl rfl rfl rfl tI rfl rfl ?_) | refine aoE (stW tabOk rfl rfl rfl tI rfl rfl tI rfl rfl rfl rfl rfl rfl rfl ?_) | refine aoE (alW tabOk rfl rfl rfl rfl rfl rfl ?_) | refine cdN rfl tI (fun hc => ?_) (fun hc => ?_) | refine blK ?_ | refine exW ?_ | refine skW ?_ | refine rtW ?_ | refine dK2 (by decide +kernel) (by kernel_rfl) (by decide +kernel) rfl (fun K' hK => ?_) | refine dL2 (by kernel_rfl) (by decide +kernel) rfl (fun K' hK => ?_) | (refine aqN (hK _ ?_); clear hK K') | refine aqN ?_ | refine aqQ rfl rfl (fun hg => by first | exact iX encBow bs ((j : Nat) : Int) hbb (hb := by omega) | exact iX encN K ((i : Nat) : Int) hnn (hb := by omega) | exact std0 | exact pcW (a1) rfl rfl nd rfl nds | exact std1) (by exact rfl) ?_)
         all_goals (first | exact dd | skip)
         exact ⟨j + 1, hjl, by show bs.length - (j + 1) < bs.length - j; omega, ⟨rfl, rfl, rfl, rfl, rfl, (by rw [hgq]; rfl), rfl, tI⟩, by rw [hgq]; rfl⟩
     · obtain rfl : j = bs.length := by omega
       rw [zAr]
       generalize grp key bs (key n) = g at *
       refine AWP.unownV3 2 rfl ?_
       cases hdg : differs g with
       | true =>
         rw [hdg, if_pos rfl] at hst
         repeat' (first | refine aoQ rfl rfl rfl (fun hg => by first | exact std0 | exact pbS tabOk rfl rfl nds | exact std1) (by exact rfl) ?_ | refine sqW ?_ | refine rgK (fun K' hK => ?_) | (refine aoN (hK _ _ ?_); clear hK K') | refine aoE (bxW rfl rfl rfl rfl rfl tI rfl rfl ?_) | refine aoE (stW tabOk rfl rfl rfl tI rfl rfl tI rfl rfl rfl rfl rfl rfl rfl ?_) | refine aoE (alW tabOk rfl rfl rfl rfl rfl rfl ?_) | refine aoE (apO tabOk rfl rfl rfl (by decide) (Rd.w rfl tI) rfl (Rd.w rfl tI) (.sl rfl (by first | (intro x hx; rcases zAl.1 hx with rfl; rfl) | exact one_clE g)) (LOk.of (tabOk.get rfl)) (LOk.of (tabOk.get rfl)) rfl rfl (by simp only [lLm, lLa, zA5, zAb, zAc, zAx]; omega) (by simp only [lLm, lLa, zA5, zAb, zAc, zAx]; omega) ?_) | refine cdN rfl tI (fun hc => ?_) (fun hc => ?_) | refine blK ?_ | refine exW ?_ | refine skW ?_ | refine rtW ?_ | refine dK2 (by decide +kernel) (by kernel_rfl) (by decide +kernel) rfl (fun K' hK => ?_) | refine dL2 (by kernel_rfl) (by decide +kernel) rfl (fun K' hK => ?_) | (refine aqN (hK _ ?_); clear hK K') | refine aqN ?_ | refine aqQ rfl rfl (fun hg => by first | exact std0 | exact pbS tabOk rfl rfl nds | exact std1) (by exact rfl) ?_)
         all_goals (first | exact dd | skip)
         refine ⟨i + 1, hlt, by show K.length - (i + 1) < K.length - i; omega, ⟨rfl, rfl, ?_, rfl, tI⟩, ?_⟩
         · rw [hst, zAe]; rfl
         · rw [hst, zAe]; rfl
       | false =>
         rw [hdg, if_neg (by decide)] at hst
         repeat' (first | refine aoQ rfl rfl rfl (fun hg => by first | exact std0 | exact std1) (by exact rfl) ?_ | refine sqW ?_ | refine rgK (fun K' hK => ?_) | (refine aoN (hK _ _ ?_); clear hK K') | refine aoE (bxW rfl rfl rfl rfl rfl tI rfl rfl ?_) | refine aoE (stW tabOk rfl rfl rfl tI rfl rfl tI rfl rfl rfl rfl rfl rfl rfl ?_) | refine aoE (alW tabOk rfl rfl rfl rfl rfl rfl ?_) | refine cdN rfl tI (fun hc => ?_) (fun hc => ?_) | refine blK ?_ | refine exW ?_ | refine skW ?_ | refine rtW ?_ | refine dK2 (by decide +kernel) (by kernel_rfl) (by decide +kernel) rfl (fun K' hK => ?_) | refine dL2 (by kernel_rfl) (by decide +kernel) rfl (fun K' hK => ?_) | (refine aqN (hK _ ?_); clear hK K') | refine aqN ?_ | refine aqQ rfl rfl (fun hg => by first | exact std0 | exact std1) (by exact rfl) ?_)
         all_goals (first | exact dd | skip)
         refine ⟨i + 1, hlt, by show K.length - (i + 1) < K.length - i; omega, ⟨rfl, rfl, ?_, rfl, tI⟩, ?_⟩
         · rw [hst]; rfl
         · rw [hst]; rfl
   · obtain rfl : i = K.length := by omega
     repeat' (first | refine aoQ rfl rfl rfl (fun hg => by first | exact std0 | exact std1) (by exact rfl) ?_ | refine sqW ?_ | refine rgK (fun K' hK => ?_) | (refine aoN (hK _ _ ?_); clear hK K') | refine aoE (bxW rfl rfl rfl rfl rfl tI rfl rfl ?_) | refine aoE (stW tabOk rfl rfl rfl tI rfl rfl tI rfl rfl rfl rfl rfl rfl rfl ?_) | refine aoE (alW tabOk rfl rfl rfl rfl rfl rfl ?_) | refine cdN rfl tI (fun hc => ?_) (fun hc => ?_) | refine blK ?_ | refine exW ?_ | refine skW ?_ | refine rtW ?_ | refine dK2 (by decide +kernel) (by kernel_rfl) (by decide +kernel) rfl (fun K' hK => ?_) | refine dL2 (by kernel_rfl) (by decide +kernel) rfl (fun K' hK => ?_) | (refine aqN (hK _ ?_); clear hK K') | refine aqN ?_ | refine aqQ rfl rfl (fun hg => by first | exact std0 | exact std1) (by exact rfl) ?_)
     all_goals (first | exact dd | skip)
     exact ⟨.inr rfl, _, rfl, Ent.of rfl⟩
 · have hR : clashesR s l sec ex = ([], 1) := if_neg hf
   rw [hR]
   have hf0 : formB s l sec ex = false := by
    cases h : formB s l sec ex with
    | false => rfl
    | true => exact absurd h hf
   rw [hf0] at f1
   refine PCall.bodyS tabOk Tryz.func13 rfl rfl Tryz.ntmps13 rfl ?_
   repeat' (first | refine aoQ rfl rfl rfl (fun hg => by first | exact std0 | exact pcW (f1) rfl rfl nd rfl nds | exact std1) (by exact rfl) ?_ | refine sqW ?_ | refine rgK (fun K' hK => ?_) | (refine aoN (hK _ _ ?_); clear hK K') | refine aoE (bxW rfl rfl rfl rfl rfl tI rfl rfl ?_) | refine aoE (stW tabOk rfl rfl rfl tI rfl rfl tI rfl rfl rfl rfl rfl rfl rfl ?_) | refine aoE (alW tabOk rfl rfl rfl rfl rfl rfl ?_) | refine cdN rfl tI (fun hc => ?_) (fun hc => ?_) | refine blK ?_ | refine exW ?_ | refine skW ?_ | refine rtW ?_ | (refine aqN (hK _ ?_); clear hK K') | refine aqN ?_ | refine aqQ rfl rfl (fun hg => by first | exact std0 | exact pcW (f1) rfl rfl nd rfl nds | exact std1) (by exact rfl) ?_)
   all_goals (first | (exact ⟨.inr rfl, _, rfl, entT 1⟩) | (exfalso; simp at hc; done))
end Go.Proofs.YtficfljjnbnhbaaGreatDoor.Bw
