/- Contracts by content: align: the iterator over free notes.  Contracts by content: align: match: which notes belong together by a rule. No statement is proved here. -/
import Derived.Test.YtekfpcgagoidcaaGreatDoorU19
set_option linter.unusedVariables false
set_option linter.unusedSimpArgs false
namespace Go.Ab
theorem gOf_yesB {ops : Array Oper} {o : Oper} {env : Env} {j d : Nat} {want t : Bool} (h1 : o.guard = some (j, want)) (h2 : (ops[j]?).bind (·.dst) = some d) (h3 : env d = .prim (.bool t)) : gOf ops env o = some (.yes (t == want)) := by
 unfold gOf; rw [h1]; simp only; rw [h2]; simp only; rw [h3]
end Go.Ab
namespace Go.Proofs.YtekfpcgagoidcaaGreatDoor.Al
open Go.Ab Go.Sort
attribute [local irreducible] AWP AOps EStep AQ PStep PRun PCall TCall VCall
def MB (p : Nat → AObj) (ps : PL) : Store := [p 0, p 1, p 2, p 3, p 4, p 5, p 6, p 7, .map (Go.Ab.encM ekI AV.int ps), .map (Go.Ab.encM ekI AV.int (swp ps))]
def MO (p : Nat → AObj) (a b : List Note) (g : Nat) (ps : PL) : Store := [p 0, p 1, p 2, p 3, p 4, p 5, p 6, p 7, .map (Go.Ab.encM ekI AV.int ps), .map (Go.Ab.encM ekI AV.int (swp ps)), .var [.sl 12 (b.map encN) .no], .var [.map 8], .var [.map 9], .var [.fn (.func g) [] []], .var [.sl 12 (a.map encN) .no], .var [.map 8]]
def MI (p : Nat → AObj) (a b : List Note) (g : Nat) (ps : PL) (m : Note) : Store := [p 0, p 1, p 2, p 3, p 4, p 5, p 6, p 7, .map (Go.Ab.encM ekI AV.int ps), .map (Go.Ab.encM ekI AV.int (swp ps)), .var [.sl 12 (b.map encN) .no], .var [.map 8], .var [.map 9], .var [.fn (.func g) [] []], .var [.sl 12 (a.map encN) .no], .var [.map 8], .var (encN m), .var [.sl 12 (b.map encN) .no], .var [.map 9]]
def evN1 (n : Note) : List AV := [.agg (encN n)]
theorem all_len {s : Store} {L : Nat} (h : s.length = L ∧ s.all (okObj L) = true) : s.all (okObj s.length) = true := by rw [h.1]; exact h.2
theorem free_spec (l : List Note) (ix : Nat) (σ : Store) (hix : ix < σ.length) (hok : σ.all (okObj σ.length) = true) : TCall Tryz.prog 94 [.sl 12 (l.map encN) .no, .map ix] σ
 (fun r s => r = .fn (.func 123) [] [.ptr σ.length 0, .ptr (σ ++ [AObj.var [.sl 12 (l.map encN) .no]]).length 0] ∧ s = σ ++ [.var [.sl 12 (l.map encN) .no]] ++ [.var [.map ix]]) := by
 refine TCall.body Tryz.func94 rfl rfl Tryz.ntmps94 rfl rfl ?_
 repeat' (first | refine aoQ rfl rfl rfl (fun hg => by exact std0) (by exact rfl) ?_ | refine sqW ?_ | refine rgK (fun K' hK => ?_) | (refine aoN (hK _ _ ?_); clear hK K') | refine aoE (bxW rfl rfl rfl rfl rfl tI rfl rfl ?_) | refine rtW ?_)
 refine ⟨.inr rfl, _, _, ⟨rfl, rfl⟩, zB9 .., by simp only [lLa, zA8, zAg]; omega, ?_, ?_, rfl⟩
 · simp only [zCi, zBg, zBl, lLa, zA8, zAg]
   rw [okObjs_mono (show σ.length ≤ σ.length + (0 + 1) + (0 + 1) by omega) hok]
   have h1 : decide (ix < σ.length + (0 + 1) + (0 + 1)) = true := decide_eq_true (by omega)
   show (true && (true && true) && ((decide (ix < σ.length + (0 + 1) + (0 + 1)) && true) && true)) = true
   rw [h1]; rfl
 · show ((decide (σ.length < _) && (decide (_ < _) && true))) = true
   rw [decide_eq_true (by simp only [lLa, zA8, zAg]; omega), decide_eq_true (by simp only [lLa, zA8, zAg]; omega)]; rfl
set_option maxHeartbeats 8000000 in
set_option maxRecDepth 20000 in
theorem free_outer (p : Nat → AObj) (f : Note → Note → Bool) (a b : List Note) (g : Nat) (ps : PL) (hnd : (a.map (·.id)).Nodup) (hl : a.length ≤ 1000000000) (rc : Loop) (E : List (Nat × AV)) (Pj : Nat → Prop) :
 IterP Tryz.prog 123 [] [.ptr 14 0, .ptr 15 0] ((freeA a ps).map evN1) 17 (fun j => MO p a b g (psAt f a b ps j) ++ [.loop rc E]) Pj := by
 intro yv R hP0 hS hR hy hyield
 rw [lLm] at *
 have hyc : ∀ (c : Nat) (n : Note), (freeA a ps)[c]? = some n → Pj c → VCall Tryz.prog (.opq yv) [.agg (encN n)] ((MO p a b g (psAt f a b ps c) ++ [.loop rc E]) ++ [.var (encN n)]) (fun r t => ∃ t', t = t' ++ [.var (encN n)] ∧ ((r = .b true ∧ t' = MO p a b g (psAt f a b ps (c + 1)) ++ [.loop rc E] ∧ Pj (c + 1)) ∨ (r = .b false ∧ R c t'))) := fun c n hc hp => by
  have hlt : c < (freeA a ps).length := by
   rcases nLg c (freeA a ps).length with h | h
   · exact h
   · rw [zA1 h] at hc; cases hc
  have hv := VCall.frame (hyield c [.agg (encN n)] (by rw [zAb, hc]; rfl) hp) [.var (encN n)] (by have h9 := (hS c (by omega)).2; exact h9) (by show okRef _ 3 yv = true; exact hy) rfl (by
   rintro rv s' (⟨_, rfl, _⟩ | ⟨_, hh⟩)
   · exact ((hS (c + 1) (by omega)).1).trans ((hS c (by omega)).1).symm
   · exact ((hR _ _ hh).1).trans ((hS c (by omega)).1).symm)
  exact hv
 show TCall _ _ [.opq yv, .ptr 14 0, .ptr 15 0] (MO p a b g (psAt f a b ps 0) ++ [.loop rc E]) _
 refine TCall.body Tryz.func123 rfl rfl Tryz.ntmps123 rfl rfl ?_
 repeat' (first | refine aoQ rfl rfl rfl (fun hg => by first | exact std0 | exact std1) (by exact rfl) ?_ | refine sqW ?_ | refine rgK (fun K' hK => ?_) | (refine aoN (hK _ _ ?_); clear hK K') | refine blK ?_)
 refine lpD (ι := Nat) (fun k => [(0, .opq yv), (1, .ptr 14 0), (2, .ptr 15 0), (8, .sl 12 (a.map encN) .no), (9, .int a.length), (10, .int k)]) (fun k => MO p a b g (psAt f a b ps (((a.take k).filter fun x => !fstIn ps x.id).length)) ++ [.loop rc E])
  (fun k => k ≤ a.length ∧ Pj (((a.take k).filter fun x => !fstIn ps x.id).length)) (fun k => a.length - k) 17 (fun _ => rfl) 0 ⟨nZl _, hP0⟩ ⟨rfl, rfl, rfl, rfl, rfl, rfl, tI⟩ rfl (fun k _ => by
   simp only [zBg, zBl, Bool.and_true, zA0]
   exact ⟨hy, rfl, rfl, rfl, rfl, rfl⟩) (fun k hk => (hS (((a.take k).filter fun x => !fstIn ps x.id).length) (filter_len_le (fun x : Note => !fstIn ps x.id) a k)).2) ?_
 rintro k ⟨hk, hPk⟩
 have hcl : ((a.take k).filter fun x => !fstIn ps x.id).length ≤ (freeA a ps).length := filter_len_le (fun x : Note => !fstIn ps x.id) a k
 by_cases hlt : k < a.length
 · obtain ⟨n, hn⟩ : ∃ n, a.getD k default = n := ⟨_, rfl⟩
   have hlk := psAt_lk (f := f) (b := b) (ps := ps) hnd hlt
   rw [hn] at hlk
   by_cases hfr : fstIn ps n.id = true
   · rw [hfr] at hlk
     have hc1 := filter_not (fun x : Note => !fstIn ps x.id) a hlt (by rw [hn, hfr]; rfl)
     generalize ((a.take k).filter fun x => !fstIn ps x.id).length = c at *
     clear hyc hyield
     repeat' (first | refine aoQ rfl rfl rfl (fun hg => by first | exact PRun.eq (v := .tup [.int ((lk (psAt f a b ps c) n.id).getD 0), .b (lk (psAt f a b ps c) n.id).isSome]) (PRun.lookup (ok := true) (ek := ekI) (ev := AV.int) (al := psAt f a b ps c) (key := n.id) (zv := 0) (keyLaw_int (LOk.of (tabOk.get rfl))) (LOk.of (tabOk.get rfl)) (LOk.of (tabOk.get rfl)) rfl rfl (Rd.w rfl nd) (Or.inr ⟨_, rfl, rfl⟩) (Rd.w rfl nd) rfl) (show AV.tup [.int ((lk (psAt f a b ps c) n.id).getD 0), .b (lk (psAt f a b ps c) n.id).isSome] = AV.tup [.int ((lk (psAt f a b ps c) n.id).getD 0), .b true] by rw [hlk]) | exact iX encN a ((k : Nat) : Int) hn (hb := by omega) | exact std0 | exact (Bool.noConfusion (show false = true from hg) : PRun _ _ _ _ (.b false))) (by exact rfl) ?_ | refine sqW ?_ | refine rgK (fun K' hK => ?_) | (refine aoN (hK _ _ ?_); clear hK K') | refine aoE (stW tabOk rfl rfl rfl tI rfl rfl tI rfl rfl rfl rfl rfl rfl rfl ?_) | refine aoE (alW tabOk rfl rfl rfl rfl rfl rfl ?_) | refine cdN rfl tI (fun hc => ?_) (fun hc => ?_) | refine blK ?_ | refine exW ?_ | refine skW ?_ | refine rtW ?_)
     all_goals (first | exact dd | skip)
     exact ⟨k + 1, ⟨hlt, by rw [hc1]; exact hPk⟩, by omega, ⟨rfl, rfl, rfl, rfl, rfl, rfl, tI⟩, by rw [hc1]; rfl⟩
   · have hfr' : fstIn ps n.id = false := by simpa using hfr
     rw [hfr'] at hlk
     obtain ⟨hc0, hc1⟩ := filter_at (fun x : Note => !fstIn ps x.id) a hlt (by rw [hn, hfr']; rfl)
     rw [hn] at hc0
     have hc2 : ((a.take (k + 1)).filter fun x => !fstIn ps x.id).length ≤ (freeA a ps).length := filter_len_le (fun x : Note => !fstIn ps x.id) a (k + 1)
     rw [hc1] at hc2
     generalize ((a.take k).filter fun x => !fstIn ps x.id).length = c at *
     have hv := hyc c n hc0 hPk
     clear hyc hyield
     repeat' (first | refine aoQ rfl rfl rfl (fun hg => by first | exact PRun.eq (v := .tup [.int ((lk (psAt f a b ps c) n.id).getD 0), .b (lk (psAt f a b ps c) n.id).isSome]) (PRun.lookup (ok := true) (ek := ekI) (ev := AV.int) (al := psAt f a b ps c) (key := n.id) (zv := 0) (keyLaw_int (LOk.of (tabOk.get rfl))) (LOk.of (tabOk.get rfl)) (LOk.of (tabOk.get rfl)) rfl rfl (Rd.w rfl nd) (Or.inr ⟨_, rfl, rfl⟩) (Rd.w rfl nd) rfl) (show AV.tup [.int ((lk (psAt f a b ps c) n.id).getD 0), .b (lk (psAt f a b ps c) n.id).isSome] = AV.tup [.int ((lk (psAt f a b ps c) n.id).getD 0), .b false] by rw [hlk]) | exact iX encN a ((k : Nat) : Int) hn (hb := by omega) | exact std0) (by exact rfl) ?_ | refine sqW ?_ | refine rgK (fun K' hK => ?_) | (refine aoN (hK _ _ ?_); clear hK K') | refine aoE (stW tabOk rfl rfl rfl tI rfl rfl tI rfl rfl rfl rfl rfl rfl rfl ?_) | refine aoE (alW tabOk rfl rfl rfl rfl rfl rfl ?_) | refine aoE (EStep.gd (gOf_yesB rfl rfl rfl) rfl <| scT hv rfl rfl rfl rfl rfl (by exact rfl) rfl rfl (by repeat' (first | exact tI | exact rfl | refine ⟨?_, ?_⟩)) ?_) | refine cdN rfl tI (fun hc => ?_) (fun hc => ?_) | refine blK ?_ | refine exW ?_ | refine skW ?_)
     all_goals (first | exact dd | skip)
     rintro r t ⟨t', rfl, (⟨rfl, rfl, hp1⟩ | ⟨rfl, hh⟩)⟩
     · repeat' (first | refine aoQ rfl rfl rfl (fun hg => by exact std0) (by exact rfl) ?_ | refine rgK (fun K' hK => ?_) | (refine aoN (hK _ _ ?_); clear hK K') | refine cdN rfl tI (fun hc => ?_) (fun hc => ?_) | refine skW ?_ | refine rtW ?_)
       all_goals (first | exact dd | skip)
       exact ⟨k + 1, ⟨hlt, by rw [hc1]; exact hp1⟩, by omega, ⟨rfl, rfl, rfl, rfl, rfl, rfl, tI⟩, by rw [hc1]; rfl⟩
     · obtain ⟨k1, k2⟩ := hR _ _ hh
       repeat' (first | refine aoQ rfl rfl rfl (fun hg => by exact std0) (by exact rfl) ?_ | refine rgK (fun K' hK => ?_) | (refine aoN (hK _ _ ?_); clear hK K') | refine cdN rfl tI (fun hc => ?_) (fun hc => ?_) | refine skW ?_ | refine rtW ?_)
       all_goals (first | exact dd | skip)
       exact ⟨.inr rfl, .tup [], t', .inr ⟨c, by omega, hh⟩, by simp, by rw [k1]; exact nLr _, by rw [k1]; exact k2, rfl, rfl⟩
 · have hce : ((a.take k).filter fun x => !fstIn ps x.id).length = (freeA a ps).length := by rw [zAt (by omega)]; rfl
   rw [hce] at hPk
   have hend := all_len (L := 17) (hS (((a.take k).filter fun x => !fstIn ps x.id).length) hcl)
   have hend2 : MO p a b g (psAt f a b ps (((a.take k).filter fun x => !fstIn ps x.id).length)) ++ [AObj.loop rc E] = MO p a b g (psAt f a b ps (freeA a ps).length) ++ [AObj.loop rc E] := by first | rw [hce] | rfl
   generalize ((a.take k).filter fun x => !fstIn ps x.id).length = c at *
   clear hyc hyield
   repeat' (first | refine aoQ rfl rfl rfl (fun hg => by first | exact std0 | exact std1) (by exact rfl) ?_ | refine sqW ?_ | refine rgK (fun K' hK => ?_) | (refine aoN (hK _ _ ?_); clear hK K') | refine aoE (stW tabOk rfl rfl rfl tI rfl rfl tI rfl rfl rfl rfl rfl rfl rfl ?_) | refine aoE (alW tabOk rfl rfl rfl rfl rfl rfl ?_) | refine cdN rfl tI (fun hc => ?_) (fun hc => ?_) | refine blK ?_ | refine exW ?_ | refine skW ?_)
   all_goals (first | exact dd | skip)
   exact ⟨.inl rfl, .tup [], MO p a b g (psAt f a b ps c) ++ [.loop rc E], .inl ⟨hend2, hPk⟩, rfl, nLr _, hend, rfl, rfl⟩
set_option maxHeartbeats 8000000 in
set_option maxRecDepth 20000 in
theorem free_inner (p : Nat → AObj) (a b : List Note) (g : Nat) (ps : PL) (m : Note) (hl : b.length ≤ 1000000000) (rc : Loop) (E : List (Nat × AV)) (Pj : Nat → Prop) :
 IterP Tryz.prog 123 [] [.ptr 17 0, .ptr 18 0] ((freeB b ps).map evN1) 20 (fun j => MI p a b g ps m ++ [.loop rc E]) Pj := by
 intro yv R hP0 hS hR hy hyield
 rw [lLm] at *
 have hyc : ∀ (c : Nat) (n : Note), (freeB b ps)[c]? = some n → Pj c → VCall Tryz.prog (.opq yv) [.agg (encN n)] ((MI p a b g ps m ++ [.loop rc E]) ++ [.var (encN n)]) (fun r t => ∃ t', t = t' ++ [.var (encN n)] ∧ ((r = .b true ∧ t' = MI p a b g ps m ++ [.loop rc E] ∧ Pj (c + 1)) ∨ (r = .b false ∧ R c t'))) := fun c n hc hp => by
  have hlt : c < (freeB b ps).length := by
   rcases nLg c (freeB b ps).length with h | h
   · exact h
   · rw [zA1 h] at hc; cases hc
  have hv := VCall.frame (hyield c [.agg (encN n)] (by rw [zAb, hc]; rfl) hp) [.var (encN n)] (by have h9 := (hS c (by omega)).2; exact h9) (by show okRef _ 3 yv = true; exact hy) rfl (by
   rintro rv s' (⟨_, rfl, _⟩ | ⟨_, hh⟩)
   · exact ((hS (c + 1) (by omega)).1).trans ((hS c (by omega)).1).symm
   · exact ((hR _ _ hh).1).trans ((hS c (by omega)).1).symm)
  exact hv
 show TCall _ _ [.opq yv, .ptr 17 0, .ptr 18 0] (MI p a b g ps m ++ [.loop rc E]) _
 refine TCall.body Tryz.func123 rfl rfl Tryz.ntmps123 rfl rfl ?_
 repeat' (first | refine aoQ rfl rfl rfl (fun hg => by first | exact std0 | exact std1) (by exact rfl) ?_ | refine sqW ?_ | refine rgK (fun K' hK => ?_) | (refine aoN (hK _ _ ?_); clear hK K') | refine blK ?_)
 refine lpD (ι := Nat) (fun k => [(0, .opq yv), (1, .ptr 17 0), (2, .ptr 18 0), (8, .sl 12 (b.map encN) .no), (9, .int b.length), (10, .int k)]) (fun k => MI p a b g ps m ++ [.loop rc E])
  (fun k => k ≤ b.length ∧ Pj (((b.take k).filter fun x => !sndIn ps x.id).length)) (fun k => b.length - k) 20 (fun _ => rfl) 0 ⟨nZl _, hP0⟩ ⟨rfl, rfl, rfl, rfl, rfl, rfl, tI⟩ rfl (fun k _ => by
   simp only [zBg, zBl, Bool.and_true, zA0]
   exact ⟨hy, rfl, rfl, rfl, rfl, rfl⟩) (fun k hk => (hS (((b.take k).filter fun x => !sndIn ps x.id).length) (filter_len_le (fun x : Note => !sndIn ps x.id) b k)).2) ?_
 rintro k ⟨hk, hPk⟩
 have hcl : ((b.take k).filter fun x => !sndIn ps x.id).length ≤ (freeB b ps).length := filter_len_le (fun x : Note => !sndIn ps x.id) b k
 by_cases hlt : k < b.length
 · obtain ⟨n, hn⟩ : ∃ n, b.getD k default = n := ⟨_, rfl⟩
   have hlk := sndIn_swp ps (b.getD k default).id
   rw [hn] at hlk
   by_cases hfr : sndIn ps n.id = true
   · rw [hfr] at hlk
     have hc1 := filter_not (fun x : Note => !sndIn ps x.id) b hlt (by rw [hn, hfr]; rfl)
     generalize ((b.take k).filter fun x => !sndIn ps x.id).length = c at *
     clear hyc hyield
     repeat' (first | refine aoQ rfl rfl rfl (fun hg => by first | exact PRun.eq (v := .tup [.int ((lk (swp ps) n.id).getD 0), .b (lk (swp ps) n.id).isSome]) (PRun.lookup (ok := true) (ek := ekI) (ev := AV.int) (al := swp ps) (key := n.id) (zv := 0) (keyLaw_int (LOk.of (tabOk.get rfl))) (LOk.of (tabOk.get rfl)) (LOk.of (tabOk.get rfl)) rfl rfl (Rd.w rfl nd) (Or.inr ⟨_, rfl, rfl⟩) (Rd.w rfl nd) rfl) (show AV.tup [.int ((lk (swp ps) n.id).getD 0), .b (lk (swp ps) n.id).isSome] = AV.tup [.int ((lk (swp ps) n.id).getD 0), .b true] by rw [hlk]) | exact iX encN b ((k : Nat) : Int) hn (hb := by omega) | exact std0 | exact (Bool.noConfusion (show false = true from hg) : PRun _ _ _ _ (.b false))) (by exact rfl) ?_ | refine sqW ?_ | refine rgK (fun K' hK => ?_) | (refine aoN (hK _ _ ?_); clear hK K') | refine aoE (stW tabOk rfl rfl rfl tI rfl rfl tI rfl rfl rfl rfl rfl rfl rfl ?_) | refine aoE (alW tabOk rfl rfl rfl rfl rfl rfl ?_) | refine cdN rfl tI (fun hc => ?_) (fun hc => ?_) | refine blK ?_ | refine exW ?_ | refine skW ?_ | refine rtW ?_)
     all_goals (first | exact dd | skip)
     exact ⟨k + 1, ⟨hlt, by rw [hc1]; exact hPk⟩, by omega, ⟨rfl, rfl, rfl, rfl, rfl, rfl, tI⟩, rfl⟩
   · have hfr' : sndIn ps n.id = false := by simpa using hfr
     rw [hfr'] at hlk
     obtain ⟨hc0, hc1⟩ := filter_at (fun x : Note => !sndIn ps x.id) b hlt (by rw [hn, hfr']; rfl)
     rw [hn] at hc0
     have hc2 : ((b.take (k + 1)).filter fun x => !sndIn ps x.id).length ≤ (freeB b ps).length := filter_len_le (fun x : Note => !sndIn ps x.id) b (k + 1)
     rw [hc1] at hc2
     generalize ((b.take k).filter fun x => !sndIn ps x.id).length = c at *
     have hv := hyc c n hc0 hPk
     clear hyc hyield
     repeat' (first | refine aoQ rfl rfl rfl (fun hg => by first | exact PRun.eq (v := .tup [.int ((lk (swp ps) n.id).getD 0), .b (lk (swp ps) n.id).isSome]) (PRun.lookup (ok := true) (ek := ekI) (ev := AV.int) (al := swp ps) (key := n.id) (zv := 0) (keyLaw_int (LOk.of (tabOk.get rfl))) (LOk.of (tabOk.get rfl)) (LOk.of (tabOk.get rfl)) rfl rfl (Rd.w rfl nd) (Or.inr ⟨_, rfl, rfl⟩) (Rd.w rfl nd) rfl) (show AV.tup [.int ((lk (swp ps) n.id).getD 0), .b (lk (swp ps) n.id).isSome] = AV.tup [.int ((lk (swp ps) n.id).getD 0), .b false] by rw [hlk]) | exact iX encN b ((k : Nat) : Int) hn (hb := by omega) | exact std0) (by exact rfl) ?_ | refine sqW ?_ | refine rgK (fun K' hK => ?_) | (refine aoN (hK _ _ ?_); clear hK K') | refine aoE (stW tabOk rfl rfl rfl tI rfl rfl tI rfl rfl rfl rfl rfl rfl rfl ?_) | refine aoE (alW tabOk rfl rfl rfl rfl rfl rfl ?_) | refine aoE (EStep.gd (gOf_yesB rfl rfl rfl) rfl <| scT hv rfl rfl rfl rfl rfl (by exact rfl) rfl rfl (by repeat' (first | exact tI | exact rfl | refine ⟨?_, ?_⟩)) ?_) | refine cdN rfl tI (fun hc => ?_) (fun hc => ?_) | refine blK ?_ | refine exW ?_ | refine skW ?_)
     all_goals (first | exact dd | skip)
     rintro r t ⟨t', rfl, (⟨rfl, rfl, hp1⟩ | ⟨rfl, hh⟩)⟩
     · repeat' (first | refine aoQ rfl rfl rfl (fun hg => by exact std0) (by exact rfl) ?_ | refine rgK (fun K' hK => ?_) | (refine aoN (hK _ _ ?_); clear hK K') | refine cdN rfl tI (fun hc => ?_) (fun hc => ?_) | refine skW ?_ | refine rtW ?_)
       all_goals (first | exact dd | skip)
       exact ⟨k + 1, ⟨hlt, by rw [hc1]; exact hp1⟩, by omega, ⟨rfl, rfl, rfl, rfl, rfl, rfl, tI⟩, rfl⟩
     · obtain ⟨k1, k2⟩ := hR _ _ hh
       repeat' (first | refine aoQ rfl rfl rfl (fun hg => by exact std0) (by exact rfl) ?_ | refine rgK (fun K' hK => ?_) | (refine aoN (hK _ _ ?_); clear hK K') | refine cdN rfl tI (fun hc => ?_) (fun hc => ?_) | refine skW ?_ | refine rtW ?_)
       all_goals (first | exact dd | skip)
       exact ⟨.inr rfl, .tup [], t', .inr ⟨c, by omega, hh⟩, by simp, by rw [k1]; exact nLr _, by rw [k1]; exact k2, rfl, rfl⟩
 · have hce : ((b.take k).filter fun x => !sndIn ps x.id).length = (freeB b ps).length := by rw [zAt (by omega)]; rfl
   rw [hce] at hPk
   have hend := all_len (L := 20) (hS (((b.take k).filter fun x => !sndIn ps x.id).length) hcl)
   have hend2 : MI p a b g ps m ++ [AObj.loop rc E] = MI p a b g ps m ++ [AObj.loop rc E] := by first | rw [hce] | rfl
   generalize ((b.take k).filter fun x => !sndIn ps x.id).length = c at *
   clear hyc hyield
   repeat' (first | refine aoQ rfl rfl rfl (fun hg => by first | exact std0 | exact std1) (by exact rfl) ?_ | refine sqW ?_ | refine rgK (fun K' hK => ?_) | (refine aoN (hK _ _ ?_); clear hK K') | refine aoE (stW tabOk rfl rfl rfl tI rfl rfl tI rfl rfl rfl rfl rfl rfl rfl ?_) | refine aoE (alW tabOk rfl rfl rfl rfl rfl rfl ?_) | refine cdN rfl tI (fun hc => ?_) (fun hc => ?_) | refine blK ?_ | refine exW ?_ | refine skW ?_)
   all_goals (first | exact dd | skip)
   exact ⟨.inl rfl, .tup [], MI p a b g ps m ++ [.loop rc E], .inl ⟨hend2, hPk⟩, rfl, nLr _, hend, rfl, rfl⟩
def PureP (p : Nat → AObj) : Prop := ∀ i m, 8 ≤ m → okObj m (p i) = true
theorem okMapS (m : Nat) (al : PL) : okObj m (.map (Go.Ab.encM ekI AV.int al)) = true := by
 show (Go.Ab.encM ekI AV.int al).all (fun kv => okRef m 3 kv.2) = true
 rw [zA7]; intro x hx
 obtain ⟨p, _, rfl⟩ := zAu.1 hx
 rfl
theorem okVarM {m k : Nat} (h : k < m) : okObj m (.var [.map k]) = true := by
 show (decide (k < m) && true) = true
 rw [decide_eq_true h]; rfl
theorem MB_ok {p : Nat → AObj} (h : PureP p) {m : Nat} (hm : 10 ≤ m) (ps : PL) : (MB p ps).all (okObj m) = true := by
 have h0 := fun i => h i m (by omega)
 simp only [MB, zBg, zBl, h0, okMapS]; rfl
theorem MO_ok {p : Nat → AObj} (h : PureP p) {m : Nat} (hm : 10 ≤ m) (a b : List Note) (g : Nat) (ps : PL) : (MO p a b g ps).all (okObj m) = true := by
 have h0 := fun i => h i m (by omega)
 have h1 := okVarM (show 8 < m by omega)
 have h2 := okVarM (show 9 < m by omega)
 simp only [MO, zBg, zBl, h0, okMapS, h1, h2]; rfl
theorem MI_ok {p : Nat → AObj} (h : PureP p) {m : Nat} (hm : 10 ≤ m) (a b : List Note) (g : Nat) (ps : PL) (n : Note) : (MI p a b g ps n).all (okObj m) = true := by
 have h0 := fun i => h i m (by omega)
 have h1 := okVarM (show 8 < m by omega)
 have h2 := okVarM (show 9 < m by omega)
 simp only [MI, zBg, zBl, h0, okMapS, h1, h2]; rfl
def S14 (p : Nat → AObj) (b : List Note) (g : Nat) (ps : PL) : Store := [p 0, p 1, p 2, p 3, p 4, p 5, p 6, p 7, .map (Go.Ab.encM ekI AV.int ps), .map (Go.Ab.encM ekI AV.int (swp ps)), .var [.sl 12 (b.map encN) .no], .var [.map 8], .var [.map 9], .var [.fn (.func g) [] []]]
def S17 (p : Nat → AObj) (a b : List Note) (g : Nat) (ps : PL) (m : Note) : Store := [p 0, p 1, p 2, p 3, p 4, p 5, p 6, p 7, .map (Go.Ab.encM ekI AV.int ps), .map (Go.Ab.encM ekI AV.int (swp ps)), .var [.sl 12 (b.map encN) .no], .var [.map 8], .var [.map 9], .var [.fn (.func g) [] []], .var [.sl 12 (a.map encN) .no], .var [.map 8], .var (encN m)]
theorem S14_ok {p : Nat → AObj} (h : PureP p) {m : Nat} (hm : 10 ≤ m) (b : List Note) (g : Nat) (ps : PL) : (S14 p b g ps).all (okObj m) = true := by
 have h0 := fun i => h i m (by omega)
 have h1 := okVarM (show 8 < m by omega)
 have h2 := okVarM (show 9 < m by omega)
 simp only [S14, zBg, zBl, h0, okMapS, h1, h2]; rfl
theorem S17_ok {p : Nat → AObj} (h : PureP p) {m : Nat} (hm : 10 ≤ m) (a b : List Note) (g : Nat) (ps : PL) (n : Note) : (S17 p a b g ps n).all (okObj m) = true := by
 have h0 := fun i => h i m (by omega)
 have h1 := okVarM (show 8 < m by omega)
 have h2 := okVarM (show 9 < m by omega)
 simp only [S17, zBg, zBl, h0, okMapS, h1, h2]; rfl
theorem swp_app (ps : PL) (i k : Int) : swp (ps ++ [(i, k)]) = swp ps ++ [(k, i)] := by unfold swp; rw [zAs]; rfl
theorem freeA_at {a : List Note} {ps : PL} {f : Note → Note → Bool} {b : List Note} (hn : (a.map (·.id)).Nodup) {j : Nat} (hj : j < (freeA a ps).length) : fstIn (psAt f a b ps j) ((freeA a ps).getD j default).id = false := by
 have hnf : ((freeA a ps).map (·.id)).Nodup := (List.filter_sublist.map _).nodup hn
 have hmem : (freeA a ps).getD j default ∈ freeA a ps := by rw [getD_lt hj]; exact lGm hj
 unfold psAt
 rw [matchL_fst (fun x hx e => ?_)]
 · have := (zCf.1 hmem).2
   simpa using this
 · have h2 : (((freeA a ps).take (j + 1)).map (·.id)).Nodup := ((List.take_sublist (j + 1) _).map _).nodup hnf
   exact ((nodup_succ (fun n : Note => n.id) (freeA a ps) j hj).1 h2).2 (zAu.2 ⟨x, hx, e⟩)
theorem freeB_at {b : List Note} {ps : PL} {k : Nat} (hk : k < (freeB b ps).length) : sndIn ps ((freeB b ps).getD k default).id = false := by
 have hmem : (freeB b ps).getD k default ∈ freeB b ps := by rw [getD_lt hk]; exact lGm hk
 have := (zCf.1 hmem).2
 simpa using this
theorem lenB (b : List Note) (ps : PL) : (freeB b ps).length ≤ b.length := zBf _ _
def matchE : List (Nat × AV) := [(6, .ptr 10 0), (7, .ptr 11 0), (8, .ptr 12 0), (9, .ptr 13 0)]
def matchE2 : List (Nat × AV) := [(6, .ptr 10 0), (7, .ptr 11 0), (8, .ptr 12 0), (9, .ptr 13 0), (10, .ptr 16 0)]
def noFit (f : Note → Note → Bool) (m : Note) (b : List Note) (ps : PL) (k : Nat) : Prop := ∀ i, i < k → f m ((freeB b ps).getD i default) = false
def fitR (p : Nat → AObj) (f : Note → Note → Bool) (a b : List Note) (g : Nat) (ps : PL) (m : Note) (k : Nat) (x : Exit) (s : Store) : Prop :=
 k < (freeB b ps).length ∧ x = .exit 2 ∧ s = MI p a b g (ps ++ [(m.id, ((freeB b ps).getD k default).id)]) m ∧ noFit f m b ps k ∧ f m ((freeB b ps).getD k default) = true
set_option maxHeartbeats 16000000 in
set_option maxRecDepth 20000 in
theorem match_spec {p : Nat → AObj} (hp : PureP p) {f : Note → Note → Bool} {g : Nat} (hf : ∀ x y, PCall Tryz.prog g [.agg (encN x), .agg (encN y)] (.b (f x y))) (a b : List Note) (hla : a.length ≤ 1000000000) (hlb : b.length ≤ 1000000000) (hnd : (a.map (·.id)).Nodup) (ps : PL) :
 TCall Tryz.prog 59 [.sl 12 (a.map encN) .no, .sl 12 (b.map encN) .no, .map 8, .map 9, .fn (.func g) [] []] (MB p ps) (fun r s => r = .tup [] ∧ s = MB p (matchL f a b ps)) := by
 have hv1 := TCall.val (first := []) (caps := []) (avs := [.sl 12 (a.map encN) .no, .map 8]) (free_spec a 8 (S14 p b g ps) (by show 8 < 14; decide) (S14_ok hp (by show 10 ≤ 14; decide) b g ps))
 refine TCall.body Tryz.func59 rfl rfl Tryz.ntmps59 rfl rfl ?_
 repeat' (first | refine aoQ rfl rfl rfl (fun hg => by exact std0) (by exact rfl) ?_ | refine sqW ?_ | refine rgK (fun K' hK => ?_) | (refine aoN (hK _ _ ?_); clear hK K') | refine aoE (bxW rfl rfl rfl rfl rfl tI rfl rfl ?_) | refine aoE (scT (hv1) rfl rfl rfl rfl rfl nd rfl rfl nds ?_))
 rintro _ _ ⟨rfl, rfl⟩
 repeat' (first | (refine aoN (hK _ _ ?_); clear hK K') | refine blK ?_)
 refine AWP.rangeFuncP ((freeA a ps).map evN1) matchE (fun j => MO p a b g (psAt f a b ps j)) (fun _ => True) (fun _ _ _ => False) (fun rc => free_outer p f a b g ps hnd hla rc matchE (fun _ => True)) tI rfl tI ?_ ?_ rfl ⟨rfl, rfl, rfl, rfl, tI⟩ rfl rfl (fun j _ => ⟨rfl, MO_ok hp (by show 10 ≤ 16; decide) a b g _⟩) (fun _ _ _ h => h.elim) ?_ ?_ (fun _ _ _ _ h => h.elim)
 · intro x hx
   obtain ⟨n, _, rfl⟩ := zAu.1 hx; rfl
 · intro x hx
   obtain ⟨n, _, rfl⟩ := zAu.1 hx; rfl
 · intro j x hx _
   have hj : j < (freeA a ps).length := by
    rcases nLg j (freeA a ps).length with h | h
    · exact h
    · rw [zA1 (by simpa using h)] at hx; cases hx
   obtain ⟨m, hm⟩ : ∃ m, (freeA a ps).getD j default = m := ⟨_, rfl⟩
   have hxm : x = evN1 m := by
    rw [zAb, zA9 hj, zBb] at hx
    rw [← hm, getD_lt hj]; simpa using hx.symm
   subst hxm
   have hmf := freeA_at (f := f) (b := b) hnd hj
   have hst := psAt_succ (f := f) (b := b) hj
   rw [hm] at hmf hst
   have lB := lenB b (psAt f a b ps j)
   show AWP _ _ _ (fun x e s => x = .normal ∧ AWP _ _ _ (roundKP 16 (MO p a b g (psAt f a b ps (j + 1))) True fun _ _ => False) e s) _ (MO p a b g (psAt f a b ps j))
   rw [hst]
   generalize psAt f a b ps j = q at *
   have hv2 := TCall.val (first := []) (caps := []) (avs := [.sl 12 (b.map encN) .no, .map 9]) (free_spec b 9 (S17 p a b g q m) (by show 9 < 17; decide) (S17_ok hp (by show 10 ≤ 17; decide) a b g q m))
   clear hv1 hst hx
   repeat' (first | refine rgK (fun K' hK => ?_) | (refine aoN (hK _ _ ?_); clear hK K') | refine aoE (stW tabOk rfl rfl rfl tI rfl rfl tI rfl rfl rfl rfl rfl rfl rfl ?_) | refine aoE (alW tabOk rfl rfl rfl rfl rfl rfl ?_))
   refine ⟨rfl, ?_⟩
   repeat' (first | refine aoQ rfl rfl rfl (fun hg => by exact std0) (by exact rfl) ?_ | refine sqW ?_ | refine rgK (fun K' hK => ?_) | refine aoE (scT (hv2) rfl rfl rfl rfl rfl nd rfl rfl nds ?_) | refine blK ?_)
   rintro _ _ ⟨rfl, rfl⟩
   repeat' (first | (refine aoN (hK _ _ ?_); clear hK K') | refine blK ?_)
   refine AWP.rangeFuncP ((freeB b q).map evN1) matchE2 (fun _ => MI p a b g q m) (noFit f m b q) (fitR p f a b g q m) (fun rc => free_inner p a b g q m hlb rc matchE2 (noFit f m b q)) (fun i h => absurd h (Nat.not_lt_zero _)) rfl tI ?_ ?_ rfl ⟨rfl, rfl, rfl, rfl, rfl, tI⟩ rfl rfl (fun j _ => ⟨rfl, MI_ok hp (by show 10 ≤ 19; decide) a b g _ _⟩) ?_ ?_ ?_ ?_
   · intro x hx
     obtain ⟨n, _, rfl⟩ := zAu.1 hx; rfl
   · intro x hx
     obtain ⟨n, _, rfl⟩ := zAu.1 hx; rfl
   · rintro k x s ⟨_, _, rfl, _⟩
     exact ⟨rfl, MI_ok hp (by show 10 ≤ 19; decide) a b g _ _⟩
   · intro k x hx hno
     have hk : k < (freeB b q).length := by
      rcases nLg k (freeB b q).length with h | h
      · exact h
      · rw [zA1 (by simpa using h)] at hx; cases hx
     obtain ⟨y, hy⟩ : ∃ y, (freeB b q).getD k default = y := ⟨_, rfl⟩
     have hxy : x = evN1 y := by
      rw [zAb, zA9 hk, zBb] at hx
      rw [← hy, getD_lt hk]; simpa using hx.symm
     subst hxy
     have hyf := freeB_at (b := b) (ps := q) hk
     rw [hy] at hyf
     have hfm := hf m y
     have h1 : ins q m.id y.id = q ++ [(m.id, y.id)] := ins_new hmf
     have h2 : ins (swp q) y.id m.id = swp (q ++ [(m.id, y.id)]) := by
      rw [swp_app]; exact ins_new (by rw [← lk_fst, sndIn_swp]; exact hyf)
     have hin : fitR p f a b g q m k (.exit 2) (MI p a b g (q ++ [(m.id, y.id)]) m) ↔ f m y = true := by
      unfold fitR; rw [hy]; exact ⟨fun h => h.2.2.2.2, fun h => ⟨hk, rfl, rfl, hno, h⟩⟩
     clear hv2 hx
     show AWP _ _ _ (fun x e s => x = .normal ∧ AWP _ _ _ (roundKP 19 (MI p a b g q m) (noFit f m b q (k + 1)) (fitR p f a b g q m k)) e s) _ (MI p a b g q m)
     repeat' (first | refine rgK (fun K' hK => ?_) | (refine aoN (hK _ _ ?_); clear hK K') | refine aoE (stW tabOk rfl rfl rfl tI rfl rfl tI rfl rfl rfl rfl rfl rfl rfl ?_) | refine aoE (alW tabOk rfl rfl rfl rfl rfl rfl ?_))
     refine ⟨rfl, ?_⟩
     repeat' (first | refine aoQ rfl rfl rfl (fun hg => by first | exact std0 | exact pcW (hfm) rfl rfl nd rfl nds) (by exact rfl) ?_ | refine sqW ?_ | refine rgK (fun K' hK => ?_) | (refine aoN (hK _ _ ?_); clear hK K') | refine cdN rfl tI (fun hc => ?_) (fun hc => ?_) | refine blK ?_ | refine skW ?_)
     · refine AWP.drawYM effOp (fun j => match j with | 0 => MI p a b g q m ++ [.var (encN y)] | 1 => [p 0, p 1, p 2, p 3, p 4, p 5, p 6, p 7, .map (Go.Ab.encM ekI AV.int (q ++ [(m.id, y.id)])), .map (Go.Ab.encM ekI AV.int (swp q)), .var [.sl 12 (b.map encN) .no], .var [.map 8], .var [.map 9], .var [.fn (.func g) [] []], .var [.sl 12 (a.map encN) .no], .var [.map 8], .var (encN m), .var [.sl 12 (b.map encN) .no], .var [.map 9], .var (encN y)] | _ => MI p a b g (q ++ [(m.id, y.id)]) m ++ [.var (encN y)]) rfl (by kernel_rfl) (by decide +kernel) rfl (by decide +kernel) (fun K' hK => ?_)
       repeat' (first
        | refine yqQ (a := 0) (b := 0) rfl (by decide +kernel) (by decide +kernel) rfl rfl rfl (fun k h1 h2 hg => by (have hk : k = 0 := (by omega)); (rcases hk with rfl) <;> (first | exact std0 | exact std1)) (by exact rfl) ?_
        | refine yqQ (a := 0) (b := 1) rfl (by decide +kernel) (by decide +kernel) rfl rfl rfl (fun k h1 h2 hg => by (have hk : k = 0 ∨ k = 1 := (by omega)); (rcases hk with rfl | rfl) <;> (first | exact std0 | exact std1)) (by exact rfl) ?_
        | refine yqQ (a := 1) (b := 1) rfl (by decide +kernel) (by decide +kernel) rfl rfl rfl (fun k h1 h2 hg => by (have hk : k = 1 := (by omega)); (rcases hk with rfl) <;> (first | exact std0 | exact std1)) (by exact rfl) ?_
        | refine yqQ (a := 0) (b := 2) rfl (by decide +kernel) (by decide +kernel) rfl rfl rfl (fun k h1 h2 hg => by (have hk : k = 0 ∨ k = 1 ∨ k = 2 := (by omega)); (rcases hk with rfl | rfl | rfl) <;> (first | exact std0 | exact std1)) (by exact rfl) ?_
        | refine yqQ (a := 1) (b := 2) rfl (by decide +kernel) (by decide +kernel) rfl rfl rfl (fun k h1 h2 hg => by (have hk : k = 1 ∨ k = 2 := (by omega)); (rcases hk with rfl | rfl) <;> (first | exact std0 | exact std1)) (by exact rfl) ?_
        | refine yqQ (a := 2) (b := 2) rfl (by decide +kernel) (by decide +kernel) rfl rfl rfl (fun k h1 h2 hg => by (have hk : k = 2 := (by omega)); (rcases hk with rfl) <;> (first | exact std0 | exact std1)) (by exact rfl) ?_)
       refine YQ.e (v := .any) (d := none) rfl rfl rfl ?_ ?_
       · intro env' he
         refine EStep.mapUpd (ek := ekI) (ev := AV.int) (al := q) (key := m.id) (v := y.id) (keyLaw_int (LOk.of (tabOk.get rfl))) (LOk.of (tabOk.get rfl)) rfl rfl rfl (Rd.w ((rdv_congr (he 24 (by decide +kernel))).trans rfl) (by rw [rdn_congr (he 24 (by decide +kernel))]; first | exact tI | exact rfl)) rfl (Rd.w ((rdv_congr (he 26 (by decide +kernel))).trans rfl) (by rw [rdn_congr (he 26 (by decide +kernel))]; first | exact tI | exact rfl)) rfl (Rd.w ((rdv_congr (he 31 (by decide +kernel))).trans rfl) (by rw [rdn_congr (he 31 (by decide +kernel))]; first | exact tI | exact rfl)) ⟨rfl, ?_⟩
         rw [h1]; rfl
       refine YQ.e (v := .any) (d := none) rfl rfl rfl ?_ ?_
       · intro env' he
         refine EStep.mapUpd (ek := ekI) (ev := AV.int) (al := swp q) (key := y.id) (v := m.id) (keyLaw_int (LOk.of (tabOk.get rfl))) (LOk.of (tabOk.get rfl)) rfl rfl rfl (Rd.w ((rdv_congr (he 27 (by decide +kernel))).trans rfl) (by rw [rdn_congr (he 27 (by decide +kernel))]; first | exact tI | exact rfl)) rfl (Rd.w ((rdv_congr (he 29 (by decide +kernel))).trans rfl) (by rw [rdn_congr (he 29 (by decide +kernel))]; first | exact tI | exact rfl)) rfl (Rd.w ((rdv_congr (he 33 (by decide +kernel))).trans rfl) (by rw [rdn_congr (he 33 (by decide +kernel))]; first | exact tI | exact rfl)) ⟨rfl, ?_⟩
         rw [h2]; rfl
       refine YQ.nil (hK _ _ ?_)
       clear hK K'
       repeat' (first | refine exW ?_)
       exact hin.2 hc
     · refine ⟨rfl, fun i hi => lt_succ_cases hno ?_ hi⟩
       rw [hy]; exact hc
   · intro hno
     skip
     refine ⟨?_, tI⟩
     show _ = MO p a b g (stepM f b q m)
     rw [lLm] at hno
     rw [stepM_none hmf hno]; rfl
   · rintro k x s hk ⟨hk, rfl, rfl, hno, hft⟩
     skip
     refine ⟨?_, tI⟩
     show _ = MO p a b g (stepM f b q m)
     rw [stepM_at hmf hk hno hft]; rfl
 · intro _
   have he := psAt_end (f := f) (a := a) (b := b) (ps := ps)
   rw [lLm]
   skip
   refine ⟨.inl rfl, .tup [], MB p (matchL f a b ps), ⟨rfl, rfl⟩, ?_, by show 10 ≤ 10; decide, MB_ok hp (by show 10 ≤ 10; decide) _, rfl, rfl⟩
   show (MO p a b g (psAt f a b ps (freeA a ps).length)).take 10 = _
   rw [he]; rfl
end Go.Proofs.YtekfpcgagoidcaaGreatDoor.Al
