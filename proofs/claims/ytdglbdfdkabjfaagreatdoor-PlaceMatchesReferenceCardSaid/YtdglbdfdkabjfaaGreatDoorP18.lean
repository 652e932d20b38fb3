/- Contracts by content: the iterator over all visits of a form.  Contracts by content: the iterator over all visits of a form, walked.  Contracts by content: forms: Valid, Unfold, Find. No statement is proved here. -/
import Derived.Test.YtdglbdfdkabjfaaGreatDoorP17
set_option linter.unusedVariables false
set_option linter.unusedSimpArgs false
namespace Go.Proofs.YtdglbdfdkabjfaaGreatDoor.Pl
open Go.Ab Go.Pl
attribute [local irreducible] AWP AOps EStep AQ PStep PRun PCall TCall VCall
theorem bars_spec (f : PForm) (a u : Int) (all : Bool) : PCall Tryz.prog 170 [.agg (encF f), .int a, .int u, .b all] (.fn (.func 204) [] [.iptr [.int a], .iptr [.int u], .iptr (encF f), .iptr [.b all]]) := by
 refine PCall.body Tryz.func170 rfl rfl Tryz.ntmps170 rfl rfl ?_
 repeat' (first | refine aoQ rfl rfl rfl (fun hg => by exact std0) (by exact rfl) ?_ | refine sqW ?_ | refine rgK (fun K' hK => ?_) | (refine aoN (hK _ _ ?_); clear hK K') | refine aoE (bxW rfl rfl rfl rfl rfl tI rfl rfl ?_))
 refine AWP.freezeV 0 rfl rfl ?_
 refine AWP.freezeV 1 rfl rfl ?_
 refine AWP.freezeV 2 rfl rfl ?_
 refine AWP.freezeV 3 rfl rfl ?_
 exact rtW ⟨.inr rfl, fun _ _ h => h⟩
theorem visits_spec (f : PForm) : PCall Tryz.prog 122 [.agg (encF f)] (.fn (.func 168) [] [.iptr (encF f)]) := by
 refine PCall.body Tryz.func122 rfl rfl Tryz.ntmps122 rfl rfl ?_
 repeat' (first | refine aoQ rfl rfl rfl (fun hg => by exact std0) (by exact rfl) ?_ | refine sqW ?_ | refine rgK (fun K' hK => ?_) | (refine aoN (hK _ _ ?_); clear hK K') | refine aoE (bxW rfl rfl rfl rfl rfl tI rfl rfl ?_))
 refine AWP.freezeV 0 rfl rfl ?_
 exact rtW ⟨.inr rfl, fun _ _ h => h⟩
def cntAL (l : List Int) : List (Int × Int) := l.foldl (fun al b => ins al b ((lk al b).getD 0 + 1)) []
theorem cntAL_snoc (l : List Int) (b : Int) : cntAL (l ++ [b]) = ins (cntAL l) b ((lk (cntAL l) b).getD 0 + 1) := by
 unfold cntAL; rw [zD6]; rfl
theorem lk_cnt (l : List Int) : ∀ b : Int, (lk (cntAL l) b).getD 0 = (l.count b : Int) := by
 rw [← List.reverse_reverse l]
 induction l.reverse with
 | nil => intro b; rfl
 | cons a l ih =>
   intro b
   rw [List.reverse_cons, cntAL_snoc, lk_ins', List.count_append, List.count_singleton]
   by_cases h : a = b
   · subst h
     rw [if_pos rfl, zC7, ih a]
     simp
   · rw [if_neg h, ih b]
     simp [h]
abbrev visF : AV := .fn (.func 169) [] [.ptr 6 0, .ptr 4 0]
abbrev vTail (yv : AV) (f : PForm) (al : List (Int × Int)) : Store := [.var [.opq yv], .map (encM ekI AV.int al), .var [.map 5], .var [visF], .var [.int f.jump.at_, .int f.jump.to, .int f.jump.fine]]
abbrev s4 (s : Store) : Store := [s.getD 0 .dead, s.getD 1 .dead, s.getD 2 .dead, s.getD 3 .dead]
abbrev vSt (s : Store) (yv : AV) (f : PForm) (al : List (Int × Int)) : Store := [s.getD 0 .dead, s.getD 1 .dead, s.getD 2 .dead, s.getD 3 .dead, .var [.opq yv], .map (encM ekI AV.int al), .var [.map 5], .var [visF], .var [.int f.jump.at_, .int f.jump.to, .int f.jump.fine]]
def encV (v : PVis) : List AV := [.int v.bar, .int v.pass]
abbrev yV (l : List PVis) : List (List AV) := l.map fun v => [.agg (encV v)]
theorem okTail {yv : AV} (hy : ∀ d, okRef 4 (d + 1) yv = true) (f : PForm) (al : List (Int × Int)) : (vTail yv f al).all (okObj 9) = true := by
 have h : okRef 9 2 yv = true := okRef_mono (show 4 ≤ 9 by decide) 2 yv (hy 1)
 have h2 : (encM ekI AV.int al).all (fun p => okRef 9 3 p.2) = true := by
  unfold encM
  rw [List.all_map, zA6]
  intro p _; rfl
 simp only [zCe, List.all_nil, zC9, zA0]
 refine ⟨?_, ?_, rfl, rfl, rfl⟩
 · show okRef 9 2 yv && true = true
   rw [h]; rfl
 · simp [okObj, encM, okRef]
theorem ex4 {σ : Store} (h : σ.length = 4) : σ = s4 σ := by
 match σ, h with
 | [a, b, c, d], _ => rfl
theorem okSt {yv : AV} (hy : ∀ d, okRef 4 (d + 1) yv = true) {s : Store} (hs : s.length = 4) (hok : s.all (okObj 4) = true) (f : PForm) (al : List (Int × Int)) : (vSt s yv f al).all (okObj 9) = true := by
 show (s4 s ++ vTail yv f al : Store).all (okObj 9) = true
 rw [← ex4 hs, zCp, okTail hy f al, okObjs_mono (show 4 ≤ 9 by decide) hok]; rfl
theorem visit_spec {yv : AV} (hy : ∀ d, okRef 4 (d + 1) yv = true) {f : PForm} {al : List (Int × Int)} {b c : Int} {s s2 : Store} {P2 : Prop} {R : Store → Prop} (hc0 : (lk al b).getD 0 + 1 = c) (hcb : 0 ≤ c ∧ c ≤ 1000000000)
 (hv : VCall Tryz.prog (.opq yv) [.agg [.int b, .int c]] (vSt s yv f (ins al b c)) (fun r t => (r = .b true ∧ t = vSt s2 yv f (ins al b c) ∧ P2) ∨ (r = .b false ∧ ∃ t', t = t' ++ vTail yv f (ins al b c) ∧ R t')))
 (hR : ∀ s, R s → s.length = 4 ∧ s.all (okObj 4) = true) (hs2 : s2.length = 4 ∧ s2.all (okObj 4) = true) :
 TCall Tryz.prog 169 [.int b, .ptr 6 0, .ptr 4 0] (vSt s yv f al) (fun r t => (r = .b true ∧ t = vSt s2 yv f (ins al b c) ∧ P2) ∨ (r = .b false ∧ ∃ t', t = t' ++ vTail yv f (ins al b c) ∧ R t')) := by
 have hc1 : (lk (ins al b c) b).getD 0 = c := by rw [lk_ins', if_pos rfl]; rfl
 subst hc0
 refine TCall.body Tryz.func169 rfl rfl Tryz.ntmps169 rfl rfl ?_
 have hv' : VCall Tryz.prog (.opq yv) [.agg [.int b, .int ((lk (ins al b ((lk al b).getD 0 + 1)) b).getD 0)]] (vSt s yv f (ins al b ((lk al b).getD 0 + 1))) (fun r t => (r = .b true ∧ t = vSt s2 yv f (ins al b ((lk al b).getD 0 + 1)) ∧ P2) ∨ (r = .b false ∧ ∃ t', t = t' ++ vTail yv f (ins al b ((lk al b).getD 0 + 1)) ∧ R t')) := by rw [hc1]; exact hv
 repeat' (first | refine aoQ rfl rfl rfl (fun hg => by first | exact std0 | exact PRun.lookup (ek := ekI) (ev := AV.int) (zv := 0) (keyLaw_int (LOk.of (tabOk.get rfl))) (LOk.of (tabOk.get rfl)) (LOk.of (tabOk.get rfl)) rfl rfl (Rd.w rfl nd) (Or.inr ⟨_, rfl, rfl⟩) (Rd.w rfl nd) rfl | exact pbD tabOk rfl rfl nds) (by exact rfl) ?_ | refine sqW ?_ | refine rgK (fun K' hK => ?_) | (refine aoN (hK _ _ ?_); clear hK K') | refine aoE (scT (hv') rfl rfl rfl rfl rfl nd rfl rfl nds ?_) | refine aoE (EStep.mapUpd (ek := ekI) (ev := AV.int) (v := (lk al b).getD 0 + 1) (keyLaw_int (LOk.of (tabOk.get rfl))) (LOk.of (tabOk.get rfl)) rfl rfl rfl (Rd.w rfl tI) rfl (Rd.w rfl tI) rfl (Rd.w rfl tI) ?_))
 rintro r t (⟨rfl, rfl, hp⟩ | ⟨rfl, t', rfl, hh⟩)
 · repeat' (first | refine aoQ rfl rfl rfl (fun hg => by exact std0) (by exact rfl) ?_ | (refine aoN (hK _ _ ?_); clear hK K') | refine rtW ?_)
   exact ⟨.inr rfl, _, _, .inl ⟨rfl, rfl, hp⟩, rfl, nLr _, okSt hy hs2.1 hs2.2 f _, rfl, rfl⟩
 · repeat' (first | refine aoQ rfl rfl rfl (fun hg => by exact std0) (by exact rfl) ?_ | (refine aoN (hK _ _ ?_); clear hK K') | refine rtW ?_)
   obtain ⟨k1, k2⟩ := hR _ hh
   refine ⟨.inr rfl, .b false, t' ++ vTail yv f (ins al b ((lk al b).getD 0 + 1)), .inr ⟨rfl, t', rfl, hh⟩, ?_, ?_, ?_, rfl, rfl⟩
   · rw [zAi (nLr _)]
   · rw [lLa, k1]; exact nLr _
   · rw [show (t' ++ vTail yv f (ins al b ((lk al b).getD 0 + 1))).length = 9 by rw [lLa, k1]; rfl, zCp, okObjs_mono (show 4 ≤ 9 by decide) k2, okTail hy f _]; rfl
theorem whole_len (f : PForm) : wholeL f = (partL f 0 (if f.jump.at_ = 0 then f.bars else f.jump.at_) true) ++ partL f f.jump.to f.jump.fine false := by
 unfold wholeL
 split <;> rfl
theorem visL_at (l : List Int) {j : Nat} {b : Int} (h : l[j]? = some b) : (visL l)[j]? = some ⟨b, ((l.take j).count b : Int) + 1⟩ ∧ cntAL (l.take (j + 1)) = ins (cntAL (l.take j)) b (((l.take j).count b : Int) + 1) := by
 have hj := (zAb.1 h).1
 have hb : l[j] = b := (zAb.1 h).2
 have e1 : l.take (j + 1) = l.take j ++ [b] := by rw [zBi, h]; rfl
 constructor
 · unfold visL
   rw [zA9, List.getElem?_range hj]
   show some (PVis.mk (l.getD j 0) ((l.take (j + 1)).count (l.getD j 0) : Int)) = _
   rw [show l.getD j 0 = b by simp [List.getD, h], e1, List.count_append, List.count_singleton_self]; rfl
 · rw [e1, cntAL_snoc, lk_cnt]
set_option maxHeartbeats 2000000 in
set_option maxRecDepth 20000 in
theorem visits_iter (f : PForm) (hf : FIn f) (hB : FOk f) (hJ : 0 ≤ f.jump.at_ ∧ 0 ≤ f.jump.to ∧ f.jump.at_ ≤ 4000 ∧ f.jump.to ≤ 4000 ∧ f.jump.fine ≤ 4000) (hl : (wholeL f).length ≤ 1000000) (S : Nat → Store) (Pj : Nat → Prop) :
 IterP Tryz.prog 168 [] [.iptr (encF f)] (yV (visL (wholeL f))) 4 S Pj := by
 intro yv R hP0 hS hR hy hyield
 have hvl : (yV (visL (wholeL f))).length = (wholeL f).length := by unfold visL; simp
 have hy2 := @yieldX yv (yV (visL (wholeL f))) S Pj R 4 hS hR (hy 2) hyield
 clear hyield
 rw [hvl] at hS ⊢
 have hbars := hB.bars
 have hw := whole_len f
 generalize hu : (if f.jump.at_ = 0 then f.bars else f.jump.at_) = u at hw
 have hu4 : u ≤ 4000 := by rw [← hu]; split <;> omega
 -- one visit, over what the iterator has of its own
 have hvis : ∀ j b, (wholeL f)[j]? = some b → Pj j → TCall Tryz.prog 169 [.int b, .ptr 6 0, .ptr 4 0] (vSt (S j) yv f (cntAL ((wholeL f).take j))) (fun r t => (r = .b true ∧ t = vSt (S (j + 1)) yv f (cntAL ((wholeL f).take (j + 1))) ∧ Pj (j + 1)) ∨ (r = .b false ∧ ∃ t', t = t' ++ vTail yv f (cntAL ((wholeL f).take (j + 1))) ∧ R j t')) := fun j b hjb hp => by
  have hj := (zAb.1 hjb).1
  obtain ⟨e1, e2⟩ := visL_at (wholeL f) hjb
  rw [e2]
  have hcl : ((wholeL f).take j).count b ≤ (wholeL f).length := zC3 (List.count_le_length ..) (by rw [zC4]; omega)
  refine visit_spec (c := (((wholeL f).take j).count b : Int) + 1) (P2 := Pj (j + 1)) (R := R j) hy (by rw [lk_cnt]) ⟨by omega, by omega⟩ ?_ (hR j) (hS (j + 1) hj)
  have h := hy2 (show (yV (visL (wholeL f)))[j]? = some [.agg [.int b, .int ((((wholeL f).take j).count b : Int) + 1)]] by rw [zA9, e1]; rfl) rfl hp (vTail yv f (ins (cntAL ((wholeL f).take j)) b ((((wholeL f).take j).count b : Int) + 1)))
  have x1 := ex4 (hS j (by omega)).1
  have x2 := ex4 (hS (j + 1) hj).1
  rw [x1, x2] at h
  exact h
 have hok : ∀ j, j ≤ (wholeL f).length → ∀ al, (vSt (S j) yv f al).length = 9 ∧ (vSt (S j) yv f al).all (okObj 9) = true := fun j hj al => ⟨rfl, okSt hy (hS j hj).1 (hS j hj).2 f al⟩
 have hRok : ∀ (j : Nat) (x : Exit) (s : Store), (x = .ret ∧ ∃ t' al, s = t' ++ vTail yv f al ∧ R j t') → s.length = 9 ∧ s.all (okObj 9) = true := by
  rintro j x s ⟨_, t', al, rfl, hh⟩
  obtain ⟨k1, k2⟩ := hR _ _ hh
  exact ⟨by rw [lLa, k1]; rfl, by rw [zCp, okObjs_mono (show 4 ≤ 9 by decide) k2, okTail hy f _]; rfl⟩
 have hS0 := ex4 (hS 0 (nZl _)).1
 have hend := ex4 (hS (wholeL f).length (nLr _)).1
 have b1 := bars_spec f 0 f.bars true
 have b3 := bars_spec f 0 f.jump.at_ true
 have b2 := bars_spec f f.jump.to f.jump.fine false
 clear hy2
 have hl1 : (partL f 0 u true).length + (partL f f.jump.to f.jump.fine false).length = (wholeL f).length := by rw [hw, lLa]
 have hg1 : ∀ j b, (partL f 0 u true)[j]? = some b → (wholeL f)[j]? = some b := fun j b h => by
  rw [hw, zA7 (zAb.1 h).1]; exact h
 have hg2 : ∀ j b, (partL f f.jump.to f.jump.fine false)[j]? = some b → (wholeL f)[(partL f 0 u true).length + j]? = some b := fun j b h => by
  rw [hw, zA8 (Nat.le_add_right _ _), zC8]; exact h
 have hit1 : ∀ (rc : Loop) (u' : Int), u' = u → IterP Tryz.prog 204 [] [.iptr [.int 0], .iptr [.int u'], .iptr (encF f), .iptr [.b true]] (yI (partL f 0 u true)) 10 (fun j => vSt (S j) yv f (cntAL ((wholeL f).take j)) ++ [.loop rc [(4, .ptr 7 0)]]) Pj := fun rc u' e => e ▸ bars_iter f hf hB 0 u' true ⟨by omega, by omega⟩ (e ▸ hu4) _ _
 have hit2 : ∀ rc : Loop, IterP Tryz.prog 204 [] [.iptr [.int f.jump.to], .iptr [.int f.jump.fine], .iptr (encF f), .iptr [.b false]] (yI (partL f f.jump.to f.jump.fine false)) 10 (fun j => vSt (S ((partL f 0 u true).length + j)) yv f (cntAL ((wholeL f).take ((partL f 0 u true).length + j))) ++ [.loop rc [(4, .ptr 7 0)]]) (fun j => Pj ((partL f 0 u true).length + j)) := fun rc => bars_iter f hf hB f.jump.to f.jump.fine false ⟨by omega, by omega⟩ (by omega) _ _
 have hwl : wholeL f = wholeL f := rfl
 generalize hn1 : partL f 0 u true = l1 at *
 generalize hn2 : partL f f.jump.to f.jump.fine false = l2 at *
 generalize hww : wholeL f = W at *
 show TCall _ _ [.opq yv, .iptr (encF f)] (S 0) _
 rw [hS0]
 clear hS0
 refine TCall.body Tryz.func168 rfl rfl Tryz.ntmps168 rfl rfl ?_
 by_cases h0 : f.jump.at_ = 0
 all_goals
  repeat' (first | refine aoQ rfl rfl rfl (fun hg => by first | exact std0 | exact pcW (b1) rfl rfl nd rfl nds | exact pcW (b3) rfl rfl nd rfl nds) (by exact rfl) ?_ | refine sqW ?_ | refine rgK (fun K' hK => ?_) | (refine aoN (hK _ _ ?_); clear hK K') | refine aoE (bxW rfl rfl rfl rfl rfl tI rfl rfl ?_) | refine aoE (stW tabOk rfl rfl rfl tI rfl rfl tI rfl rfl rfl rfl rfl rfl rfl ?_) | refine aoE (alW tabOk rfl rfl rfl rfl rfl rfl ?_) | refine aoE (EStep.makeMapW rfl rfl rfl rfl ?_) | (refine cdN rfl tI (fun hc => ?_) (fun hc => ?_) <;> try dsimp only at hc) | refine blK ?_ | refine skW ?_)
  all_goals (first | (exfalso; simp [h0] at hc; done) | skip)
  first | (have heq : f.bars = u := by rw [← hu, if_pos h0]) | (have heq : f.jump.at_ = u := by rw [← hu, if_neg h0])
  refine AWP.rangeFuncP (yI l1) [(4, .ptr 7 0)] (fun j => vSt (S j) yv f (cntAL (W.take j))) Pj (fun j x s => x = .ret ∧ ∃ t' al, s = t' ++ vTail yv f al ∧ R j t') (fun rc => hit1 rc _ heq) hP0 rfl tI ?_ ?_ rfl ⟨rfl, tI⟩ rfl rfl (fun j hj => hok j (by rw [lLm] at hj; omega) _) hRok ?_ ?_ ?_
  · intro x hx
    obtain ⟨n, _, rfl⟩ := zB4.1 hx; rfl
  · intro x hx
    obtain ⟨n, _, rfl⟩ := zB4.1 hx; rfl
  · intro j x hx hp
    obtain ⟨b, hb, rfl⟩ : ∃ b, l1[j]? = some b ∧ x = [.int b] := by
     rw [zA9, zA3] at hx
     obtain ⟨b, h1, h2⟩ := hx
     exact ⟨b, h1, h2.symm⟩
    have hv := TCall.val (first := []) (caps := [.ptr 6 0, .ptr 4 0]) (avs := [.int b]) (hvis (j) b (hg1 j b hb) hp)
    clear hvis hit1 hit2 hok
    show AWP _ _ _ (fun x e s => x = .normal ∧ AWP _ _ _ (roundKP 9 (vSt (S (j + 1)) yv f (cntAL (W.take (j + 1)))) (Pj (j + 1)) (fun x s => x = .ret ∧ ∃ t' al, s = t' ++ vTail yv f al ∧ R (j) t')) e s) _ (vSt (S (j)) yv f (cntAL (W.take (j))))
    repeat' (first | refine aoQ rfl rfl rfl (fun hg => by exact std0) (by exact rfl) ?_ | refine rgK (fun K' hK => ?_) | (refine aoN (hK _ _ ?_); clear hK K'))
    refine ⟨rfl, ?_⟩
    repeat' (first | refine aoQ rfl rfl rfl (fun hg => by exact std0) (by exact rfl) ?_ | refine sqW ?_ | refine rgK (fun K' hK => ?_) | refine aoE (scT (hv) rfl rfl rfl rfl rfl nd rfl rfl nds ?_) | refine blK ?_)
    rintro r t (⟨rfl, rfl, hp'⟩ | ⟨rfl, t', rfl, hh⟩)
    · repeat' (first | refine aoQ rfl rfl rfl (fun hg => by exact std0) (by exact rfl) ?_ | (refine aoN (hK _ _ ?_); clear hK K') | (refine cdN rfl tI (fun hc => ?_) (fun hc => ?_) <;> try dsimp only at hc) | refine skW ?_ | refine rtW ?_)
      · exfalso; simp at hc
      · exact ⟨rfl, hp'⟩
    · repeat' (first | refine aoQ rfl rfl rfl (fun hg => by exact std0) (by exact rfl) ?_ | (refine aoN (hK _ _ ?_); clear hK K') | (refine cdN rfl tI (fun hc => ?_) (fun hc => ?_) <;> try dsimp only at hc) | refine skW ?_ | refine rtW ?_)
      · refine ⟨rfl, t', cntAL (W.take (j + 1)), ?_, hh⟩
        rw [zAi (by rw [lLa, (hR _ _ hh).1]; exact nLr _)]
      · exfalso; simp at hc
  · intro hPn
    have eL : (yI l1).length = l1.length := lLm ..
    rw [eL] at hPn ⊢
    repeat' (first | refine aoQ rfl rfl rfl (fun hg => by first | exact std0 | exact pcW (b2) rfl rfl nd rfl nds) (by exact rfl) ?_ | refine sqW ?_ | refine rgK (fun K' hK => ?_) | (refine aoN (hK _ _ ?_); clear hK K') | refine blK ?_)
    refine AWP.rangeFuncP (yI l2) [(4, .ptr 7 0)] (fun j => vSt (S (l1.length + j)) yv f (cntAL (W.take (l1.length + j)))) (fun j => Pj (l1.length + j)) (fun j x s => x = .ret ∧ ∃ t' al, s = t' ++ vTail yv f al ∧ R (l1.length + j) t') (fun rc => hit2 rc) hPn rfl tI ?_ ?_ rfl ⟨rfl, tI⟩ rfl rfl (fun j hj => hok _ (by rw [lLm] at hj; omega) _) (fun j => hRok (l1.length + j)) ?_ ?_ ?_
    · intro x hx
      obtain ⟨n, _, rfl⟩ := zB4.1 hx; rfl
    · intro x hx
      obtain ⟨n, _, rfl⟩ := zB4.1 hx; rfl
    · intro j x hx hp
      obtain ⟨b, hb, rfl⟩ : ∃ b, l2[j]? = some b ∧ x = [.int b] := by
       rw [zA9, zA3] at hx
       obtain ⟨b, h1, h2⟩ := hx
       exact ⟨b, h1, h2.symm⟩
      have hv := TCall.val (first := []) (caps := [.ptr 6 0, .ptr 4 0]) (avs := [.int b]) (hvis (l1.length + j) b (hg2 j b hb) hp)
      clear hvis hit1 hit2 hok
      show AWP _ _ _ (fun x e s => x = .normal ∧ AWP _ _ _ (roundKP 9 (vSt (S (l1.length + j + 1)) yv f (cntAL (W.take (l1.length + j + 1)))) (Pj (l1.length + j + 1)) (fun x s => x = .ret ∧ ∃ t' al, s = t' ++ vTail yv f al ∧ R (l1.length + j) t')) e s) _ (vSt (S (l1.length + j)) yv f (cntAL (W.take (l1.length + j))))
      repeat' (first | refine aoQ rfl rfl rfl (fun hg => by exact std0) (by exact rfl) ?_ | refine rgK (fun K' hK => ?_) | (refine aoN (hK _ _ ?_); clear hK K'))
      refine ⟨rfl, ?_⟩
      repeat' (first | refine aoQ rfl rfl rfl (fun hg => by exact std0) (by exact rfl) ?_ | refine sqW ?_ | refine rgK (fun K' hK => ?_) | refine aoE (scT (hv) rfl rfl rfl rfl rfl nd rfl rfl nds ?_) | refine blK ?_)
      rintro r t (⟨rfl, rfl, hp'⟩ | ⟨rfl, t', rfl, hh⟩)
      · repeat' (first | refine aoQ rfl rfl rfl (fun hg => by exact std0) (by exact rfl) ?_ | (refine aoN (hK _ _ ?_); clear hK K') | (refine cdN rfl tI (fun hc => ?_) (fun hc => ?_) <;> try dsimp only at hc) | refine skW ?_ | refine rtW ?_)
        · exfalso; simp at hc
        · exact ⟨rfl, hp'⟩
      · repeat' (first | refine aoQ rfl rfl rfl (fun hg => by exact std0) (by exact rfl) ?_ | (refine aoN (hK _ _ ?_); clear hK K') | (refine cdN rfl tI (fun hc => ?_) (fun hc => ?_) <;> try dsimp only at hc) | refine skW ?_ | refine rtW ?_)
        · refine ⟨rfl, t', cntAL (W.take (l1.length + j + 1)), ?_, hh⟩
          rw [zAi (by rw [lLa, (hR _ _ hh).1]; exact nLr _)]
        · exfalso; simp at hc
    · intro hPn2
      have eL2 : (yI l2).length = l2.length := lLm ..
      rw [eL2, hl1] at hPn2 ⊢
      obtain ⟨k1, k2⟩ := hS W.length (nLr _)
      refine ⟨.inl rfl, .tup [], S W.length, .inl ⟨rfl, hPn2⟩, ?_, ?_, ?_, rfl, rfl⟩
      · rw [k1]
        conv => rhs; rw [hend]
        rfl
      · rw [k1]; exact nLr _
      · rw [k1]; exact k2
    · rintro j x s hj ⟨rfl, t', al, rfl, hh⟩
      rw [lLm] at hj
      obtain ⟨k1, k2⟩ := hR _ _ hh
      exact ⟨.inr rfl, .tup [], t', .inr ⟨_, by omega, hh⟩, by rw [k1]; exact zCu (by omega) |>.trans (zAi (by omega)), by rw [k1]; exact nLr _, by rw [k1]; exact k2, rfl, rfl⟩
  · rintro j x s hj ⟨rfl, t', al, rfl, hh⟩
    rw [lLm] at hj
    obtain ⟨k1, k2⟩ := hR _ _ hh
    exact ⟨.inr rfl, .tup [], t', .inr ⟨_, by omega, hh⟩, by rw [k1]; exact zCu (by omega) |>.trans (zAi (by omega)), by rw [k1]; exact nLr _, by rw [k1]; exact k2, rfl, rfl⟩
end Go.Proofs.YtdglbdfdkabjfaaGreatDoor.Pl
namespace Go.Pl
open Go.Ab
theorem rep_from {f : PForm} {r : PRep} (h : r ∈ f.reps) {M : Int} (hr : ∀ r ∈ f.reps, r.from_ < r.until_ ∧ r.times ≤ 9) (all : Bool) : (repL f r all).length ≤ 9 * (r.until_ - r.from_).toNat := by
 obtain ⟨h1, h2⟩ := hr r h
 unfold repL
 rw [List.length_flatMap]
 have hp : ∀ p, (passL f r p).length ≤ (r.until_ - r.from_).toNat := fun p => by
  unfold passL
  refine zC3 (List.length_filter_le _ _) ?_
  unfold upTo; simp
 have hs : ∀ l : List Int, (l.map fun p => (passL f r p).length).sum ≤ l.length * (r.until_ - r.from_).toNat := fun l => by
  induction l with
  | nil => simp
  | cons a l ih =>
    rw [zBt, List.sum_cons, zAe, Nat.succ_mul]
    have := hp a; omega
 refine zC3 (hs _) (zAp _ ?_)
 unfold upTo
 rw [lLm, List.length_range]
 split
 · omega
 · rcases Int.lt_or_le r.times 1 with h3 | h3 <;> omega
theorem partF_len {f : PForm} (hr : ∀ r ∈ f.reps, r.from_ < r.until_ ∧ r.times ≤ 9) {M : Int} (hM : ∀ r ∈ f.reps, r.until_ ≤ M) (u : Int) (hu : u ≤ M) (all : Bool) : ∀ (k : Nat) (bar : Int), (partF f u all k bar).length ≤ 9 * (M - bar).toNat
 | 0, _ => nZl _
 | k + 1, bar => by
   unfold partF
   by_cases hb : bar < u
   · rw [if_pos hb]
     cases hs : startsR f.reps bar with
     | none =>
       simp only
       have := partF_len hr hM u hu all k (bar + 1)
       rw [zAe]; omega
     | some r =>
       simp only
       have hm := zB1 hs
       have he : r.from_ = bar := by
        have := zCx hs
        simpa using this
       have h1 := partF_len hr hM u hu all k r.until_
       have h2 := rep_from hm hr all (M := M)
       have h3 := hM r hm
       have h4 := (hr r hm).1
       rw [lLa]; omega
   · rw [if_neg hb]; exact nZl _
theorem wholeL_len {f : PForm} (hr : ∀ r ∈ f.reps, r.from_ < r.until_ ∧ r.times ≤ 9 ∧ r.until_ ≤ 4000) (hb : f.bars ≤ 4000) (ha : f.jump.at_ ≤ 4000) (ht : 0 ≤ f.jump.to) (hf : f.jump.fine ≤ 4000) : (wholeL f).length ≤ 72000 := by
 have h1 : ∀ a u all, 0 ≤ a → u ≤ 4000 → (partL f a u all).length ≤ 36000 := fun a u all h0 hu => by
  have := partF_len (M := 4000) (fun r h => ⟨(hr r h).1, (hr r h).2.1⟩) (fun r h => (hr r h).2.2) u hu all (u - a).toNat a
  unfold partL; omega
 unfold wholeL
 split
 · rw [lLa]
   have := h1 0 f.bars true (by omega) hb
   have := h1 f.jump.to f.jump.fine false ht hf
   omega
 · rw [lLa]
   have := h1 0 f.jump.at_ true (by omega) ha
   have := h1 f.jump.to f.jump.fine false ht hf
   omega
def formA (f : PForm) : Bool :=
 decide (1 ≤ f.bars) && decide (f.bars ≤ 4000) && (repsOk f.bars 0 f.reps && decide (f.reps.length ≤ 100)) && (endsOk f.reps 0 f.ends && decide (f.ends.length ≤ 100)) && jumpOk f && (cutsOk f.bars f.cuts && decide (f.cuts.length ≤ 100))
theorem formOk_eq (f : PForm) : formOk f = (formA f && decide ((wholeL f).length ≤ 20000)) := rfl
theorem jump_in {f : PForm} (h : jumpOk f = true) (hb : f.bars ≤ 4000) : 0 ≤ f.jump.at_ ∧ 0 ≤ f.jump.to ∧ f.jump.at_ ≤ 4000 ∧ f.jump.to ≤ 4000 ∧ f.jump.fine ≤ 4000 := by
 unfold jumpOk at h
 rw [zB6] at h
 rcases h with h | h
 · rw [dEt] at h
   rw [h]; decide
 · simp only [zA0, zB8, zAk, dEf] at h
   obtain ⟨⟨⟨⟨⟨⟨h1, h2⟩, h3⟩, h4⟩, h5⟩, h6⟩, _⟩ := h
   omega
end Go.Pl
namespace Go.Proofs.YtdglbdfdkabjfaaGreatDoor.Pl
open Go.Ab Go.Pl
attribute [local irreducible] AWP AOps EStep AQ PStep PRun PCall TCall VCall
structure FGood (f : PForm) : Prop where
 ok : FOk f
 j : 0 ≤ f.jump.at_ ∧ 0 ≤ f.jump.to ∧ f.jump.at_ ≤ 4000 ∧ f.jump.to ≤ 4000 ∧ f.jump.fine ≤ 4000
 len : (wholeL f).length ≤ 1000000
theorem FGood.of {f : PForm} (h : formA f = true) : FGood f := by
 unfold formA at h
 simp only [zA0, dEt] at h
 obtain ⟨⟨⟨⟨⟨h1, h2⟩, h3, _⟩, _⟩, h5⟩, _⟩ := h
 have hr := fun r hm => reps_all h3 r hm
 have hj := jump_in h5 h2
 refine ⟨⟨h2, fun r hm => ?_⟩, hj, zC3 (wholeL_len (fun r hm => ?_) h2 hj.2.2.1 hj.2.1 hj.2.2.2.2) (by decide)⟩
 · have := hr r hm; omega
 · have := hr r hm; omega
theorem isShort_spec (f : PForm) (hf : FIn f) (hg : FGood f) : PCall Tryz.prog 139 [.agg (encF f)] (.b (decide ((wholeL f).length ≤ 20000))) := by
 have hv := visits_spec f
 have hlen : (yV (visL (wholeL f))).length = (wholeL f).length := by unfold visL; simp
 refine PCall.bodyS tabOk Tryz.func139 rfl rfl Tryz.ntmps139 rfl ?_
 repeat' (first | refine aoQ rfl rfl rfl (fun hg => by first | exact std0 | exact pcW (hv) rfl rfl nd rfl nds) (by exact rfl) ?_ | refine sqW ?_ | refine rgK (fun K' hK => ?_) | (refine aoN (hK _ _ ?_); clear hK K') | refine aoE (bxW rfl rfl rfl rfl rfl tI rfl rfl ?_) | refine aoE (stW tabOk rfl rfl rfl tI rfl rfl tI rfl rfl rfl rfl rfl rfl rfl ?_) | refine aoE (alW tabOk rfl rfl rfl rfl rfl rfl ?_) | refine blK ?_)
 refine AWP.rangeFuncP (yV (visL (wholeL f))) [(2, .ptr 1 0), (3, .ptr 2 0)] (fun j => [.var (encF f), .var [.b false], .var [.int j]]) (fun j => j ≤ 20000) (fun j x s => x = .ret ∧ s = [.var (encF f), .var [.b false], .var [.int (j + 1 : Nat)]] ∧ 20000 ≤ j) (fun rc => visits_iter f hf hg.ok hg.j hg.len _ _) (nZl _) rfl tI ?_ ?_ rfl ⟨rfl, rfl, tI⟩ rfl rfl (fun j hj => ⟨rfl, rfl⟩) ?_ ?_ ?_ ?_
 · intro x hx
   obtain ⟨n, _, rfl⟩ := zB4.1 hx; rfl
 · intro x hx
   obtain ⟨n, _, rfl⟩ := zB4.1 hx; rfl
 · rintro j x s ⟨_, rfl, _⟩; exact ⟨rfl, rfl⟩
 · intro j x hx hp
   obtain ⟨v, rfl⟩ : ∃ v : PVis, x = [.agg (encV v)] := by
    rw [zA9, zA3] at hx
    obtain ⟨v, _, h2⟩ := hx
    exact ⟨v, h2.symm⟩
   have e1 : (j : Int) + 1 = ((j + 1 : Nat) : Int) := by omega
   repeat' (first | refine skW ?_)
   refine ⟨rfl, ?_⟩
   repeat' (first | refine aoQ rfl rfl rfl (fun hg => by exact std0) (by exact rfl) ?_ | refine sqW ?_ | refine rgK (fun K' hK => ?_) | (refine aoN (hK _ _ ?_); clear hK K') | refine aoE (stW tabOk rfl rfl rfl tI rfl rfl tI rfl rfl rfl rfl rfl rfl rfl ?_) | (refine cdN rfl tI (fun hc => ?_) (fun hc => ?_) <;> try dsimp only at hc) | refine blK ?_ | refine skW ?_ | refine rtW ?_)
   · refine ⟨rfl, ?_, by omega⟩
     show [_, _, AObj.var [AV.int ((j : Int) + 1)]] = _
     rw [e1]
   · refine ⟨?_, by omega⟩
     show [_, _, AObj.var [AV.int ((j : Int) + 1)]] = _
     rw [e1]
 · intro hp
   rw [hlen] at hp
   repeat' (first | refine sqW ?_ | refine rgK (fun K' hK => ?_) | (refine aoN (hK _ _ ?_); clear hK K') | refine aoE (stW tabOk rfl rfl rfl tI rfl rfl tI rfl rfl rfl rfl rfl rfl rfl ?_) | refine rtW ?_)
   exact ⟨.inr rfl, _, rfl, Ent.b (decide_eq_true hp).symm⟩
 · rintro j x s hj ⟨rfl, rfl, h⟩
   rw [hlen] at hj
   exact ⟨.inr rfl, _, rfl, Ent.b (decide_eq_false (by omega)).symm⟩
theorem valid_spec (f : PForm) (hf : FIn f) : PCall Tryz.prog 83 [.agg (encF f)] (.b (formOk f)) := by
 have h1 := areRepeats_spec f hf
 have h2 := areEndings_spec f hf
 have h3 := isJump_spec f hf
 have h4 := areCuts_spec f hf
 by_cases hA : formA f = true
 · have h5 := isShort_spec f hf (FGood.of hA)
   refine PCall.body Tryz.func83 rfl rfl Tryz.ntmps83 rfl rfl ?_
   repeat' (first | refine aoQ rfl rfl rfl (fun hg => by first | exact std0 | exact pbD tabOk rfl rfl nds | exact pcW (h1) rfl rfl nd rfl nds | exact pcW (h2) rfl rfl nd rfl nds | exact pcW (h3) rfl rfl nd rfl nds | exact pcW (h4) rfl rfl nd rfl nds | exact pcW (h5) rfl rfl nd rfl nds) (by exact rfl) ?_ | refine sqW ?_ | refine rgK (fun K' hK => ?_) | (refine aoN (hK _ _ ?_); clear hK K') | refine aoE (bxW rfl rfl rfl rfl rfl tI rfl rfl ?_) | refine aoE (stW tabOk rfl rfl rfl tI rfl rfl tI rfl rfl rfl rfl rfl rfl rfl ?_) | refine aoE (alW tabOk rfl rfl rfl rfl rfl rfl ?_) | refine rtW ?_)
   exact ⟨.inr rfl, Ent.b rfl⟩
 · have hn : ¬ (decide (f.bars ≥ 1) && decide (f.bars ≤ 4000) && (repsOk f.bars 0 f.reps && decide (f.reps.length ≤ 100)) && (endsOk f.reps 0 f.ends && decide (f.ends.length ≤ 100)) && jumpOk f && (cutsOk f.bars f.cuts && decide (f.cuts.length ≤ 100))) = true := hA
   refine PCall.body Tryz.func83 rfl rfl Tryz.ntmps83 rfl rfl ?_
   repeat' (first | refine aoQ rfl rfl rfl (fun hg => by first | exact std0 | exact pbD tabOk rfl rfl nds | exact pcW (h1) rfl rfl nd rfl nds | exact pcW (h2) rfl rfl nd rfl nds | exact pcW (h3) rfl rfl nd rfl nds | exact pcW (h4) rfl rfl nd rfl nds | exact (absurd (eq_of_beq hg) hn : PRun _ _ _ _ (.b false)) | fail) (by exact rfl) ?_ | refine sqW ?_ | refine rgK (fun K' hK => ?_) | (refine aoN (hK _ _ ?_); clear hK K') | refine aoE (bxW rfl rfl rfl rfl rfl tI rfl rfl ?_) | refine aoE (stW tabOk rfl rfl rfl tI rfl rfl tI rfl rfl rfl rfl rfl rfl rfl ?_) | refine aoE (alW tabOk rfl rfl rfl rfl rfl rfl ?_) | refine rtW ?_)
   refine ⟨.inr rfl, Ent.b ?_⟩
   rw [formOk_eq, show formA f = false by simpa using hA]
   exact zCj _
theorem leaves_spec (c : PCut) (v : PVis) : PCall Tryz.prog 123 [.agg (encCt c), .iptr (encV v)] (.b (leaves c v)) := by
 refine PCall.body Tryz.func123 rfl rfl Tryz.ntmps123 rfl rfl ?_
 repeat' (first | refine aoQ rfl rfl rfl (fun hg => by exact std0) (by exact rfl) ?_ | refine sqW ?_ | refine rgK (fun K' hK => ?_) | (refine aoN (hK _ _ ?_); clear hK K') | refine aoE (bxW rfl rfl rfl rfl rfl tI rfl rfl ?_) | refine rtW ?_)
 exact ⟨.inr rfl, Ent.b rfl⟩
def outL (f : PForm) (j : Nat) : List PVis := ((visL (wholeL f)).take j).filter fun v => !(f.cuts.any fun c => leaves c v)
theorem outL_succ (f : PForm) {j : Nat} {v : PVis} (h : (visL (wholeL f))[j]? = some v) : outL f (j + 1) = if (f.cuts.any fun c => leaves c v) then outL f j else outL f j ++ [v] := by
 unfold outL
 rw [zBi, h]
 show ((visL (wholeL f)).take j ++ [v]).filter _ = _
 rw [List.filter_append]
 cases hc : f.cuts.any fun c => leaves c v
 · rw [zCa (by rw [hc]; rfl)]; rfl
 · rw [zCb (by rw [hc]; decide)]; simp
theorem outL_len (f : PForm) (j : Nat) : (outL f j).length ≤ (wholeL f).length := by
 unfold outL
 refine zC3 (List.length_filter_le _ _) ?_
 rw [zC4]
 have : (visL (wholeL f)).length = (wholeL f).length := by unfold visL; simp
 omega
def unfR (f : PForm) : List PVis × Int := if formOk f then (visits f, 0) else ([], 1)
theorem unfold_spec (f : PForm) (hf : FIn f) : PCall Tryz.prog 63 [.agg (encF f)] (.tup [.sl 2 ((unfR f).1.map encV) .no, .int (unfR f).2]) := by
 have hv := visits_spec f
 have hva := valid_spec f hf
 have hlen : (yV (visL (wholeL f))).length = (wholeL f).length := by unfold visL; simp
 by_cases hok : formOk f = true
 · have hg : FGood f := FGood.of (by rw [formOk_eq, zA0] at hok; exact hok.1)
   have hl : (wholeL f).length ≤ 20000 := by rw [formOk_eq, zA0] at hok; simpa using hok.2
   rw [show unfR f = (visits f, 0) by unfold unfR; rw [if_pos hok]]
   rw [hok] at hva
   refine PCall.body Tryz.func63 rfl rfl Tryz.ntmps63 rfl rfl ?_
   repeat' (first | refine aoQ rfl rfl rfl (fun hg => by first | exact std0 | exact pcW (hva) rfl rfl nd rfl nds | exact pbD tabOk rfl rfl nds | exact pcW (hv) rfl rfl nd rfl nds) (by exact rfl) ?_ | refine sqW ?_ | refine rgK (fun K' hK => ?_) | (refine aoN (hK _ _ ?_); clear hK K') | refine aoE (bxW rfl rfl rfl rfl rfl tI rfl rfl ?_) | refine aoE (alW tabOk rfl rfl rfl rfl rfl rfl ?_) | (refine cdN rfl tI (fun hc => ?_) (fun hc => ?_) <;> try dsimp only at hc) | refine blK ?_ | refine skW ?_ | refine rtW ?_)
   · exfalso; simp at hc
   refine AWP.ownNilV (v := 1) (i := 0) (sz := 2) (cs := [.nils]) rfl rfl ?_
   refine AWP.rangeFuncP (yV (visL (wholeL f))) [(1, .ptr 0 0), (4, .ptr 1 0)] (fun j => [.var (encF f), .var [.sl 2 ((outL f j).map encV) (.own 2)], .own 2 ((outL f j).map encV).length]) (fun _ => True) (fun _ _ _ => False) (fun rc => visits_iter f hf hg.ok hg.j hg.len _ _) tI rfl tI ?_ ?_ rfl ⟨rfl, rfl, tI⟩ rfl rfl (fun j hj => ⟨rfl, rfl⟩) (fun _ _ _ h => h.elim) ?_ ?_ (fun _ _ _ _ h => h.elim)
   · intro x hx
     obtain ⟨n, _, rfl⟩ := zB4.1 hx; rfl
   · intro x hx
     obtain ⟨n, _, rfl⟩ := zB4.1 hx; rfl
   · intro j x hx _
     obtain ⟨v, hvj, rfl⟩ : ∃ v : PVis, (visL (wholeL f))[j]? = some v ∧ x = [.agg (encV v)] := by
      rw [zA9, zA3] at hx
      obtain ⟨v, h1, h2⟩ := hx
      exact ⟨v, h1, h2.symm⟩
     have h1 := contC_spec f.cuts (.fn (.func 123) [] [.iptr (encV v)]) (fun c => leaves c v) (fun x _ => ⟨_, [], _, rfl, leaves_spec x v⟩) hf.cuts
     have hs := outL_succ f hvj
     have hle := outL_len f j
     cases hcc : f.cuts.any fun c => leaves c v with
     | true =>
       rw [hcc] at h1 hs
       rw [if_pos rfl] at hs
       repeat' (first | refine rgK (fun K' hK => ?_) | (refine aoN (hK _ _ ?_); clear hK K') | refine aoE (stW tabOk rfl rfl rfl tI rfl rfl tI rfl rfl rfl rfl rfl rfl rfl ?_) | refine aoE (alW tabOk rfl rfl rfl rfl rfl rfl ?_))
       refine ⟨rfl, ?_⟩
       repeat' (first | refine aoQ rfl rfl rfl (fun hg => by first | exact std0 | exact pbW (h1) rfl rfl nd rfl rfl nds) (by exact rfl) ?_ | refine sqW ?_ | refine rgK (fun K' hK => ?_) | (refine aoN (hK _ _ ?_); clear hK K') | (refine cdN rfl tI (fun hc => ?_) (fun hc => ?_) <;> try dsimp only at hc) | refine blK ?_ | refine skW ?_)
       · exfalso; simp at hc
       · refine ⟨?_, tI⟩
         show _ = ([.var (encF f), .var [.sl 2 ((outL f (j + 1)).map encV) (.own 2)], .own 2 ((outL f (j + 1)).map encV).length] : Store)
         rw [hs]; rfl
     | false =>
       rw [hcc] at h1 hs
       rw [if_neg (by decide)] at hs
       repeat' (first | refine rgK (fun K' hK => ?_) | (refine aoN (hK _ _ ?_); clear hK K') | refine aoE (stW tabOk rfl rfl rfl tI rfl rfl tI rfl rfl rfl rfl rfl rfl rfl ?_) | refine aoE (alW tabOk rfl rfl rfl rfl rfl rfl ?_))
       refine ⟨rfl, ?_⟩
       repeat' (first | refine aoQ rfl rfl rfl (fun hg => by first | exact std0 | exact pbW (h1) rfl rfl nd rfl rfl nds | exact pbS tabOk rfl rfl nds) (by exact rfl) ?_ | refine sqW ?_ | refine rgK (fun K' hK => ?_) | (refine aoN (hK _ _ ?_); clear hK K') | refine aoE (stW tabOk rfl rfl rfl tI rfl rfl tI rfl rfl rfl rfl rfl rfl rfl ?_) | refine aoE (EStep.appendOwn tabOk rfl rfl rfl (by decide) (Rd.w rfl tI) rfl (Rd.w rfl tI) (.sl rfl (by first | (intro x hx; rcases zAf.1 hx with rfl; rfl) | exact one_by8 _ | exact one_ints _)) (LOk.of (tabOk.get rfl)) (LOk.of (tabOk.get rfl)) rfl rfl (by simp only [lLm, lLa, zAe, zAn]; omega) (by simp only [lLm, lLa, zAe, zAn]; omega) ?_) | (refine cdN rfl tI (fun hc => ?_) (fun hc => ?_) <;> try dsimp only at hc) | refine blK ?_ | refine skW ?_)
       · refine ⟨?_, tI⟩
         show _ = ([.var (encF f), .var [.sl 2 ((outL f (j + 1)).map encV) (.own 2)], .own 2 ((outL f (j + 1)).map encV).length] : Store)
         rw [hs, zC2, show (List.map encV (outL f j) ++ List.map encV [v]).length = (List.map encV (outL f j)).length + 1 by simp]; rfl
       · exfalso; simp at hc
   · intro _
     have e9 : outL f (yV (visL (wholeL f))).length = visits f := by
      unfold outL visits
      rw [lLm, zBl]
     repeat' (first | refine aoQ rfl rfl rfl (fun hg => by exact std0) (by exact rfl) ?_ | refine sqW ?_ | refine rgK (fun K' hK => ?_) | (refine aoN (hK _ _ ?_); clear hK K') | refine rtW ?_)
     refine ⟨.inr rfl, Ent.of ?_⟩
     rw [e9]; rfl
 · rw [show unfR f = ([], 1) by unfold unfR; rw [if_neg hok]]
   have hok2 : formOk f = false := by simpa using hok
   rw [hok2] at hva
   refine PCall.body Tryz.func63 rfl rfl Tryz.ntmps63 rfl rfl ?_
   repeat' (first | refine aoQ rfl rfl rfl (fun hg => by first | exact std0 | exact pcW (hva) rfl rfl nd rfl nds | exact pbD tabOk rfl rfl nds | exact pcW (hv) rfl rfl nd rfl nds) (by exact rfl) ?_ | refine sqW ?_ | refine rgK (fun K' hK => ?_) | (refine aoN (hK _ _ ?_); clear hK K') | refine aoE (bxW rfl rfl rfl rfl rfl tI rfl rfl ?_) | refine aoE (alW tabOk rfl rfl rfl rfl rfl rfl ?_) | (refine cdN rfl tI (fun hc => ?_) (fun hc => ?_) <;> try dsimp only at hc) | refine blK ?_ | refine skW ?_ | refine rtW ?_)
   · exact ⟨.inr rfl, Ent.tup2 Ent.nil (Ent.rfl' _)⟩
   · exfalso; simp at hc
instance : Inhabited PVis := ⟨⟨0, 0⟩⟩
theorem flV : flatOf Tryz.prog 46 = some [.int .i64, .int .i64] := by kernel_rfl
def eqVis (v x : PVis) : Bool := v.bar == x.bar && (v.pass == x.pass && true)
theorem eqVis_iff (v x : PVis) : eqVis v x = true ↔ x = v := by
 obtain ⟨a, b⟩ := v; obtain ⟨c, d⟩ := x
 unfold eqVis
 simp only [zC9, zA0, beq_iff_eq, PVis.mk.injEq]
 exact ⟨fun h => ⟨h.1.symm, h.2.symm⟩, fun h => ⟨h.1.symm, h.2.symm⟩⟩
theorem indexV_spec (l : List PVis) (v : PVis) (hl : l.length ≤ 1000000000) : PCall Tryz.prog 70 [.sl 2 (l.map encV) .no, .agg (encV v)] (.int (findI (eqVis v) l)) := by
 refine PCall.body Tryz.func70 rfl rfl Tryz.ntmps70 rfl rfl ?_
 repeat' (first | refine aoQ rfl rfl rfl (fun hg => by first | exact std0 | exact std1) (by exact rfl) ?_ | refine sqW ?_ | refine rgK (fun K' hK => ?_) | (refine aoN (hK _ _ ?_); clear hK K') | refine aoE (bxW rfl rfl rfl rfl rfl tI rfl rfl ?_) | refine blK ?_)
 refine lpW (ι := Nat) (fun k => [(0, .sl 2 (l.map encV) .no), (3, .ptr 0 0), (6, .sl 2 (l.map encV) .no), (7, .int l.length), (8, .int k)]) (fun _ => [.var (encV v)]) (fun k => k ≤ l.length ∧ ∀ j, j < k → eqVis v (l.getD j default) = false) (fun k => l.length - k) 0 ⟨nZl _, fun j h => absurd h (by omega)⟩ ⟨rfl, rfl, rfl, rfl, rfl, tI⟩ rfl ?_
 rintro k ⟨hk, hall⟩
 by_cases hlt : k < l.length
 · repeat' (first | refine aoQ rfl rfl rfl (fun hg => by exact std0) (by exact rfl) ?_ | refine sqW ?_ | refine rgK (fun K' hK => ?_) | (refine aoN (hK _ _ ?_); clear hK K') | (refine cdN rfl tI (fun hc => ?_) (fun hc => ?_) <;> try dsimp only at hc) | refine blK ?_ | refine exW ?_ | refine skW ?_ | refine rtW ?_ | refine dK2 (by decide +kernel) (by kernel_rfl) (by decide +kernel) rfl (fun K' hK => ?_) | (refine aqN (hK _ ?_); clear hK K') | refine aqQ rfl rfl (fun hg => by first | exact std0 | exact PRun.eqS flV rfl rfl nd rfl nd rfl | exact std1) (by exact rfl) ?_)
   all_goals first | (exfalso; omega) | skip
   · refine ⟨.inr rfl, ?_⟩
     rw [show findI (eqVis v) l = k from findI_at hlt hc hall]
     exact fun _ _ h => h
   · exact ⟨k + 1, ⟨by omega, fun j hj => lt_succ_cases hall hc hj⟩, by omega, ⟨rfl, rfl, rfl, rfl, rfl, tI⟩, rfl⟩
 · repeat' (first | refine aoQ rfl rfl rfl (fun hg => by exact std0) (by exact rfl) ?_ | refine sqW ?_ | refine rgK (fun K' hK => ?_) | (refine aoN (hK _ _ ?_); clear hK K') | (refine cdN rfl tI (fun hc => ?_) (fun hc => ?_) <;> try dsimp only at hc) | refine blK ?_ | refine exW ?_ | refine skW ?_ | refine rtW ?_ | refine dK2 (by decide +kernel) (by kernel_rfl) (by decide +kernel) rfl (fun K' hK => ?_) | refine aqQ rfl rfl (fun hg => by first | exact std0 | exact std1) (by exact rfl) ?_)
   all_goals first | (exfalso; omega) | skip
   refine ⟨.inr rfl, ?_⟩
   rw [show findI (eqVis v) l = -1 from findI_no fun j hj => hall j (by omega)]
   exact fun _ _ h => h
def findR (f : PForm) (v : PVis) : Int × Bool × Int := if formOk f then (max (findI (eqVis v) (visits f)) 0, decide (v ∈ visits f), 0) else (0, false, 1)
theorem findI_mem (l : List PVis) (v : PVis) : decide (findI (eqVis v) l ≥ 0) = decide (v ∈ l) := by
 rw [findI_ge, zAl, zD8, dEt]
 constructor
 · rintro ⟨x, hx, h⟩; rw [← (eqVis_iff v x).1 h]; exact hx
 · intro h; exact ⟨v, h, (eqVis_iff v v).2 rfl⟩
theorem find_spec (f : PForm) (hf : FIn f) (v : PVis) : PCall Tryz.prog 20 [.agg (encF f), .agg (encV v)] (.tup [.int (findR f v).1, .b (findR f v).2.1, .int (findR f v).2.2]) := by
 have hu := unfold_spec f hf
 by_cases hok : formOk f = true
 · have hl : (visits f).length ≤ 1000000000 := by
    have h1 : (wholeL f).length ≤ 20000 := by rw [formOk_eq, zA0] at hok; simpa using hok.2
    have h2 := outL_len f (visL (wholeL f)).length
    unfold outL at h2
    rw [zBl] at h2
    show ((visL (wholeL f)).filter _).length ≤ _
    omega
   rw [show unfR f = (visits f, 0) by unfold unfR; rw [if_pos hok]] at hu
   rw [show findR f v = (max (findI (eqVis v) (visits f)) 0, decide (v ∈ visits f), 0) by unfold findR; rw [if_pos hok], ← findI_mem]
   have hi := indexV_spec (visits f) v hl
   refine PCall.body Tryz.func20 rfl rfl Tryz.ntmps20 rfl rfl ?_
   repeat' (first | refine aoQ rfl rfl rfl (fun hg => by first | exact std0 | exact pcW (hu) rfl rfl nd rfl nds | exact pcW (hi) rfl rfl nd rfl nds) (by exact rfl) ?_ | refine sqW ?_ | refine rgK (fun K' hK => ?_) | (refine aoN (hK _ _ ?_); clear hK K') | refine aoE (bxW rfl rfl rfl rfl rfl tI rfl rfl ?_) | (refine cdN rfl tI (fun hc => ?_) (fun hc => ?_) <;> try dsimp only at hc) | refine skW ?_ | refine rtW ?_)
   · exact absurd hc (by decide)
   · exact ⟨.inr rfl, fun _ _ h => h⟩
 · rw [show unfR f = ([], 1) by unfold unfR; rw [if_neg hok]] at hu
   rw [show findR f v = (0, false, 1) by unfold findR; rw [if_neg hok]]
   refine PCall.body Tryz.func20 rfl rfl Tryz.ntmps20 rfl rfl ?_
   repeat' (first | refine aoQ rfl rfl rfl (fun hg => by first | exact std0 | exact pcW (hu) rfl rfl nd rfl nds) (by exact rfl) ?_ | refine sqW ?_ | refine rgK (fun K' hK => ?_) | (refine aoN (hK _ _ ?_); clear hK K') | refine aoE (bxW rfl rfl rfl rfl rfl tI rfl rfl ?_) | (refine cdN rfl tI (fun hc => ?_) (fun hc => ?_) <;> try dsimp only at hc) | refine skW ?_ | refine rtW ?_)
   · exact ⟨.inr rfl, fun _ _ h => h⟩
   · exact absurd hc (by decide)
end Go.Proofs.YtdglbdfdkabjfaaGreatDoor.Pl
