/- Contracts by content: carry: the carrier to a version.  Contracts by content: carry: what belongs together with the carrier's version.  Contracts by content: carry: a carried mark.  Contracts by content: carry: Carry. No statement is proved here. -/
import Derived.Test.YtekfpcgagoidcaaGreatDoorU22
import Derived.Test.YtekfpcgagoidcaaGreatDoorU24
import Derived.Test.YtekfpcgagoidcaaGreatDoorU26
set_option linter.unusedVariables false
set_option linter.unusedSimpArgs false
namespace Go.Ab
theorem TCall.bodyS {P : Program} {T : Tab} (hT : T.Ok P) {f : FuncId} {fn : Func} {c : Code} {n : Nat} {avs : List AV} {σ : Store} {Q : AV → Store → Prop} (hf : P.funcs[f]? = some fn) (hb : fn.body = some c) (hnm : (fn.name == "runtime.NumGoroutine") = false)
 (hn : fn.ntmps = n) (hle' : decide (avs.length ≤ n) = true)
 (h : AWP P n c (fun x e s => (x = .normal ∨ x = .ret) ∧ ∃ (rv u : AV) (σ' : Store), Q rv σ' ∧ s.take σ'.length = σ' ∧ σ.length ≤ σ'.length ∧ σ'.all (okObj σ'.length) = true ∧ retS T e s fn.results.toList = some u ∧ Ent u rv) (Env.init avs) σ) : TCall P f avs σ Q := by
 refine ⟨⟨fn, hf, by simp [hb], hnm⟩, fun G w vs hs ha => ?_⟩
 refine (calls_body hf hb hn (of_decide_eq_true hle') h hs.enter rfl rfl ha (R := fun v w' => ∃ rv σ' G', Q rv σ' ∧ G.Le G' ∧ SRel G' σ' w' ∧ VRel G'.M G'.B rv v) (fun x e s hk => hk.1) ?_).mono ?_
 · rintro x e s G' tmps w' ⟨_, rv, u, σ', hQ, htk, hlen, hok, hu, hent⟩ hm0 hw0 hM hB hs' hvals
   obtain ⟨v, g1, g2⟩ := results_rel hT hs' hvals hu
   refine ⟨v, g1, rv, σ', { G with M := G'.M, B := G'.B.take σ'.length }, hQ, .up hM fun l g hl => ?_, ?_, (hent _ _ g2).mono (Mem.Le.refl _) fun l g hl => by simp at hl⟩
   · obtain ⟨g', k1, k2⟩ := hB l g hl
     have : l < σ'.length := by
      have h1 : l < G.B.length := by
       rcases nLg l G.B.length with h | h
       · exact h
       · simp [zA1 h] at hl
      rw [hs.len] at h1; omega
     exact ⟨g', take_get k1 this, k2⟩
   · have := hs'.take σ'.length (by rw [htk]; exact hok)
     rw [htk] at this
     exact hs.leave this hm0 hw0
 · rintro e w' ⟨v, rfl, rv, σ', G', h1, h2⟩
   exact ⟨v, rv, σ', G', rfl, h1, h2⟩
end Go.Ab
namespace Go.Proofs.YtekfpcgagoidcaaGreatDoor.Cy
open Go.Ab Go.Sort Al
attribute [local irreducible] AWP AOps EStep AQ PStep PRun PCall TCall VCall
def evI (p : PL) : AV := .imap (Go.Ab.encM ekI AV.int p)
def ownP (to : Score) : PL := to.notes.map fun n => (n.id, n.id)
def CarS (o0 o1 o2 o3 : AObj) (l : List Score) (to : Score) (al : List (Int × PL)) : Store :=
 [o0, o1, o2, o3, .dead, .var (encS to), .dead, .map (Go.Ab.encM ekI evI al), .var [.sl 4 (l.map encS) .no, .int to.version, .sl 4 (to.bars.map encB) .no, .sl 13 (to.parts.map encP) .no, .sl 12 (to.notes.map encN) .no, .map 7]]
def Pure4 (o0 o1 o2 o3 : AObj) : Prop := ∀ m, 4 ≤ m → okObj m o0 = true ∧ okObj m o1 = true ∧ okObj m o2 = true ∧ okObj m o3 = true
theorem okMapV (m : Nat) (al : List (Int × PL)) : okObj m (.map (Go.Ab.encM ekI evI al)) = true := by
 show (Go.Ab.encM ekI evI al).all (fun kv => okRef m 3 kv.2) = true
 rw [zA7]; intro x hx
 obtain ⟨p, _, rfl⟩ := zAu.1 hx
 rfl
theorem okMapI2 (m : Nat) (al : PL) : okObj m (.map (Go.Ab.encM ekI AV.int al)) = true := by
 show (Go.Ab.encM ekI AV.int al).all (fun kv => okRef m 3 kv.2) = true
 rw [zA7]; intro x hx
 obtain ⟨p, _, rfl⟩ := zAu.1 hx
 rfl
theorem carS_ok {o0 o1 o2 o3 : AObj} (h : Pure4 o0 o1 o2 o3) {m : Nat} (hm : 9 ≤ m) (l : List Score) (to : Score) (al : List (Int × PL)) : (CarS o0 o1 o2 o3 l to al).all (okObj m) = true := by
 obtain ⟨h0, h1, h2, h3⟩ := h m (by omega)
 have h7 : okObj m (.var [.sl 4 (l.map encS) .no, .int to.version, .sl 4 (to.bars.map encB) .no, .sl 13 (to.parts.map encP) .no, .sl 12 (to.notes.map encN) .no, .map 7]) = true := by
  show (true && (true && (true && (true && (true && (decide (7 < m) && true)))))) = true
  rw [decide_eq_true (by omega)]; rfl
 simp only [CarS, zBg, zBl, h0, h1, h2, h3, okMapV, h7]; rfl
def ncR (o0 o1 o2 o3 : AObj) (l : List Score) (v : Int) (r : AV) (s : Store) : Prop :=
 if findV l v < 0 then r = .tup [.prim (.pointer none), .int 32] ∧ s = [o0, o1, o2, o3] else r = .tup [.ptr 8 0, .int 0] ∧ s = CarS o0 o1 o2 o3 l (atS l (findV l v).toNat) [(v, insL [] (ownP (atS l (findV l v).toNat)))]
theorem ownP_succ {to : Score} {k : Nat} (h : k < to.notes.length) {n : Note} (hn : to.notes.getD k default = n) : insL [] ((ownP to).take (k + 1)) = ins (insL [] ((ownP to).take k)) n.id n.id := by
 have h1 : k < (ownP to).length := by unfold ownP; rw [lLm]; exact h
 have h2 : (ownP to).getD k default = (n.id, n.id) := by unfold ownP; rw [map_getD' _ h, hn]
 rw [takeS h1, h2]; exact insL_snoc _ _ _
set_option maxHeartbeats 8000000 in
set_option maxRecDepth 20000 in
theorem newCarrier_spec {o0 o1 o2 o3 : AObj} (h4 : Pure4 o0 o1 o2 o3) (l : List Score) (hl : l.length ≤ 1000000) (hsm : ∀ s ∈ l, s.Small) (v : Int) : TCall Tryz.prog 71 [.sl 4 (l.map encS) .no, .int v] [o0, o1, o2, o3] (ncR o0 o1 o2 o3 l v) := by
 have h1 := findS_spec _ l (by omega) v (nc1_spec · v)
 obtain ⟨k0, k1, k2, k3⟩ := h4 4 (nLr _)
 refine TCall.body Tryz.func71 rfl rfl Tryz.ntmps71 rfl rfl ?_
 repeat' (first | refine sqW ?_)
 refine rgK (fun K' hK => ?_)
 refine aoE (bxW rfl rfl rfl rfl rfl tI rfl rfl ?_)
 refine aoQ rfl rfl rfl (fun hg => std0) (by exact rfl) ?_
 refine aoQ rfl rfl rfl (fun hg => std0) (by exact rfl) ?_
 refine aoN (hK _ _ ?_)
 clear hK K'
 show AWP _ _ _ _ _ [o0, o1, o2, o3, .var [.int v]]
 refine AWP.freezeV 4 rfl rfl ?_
 refine AWP.keep [(0, .sl 4 (l.map encS) .no), (3, .iptr [.int v]), (4, .prim (.pointer none)), (5, .int 0)] ⟨rfl, rfl, rfl, rfl, tI⟩ ?_
 show AWP _ _ _ _ _ [o0, o1, o2, o3, .dead]
 by_cases hf : findV l v < 0
 · have e : gotS l v = [.int 0, .nils, .nils, .nils] := if_pos hf
   rw [e, decide_eq_true hf] at h1
   repeat' (first | refine aoQ rfl rfl rfl (fun hg => by first | exact std0 | exact pcW (h1) rfl rfl nd rfl nds) (by exact rfl) ?_ | refine sqW ?_ | refine rgK (fun K' hK => ?_) | (refine aoN (hK _ _ ?_); clear hK K') | refine aoE (stW tabOk rfl rfl rfl tI rfl rfl tI rfl rfl rfl rfl rfl rfl rfl ?_) | refine aoE (alW tabOk rfl rfl rfl rfl rfl rfl ?_) | refine cdN rfl tI (fun hc => ?_) (fun hc => ?_) | refine skW ?_ | refine rtW ?_)
   all_goals (first | exact dd | skip)
   refine ⟨.inr rfl, _, [o0, o1, o2, o3], ?_, rfl, nLr _, ?_, rfl, rfl⟩
   · unfold ncR; rw [if_pos hf]; exact ⟨rfl, rfl⟩
   · simp only [zA8, zAg, zBg, zBl, k0, k1, k2, k3]; rfl
 · have e : gotS l v = encS (atS l (findV l v).toNat) := if_neg hf
   rw [e, decide_eq_false hf] at h1
   obtain ⟨k, hk, hlt, hkv⟩ := findV_lt hf
   have hR : ncR o0 o1 o2 o3 l v = fun r s => r = .tup [.ptr 8 0, .int 0] ∧ s = CarS o0 o1 o2 o3 l (atS l k) [(v, insL [] (ownP (atS l k)))] := by
    funext r s
    unfold ncR
    rw [if_neg hf, hk, zA2]
   rw [hR]
   rw [hk, zA2] at h1
   have hs3 := (hsm (atS l k) (getD_mem hlt)).2.2
   generalize atS l k = to at *
   clear hR e
   repeat' (first | refine aoQ rfl rfl rfl (fun hg => by first | exact std0 | exact pcW (h1) rfl rfl nd rfl nds | exact std1) (by exact rfl) ?_ | refine sqW ?_ | refine rgK (fun K' hK => ?_) | (refine aoN (hK _ _ ?_); clear hK K') | refine aoE (stW tabOk rfl rfl rfl tI rfl rfl tI rfl rfl rfl rfl rfl rfl rfl ?_) | refine aoE (alW tabOk rfl rfl rfl rfl rfl rfl ?_) | refine aoE (EStep.makeMapW rfl rfl rfl rfl ?_) | refine cdN rfl tI (fun hc => ?_) (fun hc => ?_) | refine blK ?_ | refine skW ?_ | refine rtW ?_)
   all_goals (first | exact dd | skip)
   refine lpD (ι := Nat) (fun k => [(0, .sl 4 (l.map encS) .no), (3, .iptr [.int v]), (6, .ptr 5 0), (8, .map 6), (21, .sl 12 (to.notes.map encN) .no), (22, .int to.notes.length), (23, .int k)]) (fun k => [o0, o1, o2, o3, .dead, .var (encS to), .map (Go.Ab.encM ekI AV.int (insL [] ((ownP to).take k)))])
    (fun k => k ≤ to.notes.length) (fun k => to.notes.length - k) 7 (fun _ => rfl) 0 (nZl _) ⟨rfl, rfl, rfl, rfl, rfl, rfl, rfl, tI⟩ rfl (fun _ _ => rfl) (fun k _ => by obtain ⟨j0, j1, j2, j3⟩ := h4 7 (by decide); simp only [zBg, zBl, j0, j1, j2, j3, okMapI2]; rfl) ?_
   intro k hk
   by_cases hlt : k < to.notes.length
   · obtain ⟨n, hn⟩ : ∃ n, to.notes.getD k default = n := ⟨_, rfl⟩
     have hsu := ownP_succ hlt hn
     repeat' (first | refine aoQ rfl rfl rfl (fun hg => by first | exact iX encN to.notes (((k) : Nat) : Int) hn (hb := by omega) | exact std0) (by exact rfl) ?_ | refine sqW ?_ | refine rgK (fun K' hK => ?_) | (refine aoN (hK _ _ ?_); clear hK K') | refine aoE (stW tabOk rfl rfl rfl tI rfl rfl tI rfl rfl rfl rfl rfl rfl rfl ?_) | refine aoE (alW tabOk rfl rfl rfl rfl rfl rfl ?_) | refine aoE (EStep.mapUpd (ek := ekI) (ev := AV.int) (al := insL [] ((ownP to).take k)) (key := n.id) (v := n.id) (keyLaw_int (LOk.of (tabOk.get rfl))) (LOk.of (tabOk.get rfl)) rfl rfl rfl (Rd.w rfl tI) rfl (Rd.w rfl tI) rfl (Rd.w rfl tI) ?_) | refine cdN rfl tI (fun hc => ?_) (fun hc => ?_) | refine blK ?_ | refine exW ?_ | refine skW ?_)
     all_goals (first | exact dd | skip)
     exact ⟨k + 1, hlt, by show to.notes.length - (k + 1) < to.notes.length - k; omega, ⟨rfl, rfl, rfl, rfl, rfl, rfl, rfl, tI⟩, by show _ = [_, _, _, _, _, _, AObj.map (Go.Ab.encM ekI AV.int (insL [] ((ownP to).take (k + 1))))]; rw [hsu]; rfl⟩
   · obtain rfl : k = to.notes.length := by omega
     have hall : (ownP to).take to.notes.length = ownP to := zAt (by unfold ownP; rw [lLm]; exact nLr _)
     rw [hall]
     repeat' (first | refine aoQ rfl rfl rfl (fun hg => by exact std0) (by exact rfl) ?_ | refine sqW ?_ | refine rgK (fun K' hK => ?_) | (refine aoN (hK _ _ ?_); clear hK K'))
     refine cdW rfl tI (fun hc => ?_) (fun hc => ?_)
     · exfalso; simp at hc
     refine exW ?_
     show AWP _ _ _ _ _ [o0, o1, o2, o3, .dead, .var (encS to), .map (Go.Ab.encM ekI AV.int (insL [] (ownP to)))]
     refine AWP.freezeMap (ek := ekI) (ev := AV.int) (al := insL [] (ownP to)) (l := 6) rfl pureE_int ?_
     refine AWP.keep [(0, .sl 4 (l.map encS) .no), (3, .iptr [.int v]), (6, .ptr 5 0), (8, evI (insL [] (ownP to)))] ⟨rfl, rfl, rfl, rfl, tI⟩ ?_
     show AWP _ _ _ _ _ [o0, o1, o2, o3, .dead, .var (encS to), .dead]
     repeat' (first | refine aoQ rfl rfl rfl (fun hg => by first | exact std0 | exact pbD tabOk rfl rfl nds) (by exact rfl) ?_ | refine sqW ?_ | refine rgK (fun K' hK => ?_) | (refine aoN (hK _ _ ?_); clear hK K') | refine aoE (bxW rfl rfl rfl rfl rfl tI rfl rfl ?_) | refine aoE (EStep.makeMapW rfl rfl rfl rfl ?_) | refine aoE (EStep.insert (ek := ekI) (ev := evI) (al := []) (key := v) (v := insL [] (ownP to)) (keyLaw_int (LOk.of (tabOk.get rfl))) (LOk.of (tabOk.get rfl)) rfl rfl rfl (Rd.w rfl tI) rfl (Rd.w rfl tI) rfl (Rd.w rfl tI) ?_) | refine rtW ?_)
     all_goals (first | exact dd | skip)
     exact ⟨.inr rfl, _, CarS o0 o1 o2 o3 l to [(v, insL [] (ownP to))], ⟨rfl, rfl⟩, rfl, (by show 4 ≤ 9; decide), carS_ok h4 (nLr _) l to _, rfl, rfl⟩
def mapW (l : List Score) (w : Int) (to : Score) : PL := if findV l w < 0 then [] else insL [] (notesM (atS l (findV l w).toNat) to (np (alignR (costR (atS l (findV l w).toNat) to) (atS l (findV l w).toNat).bars.length to.bars.length)))
def mapF (l : List Score) (v0 : Int) (to : Score) (w : Int) : PL := if w = v0 then insL [] (ownP to) else mapW l w to
structure MapsOk (l : List Score) (v0 : Int) (to : Score) (al : List (Int × PL)) : Prop where
 own : lk al v0 = some (insL [] (ownP to))
 of : ∀ w p, lk al w = some p → p = mapF l v0 to w
theorem MapsOk.first (l : List Score) (v0 : Int) (to : Score) : MapsOk l v0 to [(v0, insL [] (ownP to))] := by
 refine ⟨by simp [lk], fun w p h => ?_⟩
 simp only [lk] at h
 split at h
 · rename_i e
   cases h
   unfold mapF; rw [if_pos e.symm]
 · cases h
theorem MapsOk.ins {l : List Score} {v0 : Int} {to : Score} {al : List (Int × PL)} (h : MapsOk l v0 to al) {w : Int} (hw : lk al w = none) {p : PL} (hp : p = mapF l v0 to w) : MapsOk l v0 to (ins al w p) := by
 refine ⟨?_, fun u q hq => ?_⟩
 · rw [Go.Proofs.YtekfpcgagoidcaaGreatDoor.lk_ins', if_neg]
   · exact h.own
   · rintro rfl
     rw [h.own] at hw; cases hw
 · rw [Go.Proofs.YtekfpcgagoidcaaGreatDoor.lk_ins'] at hq
   split at hq
   · rename_i e
     cases hq
     rw [← e]; exact hp
   · exact h.of u q hq
def Good (s : Score) : Prop := scoreOk s = true ∧ few12 s = true
theorem good_bars {s to : Score} (hs : Good s) (ht : Good to) : barsR s to = (bestA s to, 0) := by
 have h1 := few12_notes hs.2
 have h2 := few12_notes ht.2
 unfold barsR
 rw [if_pos ⟨hs.1, ht.1⟩, if_neg (by unfold longB; omega)]
def CX (o0 o1 o2 o3 : AObj) (l : List Score) (to : Score) (al : List (Int × PL)) (x : Store) : Store := CarS o0 o1 o2 o3 l to al ++ x
def fromQ (o0 o1 o2 o3 : AObj) (l : List Score) (v0 : Int) (to : Score) (w : Int) (r : AV) (s : Store) : Prop :=
 r = .tup [evI (mapF l v0 to w), .int 0] ∧ ∃ al, MapsOk l v0 to al ∧ s = CarS o0 o1 o2 o3 l to al
theorem cx_ok {o0 o1 o2 o3 : AObj} (h : Pure4 o0 o1 o2 o3) {m : Nat} (hm : 9 ≤ m) (l : List Score) (to : Score) (al : List (Int × PL)) {x : Store} (hx : x.all (okObj m) = true) : (CX o0 o1 o2 o3 l to al x).all (okObj m) = true := by
 unfold CX; rw [zCi, carS_ok h hm, hx]; rfl
set_option maxHeartbeats 16000000 in
set_option maxRecDepth 20000 in
theorem from_spec {o0 o1 o2 o3 : AObj} (h4 : Pure4 o0 o1 o2 o3) (l : List Score) (hl : l.length ≤ 1000000) (hgd : ∀ s ∈ l, Good s) (v0 : Int) (to : Score) (hto : Good to) (al : List (Int × PL)) (hm : MapsOk l v0 to al) (w : Int) :
 TCall Tryz.prog 105 [.ptr 8 0, .int w] (CarS o0 o1 o2 o3 l to al) (fromQ o0 o1 o2 o3 l v0 to w) := by
 have h1 := findS_spec _ l (by omega) w (fr1_spec · w)
 refine TCall.body Tryz.func105 rfl rfl Tryz.ntmps105 rfl rfl ?_
 repeat' (first | refine sqW ?_)
 refine rgK (fun K' hK => ?_)
 refine aoE (bxW rfl rfl rfl rfl rfl tI rfl rfl ?_)
 refine aoQ rfl rfl rfl (fun hg => std0) (by exact rfl) ?_
 refine aoQ rfl rfl rfl (fun hg => std0) (by exact rfl) ?_
 refine aoN (hK _ _ ?_)
 clear hK K'
 show AWP _ _ _ _ _ (CX o0 o1 o2 o3 l to al [.var [.int w]])
 refine AWP.freezeV 9 rfl rfl ?_
 refine AWP.keep [(0, .ptr 8 0), (3, .iptr [.int w])] ⟨rfl, rfl, tI⟩ ?_
 show AWP _ _ _ _ _ (CX o0 o1 o2 o3 l to al [.dead])
 cases hlk : lk al w with
 | some q =>
   have e := hm.of w q hlk
   repeat' (first | refine aoQ rfl rfl rfl (fun hg => by first | exact std0 | exact std1) (by exact rfl) ?_ | refine sqW ?_ | refine rgK (fun K' hK => ?_) | (refine aoN (hK _ _ ?_); clear hK K') | refine cdN rfl tI (fun hc => ?_) (fun hc => ?_) | refine skW ?_ | refine rtW ?_ | refine dK2 (by decide +kernel) (by kernel_rfl) (by decide +kernel) rfl (fun K' hK => ?_) | (refine aqN (hK _ ?_); clear hK K') | refine aqQ rfl rfl (fun hg => by first | exact PRun.lookupA (ek := ekI) (ev := evI) (zv := []) hlk (keyLaw_int (LOk.of (tabOk.get rfl))) (LOk.of (tabOk.get rfl)) (LOk.of (tabOk.get rfl)) rfl rfl (Rd.w rfl nd) (Or.inr ⟨_, rfl, rfl⟩) (Rd.w rfl nd) rfl | exact std0 | exact std1) (by exact rfl) ?_)
   all_goals (first | exact dd | skip)
   exact ⟨.inr rfl, _, CarS o0 o1 o2 o3 l to al, ⟨by rw [← e]; rfl, al, hm, rfl⟩, rfl, nLr _, carS_ok h4 (nLr _) l to al, rfl, rfl⟩
 | none =>
   have hne : w ≠ v0 := by
    rintro rfl
    rw [hm.own] at hlk; cases hlk
   have hmf : mapF l v0 to w = mapW l w to := if_neg hne
   by_cases hf : findV l w < 0
   · have e : gotS l w = [.int 0, .nils, .nils, .nils] := if_pos hf
     have hmw : mapW l w to = [] := if_pos hf
     rw [e, decide_eq_true hf] at h1
     repeat' (first | refine sqW ?_)
     refine dK2 (by decide +kernel) (by kernel_rfl) (by decide +kernel) rfl (fun K' hK => ?_)
     repeat' (first | refine aoQ rfl rfl rfl (fun hg => by first | exact std0 | exact pcW (h1) rfl rfl nd rfl nds | exact std1) (by exact rfl) ?_ | refine sqW ?_ | refine rgK (fun K' hK => ?_) | (refine aoN (hK _ _ ?_); clear hK K') | refine aoE (stW tabOk rfl rfl rfl tI rfl rfl tI rfl rfl rfl rfl rfl rfl rfl ?_) | refine aoE (alW tabOk rfl rfl rfl rfl rfl rfl ?_) | refine aoE (EStep.makeMapW rfl rfl rfl rfl ?_) | refine cdN rfl tI (fun hc => ?_) (fun hc => ?_) | refine skW ?_ | refine rtW ?_ | (refine aqN (hK _ ?_); clear hK K') | refine aqQ rfl rfl (fun hg => by first | exact PRun.lookupA (ek := ekI) (ev := evI) (zv := []) hlk (keyLaw_int (LOk.of (tabOk.get rfl))) (LOk.of (tabOk.get rfl)) (LOk.of (tabOk.get rfl)) rfl rfl (Rd.w rfl nd) (Or.inr ⟨_, rfl, rfl⟩) (Rd.w rfl nd) rfl | exact std0 | exact std1) (by exact rfl) ?_)
     all_goals (first | exact dd | skip)
     refine AWP.freezeMap (ek := ekI) (ev := AV.int) (al := []) (l := 11) rfl pureE_int ?_
     refine AWP.keep [(0, .ptr 8 0), (3, .iptr [.int w]), (10, evI [])] ⟨rfl, rfl, rfl, tI⟩ ?_
     show AWP _ _ _ _ _ (CX o0 o1 o2 o3 l to al [.dead, .var [.int 0, .nils, .nils, .nils], .dead])
     repeat' (first | refine aoQ rfl rfl rfl (fun hg => by exact std0) (by exact rfl) ?_ | refine sqW ?_ | refine rgK (fun K' hK => ?_) | (refine aoN (hK _ _ ?_); clear hK K') | refine aoE (EStep.mapUpd (ek := ekI) (ev := evI) (al := al) (key := w) (v := []) (keyLaw_int (LOk.of (tabOk.get rfl))) (LOk.of (tabOk.get rfl)) rfl rfl rfl (Rd.w rfl tI) rfl (Rd.w rfl tI) rfl (Rd.w rfl tI) ?_) | refine rtW ?_ | refine dL2 (by kernel_rfl) (by decide +kernel) rfl (fun K' hK => ?_) | refine aqN ?_ | refine aqQ rfl rfl (fun hg => by first | exact std0 | exact std1) (by exact rfl) ?_)
     all_goals (first | exact dd | skip)
     exact ⟨.inr rfl, _, CarS o0 o1 o2 o3 l to (ins al w []), ⟨by rw [hmf, hmw]; rfl, _, hm.ins hlk (by rw [hmf, hmw]), rfl⟩, rfl, nLr _, carS_ok h4 (nLr _) l to _, rfl, rfl⟩
   · have e : gotS l w = encS (atS l (findV l w).toNat) := if_neg hf
     rw [e, decide_eq_false hf] at h1
     obtain ⟨k, hk, hlt, hkv⟩ := findV_lt hf
     have hmw : mapW l w to = insL [] (notesM (atS l k) to (np (alignR (costR (atS l k) to) (atS l k).bars.length to.bars.length))) := by
      unfold mapW; rw [if_neg hf, hk, zA2]
     rw [hk, zA2] at h1
     have hgs := hgd (atS l k) (getD_mem hlt)
     generalize atS l k = s at *
     have ss := few12_small hgs.2
     have st := few12_small hto.2
     have ns := few12_notes hgs.2
     have b1 := aBars_spec s to ss st
     rw [good_bars hgs hto] at b1
     have lq := alignR_len (costR s to) s.bars.length to.bars.length
     have n1 := aNotes_spec s to ss st (bestA s to) (by show (alignR _ _ _).length ≤ _; omega)
     rw [notesR_best hgs.1 hto.1 rfl] at n1
     have ln : (notesM s to (np (alignR (costR s to) s.bars.length to.bars.length))).length ≤ 60 := zCs (outL_len _ _) ns.2
     generalize notesM s to (np (alignR (costR s to) s.bars.length to.bars.length)) = L at *
     generalize bestA s to = A at *
     dsimp only at b1 n1
     clear e lq
     repeat' (first | refine sqW ?_)
     refine dK2 (by decide +kernel) (by kernel_rfl) (by decide +kernel) rfl (fun K' hK => ?_)
     repeat' (first | refine aoQ rfl rfl rfl (fun hg => by first | exact std0 | exact pcW (h1) rfl rfl nd rfl nds | exact std1) (by exact rfl) ?_ | refine sqW ?_ | refine rgK (fun K' hK => ?_) | (refine aoN (hK _ _ ?_); clear hK K') | refine aoE (stW tabOk rfl rfl rfl tI rfl rfl tI rfl rfl rfl rfl rfl rfl rfl ?_) | refine aoE (alW tabOk rfl rfl rfl rfl rfl rfl ?_) | refine aoE (EStep.makeMapW rfl rfl rfl rfl ?_) | refine cdN rfl tI (fun hc => ?_) (fun hc => ?_) | refine skW ?_ | refine rtW ?_ | (refine aqN (hK _ ?_); clear hK K') | refine aqQ rfl rfl (fun hg => by first | exact PRun.lookupA (ek := ekI) (ev := evI) (zv := []) hlk (keyLaw_int (LOk.of (tabOk.get rfl))) (LOk.of (tabOk.get rfl)) (LOk.of (tabOk.get rfl)) rfl rfl (Rd.w rfl nd) (Or.inr ⟨_, rfl, rfl⟩) (Rd.w rfl nd) rfl | exact std0 | exact std1) (by exact rfl) ?_)
     all_goals (first | exact dd | skip)
     refine AWP.drawYM effOp (fun j => match j with | 0 => CX o0 o1 o2 o3 l to al [.dead, .var (encS s), .map []] | 1 => CX o0 o1 o2 o3 l to al [.dead, .var (encS s), .map [], .var [.nils, .int 0, .nils]] | _ => CX o0 o1 o2 o3 l to al [.dead, .var (encS s), .map [], .var (encA A)]) rfl (by kernel_rfl) (by decide +kernel) rfl (by decide +kernel) (fun K' hK => ?_)
     repeat' (first
      | refine yqQ (a := 0) (b := 0) rfl (by decide +kernel) (by decide +kernel) rfl rfl rfl (fun k h1 h2 hg => by (have hk : k = 0 := (by omega)); (rcases hk with rfl) <;> (first | exact std0 | exact pcW (b1) rfl rfl nd rfl nds | exact std1)) (by exact rfl) ?_
      | refine yqQ (a := 0) (b := 1) rfl (by decide +kernel) (by decide +kernel) rfl rfl rfl (fun k h1 h2 hg => by (have hk : k = 0 ∨ k = 1 := (by omega)); (rcases hk with rfl | rfl) <;> (first | exact std0 | exact pcW (b1) rfl rfl nd rfl nds | exact std1)) (by exact rfl) ?_
      | refine yqQ (a := 1) (b := 1) rfl (by decide +kernel) (by decide +kernel) rfl rfl rfl (fun k h1 h2 hg => by (have hk : k = 1 := (by omega)); (rcases hk with rfl) <;> (first | exact std0 | exact pcW (b1) rfl rfl nd rfl nds | exact std1)) (by exact rfl) ?_
      | refine yqQ (a := 0) (b := 2) rfl (by decide +kernel) (by decide +kernel) rfl rfl rfl (fun k h1 h2 hg => by (have hk : k = 0 ∨ k = 1 ∨ k = 2 := (by omega)); (rcases hk with rfl | rfl | rfl) <;> (first | exact std0 | exact pcW (b1) rfl rfl nd rfl nds | exact std1)) (by exact rfl) ?_
      | refine yqQ (a := 1) (b := 2) rfl (by decide +kernel) (by decide +kernel) rfl rfl rfl (fun k h1 h2 hg => by (have hk : k = 1 ∨ k = 2 := (by omega)); (rcases hk with rfl | rfl) <;> (first | exact std0 | exact pcW (b1) rfl rfl nd rfl nds | exact std1)) (by exact rfl) ?_
      | refine yqQ (a := 2) (b := 2) rfl (by decide +kernel) (by decide +kernel) rfl rfl rfl (fun k h1 h2 hg => by (have hk : k = 2 := (by omega)); (rcases hk with rfl) <;> (first | exact std0 | exact pcW (b1) rfl rfl nd rfl nds | exact std1)) (by exact rfl) ?_)
     refine YQ.e (v := .ptr 12 0) (d := some 11) rfl rfl rfl ?_ ?_
     · intro env' he
       exact alW tabOk rfl rfl rfl rfl rfl rfl ⟨rfl, rfl⟩
     repeat' (first
      | refine yqQ (a := 0) (b := 0) rfl (by decide +kernel) (by decide +kernel) rfl rfl rfl (fun k h1 h2 hg => by (have hk : k = 0 := (by omega)); (rcases hk with rfl) <;> (first | exact std0 | exact pcW (b1) rfl rfl nd rfl nds | exact std1)) (by exact rfl) ?_
      | refine yqQ (a := 0) (b := 1) rfl (by decide +kernel) (by decide +kernel) rfl rfl rfl (fun k h1 h2 hg => by (have hk : k = 0 ∨ k = 1 := (by omega)); (rcases hk with rfl | rfl) <;> (first | exact std0 | exact pcW (b1) rfl rfl nd rfl nds | exact std1)) (by exact rfl) ?_
      | refine yqQ (a := 1) (b := 1) rfl (by decide +kernel) (by decide +kernel) rfl rfl rfl (fun k h1 h2 hg => by (have hk : k = 1 := (by omega)); (rcases hk with rfl) <;> (first | exact std0 | exact pcW (b1) rfl rfl nd rfl nds | exact std1)) (by exact rfl) ?_
      | refine yqQ (a := 0) (b := 2) rfl (by decide +kernel) (by decide +kernel) rfl rfl rfl (fun k h1 h2 hg => by (have hk : k = 0 ∨ k = 1 ∨ k = 2 := (by omega)); (rcases hk with rfl | rfl | rfl) <;> (first | exact std0 | exact pcW (b1) rfl rfl nd rfl nds | exact std1)) (by exact rfl) ?_
      | refine yqQ (a := 1) (b := 2) rfl (by decide +kernel) (by decide +kernel) rfl rfl rfl (fun k h1 h2 hg => by (have hk : k = 1 ∨ k = 2 := (by omega)); (rcases hk with rfl | rfl) <;> (first | exact std0 | exact pcW (b1) rfl rfl nd rfl nds | exact std1)) (by exact rfl) ?_
      | refine yqQ (a := 2) (b := 2) rfl (by decide +kernel) (by decide +kernel) rfl rfl rfl (fun k h1 h2 hg => by (have hk : k = 2 := (by omega)); (rcases hk with rfl) <;> (first | exact std0 | exact pcW (b1) rfl rfl nd rfl nds | exact std1)) (by exact rfl) ?_)
     refine YQ.e (v := .any) (d := none) rfl rfl rfl ?_ ?_
     · intro env' he
       exact stW tabOk rfl rfl ((rdv_congr (he 11 (by decide +kernel))).trans rfl) (by rw [rdn_congr (he 11 (by decide +kernel))]; first | exact tI | exact rfl) rfl ((rdv_congr (he 45 (by decide +kernel))).trans rfl) (by rw [rdn_congr (he 45 (by decide +kernel))]; first | exact tI | exact rfl) rfl rfl rfl rfl rfl rfl rfl ⟨rfl, rfl⟩
     repeat' (first
      | refine yqQ (a := 0) (b := 0) rfl (by decide +kernel) (by decide +kernel) rfl rfl rfl (fun k h1 h2 hg => by (have hk : k = 0 := (by omega)); (rcases hk with rfl) <;> (first | exact std0 | exact std1)) (by exact rfl) ?_
      | refine yqQ (a := 0) (b := 1) rfl (by decide +kernel) (by decide +kernel) rfl rfl rfl (fun k h1 h2 hg => by (have hk : k = 0 ∨ k = 1 := (by omega)); (rcases hk with rfl | rfl) <;> (first | exact std0 | exact std1)) (by exact rfl) ?_
      | refine yqQ (a := 1) (b := 1) rfl (by decide +kernel) (by decide +kernel) rfl rfl rfl (fun k h1 h2 hg => by (have hk : k = 1 := (by omega)); (rcases hk with rfl) <;> (first | exact std0 | exact std1)) (by exact rfl) ?_
      | refine yqQ (a := 0) (b := 2) rfl (by decide +kernel) (by decide +kernel) rfl rfl rfl (fun k h1 h2 hg => by (have hk : k = 0 ∨ k = 1 ∨ k = 2 := (by omega)); (rcases hk with rfl | rfl | rfl) <;> (first | exact std0 | exact std1)) (by exact rfl) ?_
      | refine yqQ (a := 1) (b := 2) rfl (by decide +kernel) (by decide +kernel) rfl rfl rfl (fun k h1 h2 hg => by (have hk : k = 1 ∨ k = 2 := (by omega)); (rcases hk with rfl | rfl) <;> (first | exact std0 | exact std1)) (by exact rfl) ?_
      | refine yqQ (a := 2) (b := 2) rfl (by decide +kernel) (by decide +kernel) rfl rfl rfl (fun k h1 h2 hg => by (have hk : k = 2 := (by omega)); (rcases hk with rfl) <;> (first | exact std0 | exact std1)) (by exact rfl) ?_)
     refine YQ.nil (hK _ _ ?_)
     clear hK K'
     show AWP _ _ _ _ _ (CX o0 o1 o2 o3 l to al [.dead, .var (encS s), .map [], .var (encA A)])
     repeat' (first | refine aoQ rfl rfl rfl (fun hg => by first | exact std0 | exact std1) (by exact rfl) ?_ | refine sqW ?_ | refine rgK (fun K' hK => ?_) | (refine aoN (hK _ _ ?_); clear hK K') | refine cdN rfl tI (fun hc => ?_) (fun hc => ?_) | refine blK ?_ | refine skW ?_ | refine rtW ?_ | refine dK2 (by decide +kernel) (by kernel_rfl) (by decide +kernel) rfl (fun K' hK => ?_) | (refine aqN (hK _ ?_); clear hK K') | refine aqQ rfl rfl (fun hg => by first | exact std0 | exact pcW (n1) rfl rfl nd rfl nds | exact std1) (by exact rfl) ?_)
     all_goals (first | exact dd | skip)
     refine lpD (ι := Nat) (fun k => [(0, .ptr 8 0), (3, .iptr [.int w]), (10, .map 11), (63, .sl 2 (L.map encPr) .no), (64, .int L.length), (65, .int k)]) (fun k => CX o0 o1 o2 o3 l to al [.dead, .var (encS s), .map (Go.Ab.encM ekI AV.int (insL [] (L.take k))), .var (encA A)])
      (fun k => k ≤ L.length) (fun k => L.length - k) 13 (fun _ => rfl) 0 (nZl _) ⟨rfl, rfl, rfl, rfl, rfl, rfl, tI⟩ rfl (fun _ _ => rfl) (fun k _ => cx_ok h4 (by decide) l to al (by simp only [zBg, zBl, okMapI2]; rfl)) ?_
     intro k hk
     by_cases hlt : k < L.length
     · obtain ⟨z, hz⟩ : ∃ z, L.getD k default = z := ⟨_, rfl⟩
       have hsu : insL [] (L.take (k + 1)) = ins (insL [] (L.take k)) z.1 z.2 := by rw [takeS hlt, hz]; exact insL_snoc _ _ _
       repeat' (first | refine aoQ rfl rfl rfl (fun hg => by first | exact iX encPr L (((k) : Nat) : Int) hz (hb := by omega) | exact std0) (by exact rfl) ?_ | refine sqW ?_ | refine rgK (fun K' hK => ?_) | (refine aoN (hK _ _ ?_); clear hK K') | refine aoE (stW tabOk rfl rfl rfl tI rfl rfl tI rfl rfl rfl rfl rfl rfl rfl ?_) | refine aoE (alW tabOk rfl rfl rfl rfl rfl rfl ?_) | refine aoE (EStep.mapUpd (ek := ekI) (ev := AV.int) (al := insL [] (L.take k)) (key := z.1) (v := z.2) (keyLaw_int (LOk.of (tabOk.get rfl))) (LOk.of (tabOk.get rfl)) rfl rfl rfl (Rd.w rfl tI) rfl (Rd.w rfl tI) rfl (Rd.w rfl tI) ?_) | refine cdN rfl tI (fun hc => ?_) (fun hc => ?_) | refine blK ?_ | refine exW ?_ | refine skW ?_ | refine dL2 (by kernel_rfl) (by decide +kernel) rfl (fun K' hK => ?_) | refine aqN ?_ | refine aqQ rfl rfl (fun hg => by first | exact std0 | exact std1) (by exact rfl) ?_)
       all_goals (first | exact dd | skip)
       exact ⟨k + 1, hlt, by show L.length - (k + 1) < L.length - k; omega, ⟨rfl, rfl, rfl, rfl, rfl, rfl, tI⟩, by show _ = CX o0 o1 o2 o3 l to al [.dead, .var (encS s), .map (Go.Ab.encM ekI AV.int (insL [] (L.take (k + 1)))), .var (encA A)]; rw [hsu]; rfl⟩
     · obtain rfl : k = L.length := by omega
       rw [zB9]
       repeat' (first | refine aoQ rfl rfl rfl (fun hg => by exact std0) (by exact rfl) ?_ | refine sqW ?_ | refine rgK (fun K' hK => ?_) | (refine aoN (hK _ _ ?_); clear hK K'))
       refine cdW rfl tI (fun hc => ?_) (fun hc => ?_)
       · exfalso; simp at hc
       refine exW ?_
       show AWP _ _ _ _ _ (CX o0 o1 o2 o3 l to al [.dead, .var (encS s), .map (Go.Ab.encM ekI AV.int (insL [] L)), .var (encA A)])
       refine AWP.freezeMap (ek := ekI) (ev := AV.int) (al := insL [] L) (l := 11) rfl pureE_int ?_
       refine AWP.keep [(0, .ptr 8 0), (3, .iptr [.int w]), (10, evI (insL [] L))] ⟨rfl, rfl, rfl, tI⟩ ?_
       show AWP _ _ _ _ _ (CX o0 o1 o2 o3 l to al [.dead, .var (encS s), .dead, .var (encA A)])
       repeat' (first | refine aoQ rfl rfl rfl (fun hg => by exact std0) (by exact rfl) ?_ | refine sqW ?_ | refine rgK (fun K' hK => ?_) | (refine aoN (hK _ _ ?_); clear hK K') | refine aoE (EStep.mapUpd (ek := ekI) (ev := evI) (al := al) (key := w) (v := insL [] L) (keyLaw_int (LOk.of (tabOk.get rfl))) (LOk.of (tabOk.get rfl)) rfl rfl rfl (Rd.w rfl tI) rfl (Rd.w rfl tI) rfl (Rd.w rfl tI) ?_) | refine rtW ?_ | refine dL2 (by kernel_rfl) (by decide +kernel) rfl (fun K' hK => ?_) | refine aqN ?_ | refine aqQ rfl rfl (fun hg => by first | exact std0 | exact std1) (by exact rfl) ?_)
       all_goals (first | exact dd | skip)
       exact ⟨.inr rfl, _, CarS o0 o1 o2 o3 l to (ins al w (insL [] L)), ⟨by rw [hmf, hmw]; rfl, _, hm.ins hlk (by rw [hmf, hmw]), rfl⟩, rfl, nLr _, carS_ok h4 (nLr _) l to _, rfl, rfl⟩
end Go.Proofs.YtekfpcgagoidcaaGreatDoor.Cy
namespace Go.Proofs.YtekfpcgagoidcaaGreatDoor.Cy
open Go.Ab Go.Sort Al Mk
attribute [local irreducible] AWP AOps EStep AQ PStep PRun PCall TCall VCall
def carryM (l : List Score) (v0 : Int) (to : Score) (m : Jo.Mark) : Option Jo.Mark := (lk (mapF l v0 to m.version) m.note).map fun n => { m with version := to.version, note := n }
def tupC (r : Option Jo.Mark) (e : Int) : AV := .tup [.agg (encMk (r.getD Jo.noMark)), .b r.isSome, .int e]
def carryQ (o0 o1 o2 o3 : AObj) (l : List Score) (v0 : Int) (to : Score) (m : Jo.Mark) (r : AV) (s : Store) : Prop :=
 r = tupC (carryM l v0 to m) 0 ∧ ∃ al, MapsOk l v0 to al ∧ s = CarS o0 o1 o2 o3 l to al
def zeroMk : List AV := [.int 0, .int 0, .int 0, .int 0, .int 0, .int 0, .int 0, .int 0, .int 0, .bs []]
set_option maxHeartbeats 16000000 in
set_option maxRecDepth 20000 in
theorem carry_spec {o0 o1 o2 o3 : AObj} (h4 : Pure4 o0 o1 o2 o3) (l : List Score) (hl : l.length ≤ 1000000) (hgd : ∀ s ∈ l, Good s) (v0 : Int) (to : Score) (hto : Good to) (al : List (Int × PL)) (hm : MapsOk l v0 to al) (m : Jo.Mark) :
 TCall Tryz.prog 72 [.ptr 8 0, .agg (encMk m)] (CarS o0 o1 o2 o3 l to al) (carryQ o0 o1 o2 o3 l v0 to m) := by
 have hv := TCall.val (first := []) (caps := []) (avs := [.ptr 8 0, .int m.version]) (TCall.frame (from_spec h4 l hl hgd v0 to hto al hm m.version) [.var (encMk m), .var zeroMk] (carS_ok h4 (nLr _) l to al) rfl (fun rv s h => by obtain ⟨_, al', _, h⟩ := h; rw [h]; rfl))
 refine TCall.bodyS tabOk Tryz.func72 rfl rfl Tryz.ntmps72 rfl ?_
 repeat' (first | refine aoQ rfl rfl rfl (fun hg => by exact std0) (by exact rfl) ?_ | refine sqW ?_ | refine rgK (fun K' hK => ?_) | (refine aoN (hK _ _ ?_); clear hK K') | refine aoE (bxW rfl rfl rfl rfl rfl tI rfl rfl ?_) | refine aoE (alW tabOk rfl rfl rfl rfl rfl rfl ?_) | refine aoE (scT (hv) rfl rfl rfl rfl rfl nd rfl rfl nds ?_))
 rintro _ _ ⟨σ', rfl, rfl, al2, hm2, rfl⟩
 clear hv
 cases hlk : lk (mapF l v0 to m.version) m.note with
 | none =>
   have hc0 : carryM l v0 to m = none := by unfold carryM; rw [hlk]; rfl
   generalize mapF l v0 to m.version = p at *
   repeat' (first | refine aoQ rfl rfl rfl (fun hg => by first | exact PRun.lookupA (ek := ekI) (ev := AV.int) (zv := 0) hlk (keyLaw_int (LOk.of (tabOk.get rfl))) (LOk.of (tabOk.get rfl)) (LOk.of (tabOk.get rfl)) rfl rfl (Rd.w rfl nd) (Or.inl rfl) (Rd.w rfl nd) rfl | exact std0 | exact pbD tabOk rfl rfl nds | exact std1) (by exact rfl) ?_ | refine sqW ?_ | refine rgK (fun K' hK => ?_) | (refine aoN (hK _ _ ?_); clear hK K') | refine aoE (stW tabOk rfl rfl rfl tI rfl rfl tI rfl rfl rfl rfl rfl rfl rfl ?_) | refine cdN rfl tI (fun hc => ?_) (fun hc => ?_) | refine skW ?_ | refine rtW ?_)
   all_goals (first | exact dd | skip)
   exact ⟨.inr rfl, _, _, CarS o0 o1 o2 o3 l to al2, ⟨rfl, al2, hm2, rfl⟩, rfl, nLr _, carS_ok h4 (nLr _) l to al2, rfl, by rw [hc0]; exact Ent.of rfl⟩
 | some n =>
   have hc0 : carryM l v0 to m = some { m with version := to.version, note := n } := by unfold carryM; rw [hlk]; rfl
   generalize mapF l v0 to m.version = p at *
   repeat' (first | refine aoQ rfl rfl rfl (fun hg => by first | exact PRun.lookupA (ek := ekI) (ev := AV.int) (zv := 0) hlk (keyLaw_int (LOk.of (tabOk.get rfl))) (LOk.of (tabOk.get rfl)) (LOk.of (tabOk.get rfl)) rfl rfl (Rd.w rfl nd) (Or.inl rfl) (Rd.w rfl nd) rfl | exact std0 | exact std1) (by exact rfl) ?_ | refine sqW ?_ | refine rgK (fun K' hK => ?_) | (refine aoN (hK _ _ ?_); clear hK K') | refine aoE (stW tabOk rfl rfl rfl tI rfl rfl tI rfl rfl rfl rfl rfl rfl rfl ?_) | refine cdN rfl tI (fun hc => ?_) (fun hc => ?_) | refine skW ?_ | refine rtW ?_)
   all_goals (first | exact dd | skip)
   exact ⟨.inr rfl, _, _, CarS o0 o1 o2 o3 l to al2, ⟨rfl, al2, hm2, rfl⟩, rfl, nLr _, carS_ok h4 (nLr _) l to al2, rfl, by rw [hc0]; exact Ent.of rfl⟩
theorem vers_all {l : List Score} (h : versOk l = true) : ∀ s ∈ l, scoreOk s = true := fun s hs => by
 unfold versOk at h
 simp only [zA0, zA7] at h
 obtain ⟨k, hk, rfl⟩ := zB1.1 hs
 have h1 := h.2 k (zB2.2 hk)
 unfold stepV atS at h1
 simp only [zA0] at h1
 rw [getD_lt hk] at h1
 exact h1.1
theorem vers_good {l : List Score} (h : versOk l = true) (hf : ∀ s ∈ l, few12 s = true) : ∀ s ∈ l, Good s := fun s hs => ⟨vers_all h s hs, hf s hs⟩
def argOk (l : List Score) (m : Jo.Mark) (v : Int) : Bool := numOk v && (Jo.markOk m && versOk l)
def carryR (l : List Score) (m : Jo.Mark) (v : Int) : Option Jo.Mark × Int :=
 if argOk l m v = true then (if findV l v < 0 then (none, 32) else (carryM l v (atS l (findV l v).toNat) m, 0)) else (none, 1)
theorem pure4C (m : Jo.Mark) : Pure4 (.own 1 0) (.own 1 0) (.var (encMk m)) (.var zeroMk) := fun _ _ => ⟨rfl, rfl, rfl, rfl⟩
set_option maxHeartbeats 16000000 in
set_option maxRecDepth 20000 in
theorem Carry_spec (l : List Score) (hl : l.length ≤ 1000000) (hf : ∀ s ∈ l, few12 s = true) (m : Jo.Mark) (ht : m.text.length ≤ 9223372036854775807) (v : Int) :
 PCall Tryz.prog 32 [.sl 4 (l.map encS) .no, .agg (encMk m), .int v] (tupC (carryR l m v).1 (carryR l m v).2) := by
 have hsm : ∀ s ∈ l, s.Small := fun s hs => few12_small (hf s hs)
 have v1 := isNumber_spec v
 have v2 := Mk.mvalid_spec m ht
 have v3 := areVersions_spec l (by omega) hsm
 have hv := TCall.val (first := []) (caps := []) (avs := [.sl 4 (l.map encS) .no, .int v]) (newCarrier_spec (pure4C m) l hl hsm v)
 refine PCall.bodyS tabOk Tryz.func32 rfl rfl Tryz.ntmps32 rfl ?_
 refine AWP.newOwn 1 (AWP.newOwn 1 ?_)
 by_cases hok : argOk l m v = true
 · have hR : carryR l m v = if findV l v < 0 then (none, 32) else (carryM l v (atS l (findV l v).toNat) m, 0) := if_pos hok
   unfold argOk at hok
   simp only [zA0] at hok
   obtain ⟨o1, o2, o3⟩ := hok
   have hgd := vers_good o3 hf
   rw [o1] at v1
   rw [o2] at v2
   rw [o3] at v3
   repeat' (first | refine aoQ rfl rfl rfl (fun hg => by first | exact std0 | exact pcW (v1) rfl rfl nd rfl nds | exact pcW (v2) rfl rfl nd rfl nds | exact pcW (v3) rfl rfl nd rfl nds) (by exact rfl) ?_ | refine sqW ?_ | refine rgK (fun K' hK => ?_) | (refine aoN (hK _ _ ?_); clear hK K') | refine aoE (bxW rfl rfl rfl rfl rfl tI rfl rfl ?_) | refine aoE (alW tabOk rfl rfl rfl rfl rfl rfl ?_) | refine aoE (scT (hv) rfl rfl rfl rfl rfl nd rfl rfl nds ?_) | refine cdN rfl tI (fun hc => ?_) (fun hc => ?_) | refine skW ?_)
   all_goals (first | exact dd | skip)
   intro r s hr
   unfold ncR at hr
   clear hv
   split at hr
   · rename_i hneg
     obtain ⟨rfl, rfl⟩ := hr
     repeat' (first | refine aoQ rfl rfl rfl (fun hg => by first | exact std0 | exact pbD tabOk rfl rfl nds) (by exact rfl) ?_ | refine sqW ?_ | refine rgK (fun K' hK => ?_) | (refine aoN (hK _ _ ?_); clear hK K') | refine aoE (stW tabOk rfl rfl rfl tI rfl rfl tI rfl rfl rfl rfl rfl rfl rfl ?_) | refine cdN rfl tI (fun hc => ?_) (fun hc => ?_) | refine skW ?_ | refine rtW ?_)
     all_goals (first | exact dd | skip)
     rw [hR, if_pos hneg]
     exact ⟨.inr rfl, _, rfl, Ent.of rfl⟩
   · rename_i hneg
     obtain ⟨rfl, rfl⟩ := hr
     rw [if_neg hneg] at hR
     obtain ⟨k, hk, hlt, _⟩ := findV_lt hneg
     rw [hk, zA2] at hR ⊢
     have hto : Good (atS l k) := hgd _ (getD_mem hlt)
     have hc1 := TCall.val (first := []) (caps := []) (avs := [.ptr 8 0, .agg (encMk m)]) (carry_spec (pure4C m) l hl hgd v (atS l k) hto _ (MapsOk.first l v (atS l k)) m)
     repeat' (first | refine aoQ rfl rfl rfl (fun hg => by exact std0) (by exact rfl) ?_ | refine sqW ?_ | refine rgK (fun K' hK => ?_) | (refine aoN (hK _ _ ?_); clear hK K') | refine aoE (scT (hc1) rfl rfl rfl rfl rfl nd rfl rfl nds ?_) | refine cdN rfl tI (fun hc => ?_) (fun hc => ?_) | refine skW ?_)
     all_goals (first | exact dd | skip)
     rintro _ _ ⟨rfl, al2, hm2, rfl⟩
     clear hc1 hm2
     generalize carryM l v (atS l k) m = c at *
     repeat' (first | refine aoQ rfl rfl rfl (fun hg => by exact std0) (by exact rfl) ?_ | (refine aoN (hK _ _ ?_); clear hK K') | refine aoE (stW tabOk rfl rfl rfl tI rfl rfl tI rfl rfl rfl rfl rfl rfl rfl ?_) | refine rtW ?_)
     rw [hR]
     exact ⟨.inr rfl, _, rfl, Ent.of rfl⟩
 · have hR : carryR l m v = (none, 1) := if_neg hok
   rw [hR]
   have hno : (numOk v && (Jo.markOk m && versOk l)) = false := by
    cases h : (numOk v && (Jo.markOk m && versOk l)) with
    | false => rfl
    | true => exact absurd h hok
   clear hv hok hR
   generalize numOk v = s1 at *
   generalize Jo.markOk m = s2 at *
   generalize versOk l = s3 at *
   repeat' (first | refine aoQ rfl rfl rfl (fun hg => by first | exact std0 | exact pcW (v1) rfl rfl nd rfl nds | exact pcW (v2) rfl rfl nd rfl nds | exact pcW (v3) rfl rfl nd rfl nds | exact pbD tabOk rfl rfl nds) (by exact rfl) ?_ | refine sqW ?_ | refine rgK (fun K' hK => ?_) | (refine aoN (hK _ _ ?_); clear hK K') | refine aoE (bxW rfl rfl rfl rfl rfl tI rfl rfl ?_) | refine aoE (stW tabOk rfl rfl rfl tI rfl rfl tI rfl rfl rfl rfl rfl rfl rfl ?_) | refine aoE (alW tabOk rfl rfl rfl rfl rfl rfl ?_) | refine cdN rfl tI (fun hc => ?_) (fun hc => ?_) | refine skW ?_ | refine rtW ?_)
   all_goals (first | (exact ⟨.inr rfl, _, rfl, Ent.of rfl⟩) | (exfalso; cases s1 <;> cases s2 <;> cases s3 <;> simp at hc hno) | (rename_i h0; exfalso; cases s1 <;> cases s2 <;> cases s3 <;> simp at h0 hno))
end Go.Proofs.YtekfpcgagoidcaaGreatDoor.Cy
