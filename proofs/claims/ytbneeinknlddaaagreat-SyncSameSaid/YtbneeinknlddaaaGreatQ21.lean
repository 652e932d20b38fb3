/- Contracts by content: the program's Event.  Contracts by content: the program's Append and Load; slices.Grow and Concat.  Contracts by content: the program's Append and Load.  The examples of the law's head, in plain words. No program is in sight. No statement is proved here. -/
import Derived.Test.YtbneeinknlddaaaGreatQ10
import Derived.Test.YtbneeinknlddaaaGreatQ12
import Derived.Test.YtbneeinknlddaaaGreatQ15
import Derived.Test.YtbneeinknlddaaaGreatQ20
set_option linter.unusedVariables false
set_option linter.unusedSimpArgs false
namespace Go.Proofs.YtbneeinknlddaaaGreat
open Go.Ab Go.Jo
attribute [local irreducible] AWP AOps EStep AQ PStep PRun PCall TCall VCall DStep TDies AWD DCall
theorem eventR_mark {l : List Int} (h12 : 12 ≤ l.length) (h212 : l.length ≤ 212) (hk : l.getD 2 0 = 1) (hall : (l.drop 12).all (fun n => inR n 0 255) = true) : eventR l = if evOk (rawEv l) then (rawEv l, 0) else (noEv, 7) := by
 cases ht : (l.drop 12).all (fun n => inR n 32 126) with
 | true =>
   refine eventR_ok ?_
   unfold formOk
   rw [if_pos hk, ht]; simp; omega
 | false =>
   rw [eventR_form (by unfold formOk; rw [if_pos hk, ht]; simp), if_neg]
   intro he
   have hkk : (rawEv l).kind = 1 := by unfold rawEv; rw [if_pos hk]
   have htx : textOk (untxt (l.drop 12)) = true := by
    have h1 : (rawEv l).mark.text = untxt (l.drop 12) := by unfold rawEv; rw [if_pos hk]
    unfold evOk at he
    rw [if_pos hkk] at he
    simp only [zA2, markOk] at he
    rw [← h1]; exact he.2.1.1.1.1.1.1.1.1
   have h2 := (textOk_iff.1 htx).2
   have : (l.drop 12).all (fun n => inR n 32 126) = true := zAb.2 fun n hn => by
    have h3 := h2 (UInt8.ofNat n.toNat) (zC1.2 ⟨n, hn, rfl⟩)
    have h4 := inR_iff.1 (zAb.1 hall n hn)
    rw [UInt8.toNat_ofNat'] at h3
    exact inR_iff.2 (by omega)
   rw [this] at ht; cases ht
theorem rawEv_mark {l : List Int} (hk : l.getD 2 0 = 1) : rawEv l = ⟨l.getD 0 0, l.getD 1 0, l.getD 2 0, 0, mkT (l.drop 3)⟩ := by
 unfold rawEv mkT
 rw [if_pos hk, hk]
 simp [List.getD, zB9]
theorem form_short {l : List Int} (h : l.length < 4 ∨ 212 < l.length) : formOk l = false := by
 unfold formOk
 rcases h with h | h
 · rw [show decide (4 ≤ l.length) = false by simp; omega]; rfl
 · rw [show decide (l.length ≤ 212) = false by simp; omega]; simp
theorem retEC {env : Env} {s : Store} {a b : AV} {p q : AV} (h2 : env 2 = p) (h3 : env 3 = q)
 (ha : rvA tab (fun _ => p) s (.cell 2 33) = some a) (hb : rvA tab (fun _ => q) s (.cell 3 37) = some b) :
 retS tab env s [.cell 2 33, .cell 3 37] = some (.tup [a, b]) := by
 subst h2; subst h3
 have e2 : rvA tab env s (.cell 2 33) = some a := ha
 have e3 : rvA tab env s (.cell 3 37) = some b := hb
 simp only [retS, rvsA, e2, e3, Option.map]
abbrev tupE (r : Ev × Int) : AV := .tup [.agg (encE r.1), .int r.2]
set_option maxHeartbeats 3200000 in
set_option maxRecDepth 20000 in
theorem event_spec (l : List Int) (hl : l.length ≤ 1000000) : PCall Tryz.prog 81 [.sl 1 (l.map encN) .no] (tupE (eventR l)) := by
 have hpan4 : ∀ (e : Ev) (x : Int) (r : List AV) (X3 : AObj) (env : Env), okObj 4 (.var r) = true → okObj 4 X3 = true → env 2 = .ptr 0 0 → env 3 = .ptr 1 0 → eventR l = (noEv, 7) → ∃ u0, modeOf (.panic brkJ) = some u0 ∧ DCall Tryz.prog 100 [.ptr 0 0, .ptr 1 0] [.var (encE e), .var [.int x], .var r, X3] u0 (fun u' s' => settle u' = .returning ∧ ∃ u, retS tab env s' Tryz.f81.results.toList = some u ∧ Ent u (tupE (eventR l))) := fun e x r X3 env hr hX3 h2 h3 hg => by
  refine ⟨.panicking brkJ, rfl, DCall.mono (ev1_pan4 e x r X3 (by simp only [zCa, hr, hX3]; rfl)) ?_⟩
  rintro _ _ ⟨rfl, rfl⟩
  exact ⟨rfl, tupE (noEv, 7), retEC h2 h3 rfl rfl, by rw [hg]; exact Ent.rfl' _⟩
 have hpan5 : ∀ (e : Ev) (x : Int) (r : List AV) (X3 X4 : AObj) (env : Env), okObj 5 (.var r) = true → okObj 5 X3 = true → okObj 5 X4 = true → env 2 = .ptr 0 0 → env 3 = .ptr 1 0 → eventR l = (noEv, 7) → ∃ u0, modeOf (.panic brkJ) = some u0 ∧ DCall Tryz.prog 100 [.ptr 0 0, .ptr 1 0] [.var (encE e), .var [.int x], .var r, X3, X4] u0 (fun u' s' => settle u' = .returning ∧ ∃ u, retS tab env s' Tryz.f81.results.toList = some u ∧ Ent u (tupE (eventR l))) := fun e x r X3 X4 env hr hX3 hX4 h2 h3 hg => by
  refine ⟨.panicking brkJ, rfl, DCall.mono (ev1_pan5 e x r X3 X4 (by simp only [zCa, hr, hX3, hX4]; rfl)) ?_⟩
  rintro _ _ ⟨rfl, rfl⟩
  exact ⟨rfl, tupE (noEv, 7), retEC h2 h3 rfl rfl, by rw [hg]; exact Ent.rfl' _⟩
 have hret : ∀ (e : Ev) (τ : Store) (env : Env), List.all (AObj.var (encE e) :: .var [.int 0] :: τ) (okObj (τ.length + 2)) = true → env 2 = .ptr 0 0 → env 3 = .ptr 1 0 → eventR l = (e, 0) → ∃ u0, modeOf .ret = some u0 ∧ DCall Tryz.prog 100 [.ptr 0 0, .ptr 1 0] (.var (encE e) :: .var [.int 0] :: τ) u0 (fun u' s' => settle u' = .returning ∧ ∃ u, retS tab env s' Tryz.f81.results.toList = some u ∧ Ent u (tupE (eventR l))) := fun e τ env hok h2 h3 hg => by
  refine ⟨.returning, rfl, DCall.mono (ev1_ret _ hok) ?_⟩
  rintro _ _ ⟨rfl, rfl⟩
  exact ⟨rfl, tupE (e, 0), retEC h2 h3 rfl rfl, by rw [hg]; exact Ent.rfl' _⟩
 refine PCall.bodyD tabOk Tryz.func81 rfl rfl Tryz.ntmps81 rfl ?_
 refine AWD.seq (AWD.awp ?_)
 repeat' (first | refine rgK (fun K' hK => ?_) | (refine aoN (hK _ _ ?_); clear hK K') | refine aoE (alW tabOk rfl rfl rfl rfl rfl rfl ?_))
 refine AWD.seq (AWD.awp ?_)
 repeat' (first | refine aoQ rfl rfl rfl (fun hg => by first | exact std0 | exact pbD tabOk rfl rfl nds | exact std1) (by exact rfl) ?_ | refine sqW ?_ | refine rgK (fun K' hK => ?_) | (refine aoN (hK _ _ ?_); clear hK K') | refine aoE (stW tabOk rfl rfl rfl tI rfl rfl tI rfl rfl rfl rfl rfl rfl rfl ?_) | refine cdN rfl tI (fun hc => ?_) (fun hc => ?_) | refine skW ?_ | refine rtW ?_)
 · exact ⟨.inr rfl, _, rfl, by rw [eventR_form (form_short (by omega))]; exact Ent.rfl' _⟩
 refine AWD.seq (AWD.defer 1 rfl (fun K' hK => ?_))
 repeat' (first | refine aoQ rfl rfl rfl (fun hg => by exact std0) (by exact rfl) ?_ | (refine aoN (hK _ _ ?_); clear hK K'))
 refine ⟨100, [], [.ptr 0 0, .ptr 1 0], [], _, _, _, rfl, rfl, rfl, rfl, tI, rfl, tI, ?_⟩
 refine AWD.seq (AWD.awp ?_)
 repeat' (first | refine aoQ rfl rfl rfl (fun hg => by first | exact std0 | exact pbD tabOk rfl rfl nds) (by exact rfl) ?_ | refine rgK (fun K' hK => ?_) | (refine aoN (hK _ _ ?_); clear hK K') | refine aoE (bxW rfl rfl rfl rfl rfl tI rfl rfl ?_))
 refine AWD.awp ?_
 refine AWP.keep [(2, .ptr 0 0), (3, .ptr 1 0), (4, .ptr 2 0)] ⟨rfl, rfl, rfl, tI⟩ ?_
 by_cases h3 : l.length < 3
 · have hd := take3_D l h3
   have hg := eventR_form (form_short (l := l) (by omega))
   refine sqW (AWP.regionP 5 rfl (fun K' hK => ?_))
   repeat' (first | refine aoQ rfl rfl rfl (fun hg => by exact std0) (by exact rfl) ?_ | (refine aoN (hK _ _ ?_); clear hK K') | refine aoE (EStep.buildArr (sz := 1) (es := ps3) tabOk rfl rfl rfl rfl (by kernel_rfl) ⟨tI, tI, tI, tI⟩ ?_))
   refine DStep.call (first := []) (caps := []) hd rfl rfl rfl tI rfl ⟨tI, tI, tI⟩ ?_
   rintro _ rfl
   exact hpan4 noEv 0 _ _ _ rfl rfl (by rfl) (by rfl) hg
 have hv := TCall.val (first := []) (caps := []) (avs := [.ptr 2 0, .sla 3 1 0 3 0]) (take3_T l (by omega) hl)
 repeat' (first | refine aoQ rfl rfl rfl (fun hg => by exact std0) (by exact rfl) ?_ | refine sqW ?_ | refine rgK (fun K' hK => ?_) | refine aoE (scT (hv) rfl rfl rfl rfl rfl nd rfl rfl nds ?_) | refine aoE (EStep.buildArr (sz := 1) (es := ps3) tabOk rfl rfl rfl rfl (by kernel_rfl) ⟨tI, tI, tI, tI⟩ ?_))
 rintro _ _ ⟨rfl, rfl⟩
 refine aoN (hK _ _ ?_)
 clear hK K' hv
 refine AWP.keep [(2, .ptr 0 0), (3, .ptr 1 0), (4, .ptr 2 0)] ⟨rfl, rfl, rfl, tI⟩ ?_
 refine sqW (sqW (rgK (fun K' hK => ?_)))
 repeat' (refine aoQ rfl rfl rfl (fun hg => by first | exact std0 | exact std1) (by exact rfl) ?_)
 refine aoN (hK _ _ ?_)
 clear hK K'
 refine cdW rfl tI (fun hc => ?_) (fun hc => ?_)
 · have hk : l.getD 2 0 = 1 := eq_of_beq hc
   clear hc
   by_cases h12 : l.length < 12
   · have hg : eventR l = (noEv, 7) := eventR_form (by unfold formOk; rw [if_pos hk]; simp; omega)
     have hd := read_D0 (ev3 l 3) (l.drop 3) (by rw [zAg]; omega)
     refine sqW (AWP.regionP 1 rfl (fun K' hK => ?_))
     repeat' (refine aoQ rfl rfl rfl (fun hg => by first | exact std0 | exact std1) (by exact rfl) ?_)
     refine aoN (hK _ _ (DStep.call (first := []) (caps := []) hd rfl rfl rfl tI rfl ⟨tI, tI⟩ ?_))
     rintro _ ⟨m, r, rfl⟩
     exact hpan4 (ev3 l 3) 0 _ _ _ rfl rfl (by rfl) (by rfl) hg
   cases hall : (l.drop 12).all (fun n => inR n 0 255) with
   | false =>
     have hg : eventR l = (noEv, 7) := eventR_form (by
      unfold formOk
      rw [if_pos hk]
      have : (l.drop 12).all (fun n => inR n 32 126) = false := by
       cases h : (l.drop 12).all (fun n => inR n 32 126) with
       | false => rfl
       | true =>
         rw [zAb.2 fun n hn => by have := inR_iff.1 (zAb.1 h n hn); exact inR_iff.2 (by omega)] at hall
         cases hall
      rw [this]; simp)
     have hd := read_D1 (ev3 l 3) (l.drop 3) (by rw [zAg]; omega) (by rw [zAg]; omega) (by rw [zCv]; exact hall)
     refine sqW (AWP.regionP 1 rfl (fun K' hK => ?_))
     repeat' (refine aoQ rfl rfl rfl (fun hg => by first | exact std0 | exact std1) (by exact rfl) ?_)
     refine aoN (hK _ _ (DStep.call (first := []) (caps := []) hd rfl rfl rfl tI rfl ⟨tI, tI⟩ ?_))
     rintro _ ⟨m, r, rfl⟩
     exact hpan4 (ev3 l 3) 0 _ _ _ rfl rfl (by rfl) (by rfl) hg
   | true =>
     have hg := eventR_mark (l := l) (by omega) (by omega) hk hall
     rw [rawEv_mark hk] at hg
     have hv := TCall.val (first := []) (caps := []) (avs := [.ptr 2 0]) (read_T (ev3 l 3) (l.drop 3) (by rw [zAg]; omega) (by rw [zAg]; omega) (by rw [zCv]; exact hall))
     have hw := right_spec ⟨l.getD 0 0, l.getD 1 0, l.getD 2 0, 0, mkT (l.drop 3)⟩ (by simp [mkT, untxt]; omega)
     repeat' (first | refine aoQ rfl rfl rfl (fun hg => by exact std0) (by exact rfl) ?_ | refine sqW ?_ | refine rgK (fun K' hK => ?_) | refine aoE (scT (hv) rfl rfl rfl rfl rfl nd rfl rfl nds ?_))
     rintro _ _ ⟨rfl, rfl⟩
     refine aoN (hK _ _ ?_)
     clear hK K' hv
     cases hok : evOk ⟨l.getD 0 0, l.getD 1 0, l.getD 2 0, 0, mkT (l.drop 3)⟩ with
     | true =>
       rw [hok] at hw
       rw [hok, if_pos rfl] at hg
       repeat' (first | refine AWP.regionPan rfl rfl (fun K' hK => ?_) | refine aoQ rfl rfl rfl (fun hg => by first | exact std0 | exact pcW (hw) rfl rfl nd rfl nds | exact PRun.buildZ (by exact ⟨rfl, rfl⟩) rfl | exact PRun.ifaceW (by kernel_rfl) rfl rfl nd rfl | exact std1) (by exact rfl) ?_ | refine sqW ?_ | refine rgK (fun K' hK => ?_) | (refine aoN (hK _ _ ?_); clear hK K') | refine aoE (stW tabOk rfl rfl rfl tI rfl rfl tI rfl rfl rfl rfl rfl rfl rfl ?_) | refine DStep.panic rfl rfl rfl tI ?_ | refine cdN rfl tI (fun hc => ?_) (fun hc => ?_) | refine skW ?_ | refine rtW ?_)
       · exfalso; simp at hc
       · refine hret ⟨l.getD 0 0, l.getD 1 0, l.getD 2 0, 0, mkT (l.drop 3)⟩ [.var (Go.Proofs.YtbneeinknlddaaaGreat.encM (mkT (l.drop 3)) ++ [.nils]), .arr 1 0 ps3] _ rfl ?_ ?_ hg <;> rfl
     | false =>
       rw [hok] at hw
       rw [hok, if_neg (by simp)] at hg
       repeat' (first | refine AWP.regionPan rfl rfl (fun K' hK => ?_) | refine aoQ rfl rfl rfl (fun hg => by first | exact std0 | exact pcW (hw) rfl rfl nd rfl nds | exact PRun.buildZ (by exact ⟨rfl, rfl⟩) rfl | exact PRun.ifaceW (by kernel_rfl) rfl rfl nd rfl | exact std1) (by exact rfl) ?_ | refine sqW ?_ | refine rgK (fun K' hK => ?_) | (refine aoN (hK _ _ ?_); clear hK K') | refine aoE (stW tabOk rfl rfl rfl tI rfl rfl tI rfl rfl rfl rfl rfl rfl rfl ?_) | refine DStep.panic rfl rfl rfl tI ?_ | refine cdN rfl tI (fun hc => ?_) (fun hc => ?_) | refine skW ?_ | refine rtW ?_)
       · refine hpan4 ⟨l.getD 0 0, l.getD 1 0, l.getD 2 0, 0, mkT (l.drop 3)⟩ 0 (Go.Proofs.YtbneeinknlddaaaGreat.encM (mkT (l.drop 3)) ++ [.nils]) (.arr 1 0 ps3) _ rfl rfl ?_ ?_ hg <;> rfl
       · exfalso; simp at hc
 · have hk : l.getD 2 0 ≠ 1 := by
    intro h
    have : (l.getD 2 0 == 1) = true := by rw [h]; rfl
    rw [show (l.getD 2 0 == 1) = false from hc] at this; cases this
   clear hc
   by_cases h4 : l.length < 4
   · have hg := eventR_form (form_short (l := l) (by omega))
     have hd := take1_D (ev3 l 3) (l.drop 3) (by rw [zAg]; omega)
     refine (AWP.regionP 3 rfl (fun K' hK => ?_))
     repeat' (first | refine aoQ rfl rfl rfl (fun hg => by exact std0) (by exact rfl) ?_ | (refine aoN (hK _ _ ?_); clear hK K') | refine aoE (EStep.buildArr (sz := 1) (es := ps1) tabOk rfl rfl rfl rfl (by kernel_rfl) ⟨tI, tI⟩ ?_))
     refine DStep.call (first := []) (caps := []) hd rfl rfl rfl tI rfl ⟨tI, tI, tI⟩ ?_
     rintro _ rfl
     refine hpan5 (ev3 l 3) 0 (encR noMark (l.drop 3)) (.arr 1 0 ps3) (.arr 1 0 ps1) _ rfl rfl rfl ?_ ?_ hg <;> rfl
   have hv := TCall.val (first := []) (caps := []) (avs := [.ptr 2 0, .sla 4 1 0 1 0]) (take1_T (ev3 l 3) (l.drop 3) (by rw [zAg]; omega) (by rw [zAg]; omega))
   have hw := right_spec (evN (ev3 l 3) (l.drop 3) 1) (by simp [evN, ev3, noMark])
   have hE : rawEv l = evN (ev3 l 3) (l.drop 3) 1 := by
    unfold rawEv
    rw [if_neg hk]
    simp [evN, ev3, List.getD, zB9]
   repeat' (first | refine aoQ rfl rfl rfl (fun hg => by exact std0) (by exact rfl) ?_ | refine rgK (fun K' hK => ?_) | refine aoE (scT (hv) rfl rfl rfl rfl rfl nd rfl rfl nds ?_) | refine aoE (EStep.buildArr (sz := 1) (es := ps1) tabOk rfl rfl rfl rfl (by kernel_rfl) ⟨tI, tI⟩ ?_))
   rintro _ _ ⟨rfl, rfl⟩
   refine aoN (hK _ _ ?_)
   clear hK K' hv
   have hl1 : ((l.drop 3).drop 1).length = l.length - 4 := by rw [zAg, zAg]; omega
   by_cases h44 : l.length = 4
   · have hf : formOk l = true := by unfold formOk; rw [if_neg hk]; simp; omega
     have hg := eventR_ok hf
     rw [hE] at hg
     cases hok : evOk (evN (ev3 l 3) (l.drop 3) 1) with
     | true =>
       rw [hok] at hw
       rw [hok, if_pos rfl] at hg
       repeat' (first | refine AWP.regionPan rfl rfl (fun K' hK => ?_) | refine aoQ rfl rfl rfl (fun hg => by first | exact std0 | exact pcW (hw) rfl rfl nd rfl nds | exact PRun.buildZ (by exact ⟨rfl, rfl⟩) rfl | exact PRun.ifaceW (by kernel_rfl) rfl rfl nd rfl | exact std1) (by exact rfl) ?_ | refine sqW ?_ | refine rgK (fun K' hK => ?_) | (refine aoN (hK _ _ ?_); clear hK K') | refine aoE (stW tabOk rfl rfl rfl tI rfl rfl tI rfl rfl rfl rfl rfl rfl rfl ?_) | refine DStep.panic rfl rfl rfl tI ?_ | refine cdN rfl tI (fun hc => ?_) (fun hc => ?_) | refine skW ?_ | refine rtW ?_)
       · exfalso; rw [hl1] at hc; simp at hc; omega
       · refine hret (evN (ev3 l 3) (l.drop 3) 1) [.var (encR noMark ((l.drop 3).drop 1)), .arr 1 0 ps3, .arr 1 0 ps1] _ rfl ?_ ?_ hg <;> rfl
     | false =>
       rw [hok] at hw
       rw [hok, if_neg (by simp)] at hg
       repeat' (first | refine AWP.regionPan rfl rfl (fun K' hK => ?_) | refine aoQ rfl rfl rfl (fun hg => by first | exact std0 | exact pcW (hw) rfl rfl nd rfl nds | exact PRun.buildZ (by exact ⟨rfl, rfl⟩) rfl | exact PRun.ifaceW (by kernel_rfl) rfl rfl nd rfl | exact std1) (by exact rfl) ?_ | refine sqW ?_ | refine rgK (fun K' hK => ?_) | (refine aoN (hK _ _ ?_); clear hK K') | refine aoE (stW tabOk rfl rfl rfl tI rfl rfl tI rfl rfl rfl rfl rfl rfl rfl ?_) | refine DStep.panic rfl rfl rfl tI ?_ | refine cdN rfl tI (fun hc => ?_) (fun hc => ?_) | refine skW ?_ | refine rtW ?_)
       · refine hpan5 (evN (ev3 l 3) (l.drop 3) 1) 0 (encR noMark ((l.drop 3).drop 1)) (.arr 1 0 ps3) (.arr 1 0 ps1) _ rfl rfl rfl ?_ ?_ hg <;> rfl
       · exfalso; simp at hc
   · have hg : eventR l = (noEv, 7) := eventR_form (by unfold formOk; rw [if_neg hk]; simp; omega)
     repeat' (first | refine AWP.regionPan rfl rfl (fun K' hK => ?_) | refine aoQ rfl rfl rfl (fun hg => by first | exact std0 | exact pcW (hw) rfl rfl nd rfl nds | exact PRun.buildZ (by exact ⟨rfl, rfl⟩) rfl | exact PRun.ifaceW (by kernel_rfl) rfl rfl nd rfl | exact std1) (by exact rfl) ?_ | refine sqW ?_ | refine rgK (fun K' hK => ?_) | (refine aoN (hK _ _ ?_); clear hK K') | refine aoE (stW tabOk rfl rfl rfl tI rfl rfl tI rfl rfl rfl rfl rfl rfl rfl ?_) | refine DStep.panic rfl rfl rfl tI ?_ | refine cdN rfl tI (fun hc => ?_) (fun hc => ?_) | refine skW ?_ | refine rtW ?_)
     · refine hpan5 (evN (ev3 l 3) (l.drop 3) 1) 0 (encR noMark ((l.drop 3).drop 1)) (.arr 1 0 ps3) (.arr 1 0 ps1) _ rfl rfl rfl ?_ ?_ hg <;> rfl
     · exfalso; rw [hl1] at hc; simp at hc; omega
theorem grow_T (m : Nat) (h0 : 0 < m) (h1 : m ≤ 4611686018427) : TCall Tryz.prog 98 [.nils, .int m] [] (fun r s => r = .sl 1 [] (.own 0) ∧ s = [.own 1 0]) := by
 refine TCall.body Tryz.func98 rfl rfl Tryz.ntmps98 rfl rfl ?_
 repeat' (first | refine aoQ rfl rfl rfl (fun hg => by first | exact std0 | exact PRun.capNil tabOk rfl rfl nd rfl | exact PRun.sliceNil tabOk rfl rfl nd rfl nd rfl | exact PRun.sliceOwn0 tabOk rfl rfl nd rfl nd rfl rfl h0 | exact std1) (by exact rfl) ?_ | refine sqW ?_ | refine rgK (fun K' hK => ?_) | (refine aoN (hK _ _ ?_); clear hK K') | refine aoE (bxW rfl rfl rfl rfl rfl tI rfl rfl ?_) | refine aoE (stW tabOk rfl rfl rfl tI rfl rfl tI rfl rfl rfl rfl rfl rfl rfl ?_) | refine aoE (alW tabOk rfl rfl rfl rfl rfl rfl ?_) | refine aoE (EStep.appendMake (m := m) tabOk rfl rfl rfl rfl (Rd.w rfl tI) (Rd.w rfl tI) (by omega) h0 (LOk.of (tabOk.get rfl)) (LOk.of (tabOk.get rfl)) (LOk.of (tabOk.get rfl)) rfl rfl (by decide) (by simp only; omega) (by omega) ?_) | refine cdN rfl tI (fun hc => ?_) (fun hc => ?_) | refine blK ?_ | refine exW ?_ | refine skW ?_ | refine rtW ?_ | refine dK2 (by decide +kernel) (by kernel_rfl) (by decide +kernel) rfl (fun K' hK => ?_) | refine dL2 (by kernel_rfl) (by decide +kernel) rfl (fun K' hK => ?_) | (refine aqN (hK _ ?_); clear hK K') | refine aqN ?_ | refine aqQ rfl rfl (fun hg => by first | exact std0 | exact PRun.capNil tabOk rfl rfl nd rfl | exact PRun.sliceNil tabOk rfl rfl nd rfl nd rfl | exact PRun.sliceOwn0 tabOk rfl rfl nd rfl nd rfl rfl h0 | exact std1) (by exact rfl) ?_)
 · exfalso; omega
 · exact ⟨.inr rfl, _, _, ⟨rfl, rfl⟩, rfl, nZl _, rfl, rfl, rfl⟩
 · exfalso; omega
def encB (b : Bs) : List AV := [.sl 1 (b.map by8) .no]
def szK (a c : Bs) : Nat → Nat
 | 0 => 0
 | 1 => a.length
 | _ => a.length + c.length
def catK (a c : Bs) : Nat → Bs
 | 0 => []
 | 1 => a
 | _ => a ++ c
set_option maxHeartbeats 800000 in
set_option maxRecDepth 20000 in
theorem concat_spec (a c : Bs) (h0 : 0 < a.length + c.length) (h1 : a.length + c.length ≤ 4611686018427) : PCall Tryz.prog 79 [.sl 1 ([a, c].map encB) .no] (.sl 1 ((a ++ c).map by8) .no) := by
 have hv := TCall.val (first := []) (caps := []) (avs := [.nils, .int (a.length + c.length : Nat)]) (grow_T (a.length + c.length) h0 h1)
 refine PCall.body Tryz.func79 rfl rfl Tryz.ntmps79 rfl rfl ?_
 repeat' (first | refine aoQ rfl rfl rfl (fun hg => by first | exact std0 | exact std1) (by exact rfl) ?_ | refine sqW ?_ | refine rgK (fun K' hK => ?_) | (refine aoN (hK _ _ ?_); clear hK K') | refine aoE (bxW rfl rfl rfl rfl rfl tI rfl rfl ?_) | refine aoE (stW tabOk rfl rfl rfl tI rfl rfl tI rfl rfl rfl rfl rfl rfl rfl ?_) | refine aoE (alW tabOk rfl rfl rfl rfl rfl rfl ?_) | refine cdN rfl tI (fun hc => ?_) (fun hc => ?_) | refine blK ?_ | refine exW ?_ | refine skW ?_ | refine rtW ?_ | refine dK2 (by decide +kernel) (by kernel_rfl) (by decide +kernel) rfl (fun K' hK => ?_) | refine dL2 (by kernel_rfl) (by decide +kernel) rfl (fun K' hK => ?_) | (refine aqN (hK _ ?_); clear hK K') | refine aqN ?_ | refine aqQ rfl rfl (fun hg => by first | exact std0 | exact std1) (by exact rfl) ?_)
 refine lpW (ι := Nat) (fun k => [(0, .sl 1 ([a, c].map encB) .no), (3, .int (szK a c k : Nat)), (9, .sl 1 ([a, c].map encB) .no), (10, .int 2), (11, .int k)]) (fun _ => []) (fun k => k ≤ 2) (fun k => 2 - k) 0 (nZl _) ⟨rfl, rfl, rfl, rfl, rfl, tI⟩ rfl ?_
 intro k hk
 have hk4 : k = 0 ∨ k = 1 ∨ k = 2 := by omega
 have s0 : ((szK a c 0 : Nat) : Int) + (([a, c].getD (((0 : Nat) : Int).toNat) default).length : Nat) = (a.length : Nat) := by show ((0 : Nat) : Int) + (a.length : Nat) = _; omega
 have s1 : ((szK a c 1 : Nat) : Int) + (([a, c].getD (((1 : Nat) : Int).toNat) default).length : Nat) = (a.length + c.length : Nat) := by show ((a.length : Nat) : Int) + (c.length : Nat) = _; omega
 rcases hk4 with rfl | rfl | rfl
 · repeat' (first | refine AWP.regionPan rfl rfl (fun K' hK => ?_) | refine aoQ rfl rfl rfl (fun hg => by first | exact piW tabOk rfl rfl nd rfl nd rfl rfl ⟨zB4 _, zAf.2 (show _ < 2 by omega)⟩ | exact std0 | exact PRun.buildZ (by exact ⟨rfl, rfl⟩) rfl | exact PRun.ifaceW (by kernel_rfl) rfl rfl nd rfl | exact std1) (by exact rfl) ?_ | refine sqW ?_ | refine rgK (fun K' hK => ?_) | (refine aoN (hK _ _ ?_); clear hK K') | refine aoE (bxW rfl rfl rfl rfl rfl tI rfl rfl ?_) | refine aoE (stW tabOk rfl rfl rfl tI rfl rfl tI rfl rfl rfl rfl rfl rfl rfl ?_) | refine aoE (alW tabOk rfl rfl rfl rfl rfl rfl ?_) | refine aoE (scT (hv) rfl rfl rfl rfl rfl nd rfl rfl nds ?_) | refine DStep.panic rfl rfl rfl tI ?_ | refine cdN rfl tI (fun hc => ?_) (fun hc => ?_) | refine blK ?_ | refine exW ?_ | refine skW ?_ | refine rtW ?_ | refine dK2 (by decide +kernel) (by kernel_rfl) (by decide +kernel) rfl (fun K' hK => ?_) | refine dL2 (by kernel_rfl) (by decide +kernel) rfl (fun K' hK => ?_) | (refine aqN (hK _ ?_); clear hK K') | refine aqN ?_ | refine aqQ rfl rfl (fun hg => by first | exact piW tabOk rfl rfl nd rfl nd rfl rfl ⟨zB4 _, zAf.2 (show _ < 2 by omega)⟩ | exact std0 | exact PRun.buildZ (by exact ⟨rfl, rfl⟩) rfl | exact PRun.ifaceW (by kernel_rfl) rfl rfl nd rfl | exact std1) (by exact rfl) ?_)
   all_goals first
    | (exfalso; omega)
    | exact ⟨1, by omega, by omega, ⟨rfl, congrArg AV.int s0, rfl, rfl, rfl, tI⟩, rfl⟩
 · repeat' (first | refine AWP.regionPan rfl rfl (fun K' hK => ?_) | refine aoQ rfl rfl rfl (fun hg => by first | exact piW tabOk rfl rfl nd rfl nd rfl rfl ⟨zB4 _, zAf.2 (show _ < 2 by omega)⟩ | exact std0 | exact PRun.buildZ (by exact ⟨rfl, rfl⟩) rfl | exact PRun.ifaceW (by kernel_rfl) rfl rfl nd rfl | exact std1) (by exact rfl) ?_ | refine sqW ?_ | refine rgK (fun K' hK => ?_) | (refine aoN (hK _ _ ?_); clear hK K') | refine aoE (bxW rfl rfl rfl rfl rfl tI rfl rfl ?_) | refine aoE (stW tabOk rfl rfl rfl tI rfl rfl tI rfl rfl rfl rfl rfl rfl rfl ?_) | refine aoE (alW tabOk rfl rfl rfl rfl rfl rfl ?_) | refine aoE (scT (hv) rfl rfl rfl rfl rfl nd rfl rfl nds ?_) | refine DStep.panic rfl rfl rfl tI ?_ | refine cdN rfl tI (fun hc => ?_) (fun hc => ?_) | refine blK ?_ | refine exW ?_ | refine skW ?_ | refine rtW ?_ | refine dK2 (by decide +kernel) (by kernel_rfl) (by decide +kernel) rfl (fun K' hK => ?_) | refine dL2 (by kernel_rfl) (by decide +kernel) rfl (fun K' hK => ?_) | (refine aqN (hK _ ?_); clear hK K') | refine aqN ?_ | refine aqQ rfl rfl (fun hg => by first | exact piW tabOk rfl rfl nd rfl nd rfl rfl ⟨zB4 _, zAf.2 (show _ < 2 by omega)⟩ | exact std0 | exact PRun.buildZ (by exact ⟨rfl, rfl⟩) rfl | exact PRun.ifaceW (by kernel_rfl) rfl rfl nd rfl | exact std1) (by exact rfl) ?_)
   all_goals first
    | (exfalso; omega)
    | exact ⟨2, by omega, by omega, ⟨rfl, congrArg AV.int s1, rfl, rfl, rfl, tI⟩, rfl⟩
 repeat' (first | refine aoQ rfl rfl rfl (fun hg => by first | exact std0 | exact std1) (by exact rfl) ?_ | refine sqW ?_ | refine rgK (fun K' hK => ?_) | (refine aoN (hK _ _ ?_); clear hK K') | refine aoE (bxW rfl rfl rfl rfl rfl tI rfl rfl ?_) | refine aoE (stW tabOk rfl rfl rfl tI rfl rfl tI rfl rfl rfl rfl rfl rfl rfl ?_) | refine aoE (alW tabOk rfl rfl rfl rfl rfl rfl ?_) | refine aoE (scT (hv) rfl rfl rfl rfl rfl nd rfl rfl nds ?_) | refine cdN rfl tI (fun hc => ?_) (fun hc => ?_) | refine blK ?_ | refine exW ?_ | refine skW ?_ | refine rtW ?_ | (refine aqN (hK _ ?_); clear hK K') | refine aqN ?_ | refine aqQ rfl rfl (fun hg => by first | exact std0 | exact std1) (by exact rfl) ?_)
 · exfalso; omega
 · exfalso; omega
 rintro _ _ ⟨rfl, rfl⟩
 repeat' (first | refine aoQ rfl rfl rfl (fun hg => by first | exact std0 | exact std1) (by exact rfl) ?_ | refine sqW ?_ | refine rgK (fun K' hK => ?_) | (refine aoN (hK _ _ ?_); clear hK K') | refine aoE (bxW rfl rfl rfl rfl rfl tI rfl rfl ?_) | refine aoE (stW tabOk rfl rfl rfl tI rfl rfl tI rfl rfl rfl rfl rfl rfl rfl ?_) | refine aoE (alW tabOk rfl rfl rfl rfl rfl rfl ?_) | refine cdN rfl tI (fun hc => ?_) (fun hc => ?_) | refine blK ?_ | refine exW ?_ | refine skW ?_ | refine rtW ?_ | refine dK2 (by decide +kernel) (by kernel_rfl) (by decide +kernel) rfl (fun K' hK => ?_) | refine dL2 (by kernel_rfl) (by decide +kernel) rfl (fun K' hK => ?_) | (refine aqN (hK _ ?_); clear hK K') | refine aqN ?_ | refine aqQ rfl rfl (fun hg => by first | exact std0 | exact std1) (by exact rfl) ?_)
 refine lpW (ι := Nat) (fun k => [(0, .sl 1 ([a, c].map encB) .no), (6, .sl 1 ((catK a c k).map by8) (.own 0)), (25, .sl 1 ([a, c].map encB) .no), (26, .int 2), (27, .int k)]) (fun k => [.own 1 ((catK a c k).map by8).length]) (fun k => k ≤ 2) (fun k => 2 - k) 0 (nZl _) ⟨rfl, rfl, rfl, rfl, rfl, tI⟩ rfl ?_
 clear s0 s1 hk
 intro k hk
 have hk4 : k = 0 ∨ k = 1 ∨ k = 2 := by omega
 have t0 : ((catK a c 0).map by8).length = 0 := rfl
 have t1 : ((catK a c 1).map by8).length = a.length := lLm ..
 have t2 : (([a, c].getD (((0 : Nat) : Int).toNat) default).map by8).length = a.length := lLm ..
 have t3 : (([a, c].getD (((1 : Nat) : Int).toNat) default).map by8).length = c.length := lLm ..
 rcases hk4 with rfl | rfl | rfl
 all_goals repeat' (first | refine aoQ rfl rfl rfl (fun hg => by first | exact piW tabOk rfl rfl nd rfl nd rfl rfl ⟨zB4 _, zAf.2 (show _ < 2 by omega)⟩ | exact std0 | exact std1) (by exact rfl) ?_ | refine sqW ?_ | refine rgK (fun K' hK => ?_) | (refine aoN (hK _ _ ?_); clear hK K') | refine aoE (bxW rfl rfl rfl rfl rfl tI rfl rfl ?_) | refine aoE (stW tabOk rfl rfl rfl tI rfl rfl tI rfl rfl rfl rfl rfl rfl rfl ?_) | refine aoE (alW tabOk rfl rfl rfl rfl rfl rfl ?_) | refine aoE (apO tabOk rfl rfl rfl (by decide) (Rd.w rfl tI) rfl (Rd.w rfl tI) (.sl rfl (one_by8 _)) (LOk.of (tabOk.get rfl)) (LOk.of (tabOk.get rfl)) rfl rfl (by simp only; omega) (by omega) ?_) | refine cdN rfl tI (fun hc => ?_) (fun hc => ?_) | refine blK ?_ | refine exW ?_ | refine skW ?_ | refine rtW ?_ | refine dK2 (by decide +kernel) (by kernel_rfl) (by decide +kernel) rfl (fun K' hK => ?_) | refine dL2 (by kernel_rfl) (by decide +kernel) rfl (fun K' hK => ?_) | (refine aqN (hK _ ?_); clear hK K') | refine aqN ?_ | refine aqQ rfl rfl (fun hg => by first | exact piW tabOk rfl rfl nd rfl nd rfl rfl ⟨zB4 _, zAf.2 (show _ < 2 by omega)⟩ | exact std0 | exact std1) (by exact rfl) ?_)
 all_goals first
  | (exfalso; omega)
  | exact ⟨1, by omega, by omega, ⟨rfl, rfl, rfl, rfl, rfl, tI⟩, rfl⟩
  | exact ⟨.inr rfl, Ent.of rfl⟩
  | exact ⟨2, by omega, by omega, ⟨rfl, by show AV.sl 1 (a.map by8 ++ c.map by8) _ = AV.sl 1 ((a ++ c).map by8) _; rw [zB3], rfl, rfl, rfl, tI⟩, by show [AObj.own 1 (a.map by8 ++ c.map by8).length] = [AObj.own 1 ((a ++ c).map by8).length]; rw [zB3]⟩
set_option maxHeartbeats 1600000 in
set_option maxRecDepth 20000 in
theorem append_spec (f : Bs) (e : Ev) (hf : f.length ≤ 4611686018427387904) (ht : e.mark.text.length ≤ 300) : PCall Tryz.prog 53 [.sl 1 (f.map by8) .no, .agg (encE e)] (tupBI (appendR f e).1 (appendR f e).2) := by
 have hv := pints_spec e ht
 refine PCall.body Tryz.func53 rfl rfl Tryz.ntmps53 rfl rfl ?_
 cases he : evOk e with
 | false =>
   rw [show intsR e = ([], 1) by unfold intsR; rw [he]; rfl] at hv
   rw [show appendR f e = ([], 1) by unfold appendR; rw [he]; rfl]
   dsimp only at hv
   repeat' (first | refine aoQ rfl rfl rfl (fun hg => by first | exact std0 | exact pcW (hv) rfl rfl nd rfl nds | exact std1) (by exact rfl) ?_ | refine sqW ?_ | refine rgK (fun K' hK => ?_) | (refine aoN (hK _ _ ?_); clear hK K') | refine aoE (bxW rfl rfl rfl rfl rfl tI rfl rfl ?_) | refine aoE (stW tabOk rfl rfl rfl tI rfl rfl tI rfl rfl rfl rfl rfl rfl rfl ?_) | refine aoE (alW tabOk rfl rfl rfl rfl rfl rfl ?_) | refine cdN rfl tI (fun hc => ?_) (fun hc => ?_) | refine blK ?_ | refine exW ?_ | refine skW ?_ | refine rtW ?_ | refine dK2 (by decide +kernel) (by kernel_rfl) (by decide +kernel) rfl (fun K' hK => ?_) | refine dL2 (by kernel_rfl) (by decide +kernel) rfl (fun K' hK => ?_) | (refine aqN (hK _ ?_); clear hK K') | refine aqN ?_ | refine aqQ rfl rfl (fun hg => by first | exact std0 | exact pcW (hv) rfl rfl nd rfl nds | exact std1) (by exact rfl) ?_)
   · exact ⟨.inr rfl, Ent.tup2 Ent.nil (Ent.rfl' _)⟩
   all_goals (exfalso; simp at hc; done)
 | true =>
   rw [show intsR e = (ints e, 0) by unfold intsR; rw [he]; rfl] at hv
   have hw := frame_spec (ints e) (fr_ok he).2 (by have := (fr_ok he).1; have : maxInts = 4000 := rfl; omega)
   have hfl : (fr e).length ≤ 40021 := by unfold fr; rw [frame_len]; have := putL_len (fr_ok he).1; omega
   have hf0 : 0 < (fr e).length := by unfold fr; rw [frame_len]; omega
   rw [frameR_ev he] at hw
   dsimp only at hv hw
   by_cases hbig : 200000 < f.length
   · repeat' (first | refine aoQ rfl rfl rfl (fun hg => by first | exact std0 | exact pcW (hv) rfl rfl nd rfl nds | exact pcW (hw) rfl rfl nd rfl nds | exact pbS tabOk rfl rfl nds | exact std1) (by exact rfl) ?_ | refine sqW ?_ | refine rgK (fun K' hK => ?_) | (refine aoN (hK _ _ ?_); clear hK K') | refine aoE (bxW rfl rfl rfl rfl rfl tI rfl rfl ?_) | refine aoE (stW tabOk rfl rfl rfl tI rfl rfl tI rfl rfl rfl rfl rfl rfl rfl ?_) | refine aoE (alW tabOk rfl rfl rfl rfl rfl rfl ?_) | refine cdN rfl tI (fun hc => ?_) (fun hc => ?_) | refine blK ?_ | refine exW ?_ | refine skW ?_ | refine rtW ?_ | refine dK2 (by decide +kernel) (by kernel_rfl) (by decide +kernel) rfl (fun K' hK => ?_) | refine dL2 (by kernel_rfl) (by decide +kernel) rfl (fun K' hK => ?_) | (refine aqN (hK _ ?_); clear hK K') | refine aqN ?_ | refine aqQ rfl rfl (fun hg => by first | exact std0 | exact pcW (hv) rfl rfl nd rfl nds | exact pcW (hw) rfl rfl nd rfl nds | exact pbS tabOk rfl rfl nds | exact std1) (by exact rfl) ?_)
     · exfalso; simp at hc
     · refine ⟨.inr rfl, ?_⟩
       rw [show appendR f e = ([], 2) by unfold appendR; rw [he, if_pos rfl, if_pos (by omega)]]
       exact Ent.tup2 Ent.nil (Ent.rfl' _)
     · exfalso; omega
   have hx := concat_spec f (fr e) (by omega) (by omega)
   repeat' (first | refine aoQ rfl rfl rfl (fun hg => by first | exact std0 | exact pcW (hv) rfl rfl nd rfl nds | exact pcW (hw) rfl rfl nd rfl nds | exact pbS tabOk rfl rfl nds | exact pcW (hx) rfl rfl nd rfl nds | exact std1) (by exact rfl) ?_ | refine sqW ?_ | refine rgK (fun K' hK => ?_) | (refine aoN (hK _ _ ?_); clear hK K') | refine aoE (bxW rfl rfl rfl rfl rfl tI rfl rfl ?_) | refine aoE (stW tabOk rfl rfl rfl tI rfl rfl tI rfl rfl rfl rfl rfl rfl rfl ?_) | refine aoE (alW tabOk rfl rfl rfl rfl rfl rfl ?_) | refine cdN rfl tI (fun hc => ?_) (fun hc => ?_) | refine blK ?_ | refine exW ?_ | refine skW ?_ | refine rtW ?_ | refine dK2 (by decide +kernel) (by kernel_rfl) (by decide +kernel) rfl (fun K' hK => ?_) | refine dL2 (by kernel_rfl) (by decide +kernel) rfl (fun K' hK => ?_) | (refine aqN (hK _ ?_); clear hK K') | refine aqN ?_ | refine aqQ rfl rfl (fun hg => by first | exact std0 | exact pcW (hv) rfl rfl nd rfl nds | exact pcW (hw) rfl rfl nd rfl nds | exact pbS tabOk rfl rfl nds | exact pcW (hx) rfl rfl nd rfl nds | exact std1) (by exact rfl) ?_)
   · exfalso; simp at hc
   · refine ⟨.inr rfl, ?_⟩
     rw [show appendR f e = ([], 2) by unfold appendR; rw [he, if_pos rfl, if_pos (by omega)]]
     exact Ent.tup2 Ent.nil (Ent.rfl' _)
   · refine ⟨.inr rfl, Ent.of ?_⟩
     rw [show appendR f e = (f ++ fr e, 0) by unfold appendR; rw [he, if_pos rfl, if_neg (by omega)]]
     rfl
set_option maxHeartbeats 3200000 in
set_option maxRecDepth 20000 in
theorem load_spec (b : Bs) (hb : b.length ≤ 4611686018427387904) : PCall Tryz.prog 55 [.sl 1 (b.map by8) .no] (tupEv (loadR b)) := by
 have hv := frames_spec b hb
 refine PCall.body Tryz.func55 rfl rfl Tryz.ntmps55 rfl rfl ?_
 by_cases h2 : 200000 < b.length
 · rw [show framesR b = ([], 0, 2) from if_pos h2] at hv
   rw [show loadR b = ([], 0, 2) from if_pos h2]
   simp only [tupFR] at hv
   repeat' (first | refine aoQ rfl rfl rfl (fun hg => by first | exact std0 | exact pcW (hv) rfl rfl nd rfl nds | exact std1) (by exact rfl) ?_ | refine sqW ?_ | refine rgK (fun K' hK => ?_) | (refine aoN (hK _ _ ?_); clear hK K') | refine aoE (bxW rfl rfl rfl rfl rfl tI rfl rfl ?_) | refine aoE (stW tabOk rfl rfl rfl tI rfl rfl tI rfl rfl rfl rfl rfl rfl rfl ?_) | refine aoE (alW tabOk rfl rfl rfl rfl rfl rfl ?_) | refine cdN rfl tI (fun hc => ?_) (fun hc => ?_) | refine blK ?_ | refine exW ?_ | refine skW ?_ | refine rtW ?_ | refine dK2 (by decide +kernel) (by kernel_rfl) (by decide +kernel) rfl (fun K' hK => ?_) | refine dL2 (by kernel_rfl) (by decide +kernel) rfl (fun K' hK => ?_) | (refine aqN (hK _ ?_); clear hK K') | refine aqN ?_ | refine aqQ rfl rfl (fun hg => by first | exact std0 | exact pcW (hv) rfl rfl nd rfl nds | exact std1) (by exact rfl) ?_)
   · exact ⟨.inr rfl, Ent.tup3 Ent.nil (Ent.rfl' _) (Ent.rfl' _)⟩
   all_goals (exfalso; simp at hc; done)
 rw [framesR_in h2] at hv
 rw [loadR_in h2]
 obtain ⟨f1, f2⟩ := frames_all _ b (Nat.lt_succ_self _)
 unfold Jo.load
 generalize (frames b).1 = ls at hv f1 f2
 simp only [tupFR] at hv
 repeat' (first | refine aoQ rfl rfl rfl (fun hg => by first | exact std0 | exact pcW (hv) rfl rfl nd rfl nds | exact std1) (by exact rfl) ?_ | refine sqW ?_ | refine rgK (fun K' hK => ?_) | (refine aoN (hK _ _ ?_); clear hK K') | refine aoE (bxW rfl rfl rfl rfl rfl tI rfl rfl ?_) | refine aoE (stW tabOk rfl rfl rfl tI rfl rfl tI rfl rfl rfl rfl rfl rfl rfl ?_) | refine aoE (alW tabOk rfl rfl rfl rfl rfl rfl ?_) | refine cdN rfl tI (fun hc => ?_) (fun hc => ?_) | refine blK ?_ | refine exW ?_ | refine skW ?_ | refine rtW ?_ | refine dK2 (by decide +kernel) (by kernel_rfl) (by decide +kernel) rfl (fun K' hK => ?_) | refine dL2 (by kernel_rfl) (by decide +kernel) rfl (fun K' hK => ?_) | (refine aqN (hK _ ?_); clear hK K') | refine aqN ?_ | refine aqQ rfl rfl (fun hg => by first | exact std0 | exact pcW (hv) rfl rfl nd rfl nds | exact std1) (by exact rfl) ?_)
 · exfalso; simp at hc
 refine AWP.ownNil (d := 8) (sz := 14) rfl ?_
 repeat' (first | refine aoQ rfl rfl rfl (fun hg => by first | exact std0 | exact std1) (by exact rfl) ?_ | refine sqW ?_ | refine rgK (fun K' hK => ?_) | (refine aoN (hK _ _ ?_); clear hK K') | refine aoE (bxW rfl rfl rfl rfl rfl tI rfl rfl ?_) | refine aoE (stW tabOk rfl rfl rfl tI rfl rfl tI rfl rfl rfl rfl rfl rfl rfl ?_) | refine aoE (alW tabOk rfl rfl rfl rfl rfl rfl ?_) | refine cdN rfl tI (fun hc => ?_) (fun hc => ?_) | refine blK ?_ | refine exW ?_ | refine skW ?_ | refine rtW ?_ | refine dK2 (by decide +kernel) (by kernel_rfl) (by decide +kernel) rfl (fun K' hK => ?_) | refine dL2 (by kernel_rfl) (by decide +kernel) rfl (fun K' hK => ?_) | (refine aqN (hK _ ?_); clear hK K') | refine aqN ?_ | refine aqQ rfl rfl (fun hg => by first | exact std0 | exact std1) (by exact rfl) ?_)
 have hfr : ∀ k, k < ls.length → PCall Tryz.prog 78 [.sl 1 ((ls.getD k default).map encN) .no] (.tup [.sl 1 ((frame (ls.getD k default)).map by8) .no, .int 0]) := fun k hk => by
  have hm : ls.getD k default ∈ ls := by rw [getD_lt hk]; exact lGm hk
  have := frame_spec (ls.getD k default) (f2 _ hm).2 (by have := (f2 _ hm).1; omega)
  rwa [show frameR (ls.getD k default) = (frame (ls.getD k default), 0) from if_pos (f2 _ hm).1] at this
 have hfl : ∀ k, k < ls.length → (frame (ls.getD k default)).length ≤ 40021 := fun k hk => by
  have hm : ls.getD k default ∈ ls := by rw [getD_lt hk]; exact lGm hk
  rw [frame_len]; have := putL_len (l := ls.getD k default) (f2 _ hm).1; omega
 have hel : ∀ k, k < ls.length → (ls.getD k default).length ≤ 1000000 := fun k hk => by
  have hm : ls.getD k default ∈ ls := by rw [getD_lt hk]; exact lGm hk
  have := (f2 _ hm).1; omega
 refine lpD (ι := Nat × List Ev × Nat) (fun i => [(8, .sl 14 (i.2.1.map encE) (.own 0)), (9, .int i.2.2), (25, .sl 1 (ls.map encL) .no), (26, .int ls.length), (27, .int i.1)]) (fun i => [.own 14 (i.2.1.map encE).length]) (fun i => i.1 ≤ ls.length ∧ i.2.1.length ≤ i.1 ∧ i.2.2 ≤ i.1 * 40021 ∧ loadL ls = (i.2.1 ++ (loadL (ls.drop i.1)).1, i.2.2 + (loadL (ls.drop i.1)).2)) (fun i => ls.length - i.1) 1 (fun _ => rfl) (0, [], 0) ⟨nZl _, nLr _, nZl _, by simp⟩ ⟨rfl, rfl, rfl, rfl, rfl, tI⟩ rfl (fun _ _ => rfl) (fun _ _ => rfl) ?_
 rintro ⟨k, out, n⟩ ⟨g1, g2, g3, g4⟩
 dsimp only at g1 g2 g3 g4 ⊢
 by_cases hlt : k < ls.length
 · rw [loadL_step hlt] at g4
   have hw := event_spec _ (hel k hlt)
   have hf := hfr k hlt
   have hff := hfl k hlt
   clear hfr hfl hel f2
   cases hev : event (ls.getD k default) with
   | none =>
     rw [eventR_none hev] at hw
     rw [hev] at g4
     dsimp only at hw g4
     repeat' (first | refine aoQ rfl rfl rfl (fun hg => by first | exact std0 | exact pcW (hw) rfl rfl nd rfl nds | exact std1) (by exact rfl) ?_ | refine sqW ?_ | refine rgK (fun K' hK => ?_) | (refine aoN (hK _ _ ?_); clear hK K') | refine aoE (bxW rfl rfl rfl rfl rfl tI rfl rfl ?_) | refine aoE (stW tabOk rfl rfl rfl tI rfl rfl tI rfl rfl rfl rfl rfl rfl rfl ?_) | refine aoE (alW tabOk rfl rfl rfl rfl rfl rfl ?_) | refine cdN rfl tI (fun hc => ?_) (fun hc => ?_) | refine blK ?_ | refine exW ?_ | refine skW ?_ | refine rtW ?_ | refine dK2 (by decide +kernel) (by kernel_rfl) (by decide +kernel) rfl (fun K' hK => ?_) | refine dL2 (by kernel_rfl) (by decide +kernel) rfl (fun K' hK => ?_) | (refine aqN (hK _ ?_); clear hK K') | refine aqN ?_ | refine aqQ rfl rfl (fun hg => by first | exact std0 | exact pcW (hw) rfl rfl nd rfl nds | exact std1) (by exact rfl) ?_)
     · refine ⟨.inr rfl, Ent.of ?_⟩
       rw [g4, zBp, zBk]; rfl
     · exfalso; simp at hc
     · exfalso; omega
   | some ev =>
     rw [eventR_some hev] at hw
     rw [hev] at g4
     dsimp only at hw g4
     repeat' (first | refine aoQ rfl rfl rfl (fun hg => by first | exact std0 | exact pcW (hw) rfl rfl nd rfl nds | exact pcW (hf) rfl rfl nd rfl nds | exact pbS tabOk rfl rfl nds | exact std1) (by exact rfl) ?_ | refine sqW ?_ | refine rgK (fun K' hK => ?_) | (refine aoN (hK _ _ ?_); clear hK K') | refine aoE (bxW rfl rfl rfl rfl rfl tI rfl rfl ?_) | refine aoE (stW tabOk rfl rfl rfl tI rfl rfl tI rfl rfl rfl rfl rfl rfl rfl ?_) | refine aoE (alW tabOk rfl rfl rfl rfl rfl rfl ?_) | refine aoE (apO tabOk rfl rfl rfl (by decide) (Rd.w rfl tI) rfl (Rd.w rfl tI) (.sl rfl (by first | (intro x hx; rcases zAa.1 hx with rfl; rfl) | exact one_by8 _ | exact one_ints _)) (LOk.of (tabOk.get rfl)) (LOk.of (tabOk.get rfl)) rfl rfl (by simp only [lLm, lLa, zA1, zA9]; omega) (by simp only [lLm, lLa, zA1, zA9]; omega) ?_) | refine cdN rfl tI (fun hc => ?_) (fun hc => ?_) | refine blK ?_ | refine exW ?_ | refine skW ?_ | refine rtW ?_ | refine dK2 (by decide +kernel) (by kernel_rfl) (by decide +kernel) rfl (fun K' hK => ?_) | refine dL2 (by kernel_rfl) (by decide +kernel) rfl (fun K' hK => ?_) | (refine aqN (hK _ ?_); clear hK K') | refine aqN ?_ | refine aqQ rfl rfl (fun hg => by first | exact std0 | exact pcW (hw) rfl rfl nd rfl nds | exact pcW (hf) rfl rfl nd rfl nds | exact pbS tabOk rfl rfl nds | exact std1) (by exact rfl) ?_)
     · exfalso; simp at hc
     · refine ⟨(k + 1, out ++ [ev], n + (frame (ls.getD k default)).length), ⟨by dsimp only; omega, by simp; omega, by dsimp only; omega, ?_⟩, by dsimp only; omega, ⟨?_, rfl, rfl, rfl, rfl, tI⟩, ?_⟩
       · rw [g4]; simp [zBy]
       · rw [zB3]; rfl
       · rw [zB3]; rfl
     · exfalso; omega
 · repeat' (first | refine aoQ rfl rfl rfl (fun hg => by first | exact std0 | exact std1) (by exact rfl) ?_ | refine sqW ?_ | refine rgK (fun K' hK => ?_) | (refine aoN (hK _ _ ?_); clear hK K') | refine aoE (bxW rfl rfl rfl rfl rfl tI rfl rfl ?_) | refine aoE (stW tabOk rfl rfl rfl tI rfl rfl tI rfl rfl rfl rfl rfl rfl rfl ?_) | refine aoE (alW tabOk rfl rfl rfl rfl rfl rfl ?_) | refine cdN rfl tI (fun hc => ?_) (fun hc => ?_) | refine blK ?_ | refine exW ?_ | refine skW ?_ | refine rtW ?_ | refine dK2 (by decide +kernel) (by kernel_rfl) (by decide +kernel) rfl (fun K' hK => ?_) | refine dL2 (by kernel_rfl) (by decide +kernel) rfl (fun K' hK => ?_) | (refine aqN (hK _ ?_); clear hK K') | refine aqN ?_ | refine aqQ rfl rfl (fun hg => by first | exact std0 | exact std1) (by exact rfl) ?_)
   · exfalso; omega
   · rw [List.drop_eq_nil_of_le (by omega)] at g4
     refine ⟨.inr rfl, Ent.of ?_⟩
     rw [g4]; simp only [loadL, zBp, zBk]; rfl
end Go.Proofs.YtbneeinknlddaaaGreat
namespace Go.Sy
open Go.Jo
def newT (s : Std) : Tab × Int := if (!validS s || decide (0 < s.evs.length) || decide (s.known ≠ 0)) = true then (noTab, 1) else (⟨s, [], 0, true⟩, 0)
theorem new_begin {id : Int} (h : isId id = true) : newT ⟨id, ⟨1, 1, 1⟩, 1, 0, []⟩ = (begin_ id, 0) := by
 have h1 : validS ⟨id, ⟨1, 1, 1⟩, 1, 0, []⟩ = true := by
  unfold validS
  rw [h]
  rfl
 unfold newT
 rw [h1]
 rfl
def knowE (clock stand n : Int) : Ev := ⟨clock, stand, 3, n, noMark⟩
def exC : Tab := (writeT (begin_ 1) (knowE 1 1 3)).1
def exD : Tab := (writeT (begin_ 2) (knowE 1 2 0)).1
def exTorn : Tab := (crashT exC ((exC.b.length / 2 : Nat) : Int)).1
def exWoken : Tab := (wakeT exTorn).1
def exP : Tab := (exchT exC exD).1
def exQ : Tab := (exchT exC exD).2.1
def exKept : Tab := (crashT exP (exP.b.length : Int)).1
def exAgain : Tab := (wakeT exKept).1
theorem ex_c : (writeT (begin_ 1) (knowE 1 1 3)).2 = 0 := by decide +kernel
theorem ex_d : (writeT (begin_ 2) (knowE 1 2 0)).2 = 0 := by decide +kernel
theorem ex_c2 : 2 ≤ exC.b.length ∧ exC.sure = 0 ∧ exC.s.known = 3 := by decide +kernel
theorem ex_torn : (crashT exC ((exC.b.length / 2 : Nat) : Int)).2 = 0 := by decide +kernel
theorem ex_woken : (wakeT exTorn).2 = 0 ∧ exWoken.s.evs = [] ∧ exWoken.up = true ∧ exTorn.up = false := by decide +kernel
theorem ex_p : (exchT exC exD).2.2 = 0 ∧ exP.s.evs = [knowE 1 1 3, knowE 1 2 0] ∧ exQ.s.evs = exP.s.evs ∧ validT exP = true := by decide +kernel
theorem ex_j : (crashT exP ((exP.b.length : Int) - 1)).2 = 1 := by decide +kernel
theorem ex_kept : (crashT exP (exP.b.length : Int)).2 = 0 ∧ (wakeT exKept).2 = 0 ∧ exAgain = exP := by decide +kernel
theorem ex_m : (writeT exC (knowE 1 1 4)).2 = 6 ∧ (writeT exC (knowE 2 2 4)).2 = 1 ∧ (exchT exTorn exD).2.2 = 6 ∧ validT noTab = false := by decide +kernel
end Go.Sy
