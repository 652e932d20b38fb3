/- A variable that changes no more and holds a function without captured values.  Contracts by content: Locate.  A contract over objects, whose results lie in cells and may name own objects. No statement is proved here. -/
import Derived.Test.YtdglbdfdkabjfaaGreatDoorP6
import Derived.Test.YtdglbdfdkabjfaaGreatDoorP9
import Derived.Test.YtdglbdfdkabjfaaGreatDoorP24
set_option linter.unusedVariables false
set_option linter.unusedSimpArgs false
namespace Go.Ab
theorem AWP.freezeVG {P : Program} {n : Nat} {c : Code} {K : Exit → Env → Store → Prop} {env : Env} {σ : Store} (l : Nat) {cs : List AV} (hσ : σ[l]? = some (.var cs)) (hp : ∀ c1 ∈ cs, ∀ (M : Mem) (B B' : List GB) (x : Value), VRel M B c1 x → VRel M B' c1 x)
 (h : AWP P n c K (fun i => frv l cs (env i)) (σ.set l .dead)) : AWP P n c K env σ := by
 intro G a w hr
 have hll : l < σ.length := by
  rcases zA5 l σ.length with h | h
  · exact h
  · simp [zA4 h] at hσ
 have hlb : l < G.B.length := by rw [hr.st.len]; exact hll
 have hobj := hr.st.objs l _ _ (zA1 hlb) hσ
 generalize hg : G.B[l] = g at hobj
 have hBl : G.B[l]? = some g := by rw [zA1 hlb, hg]
 cases hobj with
 | var b _ c0 T fr hb hf hlen hrr hm =>
   have hfr := hr.st.fresh l _ b hBl rfl
   have hle := Mem.le_addBlk (M := G.M) (b := b) c0 hm
   have hs : SRel { G with M := G.M.addBlk b c0 } (σ.set l .dead) w := by
    refine ⟨⟨fun b' o v hv => ?_, hr.st.memok.m, hr.st.memok.g.mono hle⟩, fun b' hb' => ⟨fun o => ?_, (hr.st.m0 b' hb').2⟩, hr.st.base, by simp [hr.st.len], fun l' g' o' h1 h2 => ?_, hr.st.fresh, hr.st.inj, hr.st.out, ⟨fun p hp => ?_, hr.st.dfr.2⟩⟩
    · simp only [Mem.addBlk] at hv
      split at hv
      · rename_i e; subst e
        simp only [World.cell?, hb]; exact hv
      · exact hr.st.memok.c _ _ _ hv
    · have hne : b' ≠ b := fun e => hfr.1 (e ▸ hb')
      simp only [Mem.addBlk, if_neg hne]
      exact (hr.st.m0 b' hb').1 o
    · by_cases hll' : l = l'
      · subst hll'
        rw [zAd hll] at h2
        simp at h2; subst h2; exact .dead _
      · rw [zAj hll'] at h2
        have ho := hr.st.objs l' g' o' h1 h2
        have hne : ∀ b', g'.block = some b' → b' ≠ b := fun b' hb' e => hll' (hr.st.inj l l' _ g' b hBl h1 rfl (e ▸ hb'))
        exact ho.grow hle (BLe.refl _) (fun _ _ => rfl) fun b' hb' => ⟨fun _ => by simp only [Mem.addBlk, if_neg (hne b' hb')], rfl⟩
    · obtain ⟨k1, k2, k3, k4, k5⟩ := hr.st.dfr.1 p hp
      have hne : p.1 ≠ b := fun e => k3 l _ hBl (by rw [e]; rfl)
      exact ⟨k1, k2, k3, fun o => by simp only [Mem.addBlk, if_neg hne]; exact k4 o, k5⟩
   have hf1 : ∀ u x, VRel (G.M.addBlk b c0) G.B u x → VRel (G.M.addBlk b c0) G.B (frv1 l cs u) x := by
    intro u x h1
    cases u <;> simp only [frv1] <;> try exact h1
    rename_i l' o
    split
    · rename_i e; subst e
      cases h1 with
      | ptr _ _ b' hb' =>
        rw [hBl] at hb'
        simp at hb'; subst hb'
        refine .iptr _ _ _ (fun j => c0.getD (o + j) undef) (fun j hj => ?_) fun j c1 hj => ?_
        · simp only [List.length_drop] at hj
          simp only [Mem.addBlk, if_pos rfl]
          have : o + j < c0.size := by omega
          simp [this]
        · rw [zB2] at hj
          exact hp c1 (zAc hj) _ _ _ _ ((hrr _ _ hj).mono hle (BLe.refl _))
    · exact h1
   have hf : ∀ u x, VRel (G.M.addBlk b c0) G.B u x → VRel (G.M.addBlk b c0) G.B (frv l cs u) x := by
    intro u x h1
    by_cases hu : ∃ f a c, u = .fn f a c
    · obtain ⟨f, a1, c1, rfl⟩ := hu
      simp only [frv]
      cases h1 with
      | fn _ _ _ vf vc hvf hvc k1 k2 =>
        refine .fn _ _ _ vf vc (by simpa using hvf) (by simpa using hvc) (fun i u hi => ?_) fun i u hi => ?_
        · simp only [zA9, zA3] at hi
          obtain ⟨u', hi, rfl⟩ := hi
          exact hf1 _ _ (k1 i u' hi)
        · simp only [zA9, zA3] at hi
          obtain ⟨u', hi, rfl⟩ := hi
          exact hf1 _ _ (k2 i u' hi)
    · have : frv l cs u = frv1 l cs u := by
       cases u <;> first | rfl | exact absurd ⟨_, _, _, rfl⟩ hu
      rw [this]; exact hf1 _ _ h1
   have hv : ∀ i, VRel (G.M.addBlk b c0) G.B (frv l cs (env i)) (a.tmps.getD i undef) := fun i => hf _ _ ((hr.vals i).mono hle (BLe.refl G.B))
   refine wpIn_mono (h { G with M := G.M.addBlk b c0 } a w ⟨hr.size, hr.defers, hv, hs⟩) ?_
   rintro x a' w' ⟨e, s, G', h1, h2, h3⟩
   exact ⟨e, s, G', h1, Gh.Le.trans (G' := { G with M := G.M.addBlk b c0 }) (.upM hle) h2, h3⟩
theorem fn0_rel (f : Fn) : ∀ c1 ∈ [AV.fn f [] []], ∀ (M : Mem) (B B' : List GB) (x : Value), VRel M B c1 x → VRel M B' c1 x := fun c1 hc M B B' x h => by
 rw [zAf.1 hc] at h ⊢
 cases h with
 | fn _ _ _ vf vc hf hc' h1 h2 => exact .fn f [] [] vf vc hf hc' (fun i c hi => by simp at hi) (fun i c hi => by simp at hi)
end Go.Ab
namespace Go.Proofs.YtdglbdfdkabjfaaGreatDoor.Pl
open Go.Ab Go.Pl
attribute [local irreducible] AWP AOps EStep AQ PStep PRun PCall TCall VCall
def loL (s : Score) (e : Ed.Edition) (r : Room) (m : Mom) : List Chk := [
 ⟨49, [encS s, Ed.encE e, encRm r], if rightB s e r then 0 else 1⟩,
 ⟨50, [encMo m, [.fn (.func 48) [] []]], if momOk m then 0 else 1⟩,
 ⟨52, [encS s, encRm r, encMo m], reason s r m⟩]
def locate2 (e : Ed.Edition) (m : Mom) : Call × Bool × Int :=
 if (Ed.plR e m.bar m.pass).ok = false then (noCall, false, 0)
 else match near e (Ed.plR e m.bar m.pass).pos with
  | none => (noCall, false, 0)
  | some x => (⟨x.letter, x.number, (Ed.plR e m.bar m.pass).pos - x.pos, m.pos, (Ed.plR e m.bar m.pass).pass⟩, true, 0)
theorem loL_first (s : Score) (e : Ed.Edition) (r : Room) (m : Mom) : locate s e r m = if firstC (loL s e r m) = 0 then locate2 e m else (noCall, false, firstC (loL s e r m)) := by
 unfold locate loL
 by_cases h1 : rightB s e r = true
 · by_cases h2 : momOk m = true
   · rw [h1, h2, if_neg (by decide)]
     by_cases h3 : reason s r m = 0
     · simp only [firstC, h3]
       simp [locate2]
       rfl
     · simp only [firstC]
       simp [h3]
   · simp [firstC, h1, h2]
 · simp [firstC, h1]
theorem loL_zero {s : Score} {e : Ed.Edition} {r : Room} {m : Mom} (h : firstC (loL s e r m) = 0) : rightB s e r = true ∧ momOk m = true ∧ reason s r m = 0 := by
 unfold loL at h
 cases h1 : rightB s e r
 · rw [h1] at h; cases h
 · cases h2 : momOk m
   · rw [h1, h2] at h; cases h
   · rw [h1, h2] at h
     refine ⟨rfl, rfl, ?_⟩
     unfold firstC firstC firstC firstC at h
     dsimp only at h
     rw [if_pos rfl, if_pos rfl, if_pos rfl] at h
     by_cases h3 : reason s r m = 0
     · exact h3
     · rw [if_neg h3] at h; exact h
theorem plR_in {e : Ed.Edition} (hf : Ed.formB e = true) (a b : Int) : 0 ≤ (Ed.plR e a b).pos ∧ (Ed.plR e a b).pos < (e.bars.length : Int) := by
 have h1 : 1 ≤ e.bars.length := by
  unfold Ed.formB Ed.headOk inB at hf
  simp only [zA0, dEt] at hf
  omega
 have hub := Ed.findI_ub (Ed.plP a b) e.bars
 unfold Ed.plR
 split
 · split
   · exact ⟨zBh _, by show (0 : Int) < _; omega⟩
   · rename_i h
     have h2 : Ed.plI e a b < e.bars.length := hub.2
     exact ⟨by show 0 ≤ Ed.plI e a b; omega, h2⟩
 · exact ⟨zBh _, by show (0 : Int) < _; omega⟩
theorem finL_ok (e : Ed.Edition) (hw : Ed.Wf e) (hf : Ed.formB e = true) (i : Int) (hi : 0 ≤ i ∧ i < (e.bars.length : Int)) : ∀ k, k < (finL e i).length → PCall Tryz.prog ((finL e i).getD k default).k (((finL e i).getD k default).caps.map AV.iptr) (nmV ((finL e i).getD k default).res) := by
 have h4 := form_len hf
 have hlb : ∀ k, k < e.letters.length → 0 ≤ (e.letters.getD k default).pos ∧ (e.letters.getD k default).pos ≤ 4000 := fun k hk => by
  have hl := letOk_at hf hk
  unfold Ed.letOk inB at hl
  simp only [zA0, dEt] at hl
  omega
 intro k hk
 match k, hk with
 | 0, _ => exact fl_spec e hw hlb i ⟨hi.1, by omega⟩ true
 | 1, _ => exact fn_down e hw h4 i hi
 | 2, _ => exact fl_spec e hw hlb i ⟨hi.1, by omega⟩ false
 | 3, _ => exact fn_up e hw h4 i hi
set_option maxHeartbeats 4000000 in
set_option maxRecDepth 20000 in
theorem locate_spec (s : Score) (hs : s.Small) (e : Ed.Edition) (hw : Ed.Wf e) (r : Room) (hf : FIn r.form) (m : Mom) :
 PCall Tryz.prog 13 [.agg (encS s), .agg (Ed.encE e), .agg (encRm r), .agg (encMo m)] (.tup [.agg (encCl (locate s e r m).1), .b (locate s e r m).2.1, .int (locate s e r m).2.2]) := by
 have hfirst := first_spec (loL s e r m) (by show 3 ≤ 1000000000; decide) (fun k hk hz => by
  match k, hk with
  | 0, _ => exact loc2_spec s hs e hw r hf
  | 1, _ => exact loc3_spec m
  | 2, _ =>
    have h0 := hz 0 (by omega)
    have h1 : rightB s e r = true := by
     cases hh : rightB s e r
     · have h2 : (if rightB s e r then (0 : Int) else 1) = 0 := h0
       rw [hh] at h2; cases h2
     · rfl
    unfold rightB roomB at h1
    simp only [zA0] at h1
    exact loc4_spec s hs h1.1.1 r hf h1.2.2 m)
 rw [loL_first]
 by_cases hx : firstC (loL s e r m) = 0
 · rw [if_pos hx]
   obtain ⟨hright, hmom, _⟩ := loL_zero hx
   rw [hx] at hfirst
   have hform : Ed.formB e = true := by
    unfold rightB at hright
    simp only [zA0] at hright
    exact hright.1.2
   have hpl := Ed.place_spec e hw m.bar m.pass
   have hpi := plR_in hform m.bar m.pass
   have h4 := form_len hform
   have hfi := finders_spec e hw (form_len hform) (Ed.plR e m.bar m.pass).pos
   have hok := finL_ok e hw hform _ hpi
   have hidx := idxFi_spec (finL e (Ed.plR e m.bar m.pass).pos) hok (by show 4 ≤ 1000000000; decide)
   have hnear := near_eq e (Ed.plR e m.bar m.pass).pos
   have hnok := fun x => near_ok hform hpi (x := x)
   have hne : ifaceNe (errV 0) = some false := rfl
   unfold Ed.encPl at hpl
   unfold locate2
   clear hright hmom hx hpl
   have hpl := Ed.place_spec e hw m.bar m.pass
   unfold Ed.encPl at hpl
   generalize hP : Ed.plR e m.bar m.pass = P at *
   generalize hFL : finL e P.pos = FL at *
   by_cases hk : findI (fun x : Fin => x.res.isSome) FL < 0
   · have hn : near e P.pos = none := by
      rw [hnear]
      refine fs_no _ fun j hj => ?_
      have h2 := findI_ge (fun x : Fin => x.res.isSome) FL
      rw [decide_eq_false (by omega)] at h2
      have h3 := List.any_eq_false.1 h2.symm (FL.getD j default) (getD_in hj)
      simpa using h3
     rw [hn]
     refine PCall.bodyS tabOk Tryz.func13 rfl rfl Tryz.ntmps13 rfl ?_
     repeat refine sqW ?_
     refine rgK (fun K' hK => ?_)
     repeat' (first | refine aoQ rfl rfl rfl (fun hg => by exact std0) (by exact rfl) ?_ | refine aoE (bxW rfl rfl rfl rfl rfl tI rfl rfl ?_) | refine aoE (alW tabOk rfl rfl rfl rfl rfl rfl ?_))
     refine aoN (hK _ _ ?_)
     clear hK K'
     repeat refine sqW ?_
     refine rgK (fun K' hK => ?_)
     repeat' (first | refine aoE (stW tabOk rfl rfl rfl tI rfl rfl tI rfl rfl rfl rfl rfl rfl rfl ?_) | refine aoE (alW tabOk rfl rfl rfl rfl rfl rfl ?_))
     refine aoN (hK _ _ ?_)
     clear hK K'
     refine AWP.keep [(4, .ptr 0 0), (5, .ptr 1 0), (6, .ptr 2 0), (7, .ptr 3 0), (8, .ptr 4 0), (9, .b false), (10, .int 0), (11, .ptr 5 0)] ⟨rfl, rfl, rfl, rfl, rfl, rfl, rfl, rfl, tI⟩ ?_
     refine AWP.freezeV 0 rfl rfl ?_
     refine AWP.freezeV 1 rfl rfl ?_
     refine AWP.freezeV 2 rfl rfl ?_
     refine AWP.freezeV 3 rfl rfl ?_
     refine AWP.freezeVG 5 rfl (fn0_rel _) ?_
     refine AWP.keep [(4, .iptr (encS s)), (5, .iptr (Ed.encE e)), (6, .iptr (encRm r)), (7, .iptr (encMo m)), (8, .ptr 4 0), (9, .b false), (10, .int 0), (11, .iptr [.fn (.func 48) [] []])] ⟨rfl, rfl, rfl, rfl, rfl, rfl, rfl, rfl, tI⟩ ?_
     repeat' (first | refine aoQ rfl rfl rfl (fun hg => by first | exact std0 | exact pbS tabOk rfl rfl nds | exact pcW (hfirst) rfl rfl nd rfl nds | exact PRun.nilIfaceN errI rfl rfl nd hne | exact pbD tabOk rfl rfl nds | exact pcW (hpl) rfl rfl nd rfl nds | exact pcW (hfi) rfl rfl nd rfl nds | exact pcW (hidx) rfl rfl nd rfl nds | exact std1) (by exact rfl) ?_ | refine sqW ?_ | refine rgK (fun K' hK => ?_) | (refine aoN (hK _ _ ?_); clear hK K') | refine aoE (stW tabOk rfl rfl rfl tI rfl rfl tI rfl rfl rfl rfl rfl rfl rfl ?_) | (refine cdW rfl tI (fun hc => ?_) (fun hc => ?_) <;> (first | (simp only [dEt] at hc) | (simp only [dEf, iNl, iNe] at hc) | skip)) | refine skW ?_ | refine rtW ?_)
     · cases hc
     · refine ⟨.inr rfl, _, rfl, Ent.of ?_⟩
       rw [if_pos (show P.ok = false by simpa using hc)]; rfl
     · refine ⟨.inr rfl, _, rfl, Ent.of ?_⟩
       rename_i hc0
       rw [if_neg (show ¬ P.ok = false by simpa using hc0)]; rfl
     · exfalso; omega
   · obtain ⟨k, hk1, hk2, hk3, hk4⟩ := findI_lt (p := fun x : Fin => x.res.isSome) (l := FL) (by omega)
     have hn := hnear.trans (fs_at FL k hk2 hk3 hk4)
     obtain ⟨F, hF⟩ : ∃ F, FL.getD k default = F := ⟨_, rfl⟩
     have hFk := hok k hk2
     rw [hF] at hn hFk hk3
     rw [hk1] at hidx
     obtain ⟨x, hx⟩ := Option.isSome_iff_exists.1 hk3
     rw [hx] at hFk hn
     have hxo := hnok x (by
      rw [← hx, ← hF]
      have : (FL.getD k default).res ∈ FL.map fun x => x.res := zB4.2 ⟨_, getD_in hk2, rfl⟩
      rw [← hFL] at this ⊢
      exact this)
     have hx1 := hxo.at_
     rw [hn]
     have hq := TCall.val (first := []) (avs := []) (PCall.tcall (σ := [.dead, .dead, .dead, .dead, .var [.str ⟨#[]⟩, .int 0, .int 0, .int 0, .int 0, .int 0], .dead]) hFk (capsU F.caps))
     unfold nmV at hq
     clear hok hnok hxo hnear hFk hn
     refine PCall.bodyS tabOk Tryz.func13 rfl rfl Tryz.ntmps13 rfl ?_
     repeat refine sqW ?_
     refine rgK (fun K' hK => ?_)
     repeat' (first | refine aoQ rfl rfl rfl (fun hg => by exact std0) (by exact rfl) ?_ | refine aoE (bxW rfl rfl rfl rfl rfl tI rfl rfl ?_) | refine aoE (alW tabOk rfl rfl rfl rfl rfl rfl ?_))
     refine aoN (hK _ _ ?_)
     clear hK K'
     repeat refine sqW ?_
     refine rgK (fun K' hK => ?_)
     repeat' (first | refine aoE (stW tabOk rfl rfl rfl tI rfl rfl tI rfl rfl rfl rfl rfl rfl rfl ?_) | refine aoE (alW tabOk rfl rfl rfl rfl rfl rfl ?_))
     refine aoN (hK _ _ ?_)
     clear hK K'
     refine AWP.keep [(4, .ptr 0 0), (5, .ptr 1 0), (6, .ptr 2 0), (7, .ptr 3 0), (8, .ptr 4 0), (9, .b false), (10, .int 0), (11, .ptr 5 0)] ⟨rfl, rfl, rfl, rfl, rfl, rfl, rfl, rfl, tI⟩ ?_
     refine AWP.freezeV 0 rfl rfl ?_
     refine AWP.freezeV 1 rfl rfl ?_
     refine AWP.freezeV 2 rfl rfl ?_
     refine AWP.freezeV 3 rfl rfl ?_
     refine AWP.freezeVG 5 rfl (fn0_rel _) ?_
     refine AWP.keep [(4, .iptr (encS s)), (5, .iptr (Ed.encE e)), (6, .iptr (encRm r)), (7, .iptr (encMo m)), (8, .ptr 4 0), (9, .b false), (10, .int 0), (11, .iptr [.fn (.func 48) [] []])] ⟨rfl, rfl, rfl, rfl, rfl, rfl, rfl, rfl, tI⟩ ?_
     repeat' (first | refine aoQ rfl rfl rfl (fun hg => by first | exact iX encFi FL ((k : Nat) : Int) hF (hb := by omega) | exact std0 | exact pbS tabOk rfl rfl nds | exact pcW (hfirst) rfl rfl nd rfl nds | exact PRun.nilIfaceN errI rfl rfl nd hne | exact pbD tabOk rfl rfl nds | exact pcW (hpl) rfl rfl nd rfl nds | exact pcW (hfi) rfl rfl nd rfl nds | exact pcW (hidx) rfl rfl nd rfl nds | exact PRun.callQ (hq) rfl rfl nd rfl rfl nds) (by exact rfl) ?_ | refine sqW ?_ | refine rgK (fun K' hK => ?_) | (refine aoN (hK _ _ ?_); clear hK K') | refine aoE (stW tabOk rfl rfl rfl tI rfl rfl tI rfl rfl rfl rfl rfl rfl rfl ?_) | refine aoE (alW tabOk rfl rfl rfl rfl rfl rfl ?_) | (refine cdW rfl tI (fun hc => ?_) (fun hc => ?_) <;> (first | (simp only [dEt] at hc) | (simp only [dEf, iNl, iNe] at hc) | skip)) | refine skW ?_ | refine rtW ?_)
     · cases hc
     · refine ⟨.inr rfl, _, rfl, Ent.of ?_⟩
       rw [if_pos (show P.ok = false by simpa using hc)]; rfl
     · exfalso; omega
     · rename_i hc0
       refine AWP.drawY (fun j => match j with | 0 => [.dead, .dead, .dead, .dead, .var [.str ⟨#[]⟩, .int 0, .int 0, .int 0, .int 0, .int 0], .dead, .var [.str x.letter, .int x.number, .int 0, .int 0, .int 0, .int 0]] | 1 => [.dead, .dead, .dead, .dead, .var [.str ⟨#[]⟩, .int 0, .int 0, .int 0, .int 0, .int 0], .dead, .var [.str x.letter, .int x.number, .int (P.pos - x.pos), .int 0, .int 0, .int 0]] | 2 => [.dead, .dead, .dead, .dead, .var [.str ⟨#[]⟩, .int 0, .int 0, .int 0, .int 0, .int 0], .dead, .var [.str x.letter, .int x.number, .int (P.pos - x.pos), .int m.pos.n, .int m.pos.d, .int 0]] | _ => [.dead, .dead, .dead, .dead, .var [.str ⟨#[]⟩, .int 0, .int 0, .int 0, .int 0, .int 0], .dead, .var [.str x.letter, .int x.number, .int (P.pos - x.pos), .int m.pos.n, .int m.pos.d, .int P.pass]]) rfl (by kernel_rfl) (by decide +kernel) rfl (by decide +kernel) (fun K' hK => ?_)
       repeat' (first
        | refine yqQ (a := 0) (b := 0) rfl (by decide +kernel) (by decide +kernel) rfl rfl rfl (fun k h1 h2 hg => by (have hk : k = 0 := (by omega)); (rcases hk with rfl) <;> (first | exact std0 | exact std1)) (by exact rfl) ?_
        | refine yqQ (a := 0) (b := 1) rfl (by decide +kernel) (by decide +kernel) rfl rfl rfl (fun k h1 h2 hg => by (have hk : k = 0 ∨ k = 1 := (by omega)); (rcases hk with rfl | rfl) <;> (first | exact std0 | exact std1)) (by exact rfl) ?_
        | refine yqQ (a := 1) (b := 1) rfl (by decide +kernel) (by decide +kernel) rfl rfl rfl (fun k h1 h2 hg => by (have hk : k = 1 := (by omega)); (rcases hk with rfl) <;> (first | exact std0 | exact std1)) (by exact rfl) ?_
        | refine yqQ (a := 0) (b := 2) rfl (by decide +kernel) (by decide +kernel) rfl rfl rfl (fun k h1 h2 hg => by (have hk : k = 0 ∨ k = 1 ∨ k = 2 := (by omega)); (rcases hk with rfl | rfl | rfl) <;> (first | exact std0 | exact std1)) (by exact rfl) ?_
        | refine yqQ (a := 1) (b := 2) rfl (by decide +kernel) (by decide +kernel) rfl rfl rfl (fun k h1 h2 hg => by (have hk : k = 1 ∨ k = 2 := (by omega)); (rcases hk with rfl | rfl) <;> (first | exact std0 | exact std1)) (by exact rfl) ?_
        | refine yqQ (a := 2) (b := 2) rfl (by decide +kernel) (by decide +kernel) rfl rfl rfl (fun k h1 h2 hg => by (have hk : k = 2 := (by omega)); (rcases hk with rfl) <;> (first | exact std0 | exact std1)) (by exact rfl) ?_
        | refine yqQ (a := 0) (b := 3) rfl (by decide +kernel) (by decide +kernel) rfl rfl rfl (fun k h1 h2 hg => by (have hk : k = 0 ∨ k = 1 ∨ k = 2 ∨ k = 3 := (by omega)); (rcases hk with rfl | rfl | rfl | rfl) <;> (first | exact std0 | exact std1)) (by exact rfl) ?_
        | refine yqQ (a := 1) (b := 3) rfl (by decide +kernel) (by decide +kernel) rfl rfl rfl (fun k h1 h2 hg => by (have hk : k = 1 ∨ k = 2 ∨ k = 3 := (by omega)); (rcases hk with rfl | rfl | rfl) <;> (first | exact std0 | exact std1)) (by exact rfl) ?_
        | refine yqQ (a := 2) (b := 3) rfl (by decide +kernel) (by decide +kernel) rfl rfl rfl (fun k h1 h2 hg => by (have hk : k = 2 ∨ k = 3 := (by omega)); (rcases hk with rfl | rfl) <;> (first | exact std0 | exact std1)) (by exact rfl) ?_
        | refine yqQ (a := 3) (b := 3) rfl (by decide +kernel) (by decide +kernel) rfl rfl rfl (fun k h1 h2 hg => by (have hk : k = 3 := (by omega)); (rcases hk with rfl) <;> (first | exact std0 | exact std1)) (by exact rfl) ?_)
       refine YQ.e (v := .any) (d := none) rfl rfl rfl ?_ ?_
       · intro env' he
         exact stW tabOk rfl rfl ((rdv_congr (he 68 (by decide +kernel))).trans rfl) (by rw [rdn_congr (he 68 (by decide +kernel))]; first | exact tI | exact rfl) rfl ((rdv_congr (he 64 (by decide +kernel))).trans rfl) (by rw [rdn_congr (he 64 (by decide +kernel))]; first | exact tI | exact rfl) rfl rfl rfl rfl rfl rfl rfl ⟨rfl, rfl⟩
       repeat' (first
        | refine yqQ (a := 0) (b := 0) rfl (by decide +kernel) (by decide +kernel) rfl rfl rfl (fun k h1 h2 hg => by (have hk : k = 0 := (by omega)); (rcases hk with rfl) <;> (first | exact std0 | exact std1)) (by exact rfl) ?_
        | refine yqQ (a := 0) (b := 1) rfl (by decide +kernel) (by decide +kernel) rfl rfl rfl (fun k h1 h2 hg => by (have hk : k = 0 ∨ k = 1 := (by omega)); (rcases hk with rfl | rfl) <;> (first | exact std0 | exact std1)) (by exact rfl) ?_
        | refine yqQ (a := 1) (b := 1) rfl (by decide +kernel) (by decide +kernel) rfl rfl rfl (fun k h1 h2 hg => by (have hk : k = 1 := (by omega)); (rcases hk with rfl) <;> (first | exact std0 | exact std1)) (by exact rfl) ?_
        | refine yqQ (a := 0) (b := 2) rfl (by decide +kernel) (by decide +kernel) rfl rfl rfl (fun k h1 h2 hg => by (have hk : k = 0 ∨ k = 1 ∨ k = 2 := (by omega)); (rcases hk with rfl | rfl | rfl) <;> (first | exact std0 | exact std1)) (by exact rfl) ?_
        | refine yqQ (a := 1) (b := 2) rfl (by decide +kernel) (by decide +kernel) rfl rfl rfl (fun k h1 h2 hg => by (have hk : k = 1 ∨ k = 2 := (by omega)); (rcases hk with rfl | rfl) <;> (first | exact std0 | exact std1)) (by exact rfl) ?_
        | refine yqQ (a := 2) (b := 2) rfl (by decide +kernel) (by decide +kernel) rfl rfl rfl (fun k h1 h2 hg => by (have hk : k = 2 := (by omega)); (rcases hk with rfl) <;> (first | exact std0 | exact std1)) (by exact rfl) ?_
        | refine yqQ (a := 0) (b := 3) rfl (by decide +kernel) (by decide +kernel) rfl rfl rfl (fun k h1 h2 hg => by (have hk : k = 0 ∨ k = 1 ∨ k = 2 ∨ k = 3 := (by omega)); (rcases hk with rfl | rfl | rfl | rfl) <;> (first | exact std0 | exact std1)) (by exact rfl) ?_
        | refine yqQ (a := 1) (b := 3) rfl (by decide +kernel) (by decide +kernel) rfl rfl rfl (fun k h1 h2 hg => by (have hk : k = 1 ∨ k = 2 ∨ k = 3 := (by omega)); (rcases hk with rfl | rfl | rfl) <;> (first | exact std0 | exact std1)) (by exact rfl) ?_
        | refine yqQ (a := 2) (b := 3) rfl (by decide +kernel) (by decide +kernel) rfl rfl rfl (fun k h1 h2 hg => by (have hk : k = 2 ∨ k = 3 := (by omega)); (rcases hk with rfl | rfl) <;> (first | exact std0 | exact std1)) (by exact rfl) ?_
        | refine yqQ (a := 3) (b := 3) rfl (by decide +kernel) (by decide +kernel) rfl rfl rfl (fun k h1 h2 hg => by (have hk : k = 3 := (by omega)); (rcases hk with rfl) <;> (first | exact std0 | exact std1)) (by exact rfl) ?_)
       refine YQ.e (v := .any) (d := none) rfl rfl rfl ?_ ?_
       · intro env' he
         exact stW tabOk rfl rfl ((rdv_congr (he 69 (by decide +kernel))).trans rfl) (by rw [rdn_congr (he 69 (by decide +kernel))]; first | exact tI | exact rfl) rfl ((rdv_congr (he 66 (by decide +kernel))).trans rfl) (by rw [rdn_congr (he 66 (by decide +kernel))]; first | exact tI | exact rfl) rfl rfl rfl rfl rfl rfl rfl ⟨rfl, rfl⟩
       repeat' (first
        | refine yqQ (a := 0) (b := 0) rfl (by decide +kernel) (by decide +kernel) rfl rfl rfl (fun k h1 h2 hg => by (have hk : k = 0 := (by omega)); (rcases hk with rfl) <;> (first | exact std0 | exact std1)) (by exact rfl) ?_
        | refine yqQ (a := 0) (b := 1) rfl (by decide +kernel) (by decide +kernel) rfl rfl rfl (fun k h1 h2 hg => by (have hk : k = 0 ∨ k = 1 := (by omega)); (rcases hk with rfl | rfl) <;> (first | exact std0 | exact std1)) (by exact rfl) ?_
        | refine yqQ (a := 1) (b := 1) rfl (by decide +kernel) (by decide +kernel) rfl rfl rfl (fun k h1 h2 hg => by (have hk : k = 1 := (by omega)); (rcases hk with rfl) <;> (first | exact std0 | exact std1)) (by exact rfl) ?_
        | refine yqQ (a := 0) (b := 2) rfl (by decide +kernel) (by decide +kernel) rfl rfl rfl (fun k h1 h2 hg => by (have hk : k = 0 ∨ k = 1 ∨ k = 2 := (by omega)); (rcases hk with rfl | rfl | rfl) <;> (first | exact std0 | exact std1)) (by exact rfl) ?_
        | refine yqQ (a := 1) (b := 2) rfl (by decide +kernel) (by decide +kernel) rfl rfl rfl (fun k h1 h2 hg => by (have hk : k = 1 ∨ k = 2 := (by omega)); (rcases hk with rfl | rfl) <;> (first | exact std0 | exact std1)) (by exact rfl) ?_
        | refine yqQ (a := 2) (b := 2) rfl (by decide +kernel) (by decide +kernel) rfl rfl rfl (fun k h1 h2 hg => by (have hk : k = 2 := (by omega)); (rcases hk with rfl) <;> (first | exact std0 | exact std1)) (by exact rfl) ?_
        | refine yqQ (a := 0) (b := 3) rfl (by decide +kernel) (by decide +kernel) rfl rfl rfl (fun k h1 h2 hg => by (have hk : k = 0 ∨ k = 1 ∨ k = 2 ∨ k = 3 := (by omega)); (rcases hk with rfl | rfl | rfl | rfl) <;> (first | exact std0 | exact std1)) (by exact rfl) ?_
        | refine yqQ (a := 1) (b := 3) rfl (by decide +kernel) (by decide +kernel) rfl rfl rfl (fun k h1 h2 hg => by (have hk : k = 1 ∨ k = 2 ∨ k = 3 := (by omega)); (rcases hk with rfl | rfl | rfl) <;> (first | exact std0 | exact std1)) (by exact rfl) ?_
        | refine yqQ (a := 2) (b := 3) rfl (by decide +kernel) (by decide +kernel) rfl rfl rfl (fun k h1 h2 hg => by (have hk : k = 2 ∨ k = 3 := (by omega)); (rcases hk with rfl | rfl) <;> (first | exact std0 | exact std1)) (by exact rfl) ?_
        | refine yqQ (a := 3) (b := 3) rfl (by decide +kernel) (by decide +kernel) rfl rfl rfl (fun k h1 h2 hg => by (have hk : k = 3 := (by omega)); (rcases hk with rfl) <;> (first | exact std0 | exact std1)) (by exact rfl) ?_)
       refine YQ.e (v := .any) (d := none) rfl rfl rfl ?_ ?_
       · intro env' he
         exact stW tabOk rfl rfl ((rdv_congr (he 70 (by decide +kernel))).trans rfl) (by rw [rdn_congr (he 70 (by decide +kernel))]; first | exact tI | exact rfl) rfl ((rdv_congr (he 67 (by decide +kernel))).trans rfl) (by rw [rdn_congr (he 67 (by decide +kernel))]; first | exact tI | exact rfl) rfl rfl rfl rfl rfl rfl rfl ⟨rfl, rfl⟩
       repeat' (first
        | refine yqQ (a := 0) (b := 0) rfl (by decide +kernel) (by decide +kernel) rfl rfl rfl (fun k h1 h2 hg => by (have hk : k = 0 := (by omega)); (rcases hk with rfl) <;> (first | exact std0 | exact std1)) (by exact rfl) ?_
        | refine yqQ (a := 0) (b := 1) rfl (by decide +kernel) (by decide +kernel) rfl rfl rfl (fun k h1 h2 hg => by (have hk : k = 0 ∨ k = 1 := (by omega)); (rcases hk with rfl | rfl) <;> (first | exact std0 | exact std1)) (by exact rfl) ?_
        | refine yqQ (a := 1) (b := 1) rfl (by decide +kernel) (by decide +kernel) rfl rfl rfl (fun k h1 h2 hg => by (have hk : k = 1 := (by omega)); (rcases hk with rfl) <;> (first | exact std0 | exact std1)) (by exact rfl) ?_
        | refine yqQ (a := 0) (b := 2) rfl (by decide +kernel) (by decide +kernel) rfl rfl rfl (fun k h1 h2 hg => by (have hk : k = 0 ∨ k = 1 ∨ k = 2 := (by omega)); (rcases hk with rfl | rfl | rfl) <;> (first | exact std0 | exact std1)) (by exact rfl) ?_
        | refine yqQ (a := 1) (b := 2) rfl (by decide +kernel) (by decide +kernel) rfl rfl rfl (fun k h1 h2 hg => by (have hk : k = 1 ∨ k = 2 := (by omega)); (rcases hk with rfl | rfl) <;> (first | exact std0 | exact std1)) (by exact rfl) ?_
        | refine yqQ (a := 2) (b := 2) rfl (by decide +kernel) (by decide +kernel) rfl rfl rfl (fun k h1 h2 hg => by (have hk : k = 2 := (by omega)); (rcases hk with rfl) <;> (first | exact std0 | exact std1)) (by exact rfl) ?_
        | refine yqQ (a := 0) (b := 3) rfl (by decide +kernel) (by decide +kernel) rfl rfl rfl (fun k h1 h2 hg => by (have hk : k = 0 ∨ k = 1 ∨ k = 2 ∨ k = 3 := (by omega)); (rcases hk with rfl | rfl | rfl | rfl) <;> (first | exact std0 | exact std1)) (by exact rfl) ?_
        | refine yqQ (a := 1) (b := 3) rfl (by decide +kernel) (by decide +kernel) rfl rfl rfl (fun k h1 h2 hg => by (have hk : k = 1 ∨ k = 2 ∨ k = 3 := (by omega)); (rcases hk with rfl | rfl | rfl) <;> (first | exact std0 | exact std1)) (by exact rfl) ?_
        | refine yqQ (a := 2) (b := 3) rfl (by decide +kernel) (by decide +kernel) rfl rfl rfl (fun k h1 h2 hg => by (have hk : k = 2 ∨ k = 3 := (by omega)); (rcases hk with rfl | rfl) <;> (first | exact std0 | exact std1)) (by exact rfl) ?_
        | refine yqQ (a := 3) (b := 3) rfl (by decide +kernel) (by decide +kernel) rfl rfl rfl (fun k h1 h2 hg => by (have hk : k = 3 := (by omega)); (rcases hk with rfl) <;> (first | exact std0 | exact std1)) (by exact rfl) ?_)
       refine YQ.nil (hK _ _ ?_)
       clear hK K'
       repeat' (first | refine aoQ rfl rfl rfl (fun hg => by exact std0) (by exact rfl) ?_ | refine sqW ?_ | refine rgK (fun K' hK => ?_) | (refine aoN (hK _ _ ?_); clear hK K') | refine aoE (stW tabOk rfl rfl rfl tI rfl rfl tI rfl rfl rfl rfl rfl rfl rfl ?_) | refine rtW ?_)
       refine ⟨.inr rfl, _, rfl, Ent.of ?_⟩
       rw [if_neg (show ¬ P.ok = false by simpa using hc0)]; rfl
 · rw [if_neg hx]
   have hne := err_ne (firstC (loL s e r m))
   rw [decide_eq_true hx] at hne
   have hcode := code_spec (firstC (loL s e r m))
   rw [show refuV (firstC (loL s e r m)) = errV (firstC (loL s e r m)) by unfold errV; rw [if_neg hx]] at hcode
   generalize hy : firstC (loL s e r m) = y at *
   generalize hev : errV y = ev at *
   refine PCall.bodyS tabOk Tryz.func13 rfl rfl Tryz.ntmps13 rfl ?_
   repeat refine sqW ?_
   refine rgK (fun K' hK => ?_)
   repeat' (first | refine aoQ rfl rfl rfl (fun hg => by exact std0) (by exact rfl) ?_ | refine aoE (bxW rfl rfl rfl rfl rfl tI rfl rfl ?_) | refine aoE (alW tabOk rfl rfl rfl rfl rfl rfl ?_))
   refine aoN (hK _ _ ?_)
   clear hK K'
   repeat refine sqW ?_
   refine rgK (fun K' hK => ?_)
   repeat' (first | refine aoE (stW tabOk rfl rfl rfl tI rfl rfl tI rfl rfl rfl rfl rfl rfl rfl ?_) | refine aoE (alW tabOk rfl rfl rfl rfl rfl rfl ?_))
   refine aoN (hK _ _ ?_)
   clear hK K'
   refine AWP.keep [(4, .ptr 0 0), (5, .ptr 1 0), (6, .ptr 2 0), (7, .ptr 3 0), (8, .ptr 4 0), (9, .b false), (10, .int 0), (11, .ptr 5 0)] ⟨rfl, rfl, rfl, rfl, rfl, rfl, rfl, rfl, tI⟩ ?_
   refine AWP.freezeV 0 rfl rfl ?_
   refine AWP.freezeV 1 rfl rfl ?_
   refine AWP.freezeV 2 rfl rfl ?_
   refine AWP.freezeV 3 rfl rfl ?_
   refine AWP.freezeVG 5 rfl (fn0_rel _) ?_
   refine AWP.keep [(4, .iptr (encS s)), (5, .iptr (Ed.encE e)), (6, .iptr (encRm r)), (7, .iptr (encMo m)), (8, .ptr 4 0), (9, .b false), (10, .int 0), (11, .iptr [.fn (.func 48) [] []])] ⟨rfl, rfl, rfl, rfl, rfl, rfl, rfl, rfl, tI⟩ ?_
   repeat' (first | refine aoQ rfl rfl rfl (fun hg => by first | exact std0 | exact pbS tabOk rfl rfl nds | exact pcW (hfirst) rfl rfl nd rfl nds | exact PRun.nilIfaceN errI rfl rfl nd hne | exact pbD tabOk rfl rfl nds | exact pcW (hcode) rfl rfl nd rfl nds) (by exact rfl) ?_ | refine sqW ?_ | refine rgK (fun K' hK => ?_) | (refine aoN (hK _ _ ?_); clear hK K') | refine aoE (stW tabOk rfl rfl rfl tI rfl rfl tI rfl rfl rfl rfl rfl rfl rfl ?_) | (refine cdW rfl tI (fun hc => ?_) (fun hc => ?_) <;> (first | (simp only [dEt] at hc) | (simp only [dEf, iNl, iNe] at hc) | skip)) | refine skW ?_ | refine rtW ?_)
   · exact ⟨.inr rfl, _, rfl, Ent.of rfl⟩
   · cases hc
end Go.Proofs.YtdglbdfdkabjfaaGreatDoor.Pl
namespace Go.Ab
def rvAB (T : Tab) (e : Env) (s : Store) : ResultVar → Option AV
 | .tmp t => some (e t)
 | .cell a t => match e a with
   | .ptr l off => match s[l]?, T.get t with
     | some (.var cs), some li => takeF li off cs
     | _, _ => none
   | _ => none
def rvsAB (T : Tab) (e : Env) (s : Store) : List ResultVar → Option (List AV)
 | [] => some []
 | x :: r => match rvAB T e s x, rvsAB T e s r with
   | some u, some us => some (u :: us)
   | _, _ => none
def retSB (T : Tab) (e : Env) (s : Store) : List ResultVar → Option AV
 | [x] => rvAB T e s x
 | l => (rvsAB T e s l).map .tup
theorem results_auxB {P : Program} {T : Tab} (hT : T.Ok P) {e : Env} {s : Store} {G : Gh} {w : World} {tmps : Array Value} {u : AV} (hs : SRel G s w) (hv : ∀ i, VRel G.M G.B (e i) (tmps.getD i undef)) (f : ResultVar → Sem Value) (hf1 : ∀ t, f (.tmp t) = pure (tmps.getD t undef))
    (hf2 : ∀ a t, f (.cell a t) = (do loadVar t (← asAddr (tmps.getD a undef)))) (l : List ResultVar) (h : retSB T e s l = some u) :
    ∃ v, (do let vs ← l.toArray.mapM f; pure (if h : vs.size = 1 then vs[0] else .tuple vs) : Sem Value).run P w = .ok v w ∧ VRel G.M G.B u v := by
  have one : ∀ (f : ResultVar → Sem Value), (∀ t, f (.tmp t) = pure (tmps.getD t undef)) → (∀ a t, f (.cell a t) = (do loadVar t (← asAddr (tmps.getD a undef)))) → ∀ x u, rvAB T e s x = some u → ∃ v, (f x).run P w = .ok v w ∧ VRel G.M G.B u v := by
    intro f h1 h2 x u hx
    cases x with
    | tmp t =>
      simp only [rvAB, Option.some.injEq] at hx
      subst hx
      exact ⟨_, by rw [h1]; rfl, hv t⟩
    | cell a t =>
      simp only [rvAB] at hx
      have h3 := hv a
      cases hea : e a with
      | ptr l' off =>
        rw [hea] at hx h3
        simp only at hx
        split at hx
        · rename_i cs li hσ hg
          obtain ⟨ad, v, g1, g2, g3⟩ := loadVar_rel hs (LOk.of (hT.get hg)) h3 hσ hx
          refine ⟨v, ?_, g3⟩
          rw [h2, g1, Sem.run_bind]
          exact g2
        · simp at hx
      | _ => rw [hea] at hx; simp at hx
  have key : ∀ (f : ResultVar → Sem Value), (∀ t, f (.tmp t) = pure (tmps.getD t undef)) → (∀ a t, f (.cell a t) = (do loadVar t (← asAddr (tmps.getD a undef)))) → ∀ l us, rvsAB T e s l = some us → ∃ vs : List Value, Sem.run P (l.mapM f) w = Result.ok vs w ∧ vs.length = us.length ∧ us.length = l.length ∧ ∀ (i : Nat) u v, us[i]? = some u → vs[i]? = some v → VRel G.M G.B u v := by
    intro f h1 h2 l
    induction l with
    | nil =>
      intro us hus
      simp only [rvsAB, Option.some.injEq] at hus; subst hus
      exact ⟨[], rfl, rfl, rfl, fun i u v h => by simp at h⟩
    | cons x l ih =>
      intro us hus
      simp only [rvsAB] at hus
      split at hus
      · rename_i u us' g1 g2
        simp only [Option.some.injEq] at hus; subst hus
        obtain ⟨v, g3, g4⟩ := one f h1 h2 x u g1
        obtain ⟨vs, g5, g6, g7, g8⟩ := ih us' g2
        refine ⟨v :: vs, ?_, by simp [g6], by simp [g7], fun i u' v' hu' hv' => ?_⟩
        · simp only [zCh, Sem.run_bind, g3, Result.andThen_ok, g5]
          rfl
        · cases i with
          | zero => simp at hu' hv'; subst hu' hv'; exact g4
          | succ i => exact g8 i u' v' (by simpa using hu') (by simpa using hv')
      · simp at hus
  simp only [List.mapM_toArray, Sem.run_bind, Sem.run_map]
  match l, h with
  | [x], h =>
    simp only [retSB] at h
    obtain ⟨vs, g5, g6, g7, g8⟩ := key f hf1 hf2 [x] [u] (by simp [rvsAB, h])
    rw [g5]
    match vs, g6 with
    | [v], _ => exact ⟨v, rfl, g8 0 u v rfl rfl⟩
  | [], h =>
    simp only [retSB, rvsAB, zBc, Option.some.injEq] at h; subst h
    exact ⟨.tuple #[], rfl, .tup _ _ rfl fun i c hi => by simp at hi⟩
  | x :: y :: r, h =>
    simp only [retSB, zA3] at h
    obtain ⟨us, hus, rfl⟩ := h
    obtain ⟨vs, g5, g6, g7, g8⟩ := key f hf1 hf2 _ us hus
    rw [g5]
    have hlen : vs.length = r.length + 2 := by rw [g6, g7]; rfl
    have hne : ¬ vs.toArray.size = 1 := by simp; omega
    refine ⟨.tuple vs.toArray, ?_, .tup _ _ (by simp [g6]) fun i c hi => ?_⟩
    · simp only [Result.andThen_ok, Sem.run_pure]
      rw [dif_neg hne]
    · have hlt : i < vs.length := by
        rw [g6]; rcases zA5 i us.length with h | h
        · exact h
        · simp [zA4 h] at hi
      have := g8 i c _ hi (zA1 hlt)
      simpa [hlt] using this
theorem results_relB {P : Program} {T : Tab} (hT : T.Ok P) {fn : Func} {e : Env} {s : Store} {G : Gh} {w : World} {tmps : Array Value} {u : AV} (hs : SRel G s w) (hv : ∀ i, VRel G.M G.B (e i) (tmps.getD i undef)) (h : retSB T e s fn.results.toList = some u) :
 ∃ v, (results fn tmps).run P w = .ok v w ∧ VRel G.M G.B u v := by
 unfold results
 obtain ⟨l, hl⟩ : ∃ l, fn.results = List.toArray l := ⟨fn.results.toList, by simp⟩
 rw [hl] at h ⊢
 refine results_auxB hT hs hv _ ?_ ?_ l h
 · exact fun _ => rfl
 · exact fun _ _ => rfl
theorem TCall.bodySB {P : Program} {T : Tab} (hT : T.Ok P) {f : FuncId} {fn : Func} {c : Code} {n : Nat} {avs : List AV} {σ : Store} {Q : AV → Store → Prop} (hf : P.funcs[f]? = some fn) (hb : fn.body = some c) (hnm : (fn.name == "runtime.NumGoroutine") = false)
 (hn : fn.ntmps = n) (hle' : decide (avs.length ≤ n) = true)
 (h : AWP P n c (fun x e s => (x = .normal ∨ x = .ret) ∧ ∃ (rv : AV) (σ' : Store), Q rv σ' ∧ s.take σ'.length = σ' ∧ σ.length ≤ σ'.length ∧ σ'.all (okObj σ'.length) = true ∧ okRef σ'.length 4 rv = true ∧ retSB T e s fn.results.toList = some rv) (Env.init avs) σ) : TCall P f avs σ Q := by
 refine ⟨⟨fn, hf, by simp [hb], hnm⟩, fun G w vs hs ha => ?_⟩
 refine (calls_body hf hb hn (of_decide_eq_true hle') h hs.enter rfl rfl ha (R := fun v w' => ∃ rv σ' G', Q rv σ' ∧ G.Le G' ∧ SRel G' σ' w' ∧ VRel G'.M G'.B rv v) (fun x e s hk => hk.1) ?_).mono ?_
 · rintro x e s G' tmps w' ⟨_, rv, σ', hQ, htk, hlen, hok, hokr, hu⟩ hm0 hw0 hM hB hs' hvals
   obtain ⟨v, g1, g2⟩ := results_relB hT hs' hvals hu
   refine ⟨v, g1, rv, σ', { G with M := G'.M, B := G'.B.take σ'.length }, hQ, .up hM fun l g hl => ?_, ?_, VRel.take 4 _ _ hokr g2⟩
   · obtain ⟨g', k1, k2⟩ := hB l g hl
     have : l < σ'.length := by
      have h1 : l < G.B.length := by
       rcases zA5 l G.B.length with h | h
       · exact h
       · simp [zA4 h] at hl
      rw [hs.len] at h1; omega
     exact ⟨g', take_get k1 this, k2⟩
   · have := hs'.take σ'.length (by rw [htk]; exact hok)
     rw [htk] at this
     exact hs.leave this hm0 hw0
 · rintro e w' ⟨v, rfl, rv, σ', G', h1, h2⟩
   exact ⟨v, rv, σ', G', rfl, h1, h2⟩
end Go.Ab
