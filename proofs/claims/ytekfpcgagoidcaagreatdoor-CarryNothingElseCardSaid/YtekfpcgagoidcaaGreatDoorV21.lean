/- Contracts by content: align: match: which notes belong together by a rule.  Contracts by content: align: least, table, total.  Contracts by content: align: table, total. No statement is proved here. -/
import Derived.Test.YtekfpcgagoidcaaGreatDoorV19
import Derived.Test.YtekfpcgagoidcaaGreatDoorV20
set_option linter.unusedVariables false
set_option linter.unusedSimpArgs false
namespace Go.Proofs.YtekfpcgagoidcaaGreatDoor.Al
open Go.Ab Go.Sort
attribute [local irreducible] AWP AOps EStep AQ PStep PRun PCall TCall VCall
def PureP (p : Nat → AObj) : Prop := ∀ i m, 8 ≤ m → okObj m (p i) = true
theorem okMapS (m : Nat) (al : PL) : okObj m (.map (Go.Ab.encM ekI AV.int al)) = true := by
  show (Go.Ab.encM ekI AV.int al).all (fun kv => okRef m 3 kv.2) = true
  rw [zA5]; intro x hx
  obtain ⟨p, _, rfl⟩ := zAp.1 hx
  rfl
theorem okVarM {m k : Nat} (h : k < m) : okObj m (.var [.map k]) = true := by
  show (decide (k < m) && true) = true
  rw [decide_eq_true h]; rfl
theorem MB_ok {p : Nat → AObj} (h : PureP p) {m : Nat} (hm : 10 ≤ m) (ps : PL) : (MB p ps).all (okObj m) = true := by
  have h0 := fun i => h i m (by omega)
  simp only [MB, zBg, zBm, h0, okMapS]; rfl
theorem MO_ok {p : Nat → AObj} (h : PureP p) {m : Nat} (hm : 10 ≤ m) (a b : List Note) (g : Nat) (ps : PL) : (MO p a b g ps).all (okObj m) = true := by
  have h0 := fun i => h i m (by omega)
  have h1 := okVarM (show 8 < m by omega)
  have h2 := okVarM (show 9 < m by omega)
  simp only [MO, zBg, zBm, h0, okMapS, h1, h2]; rfl
theorem MI_ok {p : Nat → AObj} (h : PureP p) {m : Nat} (hm : 10 ≤ m) (a b : List Note) (g : Nat) (ps : PL) (n : Note) : (MI p a b g ps n).all (okObj m) = true := by
  have h0 := fun i => h i m (by omega)
  have h1 := okVarM (show 8 < m by omega)
  have h2 := okVarM (show 9 < m by omega)
  simp only [MI, zBg, zBm, h0, okMapS, h1, h2]; rfl
def S14 (p : Nat → AObj) (b : List Note) (g : Nat) (ps : PL) : Store := [p 0, p 1, p 2, p 3, p 4, p 5, p 6, p 7, .map (Go.Ab.encM ekI AV.int ps), .map (Go.Ab.encM ekI AV.int (swp ps)), .var [.sl 12 (b.map encN) .no], .var [.map 8], .var [.map 9], .var [.fn (.func g) [] []]]
def S17 (p : Nat → AObj) (a b : List Note) (g : Nat) (ps : PL) (m : Note) : Store := [p 0, p 1, p 2, p 3, p 4, p 5, p 6, p 7, .map (Go.Ab.encM ekI AV.int ps), .map (Go.Ab.encM ekI AV.int (swp ps)), .var [.sl 12 (b.map encN) .no], .var [.map 8], .var [.map 9], .var [.fn (.func g) [] []], .var [.sl 12 (a.map encN) .no], .var [.map 8], .var (encN m)]
theorem S14_ok {p : Nat → AObj} (h : PureP p) {m : Nat} (hm : 10 ≤ m) (b : List Note) (g : Nat) (ps : PL) : (S14 p b g ps).all (okObj m) = true := by
  have h0 := fun i => h i m (by omega)
  have h1 := okVarM (show 8 < m by omega)
  have h2 := okVarM (show 9 < m by omega)
  simp only [S14, zBg, zBm, h0, okMapS, h1, h2]; rfl
theorem S17_ok {p : Nat → AObj} (h : PureP p) {m : Nat} (hm : 10 ≤ m) (a b : List Note) (g : Nat) (ps : PL) (n : Note) : (S17 p a b g ps n).all (okObj m) = true := by
  have h0 := fun i => h i m (by omega)
  have h1 := okVarM (show 8 < m by omega)
  have h2 := okVarM (show 9 < m by omega)
  simp only [S17, zBg, zBm, h0, okMapS, h1, h2]; rfl
theorem swp_app (ps : PL) (i k : Int) : swp (ps ++ [(i, k)]) = swp ps ++ [(k, i)] := by unfold swp; rw [zAu]; rfl
theorem freeA_at {a : List Note} {ps : PL} {f : Note → Note → Bool} {b : List Note} (hn : (a.map (·.id)).Nodup) {j : Nat} (hj : j < (freeA a ps).length) : fstIn (psAt f a b ps j) ((freeA a ps).getD j default).id = false := by
  have hnf : ((freeA a ps).map (·.id)).Nodup := (List.filter_sublist.map _).nodup hn
  have hmem : (freeA a ps).getD j default ∈ freeA a ps := by rw [getD_lt hj]; exact lGm hj
  unfold psAt
  rw [matchL_fst (fun x hx e => ?_)]
  · have := (zC0.1 hmem).2
    simpa using this
  · have h2 : (((freeA a ps).take (j + 1)).map (·.id)).Nodup := ((List.take_sublist (j + 1) _).map _).nodup hnf
    exact ((nodup_succ (fun n : Note => n.id) (freeA a ps) j hj).1 h2).2 (zAp.2 ⟨x, hx, e⟩)
theorem freeB_at {b : List Note} {ps : PL} {k : Nat} (hk : k < (freeB b ps).length) : sndIn ps ((freeB b ps).getD k default).id = false := by
  have hmem : (freeB b ps).getD k default ∈ freeB b ps := by rw [getD_lt hk]; exact lGm hk
  have := (zC0.1 hmem).2
  simpa using this
theorem lenB (b : List Note) (ps : PL) : (freeB b ps).length ≤ b.length := zCu _ _
def matchE : List (Nat × AV) := [(6, .ptr 10 0), (7, .ptr 11 0), (8, .ptr 12 0), (9, .ptr 13 0)]
def matchE2 : List (Nat × AV) := [(6, .ptr 10 0), (7, .ptr 11 0), (8, .ptr 12 0), (9, .ptr 13 0), (10, .ptr 16 0)]
def noFit (f : Note → Note → Bool) (m : Note) (b : List Note) (ps : PL) (k : Nat) : Prop := ∀ i, i < k → f m ((freeB b ps).getD i default) = false
def fitR (p : Nat → AObj) (f : Note → Note → Bool) (a b : List Note) (g : Nat) (ps : PL) (m : Note) (k : Nat) (x : Exit) (s : Store) : Prop :=
  k < (freeB b ps).length ∧ x = .exit 2 ∧ s = MI p a b g (ps ++ [(m.id, ((freeB b ps).getD k default).id)]) m ∧ noFit f m b ps k ∧ f m ((freeB b ps).getD k default) = true
set_option maxHeartbeats 16000000 in
set_option maxRecDepth 20000 in
theorem match_spec {p : Nat → AObj} (hp : PureP p) {f : Note → Note → Bool} {g : Nat} (hf : ∀ x y, PCall Tryz.prog g [.agg (encN x), .agg (encN y)] (.b (f x y))) (a b : List Note) (hla : a.length ≤ 1000000000) (hlb : b.length ≤ 1000000000) (hnd : (a.map (·.id)).Nodup) (ps : PL) :
    TCall Tryz.prog 59 [.sl 12 (a.map encN) .no, .sl 12 (b.map encN) .no, .map 8, .map 9, .fn (.func g) [] []] (MB p ps) (fun r s => r = .tup [] ∧ s = MB p (matchL f a b ps)) := by
  have hv1 := TCall.val (first := []) (caps := []) (avs := [.sl 12 (a.map encN) .no, .map 8]) (free_spec a 8 (S14 p b g ps) (by show 8 < 14; decide) (S14_ok hp (by show 10 ≤ 14; decide) b g ps))
  refine TCall.body Tryz.func59 rfl rfl Tryz.ntmps59 rfl rfl ?_
  repeat' (first | refine aoQ rfl rfl rfl (fun hg => by exact std0) (by exact rfl) ?_ | refine sqW ?_ | refine rgK (fun K' hK => ?_) | (refine aoN (hK _ _ ?_); clear hK K') | refine aoE (bxW rfl rfl rfl rfl rfl tI rfl rfl ?_) | refine aoE (scT (hv1) rfl rfl rfl rfl rfl nd rfl rfl nds ?_))
  rintro _ _ ⟨rfl, rfl⟩
  repeat' (first | (refine aoN (hK _ _ ?_); clear hK K') | refine blK ?_)
  refine AWP.rangeFuncP ((freeA a ps).map evN1) matchE (fun j => MO p a b g (psAt f a b ps j)) (fun _ => True) (fun _ _ _ => False) (fun rc => free_outer p f a b g ps hnd hla rc matchE (fun _ => True)) tI rfl tI ?_ ?_ rfl ⟨rfl, rfl, rfl, rfl, tI⟩ rfl rfl (fun j _ => ⟨rfl, MO_ok hp (by show 10 ≤ 16; decide) a b g _⟩) (fun _ _ _ h => h.elim) ?_ ?_ (fun _ _ _ _ h => h.elim)
  · intro x hx
    obtain ⟨n, _, rfl⟩ := zAp.1 hx; rfl
  · intro x hx
    obtain ⟨n, _, rfl⟩ := zAp.1 hx; rfl
  · intro j x hx _
    have hj : j < (freeA a ps).length := by
      rcases nLg j (freeA a ps).length with h | h
      · exact h
      · rw [zA3 (by simpa using h)] at hx; cases hx
    obtain ⟨m, hm⟩ : ∃ m, (freeA a ps).getD j default = m := ⟨_, rfl⟩
    have hxm : x = evN1 m := by
      rw [zA9, zA8 hj, zB8] at hx
      rw [← hm, getD_lt hj]; simpa using hx.symm
    subst hxm
    have hmf := freeA_at (f := f) (b := b) hnd hj
    have hst := psAt_succ (f := f) (b := b) hj
    rw [hm] at hmf hst
    have lB := lenB b (psAt f a b ps j)
    show AWP _ _ _ (fun x e s => x = .normal ∧ AWP _ _ _ (roundKP 16 (MO p a b g (psAt f a b ps (j + 1))) True fun _ _ => False) e s) _ (MO p a b g (psAt f a b ps j))
    rw [hst]
    generalize psAt f a b ps j = q at *
    have hv2 := TCall.val (first := []) (caps := []) (avs := [.sl 12 (b.map encN) .no, .map 9]) (free_spec b 9 (S17 p a b g q m) (by show 9 < 17; decide) (S17_ok hp (by show 10 ≤ 17; decide) a b g q m))
    clear hv1 hst hx
    repeat' (first | refine rgK (fun K' hK => ?_) | (refine aoN (hK _ _ ?_); clear hK K') | refine aoE (stW tabOk rfl rfl rfl tI rfl rfl tI rfl rfl rfl rfl rfl rfl rfl ?_) | refine aoE (alW tabOk rfl rfl rfl rfl rfl rfl ?_))
    refine ⟨rfl, ?_⟩
    repeat' (first | refine aoQ rfl rfl rfl (fun hg => by exact std0) (by exact rfl) ?_ | refine sqW ?_ | refine rgK (fun K' hK => ?_) | refine aoE (scT (hv2) rfl rfl rfl rfl rfl nd rfl rfl nds ?_) | refine blK ?_)
    rintro _ _ ⟨rfl, rfl⟩
    repeat' (first | (refine aoN (hK _ _ ?_); clear hK K') | refine blK ?_)
    refine AWP.rangeFuncP ((freeB b q).map evN1) matchE2 (fun _ => MI p a b g q m) (noFit f m b q) (fitR p f a b g q m) (fun rc => free_inner p a b g q m hlb rc matchE2 (noFit f m b q)) (fun i h => absurd h (Nat.not_lt_zero _)) rfl tI ?_ ?_ rfl ⟨rfl, rfl, rfl, rfl, rfl, tI⟩ rfl rfl (fun j _ => ⟨rfl, MI_ok hp (by show 10 ≤ 19; decide) a b g _ _⟩) ?_ ?_ ?_ ?_
    · intro x hx
      obtain ⟨n, _, rfl⟩ := zAp.1 hx; rfl
    · intro x hx
      obtain ⟨n, _, rfl⟩ := zAp.1 hx; rfl
    · rintro k x s ⟨_, _, rfl, _⟩
      exact ⟨rfl, MI_ok hp (by show 10 ≤ 19; decide) a b g _ _⟩
    · intro k x hx hno
      have hk : k < (freeB b q).length := by
        rcases nLg k (freeB b q).length with h | h
        · exact h
        · rw [zA3 (by simpa using h)] at hx; cases hx
      obtain ⟨y, hy⟩ : ∃ y, (freeB b q).getD k default = y := ⟨_, rfl⟩
      have hxy : x = evN1 y := by
        rw [zA9, zA8 hk, zB8] at hx
        rw [← hy, getD_lt hk]; simpa using hx.symm
      subst hxy
      have hyf := freeB_at (b := b) (ps := q) hk
      rw [hy] at hyf
      have hfm := hf m y
      have h1 : ins q m.id y.id = q ++ [(m.id, y.id)] := ins_new hmf
      have h2 : ins (swp q) y.id m.id = swp (q ++ [(m.id, y.id)]) := by
        rw [swp_app]; exact ins_new (by rw [← lk_fst, sndIn_swp]; exact hyf)
      have hin : fitR p f a b g q m k (.exit 2) (MI p a b g (q ++ [(m.id, y.id)]) m) ↔ f m y = true := by
        unfold fitR; rw [hy]; exact ⟨fun h => h.2.2.2.2, fun h => ⟨hk, rfl, rfl, hno, h⟩⟩
      clear hv2 hx
      show AWP _ _ _ (fun x e s => x = .normal ∧ AWP _ _ _ (roundKP 19 (MI p a b g q m) (noFit f m b q (k + 1)) (fitR p f a b g q m k)) e s) _ (MI p a b g q m)
      repeat' (first | refine rgK (fun K' hK => ?_) | (refine aoN (hK _ _ ?_); clear hK K') | refine aoE (stW tabOk rfl rfl rfl tI rfl rfl tI rfl rfl rfl rfl rfl rfl rfl ?_) | refine aoE (alW tabOk rfl rfl rfl rfl rfl rfl ?_))
      refine ⟨rfl, ?_⟩
      repeat' (first | refine aoQ rfl rfl rfl (fun hg => by first | exact std0 | exact pcW (hfm) rfl rfl nd rfl nds) (by exact rfl) ?_ | refine sqW ?_ | refine rgK (fun K' hK => ?_) | (refine aoN (hK _ _ ?_); clear hK K') | (refine cdW rfl tI (fun hc => ?_) (fun hc => ?_) <;> (first | (simp only [dEt] at hc) | (simp only [dEf, zA0, zA1] at hc) | skip)) | refine blK ?_ | refine skW ?_)
      · refine AWP.drawYM effOp (fun j => match j with | 0 => MI p a b g q m ++ [.var (encN y)] | 1 => [p 0, p 1, p 2, p 3, p 4, p 5, p 6, p 7, .map (Go.Ab.encM ekI AV.int (q ++ [(m.id, y.id)])), .map (Go.Ab.encM ekI AV.int (swp q)), .var [.sl 12 (b.map encN) .no], .var [.map 8], .var [.map 9], .var [.fn (.func g) [] []], .var [.sl 12 (a.map encN) .no], .var [.map 8], .var (encN m), .var [.sl 12 (b.map encN) .no], .var [.map 9], .var (encN y)] | _ => MI p a b g (q ++ [(m.id, y.id)]) m ++ [.var (encN y)]) rfl (by kernel_rfl) (by decide +kernel) rfl (by decide +kernel) (fun K' hK => ?_)
        repeat' (first
          | refine yqQ (a := 0) (b := 0) rfl (by decide +kernel) (by decide +kernel) rfl rfl rfl (fun k h1 h2 hg => by (have hk : k = 0 := (by omega)); (rcases hk with rfl) <;> (first | exact std0 | exact std1)) (by exact rfl) ?_
          | refine yqQ (a := 0) (b := 1) rfl (by decide +kernel) (by decide +kernel) rfl rfl rfl (fun k h1 h2 hg => by (have hk : k = 0 ∨ k = 1 := (by omega)); (rcases hk with rfl | rfl) <;> (first | exact std0 | exact std1)) (by exact rfl) ?_
          | refine yqQ (a := 1) (b := 1) rfl (by decide +kernel) (by decide +kernel) rfl rfl rfl (fun k h1 h2 hg => by (have hk : k = 1 := (by omega)); (rcases hk with rfl) <;> (first | exact std0 | exact std1)) (by exact rfl) ?_
          | refine yqQ (a := 0) (b := 2) rfl (by decide +kernel) (by decide +kernel) rfl rfl rfl (fun k h1 h2 hg => by (have hk : k = 0 ∨ k = 1 ∨ k = 2 := (by omega)); (rcases hk with rfl | rfl | rfl) <;> (first | exact std0 | exact std1)) (by exact rfl) ?_
          | refine yqQ (a := 1) (b := 2) rfl (by decide +kernel) (by decide +kernel) rfl rfl rfl (fun k h1 h2 hg => by (have hk : k = 1 ∨ k = 2 := (by omega)); (rcases hk with rfl | rfl) <;> (first | exact std0 | exact std1)) (by exact rfl) ?_
          | refine yqQ (a := 2) (b := 2) rfl (by decide +kernel) (by decide +kernel) rfl rfl rfl (fun k h1 h2 hg => by (have hk : k = 2 := (by omega)); (rcases hk with rfl) <;> (first | exact std0 | exact std1)) (by exact rfl) ?_)
        refine YQ.e (v := .any) (d := none) rfl rfl rfl ?_ ?_
        · intro env' he
          refine EStep.mapUpd (ek := ekI) (ev := AV.int) (al := q) (key := m.id) (v := y.id) (keyLaw_int (LOk.of (tabOk.get rfl))) (LOk.of (tabOk.get rfl)) rfl rfl rfl (Rd.w ((rdv_congr (he 24 (by decide +kernel))).trans rfl) (by rw [rdn_congr (he 24 (by decide +kernel))]; first | exact tI | exact rfl)) rfl (Rd.w ((rdv_congr (he 26 (by decide +kernel))).trans rfl) (by rw [rdn_congr (he 26 (by decide +kernel))]; first | exact tI | exact rfl)) rfl (Rd.w ((rdv_congr (he 31 (by decide +kernel))).trans rfl) (by rw [rdn_congr (he 31 (by decide +kernel))]; first | exact tI | exact rfl)) ⟨rfl, ?_⟩
          rw [h1]; rfl
        refine YQ.e (v := .any) (d := none) rfl rfl rfl ?_ ?_
        · intro env' he
          refine EStep.mapUpd (ek := ekI) (ev := AV.int) (al := swp q) (key := y.id) (v := m.id) (keyLaw_int (LOk.of (tabOk.get rfl))) (LOk.of (tabOk.get rfl)) rfl rfl rfl (Rd.w ((rdv_congr (he 27 (by decide +kernel))).trans rfl) (by rw [rdn_congr (he 27 (by decide +kernel))]; first | exact tI | exact rfl)) rfl (Rd.w ((rdv_congr (he 29 (by decide +kernel))).trans rfl) (by rw [rdn_congr (he 29 (by decide +kernel))]; first | exact tI | exact rfl)) rfl (Rd.w ((rdv_congr (he 33 (by decide +kernel))).trans rfl) (by rw [rdn_congr (he 33 (by decide +kernel))]; first | exact tI | exact rfl)) ⟨rfl, ?_⟩
          rw [h2]; rfl
        refine YQ.nil (hK _ _ ?_)
        clear hK K'
        repeat' (first | refine exW ?_)
        exact hin.2 hc
      · refine ⟨rfl, fun i hi => lt_succ_cases hno ?_ hi⟩
        rw [hy]; exact hc
    · intro hno
      skip
      refine ⟨?_, tI⟩
      show _ = MO p a b g (stepM f b q m)
      rw [lLm] at hno
      rw [stepM_none hmf hno]; rfl
    · rintro k x s hk ⟨hk, rfl, rfl, hno, hft⟩
      skip
      refine ⟨?_, tI⟩
      show _ = MO p a b g (stepM f b q m)
      rw [stepM_at hmf hk hno hft]; rfl
  · intro _
    have he := psAt_end (f := f) (a := a) (b := b) (ps := ps)
    rw [lLm]
    skip
    refine ⟨.inl rfl, .tup [], MB p (matchL f a b ps), ⟨rfl, rfl⟩, ?_, by show 10 ≤ 10; decide, MB_ok hp (by show 10 ≤ 10; decide) _, rfl, rfl⟩
    show (MO p a b g (psAt f a b ps (freeA a ps).length)).take 10 = _
    rw [he]; rfl
end Go.Proofs.YtekfpcgagoidcaaGreatDoor.Al
namespace Go.Ab
theorem AWP.unownA {P : Program} {n : Nat} {c : Code} {K : Exit → Env → Store → Prop} {env : Env} {σ : Store} (d : Nat) {sz : Nat} {t : Tok} {es : List (List AV)} (hd : env d = .sl sz es t) (hk : AWP P n c K (env.put d (.sl sz es .no)) σ) : AWP P n c K env σ :=
  fun G a w hr => hk G a w ⟨hr.size, hr.defers, fun i => by
    by_cases h : i = d
    · subst h
      have := hr.vals i
      rw [hd] at this
      simp only [Env.put, if_true]
      exact EntB.no _ _ _ _ _ _ this
    · simp only [Env.put, if_neg h]; exact hr.vals i, hr.st⟩
def effCl (o : Oper) : Bool := match o.op with
  | .call { callee := .value _, .. } => true
  | _ => effOp o
end Go.Ab
namespace Go.Proofs.YtekfpcgagoidcaaGreatDoor.Al
open Go.Ab Go.Sort
attribute [local irreducible] AWP AOps EStep AQ PStep PRun PCall TCall VCall
def encI (n : Int) : List AV := [.int n]
def encRow (r : List Int) : List AV := [.sl 1 (r.map encI) .no]
def leastQ (o0 o1 o2 : AObj) (a b : Score) (al : NL) (kn : List (KeyP × Int)) (i k : Nat) (r : AV) (s : Store) : Prop :=
  r = .int (T (costR a b) i k) ∧ s = PairS o0 o1 o2 a b al (if i = 0 then kn else if k = 0 then kn else knI a b kn (i - 1) (k - 1))
theorem T_in (a b : Score) (i k : Nat) : 0 ≤ T (costR a b) i k ∧ T (costR a b) i k ≤ 2 * ((i : Int) + k) := ⟨(T_low (fun i k => (costR_in a b i k).1) i k).1, T_le i k⟩
set_option maxHeartbeats 8000000 in
set_option maxRecDepth 20000 in
theorem least_spec {o0 o1 o2 : AObj} (h3 : Pure3 o0 o1 o2) {a b : Score} (ha : Nts a) (hb : Nts b) {al : NL} (hg0 : Grp a b al) {kn : List (KeyP × Int)} (hkn : KnOk a b kn) {i k w : Nat} (hi : i ≤ a.bars.length) (hk : k ≤ b.bars.length) (hkw : k < w) :
    TCall Tryz.prog 93 [.ptr 7 0, .sl 1 ((tableL (costR a b) i w).map encRow) .no, .sl 1 ((rowL (costR a b) i k).map encI) .no] (PairS o0 o1 o2 a b al kn) (leastQ o0 o1 o2 a b al kn i k) := by
  have ha1 := ha.bars
  have hb1 := hb.bars
  have l1 := tableL_len (costR a b) i w
  have l2 := rowL_len (costR a b) i k
  cases i with
  | zero =>
    cases k with
    | zero =>
      refine TCall.body Tryz.func93 rfl rfl Tryz.ntmps93 rfl rfl ?_
      repeat' (first | refine aoQ rfl rfl rfl (fun hg => by first | exact PRun.eq (v := .int (rowL (costR a b) 0 0).length) (PRun.lenM tabOk rfl rfl nd rfl) (congrArg (fun n : Nat => AV.int n) l2) | exact PRun.eq (v := .int (tableL (costR a b) 0 w).length) (PRun.lenM tabOk rfl rfl nd rfl) (congrArg (fun n : Nat => AV.int n) l1) | exact std0 | exact std1) (by exact rfl) ?_ | refine sqW ?_ | refine rgK (fun K' hK => ?_) | (refine aoN (hK _ _ ?_); clear hK K') | (refine cdW rfl tI (fun hc => ?_) (fun hc => ?_) <;> (first | (simp only [dEt] at hc) | (simp only [dEf, zA0, zA1] at hc) | skip)) | refine skW ?_ | refine rtW ?_ | refine dK2 (by decide +kernel) (by kernel_rfl) (by decide +kernel) rfl (fun K' hK => ?_) | refine aqQ rfl rfl (fun hg => by first | exact std0 | exact std1) (by exact rfl) ?_)
      all_goals (first | (exfalso; omega) | (exfalso; simp at hc; done) | skip)
      exact ⟨.inr rfl, _, PairS o0 o1 o2 a b al kn, ⟨congrArg AV.int (by rw [T_zero]; rfl), rfl⟩, rfl, nLr _, pairS_ok h3 (nLr _) a b al kn, rfl, rfl⟩
    | succ k =>
      obtain ⟨t1, t2⟩ := T_in a b 0 k
      have e1 : (rowL (costR a b) 0 (k + 1)).getD (((k + 1 : Nat) : Int) - 1).toNat default = T (costR a b) 0 k := by
        rw [show (((k + 1 : Nat) : Int) - 1).toNat = k by omega]; exact rowL_get (zBs _) _
      have e2 := T_zero (c := costR a b) (k + 1)
      have e3 := T_zero (c := costR a b) k
      refine TCall.body Tryz.func93 rfl rfl Tryz.ntmps93 rfl rfl ?_
      repeat' (first | refine aoQ rfl rfl rfl (fun hg => by first | exact iX encI (rowL (costR a b) 0 (k + 1)) (((k + 1 : Nat) : Int) - 1) e1 (hb := by rw [l2]; omega) | exact PRun.eq (v := .int (rowL (costR a b) 0 (k + 1)).length) (PRun.lenM tabOk rfl rfl nd rfl) (congrArg (fun n : Nat => AV.int n) l2) | exact PRun.eq (v := .int (tableL (costR a b) 0 w).length) (PRun.lenM tabOk rfl rfl nd rfl) (congrArg (fun n : Nat => AV.int n) l1) | exact std0 | exact std1) (by exact rfl) ?_ | refine sqW ?_ | refine rgK (fun K' hK => ?_) | (refine aoN (hK _ _ ?_); clear hK K') | (refine cdW rfl tI (fun hc => ?_) (fun hc => ?_) <;> (first | (simp only [dEt] at hc) | (simp only [dEf, zA0, zA1] at hc) | skip)) | refine skW ?_ | refine rtW ?_ | refine dK2 (by decide +kernel) (by kernel_rfl) (by decide +kernel) rfl (fun K' hK => ?_) | refine aqQ rfl rfl (fun hg => by first | exact std0 | exact std1) (by exact rfl) ?_)
      all_goals (first | (exfalso; omega) | (exfalso; simp at hc; done) | (exfalso; simp at hc; omega) | skip)
      exact ⟨.inr rfl, _, PairS o0 o1 o2 a b al kn, ⟨congrArg AV.int (by omega), rfl⟩, rfl, nLr _, pairS_ok h3 (nLr _) a b al kn, rfl, rfl⟩
  | succ i =>
    have e0 : (tableL (costR a b) (i + 1) w).getD (((i + 1 : Nat) : Int) - 1).toNat default = rowL (costR a b) i w := by
      rw [show (((i + 1 : Nat) : Int) - 1).toNat = i by omega]; exact tableL_get (zBs _) _
    have l3 := rowL_len (costR a b) i w
    obtain ⟨t1, t2⟩ := T_in a b i k
    have e4 : (rowL (costR a b) i w).getD ((k : Nat) : Int).toNat default = T (costR a b) i k := rowL_get hkw _
    cases k with
    | zero =>
      have e2 := T_left (c := costR a b) (i + 1)
      have e3 := T_left (c := costR a b) i
      refine TCall.body Tryz.func93 rfl rfl Tryz.ntmps93 rfl rfl ?_
      repeat' (first | refine aoQ rfl rfl rfl (fun hg => by first | exact iX encI (rowL (costR a b) i w) ((0 : Nat) : Int) e4 (hb := by rw [l3]; omega) | exact iX encRow (tableL (costR a b) (i + 1) w) (((i + 1 : Nat) : Int) - 1) e0 (hb := by rw [l1]; omega) | exact PRun.eq (v := .int (rowL (costR a b) (i + 1) 0).length) (PRun.lenM tabOk rfl rfl nd rfl) (congrArg (fun n : Nat => AV.int n) l2) | exact PRun.eq (v := .int (tableL (costR a b) (i + 1) w).length) (PRun.lenM tabOk rfl rfl nd rfl) (congrArg (fun n : Nat => AV.int n) l1) | exact std0 | exact std1) (by exact rfl) ?_ | refine sqW ?_ | refine rgK (fun K' hK => ?_) | (refine aoN (hK _ _ ?_); clear hK K') | (refine cdW rfl tI (fun hc => ?_) (fun hc => ?_) <;> (first | (simp only [dEt] at hc) | (simp only [dEf, zA0, zA1] at hc) | skip)) | refine skW ?_ | refine rtW ?_ | refine dK2 (by decide +kernel) (by kernel_rfl) (by decide +kernel) rfl (fun K' hK => ?_) | refine aqQ rfl rfl (fun hg => by first | exact iX encI (rowL (costR a b) i w) ((0 : Nat) : Int) e4 (hb := by rw [l3]; omega) | exact iX encRow (tableL (costR a b) (i + 1) w) (((i + 1 : Nat) : Int) - 1) e0 (hb := by rw [l1]; omega) | exact std0) (by exact rfl) ?_)
      all_goals (first | (exfalso; omega) | (exfalso; simp at hc; done) | (exfalso; simp at hc; omega) | skip)
      exact ⟨.inr rfl, _, PairS o0 o1 o2 a b al kn, ⟨congrArg AV.int (by omega), rfl⟩, rfl, nLr _, pairS_ok h3 (nLr _) a b al kn, rfl, rfl⟩
    | succ k =>
      have e5 : (rowL (costR a b) (i + 1) (k + 1)).getD (((k + 1 : Nat) : Int) - 1).toNat default = T (costR a b) (i + 1) k := by
        rw [show (((k + 1 : Nat) : Int) - 1).toNat = k by omega]; exact rowL_get (zBs _) _
      have e6 : (rowL (costR a b) i w).getD (((k + 1 : Nat) : Int) - 1).toNat default = T (costR a b) i k := by
        rw [show (((k + 1 : Nat) : Int) - 1).toNat = k by omega]; exact rowL_get (by omega) _
      have e7 := T_succ (c := costR a b) i k
      have e8 := T_le (c := costR a b) i (k + 1)
      obtain ⟨t3, t4⟩ := T_in a b (i + 1) k
      obtain ⟨t5, t6⟩ := T_in a b i k
      have c1 := costR_in a b i k
      have hc0 := TCall.val (first := []) (caps := []) (avs := [.ptr 7 0, .int i, .int k]) (cost_spec h3 ha hb hg0 hkn (show i < a.bars.length by omega) (show k < b.bars.length by omega))
      have hi1 : AV.int (((i + 1 : Nat) : Int) - 1) = AV.int i := congrArg AV.int (by omega)
      have hk1 : AV.int (((k + 1 : Nat) : Int) - 1) = AV.int k := congrArg AV.int (by omega)
      refine TCall.body Tryz.func93 rfl rfl Tryz.ntmps93 rfl rfl ?_
      repeat' (first | refine aoQ rfl rfl rfl (fun hg => by first | exact iX encI (rowL (costR a b) (i + 1) (k + 1)) (((k + 1 : Nat) : Int) - 1) e5 (hb := by rw [l2]; omega) | exact iX encI (rowL (costR a b) i w) ((k + 1 : Nat) : Int) (x := T (costR a b) i (k + 1)) (rowL_get hkw _) (hb := by rw [l3]; omega) | exact iX encRow (tableL (costR a b) (i + 1) w) (((i + 1 : Nat) : Int) - 1) e0 (hb := by rw [l1]; omega) | exact PRun.eq (v := .int (rowL (costR a b) (i + 1) (k + 1)).length) (PRun.lenM tabOk rfl rfl nd rfl) (congrArg (fun n : Nat => AV.int n) l2) | exact PRun.eq (v := .int (tableL (costR a b) (i + 1) w).length) (PRun.lenM tabOk rfl rfl nd rfl) (congrArg (fun n : Nat => AV.int n) l1) | exact std0) (by exact rfl) ?_ | refine sqW ?_ | refine rgK (fun K' hK => ?_) | (refine aoN (hK _ _ ?_); clear hK K') | (refine cdW rfl tI (fun hc => ?_) (fun hc => ?_) <;> (first | (simp only [dEt] at hc) | (simp only [dEf, zA0, zA1] at hc) | skip)) | refine skW ?_ | refine rtW ?_)
      all_goals (first | (exfalso; omega) | (exfalso; simp at hc; done) | (exfalso; simp at hc; omega) | skip)
      refine AWP.drawYM effCl (fun j => match j with | 0 => PairS o0 o1 o2 a b al kn | _ => PairS o0 o1 o2 a b al (knI a b kn i k)) rfl (by kernel_rfl) (by decide +kernel) rfl (by decide +kernel) (fun K' hK => ?_)
      repeat' (first
        | refine yqQ (a := 0) (b := 0) rfl (by decide +kernel) (by decide +kernel) rfl rfl rfl (fun k h1 h2 hg => by (have hk : k = 0 := (by omega)); (rcases hk with rfl) <;> (first | exact iX encI (rowL (costR a b) i w) ((k : Nat) : Int) (x := T (costR a b) i k) (rowL_get (by omega) _) (hb := by rw [l3]; omega) | exact iX encRow (tableL (costR a b) (i + 1) w) ((i : Nat) : Int) (tableL_get (zBs _) _) (hb := by rw [l1]; omega) | exact PRun.eq (PRun.step tabOk rfl sd) hk1 | exact PRun.eq (PRun.step tabOk rfl sd) hi1 | exact std0 | exact std1)) (by exact rfl) ?_
        | refine yqQ (a := 0) (b := 1) rfl (by decide +kernel) (by decide +kernel) rfl rfl rfl (fun k h1 h2 hg => by (have hk : k = 0 ∨ k = 1 := (by omega)); (rcases hk with rfl | rfl) <;> (first | exact iX encI (rowL (costR a b) i w) ((k : Nat) : Int) (x := T (costR a b) i k) (rowL_get (by omega) _) (hb := by rw [l3]; omega) | exact iX encRow (tableL (costR a b) (i + 1) w) ((i : Nat) : Int) (tableL_get (zBs _) _) (hb := by rw [l1]; omega) | exact PRun.eq (PRun.step tabOk rfl sd) hk1 | exact PRun.eq (PRun.step tabOk rfl sd) hi1 | exact std0 | exact std1)) (by exact rfl) ?_
        | refine yqQ (a := 1) (b := 1) rfl (by decide +kernel) (by decide +kernel) rfl rfl rfl (fun k h1 h2 hg => by (have hk : k = 1 := (by omega)); (rcases hk with rfl) <;> (first | exact iX encI (rowL (costR a b) i w) ((k : Nat) : Int) (x := T (costR a b) i k) (rowL_get (by omega) _) (hb := by rw [l3]; omega) | exact iX encRow (tableL (costR a b) (i + 1) w) ((i : Nat) : Int) (tableL_get (zBs _) _) (hb := by rw [l1]; omega) | exact PRun.eq (PRun.step tabOk rfl sd) hk1 | exact PRun.eq (PRun.step tabOk rfl sd) hi1 | exact std0 | exact std1)) (by exact rfl) ?_
        | refine yqQ (a := 0) (b := 2) rfl (by decide +kernel) (by decide +kernel) rfl rfl rfl (fun k h1 h2 hg => by (have hk : k = 0 ∨ k = 1 ∨ k = 2 := (by omega)); (rcases hk with rfl | rfl | rfl) <;> (first | exact iX encI (rowL (costR a b) i w) ((k : Nat) : Int) (x := T (costR a b) i k) (rowL_get (by omega) _) (hb := by rw [l3]; omega) | exact iX encRow (tableL (costR a b) (i + 1) w) ((i : Nat) : Int) (tableL_get (zBs _) _) (hb := by rw [l1]; omega) | exact PRun.eq (PRun.step tabOk rfl sd) hk1 | exact PRun.eq (PRun.step tabOk rfl sd) hi1 | exact std0 | exact std1)) (by exact rfl) ?_
        | refine yqQ (a := 1) (b := 2) rfl (by decide +kernel) (by decide +kernel) rfl rfl rfl (fun k h1 h2 hg => by (have hk : k = 1 ∨ k = 2 := (by omega)); (rcases hk with rfl | rfl) <;> (first | exact iX encI (rowL (costR a b) i w) ((k : Nat) : Int) (x := T (costR a b) i k) (rowL_get (by omega) _) (hb := by rw [l3]; omega) | exact iX encRow (tableL (costR a b) (i + 1) w) ((i : Nat) : Int) (tableL_get (zBs _) _) (hb := by rw [l1]; omega) | exact PRun.eq (PRun.step tabOk rfl sd) hk1 | exact PRun.eq (PRun.step tabOk rfl sd) hi1 | exact std0 | exact std1)) (by exact rfl) ?_
        | refine yqQ (a := 2) (b := 2) rfl (by decide +kernel) (by decide +kernel) rfl rfl rfl (fun k h1 h2 hg => by (have hk : k = 2 := (by omega)); (rcases hk with rfl) <;> (first | exact iX encI (rowL (costR a b) i w) ((k : Nat) : Int) (x := T (costR a b) i k) (rowL_get (by omega) _) (hb := by rw [l3]; omega) | exact iX encRow (tableL (costR a b) (i + 1) w) ((i : Nat) : Int) (tableL_get (zBs _) _) (hb := by rw [l1]; omega) | exact PRun.eq (PRun.step tabOk rfl sd) hk1 | exact PRun.eq (PRun.step tabOk rfl sd) hi1 | exact std0 | exact std1)) (by exact rfl) ?_)
      refine YQ.e (v := .int (costR a b i k)) (d := some 62) rfl rfl rfl ?_ ?_
      · intro env' he
        refine scT hc0 rfl rfl rfl rfl rfl tI rfl (by simp only [rds, rdv_congr (he 57 (by decide +kernel)), rdv_congr (he 59 (by decide +kernel)), rdv_congr (he 61 (by decide +kernel))]; rfl) ⟨(by rw [rdn_congr (he 57 (by decide +kernel))]; first | exact tI | exact rfl), (by rw [rdn_congr (he 59 (by decide +kernel))]; first | exact tI | exact rfl), (by rw [rdn_congr (he 61 (by decide +kernel))]; first | exact tI | exact rfl), tI⟩ ?_
        rintro _ _ ⟨rfl, rfl⟩
        exact ⟨rfl, rfl⟩
      repeat' (first
        | refine yqQ (a := 0) (b := 0) rfl (by decide +kernel) (by decide +kernel) rfl rfl rfl (fun k h1 h2 hg => by (have hk : k = 0 := (by omega)); (rcases hk with rfl) <;> (first | exact std0 | exact std1)) (by exact rfl) ?_
        | refine yqQ (a := 0) (b := 1) rfl (by decide +kernel) (by decide +kernel) rfl rfl rfl (fun k h1 h2 hg => by (have hk : k = 0 ∨ k = 1 := (by omega)); (rcases hk with rfl | rfl) <;> (first | exact std0 | exact std1)) (by exact rfl) ?_
        | refine yqQ (a := 1) (b := 1) rfl (by decide +kernel) (by decide +kernel) rfl rfl rfl (fun k h1 h2 hg => by (have hk : k = 1 := (by omega)); (rcases hk with rfl) <;> (first | exact std0 | exact std1)) (by exact rfl) ?_
        | refine yqQ (a := 0) (b := 2) rfl (by decide +kernel) (by decide +kernel) rfl rfl rfl (fun k h1 h2 hg => by (have hk : k = 0 ∨ k = 1 ∨ k = 2 := (by omega)); (rcases hk with rfl | rfl | rfl) <;> (first | exact std0 | exact std1)) (by exact rfl) ?_
        | refine yqQ (a := 1) (b := 2) rfl (by decide +kernel) (by decide +kernel) rfl rfl rfl (fun k h1 h2 hg => by (have hk : k = 1 ∨ k = 2 := (by omega)); (rcases hk with rfl | rfl) <;> (first | exact std0 | exact std1)) (by exact rfl) ?_
        | refine yqQ (a := 2) (b := 2) rfl (by decide +kernel) (by decide +kernel) rfl rfl rfl (fun k h1 h2 hg => by (have hk : k = 2 := (by omega)); (rcases hk with rfl) <;> (first | exact std0 | exact std1)) (by exact rfl) ?_)
      refine YQ.nil (hK _ _ ?_)
      clear hK K'
      repeat' (first | refine aoQ rfl rfl rfl (fun hg => by exact std0) (by exact rfl) ?_ | refine sqW ?_ | refine rgK (fun K' hK => ?_) | (refine aoN (hK _ _ ?_); clear hK K') | refine rtW ?_)
      exact ⟨.inr rfl, _, PairS o0 o1 o2 a b al (knI a b kn i k), ⟨congrArg AV.int (by omega), rfl⟩, rfl, nLr _, pairS_ok h3 (nLr _) a b al _, rfl, rfl⟩
def tableQ (o0 o1 o2 : AObj) (a b : Score) (al : NL) (r : AV) (s : Store) : Prop :=
  r = .sl 1 ((tableL (costR a b) (a.bars.length + 1) (b.bars.length + 1)).map encRow) .no ∧ ∃ kn, KnOk a b kn ∧ s = PairS o0 o1 o2 a b al kn
theorem okOwn1 (m l n : Nat) (o : Store) : (o ++ [AObj.own l n]).all (okObj m) = o.all (okObj m) := by rw [zCp]; simp [okObj]
theorem rowE (c : Nat → Nat → Int) (i k : Nat) : (rowL c i (k + 1)).map encI = (rowL c i k).map encI ++ [[AV.int (T c i k)]] := by rw [rowL_succ, zAu]; rfl
theorem tabE (c : Nat → Nat → Int) (i w : Nat) : (tableL c (i + 1) w).map encRow = (tableL c i w).map encRow ++ [[AV.sl 1 ((rowL c i w).map encI) .no]] := by rw [tableL_succ, zAu]; rfl
set_option maxHeartbeats 8000000 in
set_option maxRecDepth 20000 in
theorem table_spec {o0 o1 o2 : AObj} (h3 : Pure3 o0 o1 o2) {a b : Score} (ha : Nts a) (hb : Nts b) {al : NL} (hg0 : Grp a b al) {kn : List (KeyP × Int)} (hkn : KnOk a b kn) :
    TCall Tryz.prog 48 [.ptr 7 0] (PairS o0 o1 o2 a b al kn) (tableQ o0 o1 o2 a b al) := by
  have ha1 := ha.bars
  have hb1 := hb.bars
  refine TCall.body Tryz.func48 rfl rfl Tryz.ntmps48 rfl rfl ?_
  repeat' (first | refine aoQ rfl rfl rfl (fun hg => by first | exact std0 | exact std1) (by exact rfl) ?_ | refine sqW ?_ | refine rgK (fun K' hK => ?_) | (refine aoN (hK _ _ ?_); clear hK K') | refine blK ?_)
  refine AWP.ownNil (d := 3) (sz := 1) rfl ?_
  refine lpD (ι := Nat × List (KeyP × Int)) (fun q => [(0, .ptr 7 0), (3, .sl 1 ((tableL (costR a b) q.1 (b.bars.length + 1)).map encRow) (.own 8)), (11, .int (a.bars.length + 1)), (12, .int q.1)]) (fun q => PairS o0 o1 o2 a b al q.2 ++ [.own 1 ((tableL (costR a b) q.1 (b.bars.length + 1)).map encRow).length])
    (fun q => q.1 ≤ a.bars.length + 1 ∧ KnOk a b q.2) (fun q => a.bars.length + 1 - q.1) 9 (fun _ => rfl) (0, kn) ⟨nZl _, hkn⟩ ⟨rfl, rfl, rfl, rfl, tI⟩ rfl (fun _ _ => rfl) (fun q _ => by rw [okOwn1]; exact pairS_ok h3 (by decide) a b al _) ?_
  rintro ⟨i, kn1⟩ ⟨hi, hk1⟩
  dsimp only at hi hk1
  have l1 := tableL_len (costR a b) i (b.bars.length + 1)
  have et := tabE (costR a b) i (b.bars.length + 1)
  by_cases hlt : i < a.bars.length + 1
  · repeat' (first | refine aoQ rfl rfl rfl (fun hg => by first | exact std0 | exact std1) (by exact rfl) ?_ | refine sqW ?_ | refine rgK (fun K' hK => ?_) | (refine aoN (hK _ _ ?_); clear hK K') | (refine cdW rfl tI (fun hc => ?_) (fun hc => ?_) <;> (first | (simp only [dEt] at hc) | (simp only [dEf, zA0, zA1] at hc) | skip)) | refine blK ?_ | refine exW ?_ | refine skW ?_ | refine rtW ?_)
    all_goals (first | (exfalso; omega) | (exfalso; simp at hc; done) | (exfalso; simp at hc; omega) | (exfalso; simp only [dEf, dEt] at hc; omega) | (rename_i h0; exfalso; simp at h0; done) | (rename_i h0; exfalso; simp at h0; omega) | skip)
    refine AWP.ownNil (d := 4) (sz := 1) rfl ?_
    refine lpD (ι := Nat × List (KeyP × Int)) (fun q => [(0, .ptr 7 0), (3, .sl 1 ((tableL (costR a b) i (b.bars.length + 1)).map encRow) (.own 8)), (4, .sl 1 ((rowL (costR a b) i q.1).map encI) (.own 9)), (11, .int (a.bars.length + 1)), (12, .int i), (20, .int (b.bars.length + 1)), (21, .int q.1)])
      (fun q => PairS o0 o1 o2 a b al q.2 ++ [.own 1 ((tableL (costR a b) i (b.bars.length + 1)).map encRow).length] ++ [.own 1 ((rowL (costR a b) i q.1).map encI).length])
      (fun q => q.1 ≤ b.bars.length + 1 ∧ KnOk a b q.2) (fun q => b.bars.length + 1 - q.1) 10 (fun _ => rfl) (0, kn1) ⟨nZl _, hk1⟩ ⟨rfl, rfl, rfl, rfl, rfl, rfl, rfl, tI⟩ rfl (fun _ _ => rfl) (fun q _ => by rw [okOwn1, okOwn1]; exact pairS_ok h3 (by decide) a b al _) ?_
    rintro ⟨k, kn2⟩ ⟨hk, hk2⟩
    dsimp only at hk hk2
    have l2 := rowL_len (costR a b) i k
    by_cases hlk : k < b.bars.length + 1
    · have er := rowE (costR a b) i k
      have hk3 : KnOk a b (if i = 0 then kn2 else if k = 0 then kn2 else knI a b kn2 (i - 1) (k - 1)) := by
        split
        · exact hk2
        · split
          · exact hk2
          · exact hk2.knI _ _
      have hl0 := TCall.frame (least_spec h3 ha hb hg0 hk2 (show i ≤ a.bars.length by omega) (show k ≤ b.bars.length by omega) (show k < b.bars.length + 1 from hlk)) ([.own 1 ((tableL (costR a b) i (b.bars.length + 1)).map encRow).length] ++ [.own 1 ((rowL (costR a b) i k).map encI).length]) (pairS_ok h3 (nLr _) a b al _) rfl (fun rv s h => by rw [h.2]; rfl)
      have hl1 := TCall.args (avs' := [.ptr 7 0, .sl 1 ((tableL (costR a b) i (b.bars.length + 1)).map encRow) (.own 8), .sl 1 ((rowL (costR a b) i k).map encI) (.own 9)]) hl0 rfl (fun j u v hu hv => by
        match j, hu, hv with
        | 0, hu, hv => cases hu; cases hv; exact EntB.refl _
        | 1, hu, hv => cases hu; cases hv; exact EntB.no _ _ _
        | 2, hu, hv => cases hu; cases hv; exact EntB.no _ _ _
        | j + 3, hu, hv => cases hu)
      have hv1 := TCall.val (first := []) (caps := []) (avs := [.ptr 7 0, .sl 1 ((tableL (costR a b) i (b.bars.length + 1)).map encRow) (.own 8), .sl 1 ((rowL (costR a b) i k).map encI) (.own 9)]) hl1
      repeat' (first | refine aoQ rfl rfl rfl (fun hg => by exact std0) (by exact rfl) ?_ | refine sqW ?_ | refine rgK (fun K' hK => ?_) | (refine aoN (hK _ _ ?_); clear hK K') | refine aoE (scT (hv1) rfl rfl rfl rfl rfl nd rfl rfl nds ?_) | (refine cdW rfl tI (fun hc => ?_) (fun hc => ?_) <;> (first | (simp only [dEt] at hc) | (simp only [dEf, zA0, zA1] at hc) | skip)) | refine blK ?_ | refine exW ?_ | refine skW ?_)
      all_goals (first | (exfalso; omega) | (exfalso; simp at hc; done) | (exfalso; simp at hc; omega) | (exfalso; simp only [dEf, dEt] at hc; omega) | (rename_i h0; exfalso; simp at h0; done) | (rename_i h0; exfalso; simp at h0; omega) | skip)
      rintro _ _ ⟨σ', rfl, rfl, rfl⟩
      repeat' (first | refine aoQ rfl rfl rfl (fun hg => by first | exact std0 | exact pbS tabOk rfl rfl nds) (by exact rfl) ?_ | refine rgK (fun K' hK => ?_) | (refine aoN (hK _ _ ?_); clear hK K') | refine aoE (apO tabOk rfl rfl rfl (by decide) (Rd.w rfl tI) rfl (Rd.w rfl tI) (.sl rfl (by first | (intro x hx; rcases zAo.1 hx with rfl; rfl) | exact one_encN _)) (LOk.of (tabOk.get rfl)) (LOk.of (tabOk.get rfl)) rfl rfl (by simp only [lLm, lLa, zAd, zAi, zB3, zBj]; omega) (by simp only [lLm, lLa, zAd, zAi, zB3, zBj]; omega) ?_))
      refine ⟨(k + 1, if i = 0 then kn2 else if k = 0 then kn2 else knI a b kn2 (i - 1) (k - 1)), ⟨hlk, hk3⟩, by show b.bars.length + 1 - (k + 1) < b.bars.length + 1 - k; omega, ⟨rfl, rfl, ?_, rfl, rfl, rfl, rfl, tI⟩, ?_⟩
      · show _ = AV.sl 1 ((rowL (costR a b) i (k + 1)).map encI) (.own 9)
        rw [er]; rfl
      · show _ = PairS o0 o1 o2 a b al _ ++ [.own 1 ((tableL (costR a b) i (b.bars.length + 1)).map encRow).length] ++ [.own 1 ((rowL (costR a b) i (k + 1)).map encI).length]
        rw [er]; rfl
    · obtain rfl : k = b.bars.length + 1 := by omega
      repeat' (first | refine aoQ rfl rfl rfl (fun hg => by first | exact std0 | exact pbS tabOk rfl rfl nds) (by exact rfl) ?_ | refine sqW ?_ | refine rgK (fun K' hK => ?_) | (refine aoN (hK _ _ ?_); clear hK K') | refine aoE (apO tabOk rfl rfl rfl (by decide) (Rd.w rfl tI) rfl (Rd.w rfl tI) (.sl rfl (by first | (intro x hx; rcases zAo.1 hx with rfl; rfl) | exact one_encN _)) (LOk.of (tabOk.get rfl)) (LOk.of (tabOk.get rfl)) rfl rfl (by simp only [lLm, lLa, zAd, zAi, zB3, zBj]; omega) (by simp only [lLm, lLa, zAd, zAi, zB3, zBj]; omega) ?_) | (refine cdW rfl tI (fun hc => ?_) (fun hc => ?_) <;> (first | (simp only [dEt] at hc) | (simp only [dEf, zA0, zA1] at hc) | skip)) | refine blK ?_ | refine exW ?_ | refine skW ?_)
      all_goals (first | (exfalso; omega) | (exfalso; simp at hc; done) | (exfalso; simp at hc; omega) | (exfalso; simp only [dEf, dEt] at hc; omega) | (rename_i h0; exfalso; simp at h0; done) | (rename_i h0; exfalso; simp at h0; omega) | skip)
      refine ⟨(i + 1, kn2), ⟨hlt, hk2⟩, by show a.bars.length + 1 - (i + 1) < a.bars.length + 1 - i; omega, ⟨rfl, ?_, rfl, rfl, tI⟩, ?_⟩
      · show _ = AV.sl 1 ((tableL (costR a b) (i + 1) (b.bars.length + 1)).map encRow) (.own 8)
        rw [et]; rfl
      · show _ = PairS o0 o1 o2 a b al _ ++ [.own 1 ((tableL (costR a b) (i + 1) (b.bars.length + 1)).map encRow).length]
        rw [et]; rfl
  · obtain rfl : i = a.bars.length + 1 := by omega
    refine AWP.unownA 3 rfl ?_
    repeat' (first | refine aoQ rfl rfl rfl (fun hg => by first | exact std0 | exact std1) (by exact rfl) ?_ | refine sqW ?_ | refine rgK (fun K' hK => ?_) | (refine aoN (hK _ _ ?_); clear hK K') | (refine cdW rfl tI (fun hc => ?_) (fun hc => ?_) <;> (first | (simp only [dEt] at hc) | (simp only [dEf, zA0, zA1] at hc) | skip)) | refine blK ?_ | refine exW ?_ | refine skW ?_ | refine rtW ?_)
    all_goals (first | (exfalso; omega) | (exfalso; simp at hc; done) | (exfalso; simp at hc; omega) | (exfalso; simp only [dEf, dEt] at hc; omega) | (rename_i h0; exfalso; simp at h0; done) | (rename_i h0; exfalso; simp at h0; omega) | skip)
    exact ⟨.inr rfl, _, PairS o0 o1 o2 a b al kn1, ⟨rfl, kn1, hk1, rfl⟩, rfl, nLr _, pairS_ok h3 (nLr _) a b al _, rfl, rfl⟩
end Go.Proofs.YtekfpcgagoidcaaGreatDoor.Al
