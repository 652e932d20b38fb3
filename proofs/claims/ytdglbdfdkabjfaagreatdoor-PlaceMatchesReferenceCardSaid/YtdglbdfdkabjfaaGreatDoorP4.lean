/- The abstract program logic, part 4. No statement is proved here. -/
import Derived.RangeFuncIn
import Derived.RangeFuncNested
import Derived.Test.YtdglbdfdkabjfaaGreatDoorP3
set_option linter.unusedVariables false
set_option linter.unusedSimpArgs false
/- Regions that draw their order, with a chain of effects among quiet operations. -/
namespace Go.Ab
section
variable {P : Program} {n : Nat} {ops : Array Oper} {md : Region.Mode} {S : Nat → Store} {m : Nat}
inductive XS (P : Program) (n : Nat) (ops : Array Oper) (S : Nat → Store) (m : Nat) (eff : Oper → Bool) (o : Oper) (env : Env) : Nat → AV → Nat → Prop
 | quiet {j : Nat} {v : AV} (hj : j ≤ m) (he : eff o = false) (h : ∀ k, k ≤ m → PStep P ops o env (S k) v) : XS P n ops S m eff o env j v j
 | eff {j : Nat} {v : AV} (hj : j < m) (he : eff o = true) (h : ∀ env', (∀ x ∈ o.looksAt ops, env' x = env x) → EStep P n ops o (fun e s => e = env'.putO o.dst v ∧ s = S (j + 1)) env' (S j)) : XS P n ops S m eff o env j v (j + 1)
variable {eff : Oper → Bool}
def xq (P : Program) (n : Nat) (ops : Array Oper) (S : Nat → Store) (m : Nat) (eff : Oper → Bool) (i : Nat) (K : Env → Nat → Prop) (env : Env) (j : Nat) : Prop :=
 match ops[i]? with
 | none => K env j
 | some o => ∃ v j', XS P n ops S m eff o env j v j' ∧ K (env.putO o.dst v) j'
end
end Go.Ab
/- Drawn regions with effects, in the walk's form. -/
namespace Go.Ab
section
variable {P : Program} {n : Nat} {ops : Array Oper} {S : Nat → Store} {m j : Nat} {eff : Oper → Bool} {o : Oper} {rest : List Oper} {K : Env → Nat → Prop} {env : Env}
end
end Go.Ab
/- Calls that change the caller's own objects: contracts over a store; function values; the frame rule. -/
namespace Go.Ab
def ArgsB (G : Gh) (avs : List AV) (vs : Array Value) : Prop := vs.size = avs.length ∧ ∀ (i : Nat) (c : AV), avs[i]? = some c → VRel G.M G.B c (vs.getD i undef)
def TCall (P : Program) (f : FuncId) (avs : List AV) (σ : Store) (Q : AV → Store → Prop) : Prop :=
 FnOk P f ∧ ∀ (G : Gh) (w : World) (vs : Array Value), SRel G σ w → ArgsB G avs vs →
  Calls P f vs w (fun e w' => ∃ v rv σ' G', e = .returned v ∧ Q rv σ' ∧ G.Le G' ∧ SRel G' σ' w' ∧ VRel G'.M G'.B rv v)
def uponV (P : Program) (K : Value → World → Prop) : Result Next → Prop
 | .ok (.enter f args) w' => Calls P f args w' fun
  | .returned v, w'' => K v w''
  | _, _ => False
 | .ok (.round l f tmps assign body) w' => ∀ ro, RoundIn (FR ro) 0 P l f tmps assign body w' fun
  | .returned v, w'' => K v w''
  | _, _ => False
 | _ => False
theorem uponV_mono {P : Program} {K K' : Value → World → Prop} {r : Result Next} (h : ∀ a w, K a w → K' a w) (hh : uponV P K r) : uponV P K' r := by
 cases r with
 | ok n w' =>
   cases n <;> simp only [uponV] at hh ⊢ <;>
    first
     | exact hh.elim
     | exact Calls.mono hh (fun e w'' he => by cases e <;> first | exact h _ _ he | exact he.elim)
     | exact fun ro => RoundIn.mono (hh ro) (fun e w'' he => by cases e <;> first | exact h _ _ he | exact he.elim)
 | halt x w' => cases x <;> simp only [uponV] at hh
def VCall (P : Program) (fv : AV) (avs : List AV) (σ : Store) (Q : AV → Store → Prop) : Prop :=
 ∀ (G : Gh) (w : World) (fn : Fn) (vf vc vs : Array Value), SRel G σ w → VRel G.M G.B fv (.func fn vf vc) → ArgsB G avs vs →
  uponV P (fun v w' => ∃ rv σ' G', Q rv σ' ∧ G.Le G' ∧ SRel G' σ' w' ∧ VRel G'.M G'.B rv v) ((invoke (.fn fn vc) (vf ++ vs)).run P w)
theorem TCall.mono {P : Program} {f : FuncId} {avs : List AV} {σ : Store} {Q Q' : AV → Store → Prop} (h : TCall P f avs σ Q) (hq : ∀ r s, Q r s → Q' r s) : TCall P f avs σ Q' :=
 ⟨h.1, fun G w vs hs ha => (h.2 G w vs hs ha).mono fun _ _ ⟨v, rv, s, G', h1, h2, h3⟩ => ⟨v, rv, s, G', h1, hq _ _ h2, h3⟩⟩
theorem VCall.mono {P : Program} {fv : AV} {avs : List AV} {σ : Store} {Q Q' : AV → Store → Prop} (h : VCall P fv avs σ Q) (hq : ∀ r s, Q r s → Q' r s) : VCall P fv avs σ Q' :=
 fun G w fn vf vc vs hs hf ha => uponV_mono (fun _ _ ⟨rv, s, G', h2, h3⟩ => ⟨rv, s, G', hq _ _ h2, h3⟩) (h G w fn vf vc vs hs hf ha)
theorem ArgsB.append {G : Gh} {a b : List AV} {x y : Array Value} (h : ArgsB G a x) (h' : ArgsB G b y) : ArgsB G (a ++ b) (x ++ y) := by
 refine ⟨by simp [h.1, h'.1], fun i c hi => ?_⟩
 rcases zA5 i x.size with hlt | hge
 · rw [zA7 (by rw [← h.1]; exact hlt)] at hi
   have := h.2 i c hi
   simp only [zA2] at this ⊢
   rwa [zAg hlt]
 · rw [zA8 (by rw [← h.1]; exact hge), ← h.1] at hi
   have := h'.2 _ c hi
   simp only [zA2] at this ⊢
   rwa [zAo hge]
theorem TCall.val {P : Program} {f : FuncId} {first caps avs : List AV} {σ : Store} {Q : AV → Store → Prop} (h : TCall P f (first ++ avs ++ caps) σ Q) : VCall P (.fn (.func f) first caps) avs σ Q := by
 intro G w fn vf vc vs hs hf ha
 cases hf with
 | fn _ _ _ _ _ hvf hvc h1 h2 =>
   have hrun : (invoke (.fn (.func f) vc) (vf ++ vs)).run P w = .ok (.enter f (vf ++ vs ++ vc)) w := by
    simp only [invoke]
    exact run_callFunc h.1 _ w
   rw [hrun]
   simp only [uponV]
   refine (h.2 G w _ hs ((ArgsB.append ⟨hvf, h1⟩ ha).append ⟨hvc, h2⟩)).mono ?_
   rintro e w' ⟨v, rv, s, G', rfl, h3⟩
   exact ⟨rv, s, G', h3⟩
def Gh.enter (G : Gh) (w : World) : Gh :=
 { M0 := G.M, w0 := ⟨w, fun b => b < w.heap.size ∧ ∀ (l : Nat) (g : GB), G.B[l]? = some g → g.block ≠ some b, fun _ h => h.1⟩, M := G.M, B := G.B }
theorem SRel.enter {G : Gh} {σ : Store} {w : World} (h : SRel G σ w) : SRel (G.enter w) σ w :=
 ⟨h.memok, fun _ _ => ⟨fun _ => rfl, rfl⟩, ⟨zAh _, fun _ _ => rfl⟩, h.len, h.objs, fun l g b h1 h2 => ⟨fun hp => hp.2 l g h1 h2, (h.fresh l g b h1 h2).2⟩, h.inj, OutR.refl _, ⟨fun _ hp => (by cases hp), fun _ hp => (by cases hp)⟩⟩
theorem SRel.leave {G G' : Gh} {σ σ' : Store} {w w' : World} (h : SRel G σ w) (h' : SRel G' σ' w') (hm0 : G'.M0 = G.M) (hw0 : G'.w0 = (G.enter w).w0) : SRel { G with M := G'.M, B := G'.B } σ' w' := by
 have pr : ∀ b, G.w0.prot b → G'.w0.prot b := fun b hb => by
  rw [hw0]
  exact ⟨h.plow hb, fun l g h1 h2 => (h.fresh l g b h1 h2).1 hb⟩
 have hbase := h'.base
 refine ⟨h'.memok, fun b hb => ?_, ⟨zC3 h.base.1 (by rw [hw0] at hbase; exact hbase.1), fun b hb => ?_⟩, h'.len, h'.objs, fun l g b h1 h2 => ?_, h'.inj, ?_, ⟨fun p hp => ?_, h.dfr.2⟩⟩
 · have h1 := h'.m0 b (pr b hb)
   rw [hm0] at h1
   exact ⟨fun o => (h1.1 o).trans ((h.m0 b hb).1 o), h1.2.trans (h.m0 b hb).2⟩
 · have h1 := h'.base.2 b (pr b hb)
   rw [hw0] at h1
   exact h1.trans (h.base.2 b hb)
 · have := h'.fresh l g b h1 h2
   exact ⟨fun hp => this.1 (pr b hp), this.2⟩
 · have := h'.out
   rw [hw0] at this
   exact h.out.trans this
 · obtain ⟨k1, k2, k3, k4, k5⟩ := h.dfr.1 p hp
   have hpr : G'.w0.prot p.1 := by rw [hw0]; exact ⟨h.dfr_lt hp, k3⟩
   have h1 := h'.base.2 _ hpr
   rw [hw0] at h1
   have h2 := h'.m0 _ hpr
   rw [hm0] at h2
   exact ⟨h1.trans k1, k2, fun l g hl e => (h'.fresh l g _ hl e).1 hpr, fun o => (h2.1 o).trans (k4 o), h2.2.trans k5⟩
def retBs (e : Env) : List ResultVar → Option (List AV)
 | [] => some []
 | .tmp t :: r => match (e t).wh, retBs e r with
   | some v, some vs => some (v :: vs)
   | _, _ => none
 | .cell _ _ :: _ => none
def retB (e : Env) : List ResultVar → Option AV
 | [.tmp t] => (e t).wh
 | l => (retBs e l).map .tup
theorem retBs_rel {e : Env} {M : Mem} {B : List GB} {tmps : Array Value} (hv : ∀ i, VRel M B (e i) (tmps.getD i undef)) : ∀ {l : List ResultVar} {us : List AV}, retBs e l = some us →
 us.length = l.length ∧ ∀ (i : Nat) (c : AV), us[i]? = some c → VRel M B c ((l.map (rvOf tmps)).toArray.getD i undef)
 | [], us, h => by simp [retBs] at h; subst h; exact ⟨rfl, fun i c hi => by simp at hi⟩
 | .cell _ _ :: _, us, h => by simp [retBs] at h
 | .tmp t :: r, us, h => by
   simp only [retBs] at h
   split at h
   · rename_i v vs h1 h2
     simp at h; subst h
     obtain ⟨k1, k2⟩ := retBs_rel hv h2
     refine ⟨by simp [k1], fun i c hi => ?_⟩
     cases i with
     | zero => simp at hi; subst hi; rw [← AV.wh_eq h1]; simpa [rvOf] using hv t
     | succ i =>
       simp at hi
       have := k2 i c hi
       simpa [zA2] using this
   · simp at h
theorem retB_rel {e : Env} {M : Mem} {B : List GB} {tmps : Array Value} (hv : ∀ i, VRel M B (e i) (tmps.getD i undef)) {l : List ResultVar} {u : AV} (h : retB e l = some u) : VRel M B u (resVal tmps l) := by
 have many : ∀ us, retBs e l = some us → VRel M B (.tup us) (.tuple (l.map (rvOf tmps)).toArray) := fun us hu => by
  obtain ⟨k1, k2⟩ := retBs_rel hv hu
  exact .tup _ _ (by simp [k1]) k2
 match l, h, many with
 | [], h, many => simp [retB, retBs] at h; subst h; exact many [] rfl
 | [.tmp t], h, _ => simp only [retB] at h; rw [← AV.wh_eq h]; exact hv t
 | [.cell _ _], h, _ => simp [retB, retBs] at h
 | .tmp t :: y :: r, h, many =>
   simp only [retB, zA3] at h
   obtain ⟨us, h1, rfl⟩ := h
   exact many us h1
 | .cell _ _ :: y :: r, h, _ => simp [retB, retBs] at h
theorem TCall.body {P : Program} {f : FuncId} {fn : Func} {c : Code} {n : Nat} {avs : List AV} {σ : Store} {Q : AV → Store → Prop} (hf : P.funcs[f]? = some fn) (hb : fn.body = some c) (hnm : (fn.name == "runtime.NumGoroutine") = false)
 (hn : fn.ntmps = n) (hle' : decide (avs.length ≤ n) = true) (hres : allTmp fn.results.toList = true)
 (h : AWP P n c (fun x e s => (x = .normal ∨ x = .ret) ∧ ∃ (rv : AV) (σ' : Store), Q rv σ' ∧ s.take σ'.length = σ' ∧ σ.length ≤ σ'.length ∧ σ'.all (okObj σ'.length) = true ∧ okRef σ'.length 4 rv = true ∧
  retB e fn.results.toList = some rv) (Env.init avs) σ) : TCall P f avs σ Q := by
 refine ⟨⟨fn, hf, by simp [hb], hnm⟩, fun G w vs hs ha => ?_⟩
 refine (calls_body hf hb hn (of_decide_eq_true hle') h hs.enter rfl rfl ha (R := fun v w' => ∃ rv σ' G', Q rv σ' ∧ G.Le G' ∧ SRel G' σ' w' ∧ VRel G'.M G'.B rv v) (fun x e s hk => hk.1) ?_).mono ?_
 · rintro x e s G' tmps w' ⟨_, rv, σ', hQ, htk, hlen, hok, hokr, hv⟩ hm0 hw0 hM hB hs' hvals
   refine ⟨_, run_results hres _ _, rv, σ', { G with M := G'.M, B := G'.B.take σ'.length }, hQ, .up hM fun l g hl => ?_, ?_, VRel.take 4 _ _ hokr (retB_rel hvals hv)⟩
   · obtain ⟨g', k1, k2⟩ := hB l g hl
     have : l < σ'.length := by
      have h1 : l < G.B.length := by
       rcases zA5 l G.B.length with h | h
       · exact h
       · simp [zA4 h] at hl
      rw [hs.len] at h1; omega
     exact ⟨g', take_get k1 this, k2⟩
   · have := hs'.take σ'.length (by rw [htk]; exact hok)
     rw [htk] at this
     exact hs.leave this hm0 hw0
 · rintro e w' ⟨v, rfl, rv, σ', G', h1, h2⟩
   exact ⟨v, rv, σ', G', rfl, h1, h2⟩
theorem frame_core {G : Gh} {σ τ : Store} {w : World} (hs : SRel G (σ ++ τ) w) (hok : σ.all (okObj σ.length) = true) :
 SRel (Gh.enter { G with B := G.B.take σ.length } w) σ w ∧ ∀ (G' : Gh) (σ' : Store) (w' : World), SRel G' σ' w' → σ'.length = σ.length → (Gh.enter { G with B := G.B.take σ.length } w).Le G' →
  ∃ G'' : Gh, G.Le G'' ∧ SRel G'' (σ' ++ τ) w' ∧ G''.M = G'.M ∧ BLe G'.B G''.B := by
 have htk : (σ ++ τ).take σ.length = σ := by simp
 have hs1 : SRel { G with B := G.B.take σ.length } σ w := by
  have := hs.take σ.length (by rw [htk]; exact hok)
  rwa [htk] at this
 have hlen : G.B.length = σ.length + τ.length := by rw [hs.len]; simp
 refine ⟨hs1.enter, fun G' σ' w' h' hl hle => ?_⟩
 have hs2 := hs1.leave h' hle.m0 hle.w0
 have hl' : G'.B.length = σ.length := by rw [h'.len, hl]
 have hsz : w.heap.size ≤ w'.heap.size := by have := h'.base.1; rw [hle.w0] at this; exact this
 -- the blocks of what lies further on
 have tail : ∀ (l : Nat) (g : GB), (G'.B ++ G.B.drop σ.length)[l]? = some g → σ.length ≤ l → G.B[l]? = some g := fun l g h1 hge => by
  rw [zA8 (by omega), hl', zB2] at h1
  rwa [show σ.length + (l - σ.length) = l by omega] at h1
 have front : ∀ (l : Nat) (g : GB), (G'.B ++ G.B.drop σ.length)[l]? = some g → l < σ.length → G'.B[l]? = some g := fun l g h1 hlt => by
  rwa [zA7 (by omega)] at h1
 have pr : ∀ (l : Nat) (g : GB) b, G.B[l]? = some g → σ.length ≤ l → g.block = some b → G'.w0.prot b := fun l g b h1 hge h2 => by
  rw [hle.w0]
  refine ⟨(hs.fresh l g b h1 h2).2, fun l2 g2 h3 h4 => ?_⟩
  simp only [zAw] at h3
  split at h3
  · rename_i hlt
    have := hs.inj l l2 g g2 b h1 h3 h2 h4
    omega
  · simp at h3
 have same : ∀ b, G'.w0.prot b → w'.heap[b]? = w.heap[b]? ∧ (∀ o, G'.M.cell b o = G.M.cell b o) ∧ G'.M.map b = G.M.map b := fun b hb => by
  have h1 := h'.base.2 b hb
  have h2 := h'.m0 b hb
  rw [hle.w0] at h1
  rw [hle.m0] at h2
  exact ⟨h1, h2.1, h2.2⟩
 have hB : BLe G.B (G'.B ++ G.B.drop σ.length) := fun l g h1 => by
  rcases zA5 l σ.length with hlt | hge
  · obtain ⟨g', k1, k2⟩ := hle.b l g (take_get h1 hlt)
    exact ⟨g', by rw [zA7 (by omega)]; exact k1, k2⟩
  · refine ⟨g, ?_, GB.Le.refl _⟩
    rw [zA8 (by omega), hl', zB2, show σ.length + (l - σ.length) = l by omega]; exact h1
 refine ⟨{ G with M := G'.M, B := G'.B ++ G.B.drop σ.length }, .up hle.m hB, ?_, rfl, BLe.append _ _⟩
 refine ⟨hs2.memok, hs2.m0, hs2.base, ?_, fun l g o h1 h2 => ?_, fun l g b h1 h2 => ?_, fun l l2 g g2 b h1 h2 h3 h4 => ?_, hs2.out, ⟨fun p hp => ?_, hs.dfr.2⟩⟩
 · simp only [zC0, List.length_drop, hl', hl, hlen]; omega
 · rcases zA5 l σ.length with hlt | hge
   · rw [zA7 (by omega)] at h2
     exact (h'.objs l g o (front l g h1 hlt) h2).keep (BLe.append _ _) fun _ _ => rfl
   · have hg := tail l g h1 hge
     have ho : (σ ++ τ)[l]? = some o := by
      rw [zA8 (by omega), hl] at h2
      rw [zA8 hge]; exact h2
     exact (hs.objs l g o hg ho).grow hle.m hB (fun b hb => (same b (pr l g b hg hge hb)).1) fun b hb => (same b (pr l g b hg hge hb)).2
 · rcases zA5 l σ.length with hlt | hge
   · exact hs2.fresh l g b (front l g h1 hlt) h2
   · have := hs.fresh l g b (tail l g h1 hge) h2
     exact ⟨this.1, zBx this.2 hsz⟩
 · rcases zA5 l σ.length with hlt | hge <;> rcases zA5 l2 σ.length with hlt2 | hge2
   · exact h'.inj l l2 g g2 b (front _ _ h1 hlt) (front _ _ h2 hlt2) h3 h4
   · exact absurd (pr l2 g2 b (tail _ _ h2 hge2) hge2 h4) (h'.fresh l g b (front _ _ h1 hlt) h3).1
   · exact absurd (pr l g b (tail _ _ h1 hge) hge h3) (h'.fresh l2 g2 b (front _ _ h2 hlt2) h4).1
   · exact hs.inj l l2 g g2 b (tail _ _ h1 hge) (tail _ _ h2 hge2) h3 h4
 · obtain ⟨k1, k2, k3, k4⟩ := hs2.dfr.1 p hp
   refine ⟨k1, k2, fun l g h1 => ?_, k4⟩
   rcases zA5 l σ.length with hlt | hge
   · exact k3 l g (front l g h1 hlt)
   · exact (hs.dfr.1 p hp).2.2.1 l g (tail l g h1 hge)
theorem ArgsB.take {G : Gh} {avs : List AV} {vs : Array Value} {m : Nat} (h : ArgsB G avs vs) (ho : avs.all (okRef m 4) = true) : ArgsB { G with B := G.B.take m } avs vs :=
 ⟨h.1, fun i c hi => VRel.take 4 c _ (zA6.1 ho c (zAc hi)) (h.2 i c hi)⟩
theorem VCall.frame {P : Program} {fv : AV} {avs : List AV} {σ : Store} {Q : AV → Store → Prop} (h : VCall P fv avs σ Q) (τ : Store) (hok : σ.all (okObj σ.length) = true) (hf : okRef σ.length 4 fv = true)
 (ha : avs.all (okRef σ.length 4) = true) (hQ : ∀ rv s, Q rv s → s.length = σ.length) : VCall P fv avs (σ ++ τ) (fun rv s => ∃ σ', s = σ' ++ τ ∧ Q rv σ') := by
 intro G w fn vf vc vs hs hfv hav
 obtain ⟨h1, h2⟩ := frame_core hs hok
 refine uponV_mono ?_ (h _ w fn vf vc vs h1 (VRel.take 4 _ _ hf hfv) (hav.take ha))
 rintro v w' ⟨rv, σ', G', k1, k2, k3, k4⟩
 obtain ⟨G'', g1, g2, g3, g4⟩ := h2 G' σ' w' k3 (hQ _ _ k1) k2
 exact ⟨rv, _, G'', ⟨σ', rfl, k1⟩, g1, g2, k4.mono (by rw [g3]; exact Mem.Le.refl _) g4⟩
section
variable {P : Program} {n : Nat} {ops : Array Oper} {o : Oper} {env : Env} {σ : Store} {k : Env → Store → Prop}
theorem PCall.tcall {f : FuncId} {avs : List AV} {r : AV} (h : PCall P f avs r) (hr : ∀ v ∈ avs, unb 4 v = v) : TCall P f avs σ (fun rv s => rv = r ∧ s = σ) := by
 refine ⟨h.1, fun G w vs hs ha => (h.2 G.M w vs hs.memok ⟨ha.1, fun i c hi => ?_⟩).mono ?_⟩
 · have := unb_rel 4 _ _ (ha.2 i c hi)
   rwa [hr c (zAc hi)] at this
 · rintro e w' ⟨v, M', rfl, h1, h2⟩
   exact ⟨v, r, σ, { G with M := M' }, rfl, ⟨rfl, rfl⟩, .upM h2.le, hs.after h2, h1.mono (Mem.Le.refl _) (BLe.nil _)⟩
def fnAV : AV → Bool
 | .fn _ _ _ | .opq _ | .yld _ => true
 | _ => false
theorem fnAV_rel {fv : AV} (h : fnAV fv = true) {M : Mem} {B : List GB} {y : Value} (hy : VRel M B fv y) : ∃ fn vf vc, y = .func fn vf vc := by
 cases hy <;> simp [fnAV] at h <;> exact ⟨_, _, _, rfl⟩
theorem argsB_of {G : Gh} {a : Act} {w : World} (hr : ARel n G env σ a w) : ∀ {l : List Operand} {avs : List AV}, rds env l = some avs → rdns env l → ArgsB G avs (l.map a.eval).toArray
 | [], avs, h, _ => by simp [rds] at h; subst h; exact ⟨rfl, fun i c hi => by simp at hi⟩
 | x :: r, avs, h, hn => by
   have h1 := rds_eq h
   have h2 := rdns_all hn
   simp only [zCh, Option.bind_eq_bind, Option.bind_eq_some_iff, Option.pure_def, Option.some.injEq] at h1
   obtain ⟨u, hu, us, hus, rfl⟩ := h1
   have h3 : ArgsB G [u] #[a.eval x] := ⟨rfl, fun i c hi => by
    cases i with
    | zero => simp at hi; subst hi; exact hr.rd (Rd.w hu (h2 x (zAt ..)))
    | succ i => simp at hi⟩
   have hr' : rds env r = some us := by
    simp only [rds] at h
    split at h
    · rename_i u' us' e1 e2
      simp at h; rw [e2, h.2]
    · simp at h
   have h4 := h3.append (argsB_of hr hr' (by exact hn.2))
   simpa using h4
theorem EStep.callT {fo : Operand} {args : Array Operand} {Ts : Array TypeId} {fv : AV} {avs : List AV} {Q : AV → Store → Prop} {d : Option Nat} (h : VCall P fv avs σ Q)
 (ho : o.op = .call { callee := .value fo, args := args, argTypes := Ts }) (hg : o.guard = none) (hd : o.dst = d) (hdn : dstOk n o = true) (hf : rdv env fo = some fv) (nf : rdn env fo) (hfv : fnAV fv = true)
 (ha : rds env args.toList = some avs) (na : rdns env args.toList) (hk : ∀ rv s, Q rv s → k (env.putO d rv) s) : EStep P n ops o k env σ := by
 subst hd
 refine EStep.plain hg fun G a w hr => ?_
 have hv := hr.rd (Rd.w hf nf)
 have hargs := argsB_of hr ha na
 generalize hA : a.eval fo = y at hv
 obtain ⟨fn, vf, vc, rfl⟩ := fnAV_rel hfv hv
 have h1 := h G w fn vf vc _ hr.st hv hargs
 have e : (execOp a.eval o).run P w = (invoke (.fn fn vc) (vf ++ (args.toList.map a.eval).toArray)).run P w := by
  have e2 : (args.toList.map a.eval).toArray = args.map a.eval := by cases args; simp
  rw [e2]
  simp only [execOp, ho, resolve, hA, Deferred.ofValue, Sem.run_bind, Sem.run_pure, Result.andThen_ok]
 unfold OWP
 rw [e]
 generalize (invoke (.fn fn vc) (vf ++ (args.toList.map a.eval).toArray)).run P w = r at h1
 cases r with
 | ok nx w' =>
   cases nx <;> simp only [uponV] at h1 <;> simp only [uponQ] <;>
    first
     | exact h1.elim
     | exact Calls.mono h1 (fun e w'' he => by cases e <;> first | (obtain ⟨rv, s, G', k1, k2, k3, k4⟩ := he; exact ⟨_, s, G', hk rv s k1, k2, (hr.later k2 k3).putO (dstOk_spec hdn) k4⟩) | exact he.elim)
     | exact fun ro => RoundIn.mono (h1 ro) (fun e w'' he => by cases e <;> first | (obtain ⟨rv, s, G', k1, k2, k3, k4⟩ := he; exact ⟨_, s, G', hk rv s k1, k2, (hr.later k2 k3).putO (dstOk_spec hdn) k4⟩) | exact he.elim)
 | halt x w' => cases x <;> simp only [uponV] at h1
end
end Go.Ab
/- A range over a function: the rule, over stores; what an iterator promises. -/
namespace Go.Ab
theorem SRel.allocD {G : Gh} {σ : Store} {w : World} (h : SRel G σ w) (ob : Obj) : SRel { G with D := (w.heap.size, ob) :: G.D } σ (w.alloc ob) := by
 have hh : ∀ b, b < w.heap.size → (w.alloc ob).heap[b]? = w.heap[b]? := fun b hb => by rw [heap_alloc, if_neg (by omega)]
 have hm := mem_lt h.memok _ (zAh _)
 refine ⟨memOk_alloc h.memok ob, h.m0, ⟨by have := h.base.1; show G.w0.w.heap.size ≤ _; simp; omega, fun b hb => (hh b (h.plow hb)).trans (h.base.2 b hb)⟩, h.len,
  fun l g o h1 h2 => (h.objs l g o h1 h2).keep (BLe.refl _) fun b hb => hh b (h.fresh l g b h1 hb).2, fun l g b h1 h2 => ⟨(h.fresh l g b h1 h2).1, by have := (h.fresh l g b h1 h2).2; simp; omega⟩, h.inj, h.out, ⟨fun p hp => ?_, fun l0 hl => ?_⟩⟩
 · rcases zB3.1 hp with rfl | hp
   · exact ⟨by rw [heap_alloc, if_pos rfl], h.pnew (zAh _), fun l g hl e => by have := (h.fresh l g _ hl e).2; simp at this, hm.1, hm.2⟩
   · obtain ⟨k1, k2⟩ := h.dfr.1 p hp
     exact ⟨(hh _ (h.dfr_lt hp)).trans k1, k2⟩
 · obtain ⟨r, hr⟩ := h.dfr.2 l0 hl
   exact ⟨r, zAv _ hr⟩
theorem SRel.aside {G : Gh} {σ : Store} {w : World} {r : Loop} {E : List (Nat × AV)} (h : SRel G (σ ++ [.loop r E]) w) (hok : σ.all (okObj σ.length) = true) :
 ∃ l, G.B[σ.length]? = some (.blk l) ∧ w.heap[l]? = some (.loop r) ∧ (∀ i, VRel G.M G.B (Env.of E i) (r.tmps.getD i undef)) ∧ SRel { G with B := G.B.take σ.length, D := (l, .loop r) :: G.D, R := some l } σ w := by
 have hlen : G.B.length = σ.length + 1 := by rw [h.len]; simp
 obtain ⟨g, hg⟩ : ∃ g, G.B[σ.length]? = some g := ⟨_, zA1 (by omega)⟩
 have ho := h.objs σ.length g (.loop r E) hg (by simp)
 cases ho with
 | loop l _ _ hb hv =>
   have htk : (σ ++ [AObj.loop r E]).take σ.length = σ := by simp
   have ht := h.take σ.length (by rw [htk]; exact hok)
   rw [htk] at ht
   have hfr := h.fresh σ.length _ l hg rfl
   refine ⟨l, hg, hb, hv, ht.memok, ht.m0, ht.base, ht.len, ht.objs, ht.fresh, ht.inj, ht.out, ⟨fun p hp => ?_, fun l0 hl => ⟨r, by simp at hl; subst hl; simp⟩⟩⟩
   rcases zB3.1 hp with rfl | hp
   · refine ⟨hb, hfr.1, fun l' g' hl' e => ?_, mem_of_notcell h.memok hb (by simp), mem_of_notmap h.memok hb (by simp)⟩
     simp only [zAw] at hl'
     split at hl'
     · have := h.inj l' σ.length _ _ _ hl' hg e rfl
       omega
     · simp at hl'
   · exact ht.dfr.1 p hp
theorem SRel.putBack {G : Gh} {σ : Store} {w : World} {l : Nat} {r : Loop} (h : SRel G σ w) (hl : (l, Obj.loop r) ∈ G.D) (r' : Loop) (E : List (Nat × AV)) (hE : ∀ i, VRel G.M (G.B ++ [.blk l]) (Env.of E i) (r'.tmps.getD i undef)) {D' : List (Nat × Obj)} {R' : Option Nat} (hD : ∀ p ∈ D', p ∈ G.D ∧ p.1 ≠ l) (hR : ∀ l0, R' = some l0 → ∃ r, (l0, Obj.loop r) ∈ D') :
 SRel { G with B := G.B ++ [.blk l], D := D', R := R' } (σ ++ [.loop r' E]) (w.putObj l (.loop r')) := by
 have h0 := h.dfr.1 _ hl
 have hlt := h.dfr_lt hl
 have hu := h.undefer (D' := D') hl (.loop r') hD
 have new : ∀ (l2 : Nat) (g : GB), (G.B ++ [GB.blk l])[l2]? = some g → (l2 < G.B.length ∧ G.B[l2]? = some g) ∨ (l2 = G.B.length ∧ g = .blk l) := by
  intro l2 g hg
  rcases zA5 l2 G.B.length with hlt | hge
  · rw [zA7 hlt] at hg; exact .inl ⟨hlt, hg⟩
  · rw [zA8 hge] at hg
    have hz : l2 - G.B.length = 0 := by
     rcases zAz (l2 - G.B.length) with hz | hp
     · exact hz
     · rw [zA4 (by simp; omega)] at hg; simp at hg
    rw [hz] at hg; simp at hg
    exact .inr ⟨by omega, hg.symm⟩
 refine ⟨hu.memok, hu.m0, hu.base, by simp [h.len], fun l2 g o h1 h2 => ?_, fun l2 g b h1 h2 => ?_, fun l1 l2 g g' b h1 h2 h3 h4 => ?_, hu.out, ⟨fun p hp => ?_, hR⟩⟩
 · rcases new l2 g h1 with ⟨hlt2, h1⟩ | ⟨rfl, rfl⟩
   · rw [zA7 (by rw [← h.len]; exact hlt2)] at h2
     exact (hu.objs l2 g o h1 h2).keep (BLe.append _ _) fun _ _ => rfl
   · rw [zA8 (by rw [← h.len]; exact zAh _)] at h2
     simp [h.len] at h2; subst h2
     exact .loop l r' E (World.putObj_heap_same hlt) hE
 · rcases new l2 g h1 with ⟨_, h1⟩ | ⟨_, rfl⟩
   · exact hu.fresh l2 g b h1 h2
   · simp [GB.block] at h2; subst h2
     exact ⟨h0.2.1, by simpa [World.putObj] using hlt⟩
 · rcases new l1 g h1 with ⟨_, h1⟩ | ⟨e1, rfl⟩ <;> rcases new l2 g' h2 with ⟨_, h2⟩ | ⟨e2, rfl⟩
   · exact h.inj l1 l2 g g' b h1 h2 h3 h4
   · simp [GB.block] at h4; subst h4; exact absurd h3 (h0.2.2.1 l1 g h1)
   · simp [GB.block] at h3; subst h3; exact absurd h4 (h0.2.2.1 l2 g' h2)
   · omega
 · obtain ⟨k1, k2, k3, k4⟩ := hu.dfr.1 p hp
   refine ⟨k1, k2, fun l2 g h1 e => ?_, k4⟩
   rcases new l2 g h1 with ⟨_, h1⟩ | ⟨_, rfl⟩
   · exact k3 l2 g h1 e
   · simp [GB.block] at e; exact (hD p hp).2 e.symm
def Env.puts (e : Env) : List (Nat × AV) → Env
 | [] => e
 | (d, v) :: r => (e.put d v).puts r
theorem ARel.puts {n : Nat} {G : Gh} {σ : Store} {w : World} : ∀ (ps : List Nat) (us : List AV) (vs : List Value) (env : Env) (a : Act), ARel n G env σ a w → ps.length = us.length → vs.length = us.length → (∀ d ∈ ps, d < n) →
 (∀ (i : Nat) (c : AV), us[i]? = some c → VRel G.M G.B c (vs.getD i undef)) → ARel n G (env.puts (ps.zip us)) σ { a with tmps := (ps.zip vs).foldl (fun t (p, v) => t.setIfInBounds p v) a.tmps } w
 | [], _, _, env, a, h, _, _, _, _ => h
 | p :: ps, [], _, env, a, h, hl, _, _, _ => by simp at hl
 | p :: ps, u :: us, [], env, a, h, _, hl, _, _ => by simp at hl
 | p :: ps, u :: us, v :: vs, env, a, h, h1, h2, hn, hv => by
   have hp := h.put (hn p (zAt ..)) (v := u) (x := v) (by simpa using hv 0 u rfl)
   have := ARel.puts ps us vs _ _ hp (by simpa using h1) (by simpa using h2) (fun d hd => hn d (zAv _ hd)) fun i c hi => by
    have := hv (i + 1) c (by simpa using hi)
    simpa [List.getD] using this
   exact this
theorem SRel.setF {G : Gh} {σ : Store} {w : World} (h : SRel G σ w) (F : List Deferred) : SRel { G with F := F } σ w := ⟨h.memok, h.m0, h.base, h.len, h.objs, h.fresh, h.inj, h.out, h.dfr⟩
theorem SRel.setR {G : Gh} {σ : Store} {w : World} (h : SRel { G with R := none } σ w) {R' : Option Nat} (hR : ∀ l0, R' = some l0 → ∃ r, (l0, Obj.loop r) ∈ G.D) : SRel { G with R := R' } σ w :=
 ⟨h.memok, h.m0, h.base, h.len, h.objs, h.fresh, h.inj, h.out, ⟨h.dfr.1, hR⟩⟩
theorem enter_loop {P : Program} {n : Nat} {G : Gh} {env : Env} {σ : Store} {a : Act} {w : World} (hr : ARel n G env σ a w) (E : List (Nat × AV)) (hE : env.Weak (Env.of E)) (fn : FuncId) (ps : Array Tmp) (assign body : Code) :
 ∃ l mark W1 rc D1, (Instr.enterLoop fn a.tmps ps assign body G.R).run P w = .ok (l, mark) W1 ∧ (rc.state = .ready ∧ rc.pending = none ∧ rc.tmps = a.tmps ∧ rc.params = ps ∧ rc.assign = assign ∧ rc.body = body) ∧ (∀ x ∈ G.D, x ∈ D1) ∧ DefOk D1 G.F (mark ++ a.defers) ∧
  SRel { G with B := G.B ++ [.blk l], D := D1 } (σ ++ [.loop rc E]) W1 := by
 have obj : ∀ (G1 : Gh) (W : World) (rc : Loop), G1.M = G.M → G1.B = G.B → rc.tmps = a.tmps → ORel G1.M (G1.B ++ [.blk W.heap.size]) (W.alloc (.loop rc)) (.blk W.heap.size) (.loop rc E) := fun G1 W rc h1 h2 h3 =>
  .loop _ _ _ (by rw [heap_alloc, if_pos rfl]) fun i => by rw [h3, h1, h2]; exact (hE _ _ _ _ (hr.vals i)).mono (Mem.Le.refl _) (BLe.append _ _)
 obtain ⟨ds, ds2, hds, hnd, hD⟩ := hr.defers
 cases hR : G.R with
 | none =>
   have h1 := hr.st.allocD (.deferred (some []))
   refine ⟨_, _, _, { state := .ready, pending := none, fn, tmps := a.tmps, params := ps, assign, body, defers := w.heap.size }, (w.heap.size, .deferred (some [])) :: G.D, run_enterLoop_outer fn a.tmps ps assign body, ⟨rfl, rfl, rfl, rfl, rfl, rfl⟩, fun x hx => zAv _ hx, ⟨w.heap.size :: ds, ds2, by rw [hds]; rfl, List.nodup_cons.2 ⟨fun hm => ?_, hnd⟩, fun b hb => ?_⟩, ?_⟩
   · have := hr.st.dfr_lt (hD _ hm); simp at this
   · rcases zB3.1 hb with rfl | hb
     · exact zAt ..
     · exact zAv _ (hD b hb)
   · have := h1.alloc (o := .loop { state := .ready, pending := none, fn, tmps := a.tmps, params := ps, assign, body, defers := w.heap.size }) (g := .blk (w.alloc (.deferred (some []))).heap.size) rfl (obj _ _ _ rfl rfl rfl)
     rw [World.size_alloc] at this
     rw [hR] at this
     exact this
 | some l0 =>
   obtain ⟨r0, hr0⟩ := hr.st.dfr.2 l0 hR
   have hl0 := (hr.st.dfr.1 _ hr0).1
   refine ⟨_, _, _, { state := .ready, pending := none, fn, tmps := a.tmps, params := ps, assign, body, defers := r0.defers }, G.D, run_enterLoop_inner hl0 fn a.tmps ps assign body, ⟨rfl, rfl, rfl, rfl, rfl, rfl⟩, fun x hx => hx, ⟨ds, ds2, by rw [hds]; rfl, hnd, hD⟩, ?_⟩
   have := hr.st.alloc (o := .loop { state := .ready, pending := none, fn, tmps := a.tmps, params := ps, assign, body, defers := r0.defers }) (g := .blk w.heap.size) rfl (obj _ _ _ rfl rfl rfl)
   rw [← hR]
   exact this
theorem SRel.reD {G : Gh} {σ : Store} {w : World} (h : SRel G σ w) {b : Nat} {ob : Obj} (hb : (b, ob) ∈ G.D) (r' : Loop) : SRel { G with D := (b, .loop r') :: G.D.filter (fun p => p.1 != b), R := some b } σ (w.putObj b (.loop r')) := by
 have hu := h.undefer (D' := G.D.filter fun p => p.1 != b) hb (.loop r') fun p hp => by simpa using hp
 obtain ⟨_, k2, k3, k4⟩ := h.dfr.1 _ hb
 refine ⟨hu.memok, hu.m0, hu.base, hu.len, hu.objs, hu.fresh, hu.inj, hu.out, ⟨fun p hp => ?_, fun l0 hl => ⟨r', by simp at hl; subst hl; simp⟩⟩⟩
 rcases zB3.1 hp with rfl | hp
 · exact ⟨World.putObj_heap_same (h.dfr_lt hb), k2, k3, k4⟩
 · exact hu.dfr.1 p hp
theorem okRef_mono {m m' : Nat} (h : m ≤ m') : ∀ (k : Nat) (v : AV), okRef m k v = true → okRef m' k v = true
 | 0, _, hv => by simp [okRef] at hv
 | k + 1, v, hv => by
   have lst : ∀ cs : List AV, cs.all (okRef m k) = true → cs.all (okRef m' k) = true := fun cs hc => zA6.2 fun x hx => okRef_mono h k x (zA6.1 hc x hx)
   cases v with
   | sl sz es t => cases t <;> simp [okRef] at hv ⊢ <;> omega
   | ptr | map | sla | eptr | yld => simp [okRef] at hv ⊢; omega
   | agg cs => exact lst cs hv
   | tup cs => exact lst cs hv
   | fn f a c => simp only [okRef, zA0] at hv ⊢; exact ⟨lst _ hv.1, lst _ hv.2⟩
   | when g v => exact okRef_mono h k v hv
   | opq v => exact okRef_mono h k v hv
   | _ => rfl
theorem okObj_mono {m m' : Nat} (h : m ≤ m') {o : AObj} (ho : okObj m o = true) : okObj m' o = true := by
 cases o with
 | var cs => exact zA6.2 fun x hx => okRef_mono h 3 x (zA6.1 ho x hx)
 | map kvs => exact zA6.2 fun x hx => okRef_mono h 3 x.2 (zA6.1 (show kvs.all (fun kv => okRef m 3 kv.2) = true from ho) x hx)
 | arr sz ver es => exact zA6.2 fun e he => zA6.2 fun x hx => okRef_mono h 3 x (zA6.1 (zA6.1 (show es.all (fun e => e.all (okRef m 3)) = true from ho) e he) x hx)
 | loop r E => exact zA6.2 fun x hx => okRef_mono h 4 x.2 (zA6.1 (show E.all (fun p => okRef m 4 p.2) = true from ho) x hx)
 | _ => rfl
theorem okObjs_mono {m m' : Nat} (h : m ≤ m') {s : Store} (ho : s.all (okObj m) = true) : s.all (okObj m') = true := zA6.2 fun x hx => okObj_mono h (zA6.1 ho x hx)
theorem callsIn_FR {P : Program} {ro : Option Nat} {n : Nat} {f : FuncId} {args : Array Value} {w : World} {R : Ending → World → Prop} (h : Calls P f args w R) : CallsIn (FR ro) n P f args w R := (callsIn_wide (n := n)).2 h
end Go.Ab
/- Regions that draw their order and end in effects that come last; calls without effects through function values. -/
namespace Go.Ab
section
variable {P : Program} {n : Nat} {ops : Array Oper} {md : Region.Mode} {σ : Store}
def lastB (md : Region.Mode) (ops : Array Oper) (m : Nat) : Bool :=
 (List.range ops.size).all fun j => decide (j < m) || match ops[j]? with
  | some o => ((List.range j).all fun i => o.after.any fun e => Region.binds md e && e.on == i) && o.after.all fun e => !Region.binds md e || decide (e.on < j)
  | none => true
theorem lastB_spec {m : Nat} (h : lastB md ops m = true) {j : Nat} (hj : m ≤ j) {o : Oper} (ho : ops[j]? = some o) :
 (∀ i, i < j → ∃ e ∈ o.after, Region.binds md e = true ∧ e.on = i) ∧ ∀ e ∈ o.after, Region.binds md e = true → e.on < j := by
 have hlt := (zB5.1 ho).1
 have h1 := zA6.1 h j (zAu.2 hlt)
 have : decide (j < m) = false := by simp; omega
 simp only [this, zD5, ho, zA0, zA6, zAu, Array.any_eq_true', Array.all_eq_true', beq_iff_eq, zB6, zB8, dEt] at h1
 refine ⟨fun i hi => ?_, fun e he hb => ?_⟩
 · obtain ⟨e, he, h2, h3⟩ := h1.1 i hi
   exact ⟨e, he, h2, h3⟩
 · rcases h1.2 e he with h2 | h2
   · rw [hb] at h2; cases h2
   · exact h2
def aAnyL (P : Program) (md : Region.Mode) (ops : Array Oper) (σ : Store) (K : Env → Prop) : Nat → Array Bool → Env → Prop
 | 0, _, e => K e
 | fuel + 1, listed, e => Region.ready md ops listed ≠ [] ∧ ∀ i ∈ Region.ready md ops listed, aq P ops σ i (aAnyL P md ops σ K fuel (listed.setIfInBounds i true)) e
def lexM (md : Region.Mode) (ops : Array Oper) : Nat → Nat → Array Bool → Bool
 | 0, _, _ => true
 | fuel + 1, k, listed => (Region.ready md ops listed).contains k && Region.free md ops listed k && lexM md ops fuel (k + 1) (listed.setIfInBounds k true)
def unl (listed : Array Bool) (m : Nat) : Nat := (List.range m).countP fun i => listed.getD i true == false
theorem unl_set {listed : Array Bool} {m i : Nat} (hi : i < m) (hu : listed.getD i true = false) : unl (listed.setIfInBounds i true) m + 1 = unl listed m := by
 unfold unl
 have hlt : i < listed.size := by
  rcases zA5 i listed.size with h | h
  · exact h
  · simp [zAm h] at hu
 induction m with
 | zero => omega
 | succ m ih =>
   rw [List.range_succ, List.countP_append, List.countP_append]
   by_cases h : i < m
   · have := ih h
     rw [zD1, zD1, getD_set_ne true (by omega : i ≠ m)]
     omega
   · have him : i = m := by omega
     subst him
     have h1 : (List.range i).countP (fun j => (listed.setIfInBounds i true).getD j true == false) = (List.range i).countP (fun j => listed.getD j true == false) := by
      refine List.countP_congr fun j hj => ?_
      have := zAu.1 hj
      rw [getD_set_ne true (by omega : i ≠ j)]
     rw [h1, zD1, zD1, hu]
     simp [hlt]
theorem unl_zero {listed : Array Bool} {m : Nat} (h : unl listed m = 0) {i : Nat} (hi : i < m) : listed.getD i true = true := by
 unfold unl at h
 rw [List.countP_eq_zero] at h
 have := h i (zAu.2 hi)
 simpa using this
theorem unl_one {listed : Array Bool} {m i j : Nat} (h : unl listed m = 1) (hi : i < m) (hj : j < m) (hui : listed.getD i true = false) (huj : listed.getD j true = false) : j = i := by
 by_cases e : j = i
 · exact e
 · exfalso
   have h1 := unl_set hi hui
   have h2 := unl_zero (listed := listed.setIfInBounds i true) (m := m) (by omega) hj
   rw [getD_set_ne true (Ne.symm e), huj] at h2
   cases h2
theorem unl_pos {listed : Array Bool} {m k : Nat} (h : unl listed m = k + 1) : ∃ i, i < m ∧ listed.getD i true = false := by
 have : 0 < unl listed m := by omega
 unfold unl at this
 rw [List.countP_pos_iff] at this
 obtain ⟨i, hi, h2⟩ := this
 exact ⟨i, zAu.1 hi, by simpa using h2⟩
theorem ready_lt {m : Nat} (hL : lastB md ops m = true) {listed : Array Bool} {i0 : Nat} (hi0 : i0 < m) (hun : listed.getD i0 true = false) {j : Nat} (hj : j ∈ Region.ready md ops listed) : j < m := by
 rcases zA5 j m with h | h
 · exact h
 · exfalso
   obtain ⟨_, o, ho, hall⟩ := mem_ready.1 hj
   obtain ⟨e, he, hb, rfl⟩ := (lastB_spec hL h ho).1 i0 (by omega)
   have := hall e he hb
   rcases zA5 e.on listed.size with h' | h'
   · simp [h'] at this hun; rw [this] at hun; cases hun
   · simp [zAm h'] at this
theorem aAnyL_first {K : Env → Prop} {m i : Nat} {oi : Oper} {v : AV} (hL : lastB md ops m = true) (him : i < m) (hi : ops[i]? = some oi) :
 ∀ (fuel : Nat) (listed : Array Bool) (env : Env),
  (∀ j oj, ops[j]? = some oj → j ≠ i → listed.getD j true = false → (∀ e ∈ oj.after, Region.binds md e = true → e.on ≠ i) → oi.apart ops oj = true) →
  i ∈ Region.ready md ops listed → PStep P ops oi env σ v → unl listed m = fuel + 1 →
  aAnyL P md ops σ K fuel (listed.setIfInBounds i true) (env.putO oi.dst v) → aAnyL P md ops σ K (fuel + 1) listed env := by
 have take : ∀ {env : Env} {K : Env → Prop}, PStep P ops oi env σ v → K (env.putO oi.dst v) → aq P ops σ i K env := fun hy h => by
  unfold aq; simp only [hi]; exact ⟨v, hy, h⟩
 intro fuel
 induction fuel with
 | zero =>
   intro listed env _ hr hy hz H
   refine ⟨fun h => (by rw [h] at hr; cases hr), fun j hj => ?_⟩
   have hui := (mem_ready.1 hr).1
   have : j = i := unl_one hz him (ready_lt hL him hui hj) hui (mem_ready.1 hj).1
   subst this; exact take hy H
 | succ fuel ih =>
   intro listed env hfree hr hy hz H
   refine ⟨fun h => (by rw [h] at hr; cases hr), fun j hj => ?_⟩
   by_cases hji : j = i
   · subst hji; exact take hy H
   · have h1 := H.2 j (ready_mono hj hji)
     obtain ⟨hjun, oj, hoj, hall⟩ := mem_ready.1 hj
     have hnot : ∀ e ∈ oj.after, Region.binds md e = true → e.on ≠ i := fun e he hb heq => by
      have h1 := hall e he hb
      have h0 := (mem_ready.1 hr).1
      rw [heq] at h1
      rcases zA5 i listed.size with h' | h'
      · simp [h'] at h0 h1; rw [h0] at h1; cases h1
      · simp [zAm h'] at h1
     have h2 := aq_put hoj (hfree j oj hoj hji hjun hnot) hy h1
     have hfree' : ∀ k ok, ops[k]? = some ok → k ≠ i → (listed.setIfInBounds j true).getD k true = false →
      (∀ e ∈ ok.after, Region.binds md e = true → e.on ≠ i) → oi.apart ops ok = true := fun k ok hk hki hun hno => by
      refine hfree k ok hk hki ?_ hno
      by_cases hjk : j = k
      · subst hjk; exact hjun
      · rw [getD_set_ne true hjk] at hun; exact hun
     have hjm := ready_lt hL him (mem_ready.1 hr).1 hj
     refine aq_mono (fun e' h3 => ih (listed.setIfInBounds j true) e' hfree' (ready_mono hr (Ne.symm hji)) h3.1 (by have := unl_set hjm hjun; omega) ?_) h2
     rw [zCn _ _ hji]
     exact h3.2
theorem aAnyL_lex {m : Nat} (hL : lastB md ops m = true) {K : Env → Prop} : ∀ (l : List Oper) (k : Nat) (listed : Array Bool) (env : Env), (∀ j, j < l.length → l[j]? = ops[k + j]?) → k + l.length = m → unl listed m = l.length →
 lexM md ops l.length k listed = true → AQ P ops σ K l env → aAnyL P md ops σ K l.length listed env
 | [], _, _, _, _, _, _, _, h => h
 | o :: l, k, listed, env, hl, hk, hu, hB, h => by
   have h0 : ops[k]? = some o := by simpa using (hl 0 (by simp)).symm
   simp only [zAe, lexM, zA0] at hB
   obtain ⟨⟨hr, hf⟩, hB'⟩ := hB
   obtain ⟨v, hy, hK⟩ := h
   have hr' : k ∈ Region.ready md ops listed := by simpa using hr
   have hkm : k < m := by simp at hk; omega
   exact aAnyL_first hL hkm h0 l.length listed env (Region.free_spec h0 hf) hr' hy hu
    (aAnyL_lex hL l (k + 1) _ _ (fun j hj => by have := hl (j + 1) (by simp; omega); simpa [zBy, zDd 1 j] using this) (by simp at hk; omega) (by have := unl_set hkm (mem_ready.1 hr').1; simp at hu; omega) hB' hK)
theorem wpAny_last {n : Nat} (ro : Option Nat) {m : Nat} (hL : lastB md ops m = true) {K : Env → Store → Prop} {Q : Exit → Act → World → Prop} : ∀ (l : List Oper) (k : Nat) (listed : Array Bool) (env : Env) (σ : Store), (∀ j, l[j]? = ops[k + j]?) → m ≤ k → listed.size = ops.size →
 (∀ i, i < ops.size → listed.getD i true = decide (i < k)) → AOps P n ops K l env σ → ∀ G a w, ARel n G env σ a w →
 (∀ env' σ' G' a' w', K env' σ' → G.Le G' → ARel n G' env' σ' a' w' → Q .normal a' w') → wpAnyIn (FR ro) 0 P md ops Q l.length listed a w := by
 have rdy : ∀ (k : Nat) (listed : Array Bool), m ≤ k → (∀ i, i < ops.size → listed.getD i true = decide (i < k)) → ∀ i ∈ Region.ready md ops listed, i = k ∧ k < ops.size := fun k listed hk hli i hi => by
  obtain ⟨hun, o, ho, hall⟩ := mem_ready.1 hi
  have hlt := (zB5.1 ho).1
  rw [hli i hlt] at hun
  have h1 : k ≤ i := by simpa using hun
  rcases zA5 k i with h2 | h2
  · exfalso
    obtain ⟨e, he, hb, rfl⟩ := (lastB_spec hL (by omega) ho).1 k h2
    have h3 := hall e he hb
    have h4 := hli e.on (by omega)
    simp at h4
    rcases zA5 e.on listed.size with h' | h'
    · simp [h'] at h3 h4; rw [h3] at h4; cases h4
    · simp [zAm h'] at h3
  · exact ⟨by omega, by omega⟩
 intro l
 induction l with
 | nil =>
   intro k listed env σ hl hk hsz hli h G a w hr hQ
   refine ⟨?_, hQ env σ G a w h (Gh.Le.refl G) hr⟩
   refine List.eq_nil_iff_forall_not_mem.2 fun i hi => ?_
   obtain ⟨rfl, h2⟩ := rdy k listed hk hli i hi
   have := hl 0
   simp [h2] at this
 | cons o rest ih =>
   intro k listed env σ hl hk hsz hli h G a w hr hQ
   have h0 : ops[k]? = some o := by simpa using (hl 0).symm
   have hlt := (zB5.1 h0).1
   refine ⟨fun h0' => ?_, fun i hi => ?_⟩
   · exfalso
     have : k ∈ Region.ready md ops listed := by
      refine mem_ready.2 ⟨by rw [hli k hlt]; simp, o, h0, fun e he hb => ?_⟩
      have h2 := (lastB_spec hL hk h0).2 e he hb
      have h3 := hli e.on (by omega)
      have hlt2 : e.on < listed.size := by omega
      simp [hlt2] at h3 ⊢
      rw [h3]; simp; exact h2
     rw [h0'] at this; cases this
   · obtain ⟨rfl, _⟩ := rdy k listed hk hli i hi
     unfold wpOpIn
     simp only [h0]
     have hli' : ∀ j, j < ops.size → (listed.setIfInBounds i true).getD j true = decide (j < i + 1) := fun j hj => by
      by_cases e : i = j
      · subst e; have : i < listed.size := by omega
        simp [this]
      · rw [getD_set_ne true e, hli j hj]; simp; omega
     have next := fun env σ h G a w hr hQ => ih (i + 1) (listed.setIfInBounds i true) env σ (fun j => by have := hl (j + 1); simpa [zBy, zDd 1 j] using this) (by omega) (by simpa using hsz) hli' h G a w hr hQ
     have := h G a w hr
     split
     · rename_i hw
       rw [if_pos hw] at this
       exact this.toIn fun a' w' ⟨e, s, G', h1, h2, h3⟩ => next e s h1 G' a' w' h3 fun e' s' G'' a'' w'' k1 k2 k3 => hQ e' s' G'' a'' w'' k1 (h2.trans k2) k3
     · rename_i hw
       rw [if_neg hw] at this
       obtain ⟨e, s, h1, h3⟩ := this
       exact ⟨fun _ _ => trivial, next e s h1 G _ w h3 hQ⟩
theorem wpAny_of_aAnyL {n : Nat} {m : Nat} (hmn : m ≤ ops.size) (hL : lastB md ops m = true) {K : Env → Prop} (ro : Option Nat) (hd : dstsOk n ops = true) (r : Nat) {Q : Exit → Act → World → Prop} : ∀ (fuel : Nat) (listed : Array Bool) (env : Env), unl listed m = fuel → listed.size = ops.size →
 (∀ j, m ≤ j → j < ops.size → listed.getD j true = false) → aAnyL P md ops σ K fuel listed env → ∀ G a w, ARel n G env σ a w →
 (∀ (listed' : Array Bool) G' env' a' w', listed'.size = ops.size → (∀ i, i < ops.size → listed'.getD i true = decide (i < m)) → G.Le G' → K env' → ARel n G' env' σ a' w' → wpAnyIn (FR ro) 0 P md ops Q r listed' a' w') → wpAnyIn (FR ro) 0 P md ops Q (fuel + r) listed a w
 | 0, listed, env, hu, hsz, hj, h, G, a, w, hr, hQ => by
   rw [zBn]
   refine hQ listed G env a w hsz (fun i hi => ?_) (Gh.Le.refl G) h hr
   rcases zA5 i m with h1 | h1
   · rw [unl_zero hu h1]; simp [h1]
   · rw [hj i h1 hi]; simp; omega
 | fuel + 1, listed, env, hu, hsz, hj, h, G, a, w, hr, hQ => by
   rw [show fuel + 1 + r = (fuel + r) + 1 by omega]
   refine ⟨fun h0 => absurd h0 h.1, fun i hi => ?_⟩
   have hq := h.2 i hi
   obtain ⟨i0, hi0, hun0⟩ := unl_pos hu
   have him := ready_lt hL hi0 hun0 hi
   have hun := (mem_ready.1 hi).1
   have hu' : unl (listed.setIfInBounds i true) m = fuel := by have := unl_set him hun; omega
   have hj' : ∀ j, m ≤ j → j < ops.size → (listed.setIfInBounds i true).getD j true = false := fun j h1 h2 => by
    rw [getD_set_ne true (by omega)]; exact hj j h1 h2
   unfold aq at hq
   unfold wpOpIn
   split
   · rename_i ho; simp only [ho] at hq; exact wpAny_of_aAnyL hmn hL ro hd r fuel _ env hu' (by simpa using hsz) hj' hq G a w hr hQ
   · rename_i o ho
     simp only [ho] at hq
     obtain ⟨v, hp, hK⟩ := hq
     have hdo : ∀ x, o.dst = some x → x < n := dstOk_spec (by
      have := zA6.1 hd o (by
       obtain ⟨hlt, he⟩ := zB5.1 ho
       rw [← he]; simp)
      exact this)
     have := hp G a w hr.st (fun x _ => hr.vals x)
     split
     · rename_i hw
       rw [if_pos hw] at this
       refine this.toIn ?_
       rintro a' w' ⟨x, G', rfl, h1, h2, h3⟩
       have hr' : ARel n G' env σ a w' := hr.later h2 h3
       exact wpAny_of_aAnyL hmn hL ro hd r fuel _ _ hu' (by simpa using hsz) hj' hK G' _ w' (hr'.putO hdo h1) fun l' G'' e' a'' w'' k1 k2 hg hk hr => hQ l' G'' e' a'' w'' k1 k2 (h2.trans hg) hk hr
     · rename_i hw
       rw [if_neg hw] at this
       exact ⟨fun _ _ => trivial, wpAny_of_aAnyL hmn hL ro hd r fuel _ _ hu' (by simpa using hsz) hj' hK G _ w (hr.putO hdo this) hQ⟩
theorem unl_init (N m : Nat) (h : m ≤ N) : unl (Array.replicate N false) m = m := by
 unfold unl
 rw [List.countP_eq_length.2, List.length_range]
 intro i hi
 have := zAu.1 hi
 have hlt : i < N := by omega
 simp [hlt]
theorem AWP.drawL {n : Nat} {id : Nat} {l : List Oper} {K : Exit → Env → Store → Prop} {env : Env} {σ : Store} (m : Nat)
 (hm : P.follows .mixedOrders = true) (hB : (decide (m ≤ l.length) && lexM .any l.toArray m 0 (Array.replicate l.length false) && lastB .any l.toArray m) = true) (hd : dstsOk n l.toArray = true)
 (h : ∀ K' : Env → Store → Prop, (∀ e s, K .normal e s → K' e s) → AQ P l.toArray σ (fun e => AOps P n l.toArray K' (l.drop m) e σ) (l.take m) env) : AWP P n (.region id l.toArray true) K env σ := by
 simp only [zA0, dEt] at hB
 obtain ⟨⟨hml, hX⟩, hL⟩ := hB
 intro G a w hr
 refine wpIn_region_any hm ?_
 have hlen : (l.take m).length = m := by simp; omega
 have h1 := aAnyL_lex (md := .any) hL (l.take m) 0 (Array.replicate l.length false) env (fun j hj => by simp at hj ⊢; rw [zAw, if_pos (by omega)]) (by simp; omega) (by rw [unl_init _ _ hml, hlen]) (by rw [hlen]; exact hX) (h (K .normal) fun _ _ h => h)
 rw [hlen] at h1
 have h2 := wpAny_of_aAnyL (md := .any) (n := n) (by simpa using hml) hL G.R hd (l.drop m).length (Q := fun x a' w' => ∃ env' σ' G', K x env' σ' ∧ G.Le G' ∧ ARel n G' env' σ' a' w') m (Array.replicate l.length false) env (unl_init _ _ hml) (by simp) (fun j h1 h2 => by simp at h2; simp [h2]) h1 G a
  { w with drawn := w.drawn + 1 } ⟨hr.size, hr.defers, hr.vals, hr.st.drew⟩ ?_
 · have : m + (l.drop m).length = l.toArray.size := by simp; omega
   rw [this] at h2
   simpa using h2
 · intro listed' G' env' a' w' k1 k2 hg hk hr'
   refine wpAny_last G.R hL (l.drop m) m listed' env' σ (fun j => by simp) (zAh _) k1 k2 hk G' a' w' hr' ?_
   intro e s G'' a'' w'' g1 g2 g3
   exact ⟨e, s, G'', g1, hg.trans g2, g3⟩
end
section
variable {P : Program} {o : Oper} {env : Env} {σ : Store}
theorem argsB_ops {G : Gh} {a : Act} {env : Env} : ∀ {l : List Operand} {avs : List AV}, (∀ x ∈ l, VRel G.M G.B (envOp env x) (a.eval x)) → rds env l = some avs → rdns env l → ArgsB G avs (l.map a.eval).toArray
 | [], avs, _, h, _ => by simp [rds] at h; subst h; exact ⟨rfl, fun i c hi => by simp at hi⟩
 | x :: r, avs, hv, h, hn => by
   have h1 := rds_eq h
   have h2 := rdns_all hn
   simp only [zCh, Option.bind_eq_bind, Option.bind_eq_some_iff, Option.pure_def, Option.some.injEq] at h1
   obtain ⟨u, hu, us, hus, rfl⟩ := h1
   have h3 : ArgsB G [u] #[a.eval x] := ⟨rfl, fun i c hi => by
    cases i with
    | zero => simp at hi; subst hi; exact (Rd.w hu (h2 x (zAt ..))) _ _ _ (hv x (zAt ..))
    | succ i => simp at hi⟩
   have hr' : rds env r = some us := by
    simp only [rds] at h
    split at h
    · rename_i u' us' e1 e2
      simp at h; rw [e2, h.2]
    · simp at h
   have h4 := h3.append (argsB_ops (fun y hy => hv y (zAv _ hy)) hr' hn.2)
   simpa using h4
theorem PRun.callQ {fo : Operand} {args : Array Operand} {Ts : Array TypeId} {fv : AV} {avs : List AV} {r : AV} (h : VCall P fv avs σ (fun rv s => rv = r ∧ s = σ))
 (ho : o.op = .call { callee := .value fo, args := args, argTypes := Ts }) (hf : rdv env fo = some fv) (nf : rdn env fo) (hfv : fnAV fv = true)
 (ha : rds env args.toList = some avs) (na : rdns env args.toList) : PRun P o env σ r := by
 intro G a w hs hv
 have hy := rd (Rd.w hf nf) (by simp [ho, Op.operands, Call.operands]) hv
 have hargs := argsB_ops (fun x hx => hv x (by simp [ho, Op.operands, Call.operands]; right; simpa using hx)) ha na
 generalize hA : a.eval fo = y at hy
 obtain ⟨fn, vf, vc, rfl⟩ := fnAV_rel hfv hy
 have h1 := h G w fn vf vc _ hs hy hargs
 have e : (execOp a.eval o).run P w = (invoke (.fn fn vc) (vf ++ (args.toList.map a.eval).toArray)).run P w := by
  have e2 : (args.toList.map a.eval).toArray = args.map a.eval := by cases args; simp
  rw [e2]
  simp only [execOp, ho, resolve, hA, Deferred.ofValue, Sem.run_bind, Sem.run_pure, Result.andThen_ok]
 unfold OWP
 rw [e]
 generalize (invoke (.fn fn vc) (vf ++ (args.toList.map a.eval).toArray)).run P w = r' at h1
 cases r' with
 | ok nx w' =>
   cases nx <;> simp only [uponV] at h1 <;> simp only [uponQ] <;>
    first
     | exact h1.elim
     | exact Calls.mono h1 (fun e w'' he => by cases e <;> first | (obtain ⟨rv, s, G', ⟨rfl, rfl⟩, k2, k3, k4⟩ := he; exact ⟨_, G', rfl, k4, k2, k3⟩) | exact he.elim)
     | exact fun ro => RoundIn.mono (h1 ro) (fun e w'' he => by cases e <;> first | (obtain ⟨rv, s, G', ⟨rfl, rfl⟩, k2, k3, k4⟩ := he; exact ⟨_, G', rfl, k4, k2, k3⟩) | exact he.elim)
 | halt x w' => cases x <;> simp only [uponV] at h1
end
end Go.Ab
/- The drawn regions, told apart by what they hold. -/
namespace Go.Ab
def effOp (o : Oper) : Bool := match o.op with
 | .store _ _ _ | .alloc _ | .box _ _ | .mapUpdate _ _ _ _ | .makeMap _ _ | .makeSlice _ _ _ | .range _ _ | .next _ _ | .insert _ _ _ _ | .entryStore _ _ _ _ => true
 | .call { callee := .builtin .append, args := _, argTypes := _ } => true
 | _ => false
def quietPre : List Oper → Nat
 | [] => 0
 | o :: r => if effOp o then 0 else quietPre r + 1
theorem AWP.drawK2 {P : Program} {n : Nat} {id : Nat} {l : List Oper} {K : Exit → Env → Store → Prop} {env : Env} {σ : Store} (_hq : l.all (fun o => !effOp o) = true)
 (hm : P.follows .mixedOrders = true) (hB : Region.lexB .any l.toArray = true) (hd : dstsOk n l.toArray = true)
 (h : ∀ K' : Env → Prop, (∀ e, K .normal e σ → K' e) → AQ P l.toArray σ K' l env) : AWP P n (.region id l.toArray true) K env σ := AWP.drawK hm hB hd h
theorem AWP.drawL2 {P : Program} {n : Nat} {id : Nat} {l : List Oper} {K : Exit → Env → Store → Prop} {env : Env} {σ : Store}
 (hm : P.follows .mixedOrders = true) (hB : (decide (quietPre l ≤ l.length) && lexM .any l.toArray (quietPre l) 0 (Array.replicate l.length false) && lastB .any l.toArray (quietPre l)) = true) (hd : dstsOk n l.toArray = true)
 (h : ∀ K' : Env → Store → Prop, (∀ e s, K .normal e s → K' e s) → AQ P l.toArray σ (fun e => AOps P n l.toArray K' (l.drop (quietPre l)) e σ) (l.take (quietPre l)) env) : AWP P n (.region id l.toArray true) K env σ := AWP.drawL _ hm hB hd h
theorem Ent.of {u v : AV} (h : u = v) : Ent u v := h ▸ Ent.rfl' u
theorem Ent.b {x y : Bool} (h : x = y) : Ent (.b x) (.b y) := h ▸ Ent.rfl' _
theorem Ent.int {x y : Int} (h : x = y) : Ent (.int x) (.int y) := h ▸ Ent.rfl' _
theorem Ent.t2 {a b : AV} {x y : AV} (h : a = x) (h' : b = y) : Ent (.tup [a, b]) (.tup [x, y]) := h ▸ h' ▸ Ent.rfl' _
end Go.Ab
/- An element of an array of integers that does not change. -/
namespace Go.Ab
section
variable {P : Program} {o : Oper} {env : Env} {σ : Store} {T : Tab}
theorem PRun.indexInts (ints : List Int) (hT : T.Ok P) {t e : TypeId} {x y : Operand} {m s1 b1 : Nat} {z : List Z} {k : IntKind} {i : Int} (ho : o.op = .indexAddr t x y) (hx : rdv env x = some (.iptr (ints.map AV.int))) (nx : rdn env x)
 (hy : rdv env y = some (.prim (.int k i))) (ny : rdn env y) (hl : T.get t = some ⟨.arr m e, s1, b1, z⟩) (he : (T.get e).map (·.size) = some 1) (hm : m = ints.length) (h : 0 ≤ i ∧ i < ints.length) :
 PRun P o env σ (.iptr [.int (ints.getD i.toNat 0)]) :=
 .of fun G A w hs hv => by
  have hX := rd (Rd.w hx nx) (by simp [ho, Op.operands]) hv
  have hY := VRel.prim_eq (rd (Rd.w hy ny) (by simp [ho, Op.operands]) hv)
  generalize hA : A.eval x = v at hX
  obtain ⟨n, rfl⟩ := zAy h.1
  have hn : n < ints.length := by omega
  obtain ⟨li, hli, hsz⟩ : ∃ li, T.get e = some li ∧ li.size = 1 := by
   cases hq : T.get e with
   | none => rw [hq] at he; simp at he
   | some li => rw [hq] at he; simp at he; exact ⟨li, rfl, he⟩
  cases hX with
  | iptr _ b off f hm' hr =>
    have h1 := hm' n (by simpa using hn)
    have h2 := hr n _ (by simp [hn]; rfl)
    refine ⟨.pointer (some ⟨b, off + n, none⟩), ?_, ?_⟩
    · have hle := LOk.of (hT.get hli)
      have hla := LOk.of (hT.get hl)
      simp only [execOp, ho, hA, hY, Instr.indexAt, asIntOf]
      have hnm : (n : Int) < m := by rw [hm]; exact h.2
      have hnm2 : n < m := by omega
      simp [hla.arr w, hle.run_size w, hsz, addr_add, Instr.sureAddr, hnm2]
    · refine .iptr _ b _ (fun j => f (n + j)) (fun j hj => ?_) fun j c hj => ?_
      · simp at hj; subst hj
        simpa using h1
      · cases j with
        | zero => simp at hj; subst hj; simpa [hn] using h2
        | succ j => simp at hj
end
end Go.Ab
/- Regions that draw their order, with a chain of effects, each quiet operation told at the states of the store at which it may come. -/
namespace Go.Ab
section
variable {P : Program} {n : Nat} {ops : Array Oper} {md : Region.Mode} {S : Nat → Store} {eff : Oper → Bool} {lo hi rank : Nat → Nat}
inductive YS (P : Program) (n : Nat) (ops : Array Oper) (S : Nat → Store) (eff : Oper → Bool) (lo hi rank : Nat → Nat) (i : Nat) (o : Oper) (env : Env) : Nat → AV → Nat → Prop
 | quiet {j : Nat} {v : AV} (hl : lo i ≤ j) (hh : j ≤ hi i) (he : eff o = false) (h : ∀ k, lo i ≤ k → k ≤ hi i → PStep P ops o env (S k) v) : YS P n ops S eff lo hi rank i o env j v j
 | eff {j : Nat} {v : AV} (hr : rank i = j + 1) (he : eff o = true) (h : ∀ env', (∀ x ∈ o.looksAt ops, env' x = env x) → EStep P n ops o (fun e s => e = env'.putO o.dst v ∧ s = S (j + 1)) env' (S j)) : YS P n ops S eff lo hi rank i o env j v (j + 1)
theorem YS.congr {i : Nat} {o : Oper} {env env' : Env} {j j' : Nat} {v : AV} (h : YS P n ops S eff lo hi rank i o env j v j') (he : ∀ x ∈ o.looksAt ops, env' x = env x) : YS P n ops S eff lo hi rank i o env' j v j' := by
 cases h with
 | quiet hl hh hf h => exact .quiet hl hh hf fun k h1 h2 => (h k h1 h2).congr he
 | eff hj hf h => exact .eff hj hf fun e2 h2 => h e2 fun x hx => (h2 x hx).trans (he x hx)
def yq (P : Program) (n : Nat) (ops : Array Oper) (S : Nat → Store) (eff : Oper → Bool) (lo hi rank : Nat → Nat) (i : Nat) (K : Env → Nat → Prop) (env : Env) (j : Nat) : Prop :=
 match ops[i]? with
 | none => K env j
 | some o => ∃ v j', YS P n ops S eff lo hi rank i o env j v j' ∧ K (env.putO o.dst v) j'
theorem yq_mono {i : Nat} {env : Env} {j : Nat} {K K' : Env → Nat → Prop} (h : ∀ e j, K e j → K' e j) (hh : yq P n ops S eff lo hi rank i K env j) : yq P n ops S eff lo hi rank i K' env j := by
 unfold yq at *
 split
 · exact h _ _ (by simpa [*] using hh)
 · rename_i o ho; simp only [ho] at hh; obtain ⟨v, j', h1, h2⟩ := hh; exact ⟨v, j', h1, h _ _ h2⟩
def yAny (P : Program) (n : Nat) (md : Region.Mode) (ops : Array Oper) (S : Nat → Store) (eff : Oper → Bool) (lo hi rank : Nat → Nat) (K : Env → Nat → Prop) : Nat → Array Bool → Env → Nat → Prop
 | 0, listed, e, j => Region.ready md ops listed = [] ∧ K e j
 | fuel + 1, listed, e, j =>
   (Region.ready md ops listed = [] → K e j) ∧ ∀ i ∈ Region.ready md ops listed, yq P n ops S eff lo hi rank i (yAny P n md ops S eff lo hi rank K fuel (listed.setIfInBounds i true)) e j
def pairOk (eff : Oper → Bool) (lo hi rank : Nat → Nat) (i k : Nat) (oi ok : Oper) : Prop :=
 (eff oi && eff ok) = false ∧ (eff oi = false → eff ok = true → rank k ≤ hi i) ∧ (eff oi = true → eff ok = false → lo k < rank i)
theorem yq_put {i i0 : Nat} {oi oj : Oper} {v : AV} {j j1 : Nat} (hj : ops[i0]? = some oj) (hap : oi.apart ops oj = true) (hef : pairOk eff lo hi rank i i0 oi oj) {K : Env → Nat → Prop} {env : Env}
 (hy : YS P n ops S eff lo hi rank i oi env j v j1) (h : yq P n ops S eff lo hi rank i0 K (env.putO oi.dst v) j1) :
 yq P n ops S eff lo hi rank i0 (fun e j' => ∃ j2, YS P n ops S eff lo hi rank i oi e j' v j2 ∧ K (e.putO oi.dst v) j2) env j := by
 obtain ⟨h1, h2, h3⟩ := Oper.apart_spec hap
 obtain ⟨e1, e2, e3⟩ := hef
 unfold yq at *
 simp only [hj] at *
 obtain ⟨u, j2, hu, hK⟩ := h
 have hu' := hu.congr (env' := env) fun x hx => (Env.putO_other _ fun i hi e => h1 i hi (e ▸ hx)).symm
 have hy' := hy.congr (env' := env.putO oj.dst u) fun x hx => Env.putO_other _ fun i hi e => h3 i hi (e ▸ hx)
 rw [Env.putO_comm env v u h2] at hK
 cases hu' with
 | quiet g0 g1 g2 g3 =>
   cases hy' with
   | quiet k0 k1 k2 k3 => exact ⟨u, _, .quiet g0 g1 g2 g3, _, .quiet k0 k1 k2 k3, hK⟩
   | eff k1 k2 k3 => exact ⟨u, _, .quiet (by have := e3 k2 g2; omega) (by omega) g2 g3, _, .eff k1 k2 k3, hK⟩
 | eff g1 g2 g3 =>
   cases hy' with
   | quiet k0 k1 k2 k3 => exact ⟨u, _, .eff g1 g2 g3, _, .quiet (by omega) (by have := e2 k2 g2; omega) k2 k3, hK⟩
   | eff k1 k2 k3 => rw [k2, g2] at e1; cases e1
theorem yAny_first {K : Env → Nat → Prop} {i : Nat} {oi : Oper} {v : AV} (hio : ops[i]? = some oi) :
 ∀ (fuel : Nat) (listed : Array Bool) (env : Env) (j j1 : Nat),
  (∀ k ok, ops[k]? = some ok → k ≠ i → listed.getD k true = false → (∀ e ∈ ok.after, Region.binds md e = true → e.on ≠ i) → oi.apart ops ok = true ∧ pairOk eff lo hi rank i k oi ok) →
  i ∈ Region.ready md ops listed → YS P n ops S eff lo hi rank i oi env j v j1 →
  yAny P n md ops S eff lo hi rank K fuel (listed.setIfInBounds i true) (env.putO oi.dst v) j1 → yAny P n md ops S eff lo hi rank K (fuel + 1) listed env j := by
 have take : ∀ {env : Env} {j j1 : Nat} {K : Env → Nat → Prop}, YS P n ops S eff lo hi rank i oi env j v j1 → K (env.putO oi.dst v) j1 → yq P n ops S eff lo hi rank i K env j := fun hy h => by
  unfold yq; simp only [hio]; exact ⟨v, _, hy, h⟩
 intro fuel
 induction fuel with
 | zero =>
   intro listed env j j1 _ hr hy H
   refine ⟨fun h => (by rw [h] at hr; cases hr), fun k hk => ?_⟩
   by_cases hki : k = i
   · subst hki; exact take hy H
   · have := ready_mono hk hki
     rw [H.1] at this
     cases this
 | succ fuel ih =>
   intro listed env j j1 hfree hr hy H
   refine ⟨fun h => (by rw [h] at hr; cases hr), fun k hk => ?_⟩
   by_cases hki : k = i
   · subst hki; exact take hy H
   · have h1 := H.2 k (ready_mono hk hki)
     obtain ⟨hkun, ok, hok, hall⟩ := mem_ready.1 hk
     have hnot : ∀ e ∈ ok.after, Region.binds md e = true → e.on ≠ i := fun e he hb heq => by
      have h1 := hall e he hb
      have h0 := (mem_ready.1 hr).1
      rw [heq] at h1
      rcases zA5 i listed.size with h' | h'
      · simp [h'] at h0 h1; rw [h0] at h1; cases h1
      · simp [zAm h'] at h1
     obtain ⟨f1, f2⟩ := hfree k ok hok hki hkun hnot
     have h2 := yq_put hok f1 f2 hy h1
     have hfree' : ∀ l ol, ops[l]? = some ol → l ≠ i → (listed.setIfInBounds k true).getD l true = false →
      (∀ e ∈ ol.after, Region.binds md e = true → e.on ≠ i) → oi.apart ops ol = true ∧ pairOk eff lo hi rank i l oi ol := fun l ol hl hli hun hno => by
      refine hfree l ol hl hli ?_ hno
      by_cases hkl : k = l
      · subst hkl; exact hkun
      · rw [getD_set_ne true hkl] at hun; exact hun
     refine yq_mono (fun e' j' h3 => ?_) h2
     obtain ⟨j2, h4, h5⟩ := h3
     refine ih (listed.setIfInBounds k true) e' j' j2 hfree' (ready_mono hr (Ne.symm hki)) h4 ?_
     rw [zCn _ _ hki]
     exact h5
def YQ (P : Program) (n : Nat) (ops : Array Oper) (S : Nat → Store) (eff : Oper → Bool) (lo hi rank : Nat → Nat) (K : Env → Nat → Prop) : List Oper → Nat → Env → Nat → Prop
 | [], _, e, j => K e j
 | o :: rest, i, e, j => ∃ v j', YS P n ops S eff lo hi rank i o e j v j' ∧ YQ P n ops S eff lo hi rank K rest (i + 1) (e.putO o.dst v) j'
def edgeB (md : Region.Mode) (o : Oper) (i : Nat) : Bool := o.after.any fun e => Region.binds md e && e.on == i
def rngAt (md : Region.Mode) (ops : Array Oper) (eff : Oper → Bool) (lo hi rank : Nat → Nat) (listed : Array Bool) (i : Nat) : Bool := (List.range ops.size).all fun k => i == k || listed.getD k true || match ops[i]?, ops[k]? with
 | some o, some o' => edgeB md o' i || !(o.apart ops o') || (!(eff o && eff o') && (eff o || !eff o' || decide (rank k ≤ hi i)) && (!eff o || eff o' || decide (lo k < rank i)))
 | _, _ => true
def rngB (md : Region.Mode) (ops : Array Oper) (eff : Oper → Bool) (lo hi rank : Nat → Nat) : Nat → Nat → Array Bool → Bool
 | 0, _, _ => true
 | f + 1, i, listed => rngAt md ops eff lo hi rank listed i && rngB md ops eff lo hi rank f (i + 1) (listed.setIfInBounds i true)
theorem rngAt_spec {listed : Array Bool} {i k : Nat} (h : rngAt md ops eff lo hi rank listed i = true) {o o' : Oper} (hne : k ≠ i) (h1 : ops[i]? = some o) (h2 : ops[k]? = some o') (hun : listed.getD k true = false) (hno : ∀ e ∈ o'.after, Region.binds md e = true → e.on ≠ i) (hap : o.apart ops o' = true) : pairOk eff lo hi rank i k o o' := by
 have m2 := (zB5.1 h2).1
 have h3 := zA6.1 h k (zAu.2 m2)
 have e : (i == k) = false := by simp; exact fun e => hne e.symm
 have e2 : edgeB md o' i = false := by
  cases hb : edgeB md o' i with
  | false => rfl
  | true =>
    unfold edgeB at hb
    obtain ⟨x, hx, hy⟩ := Array.any_eq_true'.1 hb
    simp only [zA0, beq_iff_eq] at hy
    exact absurd hy.2 (hno x hx hy.1)
 simp only [e, zD5, h1, h2, e2, hap, Bool.not_true, hun] at h3
 unfold pairOk
 cases ho : eff o <;> cases ho' : eff o' <;> simp_all
theorem yAny_lex {K : Env → Nat → Prop} : ∀ (l : List Oper) (k : Nat) (listed : Array Bool) (env : Env) (j : Nat), (∀ i, l[i]? = ops[k + i]?) →
 rngB md ops eff lo hi rank l.length k listed = true → Region.lexFrom md ops l.length k listed = true → YQ P n ops S eff lo hi rank K l k env j → yAny P n md ops S eff lo hi rank K l.length listed env j
 | [], _, _, _, _, _, _, hB, h => ⟨by simpa [Region.lexFrom] using hB, h⟩
 | o :: l, k, listed, env, j, hl, hE, hB, h => by
   simp only [zAe, rngB, zA0] at hE
   have h0 : ops[k]? = some o := by simpa using (hl 0).symm
   simp only [zAe, Region.lexFrom, zA0] at hB
   obtain ⟨⟨hr, hf⟩, hB'⟩ := hB
   obtain ⟨v, j', hy, hK⟩ := h
   exact yAny_first h0 l.length listed env j j' (fun k2 ok h1 h2 h3 h4 => let ap := Region.free_spec h0 hf k2 ok h1 h2 h3 h4; ⟨ap, rngAt_spec hE.1 h2 h0 h1 h3 h4 ap⟩) (by simpa using hr) hy
    (yAny_lex l (k + 1) _ _ j' (fun i => by have := hl (i + 1); simpa [zBy, zDd 1 i] using this) hE.2 hB' hK)
theorem wpAny_of_yAny {K : Env → Nat → Prop} (ro : Option Nat) (hd : dstsOk n ops = true) : ∀ (fuel : Nat) (listed : Array Bool) (env : Env) (j : Nat), yAny P n md ops S eff lo hi rank K fuel listed env j → ∀ G a w, ARel n G env (S j) a w →
 ∀ Q : Exit → Act → World → Prop, (∀ G' env' j' a' w', G.Le G' → K env' j' → ARel n G' env' (S j') a' w' → Q .normal a' w') → wpAnyIn (FR ro) 0 P md ops Q fuel listed a w
 | 0, _, env, j, h, G, a, w, hr, Q, hQ => ⟨h.1, hQ G env j a w (Gh.Le.refl G) h.2 hr⟩
 | fuel + 1, listed, env, j, h, G, a, w, hr, Q, hQ => by
   refine ⟨fun h0 => hQ G env j a w (Gh.Le.refl G) (h.1 h0) hr, fun i hi => ?_⟩
   have hq := h.2 i hi
   unfold yq at hq
   unfold wpOpIn
   split
   · rename_i ho; simp only [ho] at hq; exact wpAny_of_yAny ro hd fuel _ env j hq G a w hr Q hQ
   · rename_i o ho
     simp only [ho] at hq
     obtain ⟨v, j', hx, hK⟩ := hq
     have hdo : ∀ x, o.dst = some x → x < n := dstOk_spec (by
      have := zA6.1 hd o (by
       obtain ⟨hlt, he⟩ := zB5.1 ho
       rw [← he]; simp)
      exact this)
     cases hx with
     | quiet hl hh hf hp =>
       have := hp j hl hh G a w hr.st (fun x _ => hr.vals x)
       split
       · rename_i hw
         rw [if_pos hw] at this
         refine this.toIn ?_
         rintro a' w' ⟨x, G', rfl, h1, h2, h3⟩
         have hr' : ARel n G' env (S j) a w' := hr.later h2 h3
         exact wpAny_of_yAny ro hd fuel _ _ j hK G' _ w' (hr'.putO hdo h1) Q fun G'' e' j'' a'' w'' hg hk hr => hQ G'' e' j'' a'' w'' (h2.trans hg) hk hr
       · rename_i hw
         rw [if_neg hw] at this
         exact ⟨fun _ _ => trivial, wpAny_of_yAny ro hd fuel _ _ j hK G _ w (hr.putO hdo this) Q hQ⟩
     | eff hj hf hp =>
       have := hp env (fun _ _ => rfl) G a w hr
       split
       · rename_i hw
         rw [if_pos hw] at this
         refine this.toIn ?_
         rintro a' w' ⟨e', s', G', ⟨rfl, rfl⟩, h2, h3⟩
         exact wpAny_of_yAny ro hd fuel _ _ _ hK G' a' w' h3 Q fun G'' e' j'' a'' w'' hg hk hr => hQ G'' e' j'' a'' w'' (h2.trans hg) hk hr
       · rename_i hw
         rw [if_neg hw] at this
         obtain ⟨env', σ', ⟨rfl, rfl⟩, h3⟩ := this
         exact ⟨fun _ _ => trivial, wpAny_of_yAny ro hd fuel _ _ _ hK G _ w h3 Q hQ⟩
def rankOf (ops : List Oper) (eff : Oper → Bool) (k : Nat) : Nat := ((ops.take k).filter eff).length + 1
def hiOf (ops : List Oper) (eff : Oper → Bool) (i : Nat) : Nat := (ops.zipIdx.filter fun p => eff p.1 && !edgeB .any p.1 i).foldl (fun m p => max m (rankOf ops eff p.2)) 0
def loOf (ops : List Oper) (eff : Oper → Bool) (i : Nat) : Nat := match ops[i]? with
 | some o => (ops.zipIdx.filter fun p => eff p.1 && !edgeB .any o p.2).foldl (fun m p => min m (rankOf ops eff p.2 - 1)) ((ops.filter eff).length)
 | none => 0
theorem AWP.drawY {id : Nat} {l : List Oper} {K : Exit → Env → Store → Prop} {env : Env} {σ : Store} (S : Nat → Store) (h0 : S 0 = σ)
 (hm : P.follows .mixedOrders = true) (hB : Region.lexB .any l.toArray = true) (hd : dstsOk n l.toArray = true) (hE : rngB .any l.toArray effOp (loOf l effOp) (hiOf l effOp) (rankOf l effOp) l.length 0 (Array.replicate l.length false) = true)
 (h : ∀ K' : Env → Nat → Prop, (∀ e j, K .normal e (S j) → K' e j) → YQ P n l.toArray S effOp (loOf l effOp) (hiOf l effOp) (rankOf l effOp) K' l 0 env 0) : AWP P n (.region id l.toArray true) K env σ := by
 subst h0
 intro G a w hr
 simp only [Region.lexB, zA0] at hB
 refine wpIn_region_any hm ?_
 have := yAny_lex (md := .any) l 0 (Array.replicate l.toArray.size false) env 0 (by simp) (by simpa using hE) (by simpa using hB.2) (h (fun e j => K .normal e (S j)) fun _ _ h => h)
 refine wpAny_of_yAny _ hd _ _ env 0 (by simpa using this) G a _ ⟨hr.size, hr.defers, hr.vals, hr.st.drew⟩ _ ?_
 intro G' env' j' a' w' hg hk hr'
 exact ⟨env', S j', G', hk, hg, hr'⟩
theorem YQ.nil {K : Env → Nat → Prop} {env : Env} {i j : Nat} (h : K env j) : YQ P n ops S eff lo hi rank K [] i env j := h
theorem YQ.q {K : Env → Nat → Prop} {env : Env} {i j : Nat} {o : Oper} {rest : List Oper} {v v' : AV} {g : GG} {d a b : Nat} (he : eff o = false) (hlo : lo i = a) (hhi : hi i = b) (hj : (decide (a ≤ j) && decide (j ≤ b)) = true) (hd : o.dst = some d) (hg : gOf ops env o = some g)
 (h : ∀ k, a ≤ k → k ≤ b → g.holds → PRun P o env (S k) v) (hv : g.wrap v = v') (hk : YQ P n ops S eff lo hi rank K rest (i + 1) (env.put d v') j) : YQ P n ops S eff lo hi rank K (o :: rest) i env j := by
 subst hv; subst hlo; subst hhi
 simp only [zA0, dEt] at hj
 refine ⟨g.wrap v, j, .quiet hj.1 hj.2 he fun k h1 h2 => PStep.g hg (h k h1 h2), ?_⟩
 rw [hd]; exact hk
theorem YQ.e {K : Env → Nat → Prop} {env : Env} {i j : Nat} {o : Oper} {rest : List Oper} {v : AV} {d : Option Nat} (he : eff o = true) (hr : rank i = j + 1) (hd : o.dst = d) (h : ∀ env', (∀ x ∈ o.looksAt ops, env' x = env x) → EStep P n ops o (fun e s => e = env'.putO o.dst v ∧ s = S (j + 1)) env' (S j))
 (hk : YQ P n ops S eff lo hi rank K rest (i + 1) (env.putO d v) (j + 1)) : YQ P n ops S eff lo hi rank K (o :: rest) i env j := by
 subst hd
 exact ⟨v, j + 1, .eff hr he h, hk⟩
theorem rdv_congr {env env' : Env} {t : Nat} (h : env' t = env t) : rdv env' (.tmp t) = rdv env (.tmp t) := by simp only [rdv, envOp, h]
theorem rdn_congr {env env' : Env} {t : Nat} (h : env' t = env t) : rdn env' (.tmp t) = rdn env (.tmp t) := by simp only [rdn, envOp, h]
end
end Go.Ab
/- Arrays of the call's own whose elements change: length, element, load, store; an array that stays from now on. -/
namespace Go.Ab
section
variable {P : Program} {n : Nat} {ops : Array Oper} {o : Oper} {env : Env} {σ : Store} {T : Tab} {k : Env → Store → Prop}
theorem PRun.lenA (hT : T.Ok P) {x : Operand} {l sz off len ver : Nat} {t ty : TypeId} {s1 b1 : Nat} {z : List Z} (ho : o.op = .call { callee := .builtin .len, args := #[x], argTypes := #[t] })
 (hx : rdv env x = some (.sla l sz off len ver)) (nx : rdn env x) (hl : T.get t = some ⟨.slice ty, s1, b1, z⟩) : PRun P o env σ (.int len) :=
 .of fun G A w hs hv => by
  have h1 := rd (Rd.w hx nx) (by simp [ho, Op.operands, Call.operands]) hv
  generalize hA : A.eval x = y at h1
  cases h1 with
  | sla => exact ⟨_, by simp [execOp, ho, hA, resolve, invoke, builtin, Builtin.len_, (LOk.of (hT.get hl)).slice w, goInt], .prim _⟩
theorem arr_at {G : Gh} {w : World} (hs : SRel G σ w) {l sz ver : Nat} {es : List (List AV)} (hσ : σ[l]? = some (.arr sz ver es)) : ∃ ob cap, G.B[l]? = some (.own ob cap ver) ∧ (es ≠ [] → ∃ b, ob = some b) ∧ ∀ b, ob = some b →
 ∃ (c : Array Value) (T : TypeId) (fr : Nat × Nat), w.heap[b]? = some (.cells c T fr) ∧ Free fr c.size ∧ c.size = cap * sz ∧ es.length ≤ cap ∧ (∀ e ∈ es, e.length = sz) ∧
  (∀ (i j : Nat) (e : List AV) (a : AV), es[i]? = some e → e[j]? = some a → VRel G.M G.B a (c.getD (i * sz + j) undef)) ∧ ∀ o, G.M.cell b o = none := by
 have hlt : l < σ.length := by
  rcases zA5 l σ.length with h | h
  · exact h
  · simp [zA4 h] at hσ
 obtain ⟨g, hg⟩ : ∃ g, G.B[l]? = some g := ⟨_, zA1 (by rw [hs.len]; exact hlt)⟩
 have ho := hs.objs l g _ hg hσ
 cases ho with
 | arrz => exact ⟨none, 0, hg, fun h => absurd rfl h, fun b hb => by cases hb⟩
 | arr b cap _ _ _ c T fr hb hf hl hn hz hr hm => exact ⟨some b, cap, hg, fun _ => ⟨b, rfl⟩, fun b' hb' => by cases hb'; exact ⟨c, T, fr, hb, hf, hl, hn, hz, hr, hm⟩⟩
theorem PRun.indexA (hT : T.Ok P) {t : TypeId} {x y : Operand} {l sz off len ver : Nat} {es : List (List AV)} {kd : IntKind} {i : Int} (ho : o.op = .indexAddr t x y) (hx : rdv env x = some (.sla l sz off len ver)) (nx : rdn env x)
 (hy : rdv env y = some (.prim (.int kd i))) (ny : rdn env y) (hsz : elemSz T t = some sz) (hpos : 0 < sz) (hσ : σ[l]? = some (.arr sz ver es)) (h : 0 ≤ i ∧ i < len) : PRun P o env σ (.eptr l sz (off + i.toNat) 0 ver) :=
 .of fun G A w hs hv => by
  have hX := rd (Rd.w hx nx) (by simp [ho, Op.operands]) hv
  have hY := VRel.prim_eq (rd (Rd.w hy ny) (by simp [ho, Op.operands]) hv)
  generalize hA : A.eval x = v at hX
  obtain ⟨m, rfl⟩ := zAy h.1
  have hm : m < len := by omega
  obtain ⟨e, s1, b1, z, li, h1, h2, h3⟩ := elemSz_spec hT hsz
  obtain ⟨ob, cap, hB, hne, hob⟩ := arr_at hs hσ
  cases hX with
  | sla _ _ _ _ _ a c hr =>
    obtain ⟨ob', cap', n', g1, g2, g3⟩ := hr
    rw [hB] at g1; simp at g1
    obtain ⟨rfl, rfl, rfl⟩ := g1
    obtain ⟨g4, g5⟩ := g3 rfl
    rcases g5 with g5 | ⟨rfl, rfl⟩
    · omega
    cases ob with
    | none =>
      exfalso
      have ho := hs.objs l _ _ hB hσ
      cases ho
      omega
    | some b =>
      refine ⟨.pointer (some ⟨b, off * sz + m * sz, none⟩), ?_, ?_⟩
      · simp only [execOp, ho, hA, hY, Instr.indexAt, asIntOf]
        simp [h1.slice w, h2.run_size w, h3, hm, addr_add]
      · refine .eptr l sz _ 0 ver b _ ⟨_, _, _, hB, zAh _, fun _ => ⟨?_, hpos, ?_, rfl⟩⟩
        · simp; omega
        · simp [zAx]
theorem PRun.indexA0 (hT : T.Ok P) {t : TypeId} {x y : Operand} {l sz len ver : Nat} {es : List (List AV)} {kd : IntKind} {i : Int} (ho : o.op = .indexAddr t x y) (hx : rdv env x = some (.sla l sz 0 len ver)) (nx : rdn env x)
 (hy : rdv env y = some (.prim (.int kd i))) (ny : rdn env y) (hsz : elemSz T t = some sz) (hpos : 0 < sz) (hσ : σ[l]? = some (.arr sz ver es)) (h : 0 ≤ i ∧ i < len) : PRun P o env σ (.eptr l sz i.toNat 0 ver) := by
 have := PRun.indexA hT ho hx nx hy ny hsz hpos hσ h
 rwa [zBn] at this
theorem PRun.loadE (hT : T.Ok P) {t : TypeId} {x : Operand} {l sz i off ver : Nat} {es : List (List AV)} {li : LI} {e : List AV} {u : AV} (ho : o.op = .load t x) (hx : rdv env x = some (.eptr l sz i off ver)) (nx : rdn env x)
 (hσ : σ[l]? = some (.arr sz ver es)) (hi : i < es.length) (he : es.getD i [] = e) (hl : T.get t = some li) (hu : takeF li off e = some u) : PRun P o env σ u :=
 .of fun G A w hs hv => by
  have hX := rd (Rd.w hx nx) (by simp [ho, Op.operands]) hv
  generalize hA : A.eval x = v at hX
  obtain ⟨ob, cap, hB, hne, hob⟩ := arr_at hs hσ
  cases hX with
  | eptr _ _ _ _ _ b q hr =>
    obtain ⟨ob', cap', n', g1, g2, g3⟩ := hr
    rw [hB] at g1; simp at g1
    obtain ⟨rfl, rfl, rfl⟩ := g1
    obtain ⟨g4, g5, rfl, rfl⟩ := g3 rfl
    obtain ⟨c, T', fr, hb, hf, hl', hn, hz, hrr, hm⟩ := hob b rfl
    have hlk := LOk.of (hT.get hl)
    have hei : es[i]? = some e := by rw [← he]; simp [List.getD, hi]
    have hez := hz e (zAc hei)
    obtain ⟨hu1, hu2⟩ := takeF_spec hu
    have hcap : i < cap := by omega
    have hcell : ∀ j, j < (if li.lt.isAgg then li.size else 1) → w.cell? ⟨b, i * sz + off + j, none⟩ = some (c.getD (i * sz + (off + j)) undef) := fun j hj => by
     have h1 : off + j < sz := by omega
     have h2 := mul_lt hcap h1
     have h3 : i * sz + (off + j) < c.size := by rw [hl']; exact h2
     simp only [World.cell?, hb]
     rw [show i * sz + off + j = i * sz + (off + j) by omega]
     simp [h3]
    refine ⟨if li.lt.isAgg then .agg ((List.range li.size).map fun j => c.getD (i * sz + (off + j)) undef).toArray else c.getD (i * sz + (off + 0)) undef, ?_, ?_⟩
    · simp only [execOp, ho, hA, Instr.loadAt, Instr.sureAddr]
      simp only [Sem.run_bind, Sem.run_pure, Result.andThen_ok]
      rw [run_loadVar hlk w b (i * sz + off) (fun j => c.getD (i * sz + (off + j)) undef) hcell]
      rfl
    rw [← hu1]
    unfold takeAV
    cases ha : li.lt.isAgg with
    | true =>
      simp only [ha, if_true] at hu2 ⊢
      refine .agg _ _ (by simp; omega) fun j a hj => ?_
      rw [zAw] at hj
      split at hj
      · rename_i hlt
        rw [zB2] at hj
        have := hrr i (off + j) e a hei hj
        simpa [hlt] using this
      · simp at hj
    | false =>
      simp only [ha, zAq, if_false] at hu2 ⊢
      have hlt : off < e.length := by omega
      have := hrr i off e e[off] hei (zA1 hlt)
      have e2 : (e.drop off).headD .any = e[off] := by
       rw [zBf hlt]; rfl
      rw [e2]
      simpa using this
theorem PRun.loadEM {α : Type} [Inhabited α] {f : α → List AV} {xs : List α} (hT : T.Ok P) {t : TypeId} {x : Operand} {l sz i off ver : Nat} {li : LI} {u : AV} (ho : o.op = .load t x) (hx : rdv env x = some (.eptr l sz i off ver)) (nx : rdn env x)
 (hσ : σ[l]? = some (.arr sz ver (xs.map f))) (hi : i < xs.length) (hl : T.get t = some li) (hu : takeF li off (f (xs.getD i default)) = some u) : PRun P o env σ u :=
 PRun.loadE hT ho hx nx hσ (by simpa using hi) (by simp [List.getD, hi]) hl hu
theorem PRun.fieldE (hT : T.Ok P) {s : TypeId} {x : Operand} {f ft off' szf l sz i off ver : Nat} (ho : o.op = .fieldAddr s x f) (hx : rdv env x = some (.eptr l sz i off ver)) (nx : rdn env x) (hf : fieldOf T s f = some (ft, off', szf)) (hlt : decide (off + off' < sz) = true) :
 PRun P o env σ (.eptr l sz i (off + off') ver) :=
 .of fun G A w hs hv => by
  have hX := rd (Rd.w hx nx) (by simp [ho, Op.operands]) hv
  generalize hA : A.eval x = v at hX
  obtain ⟨h1, fs, s1, b1, z, h2, h3⟩ := fieldOf_spec hT hf
  cases hX with
  | eptr _ _ _ _ _ b q hr =>
    obtain ⟨ob, cap, n', g1, g2, g3⟩ := hr
    refine ⟨.pointer (some ⟨b, q + off', none⟩), ?_, .eptr l sz i _ ver b _ ⟨ob, cap, n', g1, g2, fun e => ?_⟩⟩
    · obtain ⟨F, k2, k3⟩ := h2.struct w
      obtain ⟨fd, k4, k5, k6, k7⟩ := k3 _ _ _ _ h3
      have hi : ∃ i, P.info? ft = some i ∧ i.size = szf := by
       cases hq : P.info? ft with
       | none => simp [hq] at k7; exact absurd k7.symm h1
       | some i => exact ⟨i, rfl, by simpa [hq] using k7⟩
      obtain ⟨i, hi1, hi2⟩ := hi
      simp [execOp, ho, hA, Instr.fieldAt, k2, k4, Instr.sureAddr, fieldPlace, sizeOf, typeInfo, k5, k6, hi1, hi2, h1, addr_add]
    · obtain ⟨k1, k2, k3, k4⟩ := g3 e
      exact ⟨k1, of_decide_eq_true hlt, by omega, k4⟩
theorem EStep.storeE (hT : T.Ok P) {t : TypeId} {x y : Operand} {l sz i ver : Nat} {es : List (List AV)} {u : AV} {us : List AV} {li : LI} (ho : o.op = .store t x y) (hg : o.guard = none) (hx : rdv env x = some (.eptr l sz i 0 ver)) (nx : rdn env x)
 (hσ : σ[l]? = some (.arr sz ver es)) (hi : i < es.length) (hy : rdv env y = some u) (ny : rdn env y) (hc : cellsAV u = some us) (hone : us.all oneAV = true) (hl : T.get t = some li) (hsz : li.size = us.length) (hsz' : us.length = sz) (hdn : dstOk n o = true)
 (hk : k (env.putO o.dst .any) (σ.set l (.arr sz ver (es.set i us)))) : EStep P n ops o k env σ := by
 refine EStep.plain hg fun G a w hr => ?_
 have h1 := hr.rd (Rd.w hx nx)
 generalize hA : a.eval x = X at h1
 obtain ⟨ob, cap, hB, hne, hob⟩ := arr_at hr.st hσ
 cases h1 with
 | eptr _ _ _ _ _ b q hrr =>
   obtain ⟨ob', cap', n', g1, g2, g3⟩ := hrr
   rw [hB] at g1; simp at g1
   obtain ⟨rfl, rfl, rfl⟩ := g1
   obtain ⟨g4, g5, rfl, rfl⟩ := g3 rfl
   obtain ⟨c, T', fr, hbb, hf, hlen, hn, hz, hrel, hm⟩ := hob b rfl
   have hlk := LOk.of (hT.get hl)
   have h2 := hr.rd (Rd.w hy ny)
   obtain ⟨h3, h4⟩ := cellsAV_rel hc h2
   have hcap : i < cap := by omega
   have hfit : i * sz + 0 + us.length ≤ c.size := by
    rw [hlen, hsz']
    have := zAp sz (show i + 1 ≤ cap from hcap)
    rw [zAx, zCz] at this; omega
   obtain ⟨w', c', r1, r2, r3, r4, r5, r6, rout⟩ := run_storeCells (P := P) (b := b) (off := i * sz + 0) (T := T') (fr := fr) (a.eval y).cells.toList 0 c w hbb hf (fun v hv => by
    obtain ⟨i, hi, rfl⟩ := zB0.1 hv
    have hi' : i < us.length := by simpa [h3] using hi
    have := h4 i us[i] (zA1 hi')
    have h5 := zA6.1 hone us[i] (zBs hi')
    have h6 := oneAV_rel h5 this
    have hi2 : i < (a.eval y).cells.size := by omega
    simpa [hi2] using h6) (by simp only [zBg, h3]; omega)
   have hrun : (execOp a.eval o).run P w = .ok .skip w' := by
    simp only [execOp, ho, hA, Instr.storeAt, Instr.sureAddr, storeVar]
    simp only [zBj] at r1
    simp [hlk.run_size w, h3, hsz, r1]
   unfold OWP
   rw [hrun]
   have hmm : G.M.map b = none := mem_of_notmap hr.st.memok hbb (by simp)
   have hs : SRel G (σ.set l (.arr sz ver (es.set i us))) w' := by
    refine hr.st.upd hB rfl r2 r3 (.arr b cap sz ver _ c' T' fr r4 (by rw [r5]; exact hf) (by rw [r5]; exact hlen) (by simpa using hn) (fun e he => ?_) (fun i' j e av he hj => ?_) hm) ⟨hm, hmm⟩ rout
    · rcases zCi he with h | h
      · exact hz e h
      · rw [h]; exact hsz'
    · have hjs : j < sz := by
       have hle : e.length = sz := by
        rcases zCi (zAc he) with h | h
        · exact hz e h
        · rw [h]; exact hsz'
       rcases zA5 j e.length with h | h
       · omega
       · simp [zA4 h] at hj
      rw [r6 (i' * sz + j)]
      simp only [zBj, zBg, h3, hsz']
      by_cases hii : i = i'
      · subst hii
        rw [zAd hi] at he
        simp at he; subst he
        rw [if_pos ⟨by omega, by omega⟩]
        have := h4 j av hj
        simpa using this
      · rw [zAj hii] at he
        have hno : ¬ (i * sz ≤ i' * sz + j ∧ i' * sz + j < i * sz + sz) := by
         rintro ⟨q1, q2⟩
         rcases zA5 i i' with h | h
         · have := zAp sz (show i + 1 ≤ i' from h)
           rw [zAx, zCz] at this; omega
         · have := zAp sz (show i' + 1 ≤ i by omega)
           rw [zAx, zCz] at this; omega
        rw [if_neg hno]
        exact hrel i' j e av he hj
   have hr' : ARel n G env (σ.set l (.arr sz ver (es.set i us))) a w' := ⟨hr.size, hr.defers, hr.vals, hs⟩
   exact ⟨_, _, G, hk, Gh.Le.refl G, hr'.putO (dstOk_spec hdn) (.any _)⟩
theorem AWP.freezeA {c : Code} {K : Exit → Env → Store → Prop} {d l sz ver : Nat} {es : List (List AV)} (hd : env d = .sla l sz 0 es.length ver) (hσ : σ[l]? = some (.arr sz ver es))
 (hpure : ∀ e ∈ es, ∀ a ∈ e, ∀ M B x, VRel M B a x → VRel M [] a x) (h : AWP P n c K (env.put d (.sl sz es .no)) (σ.set l .dead)) : AWP P n c K env σ := by
 intro G a w hr
 obtain ⟨ob, cap, hB, hne, hob⟩ := arr_at hr.st hσ
 have hlt : l < σ.length := by
  rcases zA5 l σ.length with h | h
  · exact h
  · simp [zA4 h] at hσ
 have hvd := hr.vals d
 rw [hd] at hvd
 generalize hX : a.tmps.getD d undef = X at hvd
 -- the object is dead now
 have dead : ∀ (M' : Mem), G.M.Le M' → (∀ b, (∀ b0, ob = some b0 → b ≠ b0) → (∀ o, M'.cell b o = G.M.cell b o) ∧ M'.map b = G.M.map b) → MemOk M' w → SRel { G with M := M' } (σ.set l .dead) w := fun M' hle hoth hok => by
  have hown : ∀ b0, ob = some b0 → ¬ G.w0.prot b0 ∧ ∀ (l' : Nat) (g : GB), G.B[l']? = some g → g.block = some b0 → l' = l := fun b0 e => by
   subst e
   exact ⟨(hr.st.fresh l _ b0 hB rfl).1, fun l' g h1 h2 => hr.st.inj l' l g _ b0 h1 hB h2 rfl⟩
  refine ⟨hok, fun b hb => ?_, hr.st.base, by simp [hr.st.len], fun l' g' o' h1 h2 => ?_, hr.st.fresh, hr.st.inj, hr.st.out, ⟨fun p hp => ?_, hr.st.dfr.2⟩⟩
  · have := hoth b fun b0 e eb => (hown b0 e).1 (eb ▸ hb)
    have h0 := hr.st.m0 b hb
    exact ⟨fun o => (this.1 o).trans (h0.1 o), this.2.trans h0.2⟩
  · by_cases hll : l = l'
    · subst hll
      rw [zAd hlt] at h2
      simp at h2; subst h2; exact .dead _
    · rw [zAj hll] at h2
      refine (hr.st.objs l' g' o' h1 h2).grow hle (BLe.refl _) (fun _ _ => rfl) fun b hb => hoth b fun b0 e eb => ?_
      subst eb
      exact hll ((hown b e).2 l' g' h1 hb).symm
  · obtain ⟨k1, k2, k3, k4, k5⟩ := hr.st.dfr.1 p hp
    have := hoth p.1 fun b0 e eb => by
     subst e
     exact k3 l _ hB (by rw [eb]; rfl)
    exact ⟨k1, k2, k3, fun o => (this.1 o).trans (k4 o), this.2.trans k5⟩
 have fin : ∀ (M' : Mem), G.M.Le M' → SRel { G with M := M' } (σ.set l .dead) w → VRel M' G.B (.sl sz es .no) X → c.wpIn (FR G.R) 0 P (fun x a' w' => ∃ env' σ' G', K x env' σ' ∧ G.Le G' ∧ ARel n G' env' σ' a' w') a w := fun M' hle hs hv => by
  have hr' : ARel n { G with M := M' } (env.put d (.sl sz es .no)) (σ.set l .dead) a w := by
   refine ⟨hr.size, hr.defers, fun i => ?_, hs⟩
   simp only [Env.put]
   split
   · rename_i e; subst e; rw [hX]; exact hv
   · exact (hr.vals i).mono hle (BLe.refl _)
  refine wpIn_mono (h { G with M := M' } a w hr') ?_
  rintro x a' w' ⟨e, s, G', h1, h2, h3⟩
  exact ⟨e, s, G', h1, Gh.Le.trans (G' := { G with M := M' }) (.upM hle) h2, h3⟩
 cases hvd with
 | sla _ _ _ _ _ ad cc hq =>
   obtain ⟨ob', cap', n', g1, g2, g3⟩ := hq
   rw [hB] at g1; simp at g1
   obtain ⟨rfl, rfl, rfl⟩ := g1
   obtain ⟨g4, g5⟩ := g3 rfl
   by_cases hes : es = []
   · subst hes
     exact fin G.M (Mem.Le.refl _) (dead G.M (Mem.Le.refl _) (fun _ _ => ⟨fun _ => rfl, rfl⟩) hr.st.memok) (.slzz sz ad cc)
   · obtain ⟨b, rfl⟩ := hne hes
     obtain ⟨cs, T', fr, hbb, hf, hlen, hn, hz, hrel, hm⟩ := hob b rfl
     have hlen0 : es.length ≠ 0 := fun e => hes (zAs e)
     rcases g5 with g5 | ⟨rfl, rfl⟩
     · exact absurd g5 hlen0
     have hle := Mem.le_addBlk (M := G.M) (b := b) cs hm
     refine fin (G.M.addBlk b cs) hle (dead _ hle (fun b' hb' => ?_) ?_) ?_
     · have := hb' b rfl
       exact ⟨fun o => by simp only [Mem.addBlk, if_neg this], rfl⟩
     · refine ⟨fun b' o v hv => ?_, hr.st.memok.m, hr.st.memok.g.mono hle⟩
       simp only [Mem.addBlk] at hv
       split at hv
       · rename_i e; subst e
         simp only [World.cell?, hbb]; exact hv
       · exact hr.st.memok.c _ _ _ hv
     · simp only [zBc, zDe, Nat.sub_zero]
       refine .sl sz es .no b 0 _ (fun i j => cs.getD (i * sz + j) undef) hz (fun i j hi hj => ?_) (fun i j e a he ha => ?_) hn trivial
       · have h1 := mul_lt (zBx hi hn) hj
         have h2 : i * sz + j < cs.size := by rw [hlen]; exact h1
         simp only [Mem.addBlk, if_pos rfl, zBn]
         simp [h2]
       · exact hpure e (zAc he) a (zAc ha) _ _ _ ((hrel i j e a he ha).mono hle (BLe.refl _))
end
end Go.Ab
