/- A range over a function that looks at the caller's objects as it goes on.  Contracts by content: align: free, match: which notes belong together.  Contracts by content: slices.Clone of bars and parts; score.With.  Contracts by content: the reference of scores: Valid, Bar, Part, Note, Plays, With.  Alignments in plain words: well-formed scores, a score and itself, a score without a bar.  Alignments in plain words: notes that belong together, in the order of their score. No statement is proved here. -/
import Derived.Test.YtekfpcgagoidcaaGreatDoorU4
import Derived.Test.YtekfpcgagoidcaaGreatDoorU11
import Derived.Test.YtekfpcgagoidcaaGreatDoorU17
import Derived.Test.YtekfpcgagoidcaaGreatDoorU18
set_option linter.unusedVariables false
set_option linter.unusedSimpArgs false
namespace Go.Ab
def roundKP (m : Nat) (S' : Store) (pn : Prop) (R : Exit → Store → Prop) : Exit → Env → Store → Prop
 | .normal, _, s => s.take m = S' ∧ pn
 | .ret, _, s => R .ret (s.take m)
 | .exit id, _, s => R (.exit id) (s.take m)
 | _, _, _ => False
theorem yield_roundP {P : Program} {pn : Prop} {n m : Nat} {rc : Loop} {E : List (Nat × AV)} {x : List AV} {Sj Sj' : Store} {R : Exit → Store → Prop} (hrc : rc.state = .ready ∧ rc.pending = none) (hlen : Sj.length = m) (hlen' : Sj'.length = m) (hok' : Sj'.all (okObj m) = true)
 (hokE : E.all (fun p => okRef m 4 p.2) = true) (hok : Sj.all (okObj m) = true) (hR : ∀ x s, R x s → s.length = m ∧ s.all (okObj m) = true) (hsz : rc.tmps.size = n) (hx : x.length = rc.params.size) (hpn : rc.params.toList.all (fun d => decide (d < n)) = true) (hxo : x.all (okRef m 4) = true)
 (round : AWP P n rc.assign (fun x e s => x = .normal ∧ AWP P n rc.body (roundKP m Sj' pn R) e s) ((Env.of E).puts (rc.params.toList.zip x)) Sj) :
 VCall P (.opq (.yld m)) x (Sj ++ [.loop rc E]) (fun r s => (r = .b true ∧ s = Sj' ++ [.loop rc E] ∧ pn) ∨ (r = .b false ∧ ∃ s0 c, s = s0 ++ [.loop { rc with state := .done, pending := some c } E] ∧ ((c = .ret ∧ R .ret s0) ∨ ∃ id, c = .exit id ∧ R (.exit id) s0))) := by
 subst hlen
 intro G w fn' vf vc vs hs hf ha
 cases hf with
 | opq _ _ _ _ hf =>
 cases hf with
 | yld _ b hb =>
 obtain ⟨b', hb', hheap, hv, hs1⟩ := hs.aside hok
 rw [hb] at hb'; simp at hb'; subst hb'
 have hrun : (invoke (.fn (.yield b) #[]) (#[] ++ vs)).run P w = .ok (.round b rc.fn ((rc.params.zip vs).foldl (fun tmps (t, a) => tmps.setIfInBounds t a) rc.tmps) rc.assign rc.body) w := by
  have : (invoke (.fn (.yield b) #[]) (#[] ++ vs)) = Instr.yield b vs := by simp [invoke]
  rw [this]
  exact run_yield hheap (by rw [ha.1, hx])
 rw [hrun]
 simp only [uponV]
 intro ro
 have hGlen : G.B.length = Sj.length + 1 := by rw [hs.len]; simp
 refine roundIn_of_wpIn (F := FR ro) trivial ?_
 have hr1 : ARel n { G with B := G.B.take Sj.length, D := (b, .loop rc) :: G.D, R := some b, F := [] } (Env.of E) Sj { tmps := rc.tmps, defers := [] } w :=
  ⟨hsz, DefOk.nil _, fun i => VRel.take 4 _ _ (ofE_ok hokE i) (hv i), hs1.setF []⟩
 have hr2 := ARel.puts rc.params.toList x vs.toList (Env.of E) _ hr1 (by simp [hx]) (by simpa using ha.1) (fun d hd => by simpa using zA7.1 hpn d hd) fun i c hi => by
  have := VRel.take (m := Sj.length) 4 c _ (zA7.1 hxo c (zAk hi)) (ha.2 i c hi)
  simpa [zA4, List.getD] using this
 have etm : (rc.params.zip vs).foldl (fun tmps (t, a) => tmps.setIfInBounds t a) rc.tmps = (rc.params.toList.zip vs.toList).foldl (fun t (p, v) => t.setIfInBounds p v) rc.tmps := by
  rw [← Array.foldl_toList, Array.toList_zip]
 rw [etm]
 have h3 := round _ _ w hr2
 refine wpIn_mono (F := (FR ro).inRound b) h3 ?_
 rintro xx a1 w1 ⟨e1, s1, G2, ⟨rfl, hbody⟩, hle2, hr3⟩
 have hD2 : (b, Obj.loop rc) ∈ G2.D := hle2.d _ (zAp ..)
 have hb2 := (hr3.st.dfr.1 _ hD2).1
 refine ⟨_, run_beginRound hb2 hrc.1, ?_⟩
 have hs4 := hr3.st.reD hD2 { rc with state := .busy }
 have hr4 : ARel n { G2 with D := (b, .loop { rc with state := .busy }) :: G2.D.filter (fun p => p.1 != b), R := some b } e1 s1 a1 (w1.putObj b (.loop { rc with state := .busy })) := by
  obtain ⟨ds, ds2, hds, hnd, hD⟩ := hr3.defers
  refine ⟨hr3.size, ⟨ds, ds2, hds, hnd, fun b' hb' => zAm _ (zCf.2 ⟨hD b' hb', ?_⟩)⟩, hr3.vals, hs4⟩
  have h5 := (hr3.st.dfr.1 _ (hD b' hb')).1
  simp only [bne_iff_ne, ne_eq]
  intro e; subst e
  rw [hb2] at h5; simp at h5
 have h4 := hbody _ a1 _ hr4
 refine wpIn_mono (F := (FR ro).inRound b) h4 ?_
 rintro xx a3 w3 ⟨e3, s3, G4, hk, hle4, hr5⟩
 have hD4 : (b, Obj.loop { rc with state := .busy }) ∈ G4.D := hle4.d _ (zAp ..)
 have hb4 := (hr5.st.dfr.1 _ hD4).1
 have hne : ∀ p ∈ G.D, p.1 ≠ b := fun p hp e => (hs.dfr.1 p hp).2.2.1 Sj.length _ hb (by rw [e]; rfl)
 have hB : BLe G.B (G4.B.take Sj.length ++ [.blk b]) := by
  intro l g hl
  rcases nLg l Sj.length with hlt | hge
  · obtain ⟨g2, k1, k2⟩ := hle2.b l g (take_get hl hlt)
    obtain ⟨g4, k3, k4⟩ := hle4.b l g2 k1
    refine ⟨g4, ?_, k2.trans k4⟩
    have h6 : (G4.B.take Sj.length)[l]? = some g4 := take_get k3 hlt
    have : l < (G4.B.take Sj.length).length := by
     rcases nLg l (G4.B.take Sj.length).length with h | h
     · exact h
     · simp [zA1 h] at h6
    rw [zA6 this]; exact h6
  · have hl2 : l = Sj.length := by
     rcases nLg l G.B.length with h | h
     · omega
     · simp [zA1 h] at hl
    subst hl2
    rw [hb] at hl; simp at hl; subst hl
    have h4l : Sj.length ≤ G4.B.length := by
     rcases nLg G4.B.length Sj.length with h | h
     · obtain ⟨g2, k1, _⟩ := hle2.b _ _ (take_get (zA9 (show G4.B.length < G.B.length by omega)) h)
       obtain ⟨g4, k3, _⟩ := hle4.b _ _ k1
       simp at k3
     · exact h
    have hl4 : (G4.B.take Sj.length).length = Sj.length := by simp; omega
    exact ⟨.blk b, by rw [zAc (by omega), hl4]; simp, GB.Le.refl _⟩
 have hM : G.M.Le G4.M := hle2.m.trans hle4.m
 have fin : ∀ (jump : Option Code) (r0 : LoopState), (Instr.endRound b jump).run P w3 = .ok (.bool jump.isNone) (w3.putObj b (.loop { { rc with state := LoopState.busy } with state := if jump.isNone then .ready else .done, pending := jump })) := fun jump _ => run_endRound jump hb4
 have back : ∀ (r' : Loop), r'.tmps = rc.tmps → (s3.take Sj.length).length = Sj.length → (s3.take Sj.length).all (okObj Sj.length) = true →
  ∃ G5 : Gh, G.Le G5 ∧ SRel G5 (s3.take Sj.length ++ [.loop r' E]) (w3.putObj b (.loop r')) := fun r' htm hl5 hok5 => by
  have h7 := hr5.st.take Sj.length hok5
  refine ⟨{ G4 with B := G4.B.take Sj.length ++ [.blk b], D := G.D, R := G.R, F := G.F }, ⟨hle4.m0.trans hle2.m0, hle4.w0.trans hle2.w0, hM, hB, fun _ h => h, rfl, rfl⟩, ?_⟩
  refine SRel.setF (G := { G4 with B := G4.B.take Sj.length ++ [.blk b], D := G.D, R := G.R }) ?_ G.F
  exact h7.putBack hD4 r' E (fun i => by rw [htm]; exact (hv i).mono hM hB) (fun p hp => ⟨hle4.d _ (zAm _ (zCf.2 ⟨hle2.d _ (zAm _ hp), by simpa using hne p hp⟩)), hne p hp⟩) hs.dfr.2
 cases xx with
 | normal =>
   obtain ⟨hk, hpn'⟩ := hk
   obtain ⟨G5, g1, g2⟩ := back { rc with state := .ready, pending := none } rfl (by rw [hk]; exact hlen') (by rw [hk]; exact hok')
   refine ⟨_, _, fin none .ready, .b true, _, G5, .inl ⟨rfl, ?_, hpn'⟩, g1, g2, .prim _⟩
   have : ({ rc with state := .ready, pending := none } : Loop) = rc := by
    obtain ⟨h1, h2⟩ := hrc
    cases rc; simp at h1 h2; subst h1; subst h2; rfl
   rw [hk, this]
 | ret =>
   simp only [roundKP] at hk
   obtain ⟨h8, h9⟩ := hR _ _ hk
   obtain ⟨G5, g1, g2⟩ := back { rc with state := .done, pending := some .ret } rfl h8 h9
   exact ⟨_, _, fin (some .ret) .ready, .b false, _, G5, .inr ⟨rfl, _, .ret, rfl, .inl ⟨rfl, hk⟩⟩, g1, g2, .prim _⟩
 | exit id =>
   simp only [roundKP] at hk
   obtain ⟨h8, h9⟩ := hR _ _ hk
   obtain ⟨G5, g1, g2⟩ := back { rc with state := .done, pending := some (.exit id) } rfl h8 h9
   exact ⟨_, _, fin (some (.exit id)) .ready, .b false, _, G5, .inr ⟨rfl, _, .exit id, rfl, .inr ⟨id, rfl, hk⟩⟩, g1, g2, .prim _⟩
 | _ => exact hk.elim
def IterP (P : Program) (k : FuncId) (first caps : List AV) (xs : List (List AV)) (L : Nat) (S : Nat → Store) (Pj : Nat → Prop) : Prop :=
 ∀ (yv : AV) (R : Nat → Store → Prop), Pj 0 → (∀ j, j ≤ xs.length → (S j).length = L ∧ (S j).all (okObj L) = true) → (∀ j s, R j s → s.length = L ∧ s.all (okObj L) = true) →
  okRef L 3 yv = true → (∀ j x, xs[j]? = some x → Pj j → VCall P (.opq yv) x (S j) (fun r s => (r = .b true ∧ s = S (j + 1) ∧ Pj (j + 1)) ∨ (r = .b false ∧ R j s))) →
  TCall P k (first ++ [.opq yv] ++ caps) (S 0) (fun _ s => (s = S xs.length ∧ Pj xs.length) ∨ ∃ j, j < xs.length ∧ R j s)
theorem AWP.rangeFuncP {P : Program} {n : Nat} {K : Exit → Env → Store → Prop} {env : Env} {σ : Store} {g : Operand} {ps : Array Tmp} {assign body : Code} {k : FuncId} {first caps : List AV}
 (xs : List (List AV)) (E : List (Nat × AV)) (S : Nat → Store) (Pj : Nat → Prop) (R : Nat → Exit → Store → Prop) (iter : ∀ rc : Loop, IterP P k first caps xs (σ.length + 1) (fun j => S j ++ [.loop rc E]) Pj) (hP0 : Pj 0) (hg : rdv env g = some (.fn (.func k) first caps)) (ng : rdn env g)
 (hps : ∀ x ∈ xs, x.length = ps.size) (hxo : ∀ x ∈ xs, x.all (okRef σ.length 4) = true) (hpn : ps.toList.all (fun d => decide (d < n)) = true) (hE : WeakL env E) (hokE : E.all (fun p => okRef σ.length 4 p.2) = true)
 (hS0 : S 0 = σ) (hS : ∀ j, j ≤ xs.length → (S j).length = σ.length ∧ (S j).all (okObj σ.length) = true)
 (hR : ∀ j x s, R j x s → s.length = σ.length ∧ s.all (okObj σ.length) = true)
 (round : ∀ j x, xs[j]? = some x → Pj j → AWP P n assign (fun x e s => x = .normal ∧ AWP P n body (roundKP σ.length (S (j + 1)) (Pj (j + 1)) (R j)) e s) ((Env.of E).puts (ps.toList.zip x)) (S j))
 (done : Pj xs.length → K .normal env (S xs.length)) (left : ∀ j x s, j < xs.length → R j x s → K x env s) : AWP P n (.rangeFunc g ps assign body) K env σ := by
 intro G a w hr
 have hgv := hr.rd (Rd.w hg ng)
 generalize hA : a.eval g = y at hgv
 cases hgv with
 | fn _ _ _ vf vc hvf hvc h1 h2 =>
 refine wpIn_rangeFunc fun fn _ => ?_
 obtain ⟨l, mark, W1, rc, D1, hent, ⟨hc1, hc2, hc3, hc4, hc5, hc6⟩, hD1, hdef, hs1⟩ := enter_loop hr E hE.weak fn ps assign body
 have hlen : G.B.length = σ.length := hr.st.len
 have hT := iter rc (.yld σ.length)
  (fun j s => ∃ s0 c, s = s0 ++ [.loop { rc with state := .done, pending := some c } E] ∧ ((c = .ret ∧ R j .ret s0) ∨ ∃ id, c = .exit id ∧ R j (.exit id) s0))
  hP0 (fun j hj => by
   obtain ⟨k1, k2⟩ := hS j hj
   refine ⟨by simp [k1], ?_⟩
   rw [zCi, okObjs_mono (zBt _) k2]
   simpa using okObj_mono (o := .loop rc E) (zBt σ.length) hokE)
  (fun j s hs => by
   obtain ⟨s0, c, rfl, hc⟩ := hs
   have k : s0.length = σ.length ∧ s0.all (okObj σ.length) = true := by
    rcases hc with ⟨_, hc⟩ | ⟨id, _, hc⟩
    · exact hR _ _ _ hc
    · exact hR _ _ _ hc
   refine ⟨by simp [k.1], ?_⟩
   rw [zCi, okObjs_mono (zBt _) k.2]
   simpa using okObj_mono (o := .loop { rc with state := .done, pending := some c } E) (zBt σ.length) hokE)
  (by simp [okRef])
  (fun j x hx hp => by
   have hj : j < xs.length := by
    rcases nLg j xs.length with h | h
    · exact h
    · simp [zA1 h] at hx
   have hxm := zAk hx
   refine yield_roundP (n := n) ⟨hc1, hc2⟩ (hS j (by omega)).1 (hS (j + 1) (by omega)).1 (hS (j + 1) (by omega)).2 hokE (hS j (by omega)).2 (hR j) (by rw [hc3]; exact hr.size) (by rw [hc4]; exact hps x hxm) (by rw [hc4]; exact hpn) (hxo x hxm) ?_
   rw [hc4, hc5, hc6]
   exact round j x hx hp)
 have hB1 : BLe G.B (G.B ++ [.blk l]) := BLe.append _ _
 have hm : (G.B ++ [GB.blk l])[σ.length]? = some (.blk l) := by rw [← hlen]; simp
 have hargs : ArgsB { G with B := G.B ++ [.blk l], D := D1 } (first ++ [.opq (.yld σ.length)] ++ caps) (vf ++ #[.func (.yield l) #[] #[]] ++ vc) :=
  ((ArgsB.append (G := { G with B := G.B ++ [.blk l], D := D1 }) ⟨hvf, fun i c hi => (h1 i c hi).mono (Mem.Le.refl _) hB1⟩ ⟨rfl, fun i c hi => by
    cases i with
    | zero => simp at hi; subst hi; exact .opq _ _ _ _ (.yld _ l hm)
    | succ i => simp at hi⟩).append ⟨hvc, fun i c hi => (h2 i c hi).mono (Mem.Le.refl _) hB1⟩)
 have hcall := hT.2 { G with B := G.B ++ [.blk l], D := D1 } W1 _ (by show SRel _ (S 0 ++ [AObj.loop rc E]) W1; rw [hS0]; exact hs1) hargs
 refine ⟨l, mark, W1, { target := .fn (.func k) vc, args := vf ++ #[.func (.yield l) #[] #[]] }, W1, k, vf ++ #[.func (.yield l) #[] #[]] ++ vc, W1, hent, ?_, fun _ _ => trivial, ?_, ?_, ?_⟩
 · simp only [resolve, hA]
   simp [go_sem, Act.eval, Deferred.ofValue]
 · simp only [invoke]; exact run_callFunc hT.1 _ _
 · intro hd; simp [FR, Fence.wide] at hd
 · refine callsIn_FR (ro := G.R) ?_
   refine Calls.mono hcall ?_
   rintro e w' ⟨v, rv, σ', G', rfl, hQ, hle, hs', _⟩
   have hBl : G'.B[σ.length]? = some (.blk l) := by
    obtain ⟨g', k1, k2⟩ := hle.b _ _ hm
    simp only [GB.Le] at k2; subst k2; exact k1
   -- what is left when the loop is over
   have over : ∀ (s0 : Store) (r : Loop), s0.length = σ.length → s0.all (okObj σ.length) = true → SRel G' (s0 ++ [.loop r E]) w' → r.state ≠ .busy →
    ∃ G'' w'', (Instr.endLoop l).run P w' = .ok r.pending w'' ∧ G.Le G'' ∧ ARel n G'' env s0 { a with defers := mark ++ a.defers } w'' := fun s0 r hl0 ho0 hs0 hbusy => by
    obtain ⟨l', hb', hheap, _, hsa⟩ := hs0.aside (by rw [hl0]; exact ho0)
    rw [hl0, hBl] at hb'; simp at hb'; subst hb'
    have hne : ∀ p ∈ G'.D, p.1 ≠ l := fun p hp e => (hs0.dfr.1 p hp).2.2.1 _ _ hBl (by rw [e]; rfl)
    have hu := (hsa.undefer (D' := G'.D) (zAp ..) (.loop { r with state := .exhausted }) fun p hp => ⟨zAm _ hp, hne p hp⟩)
    have hu2 := SRel.setR (G := { G' with B := G'.B.take s0.length }) (R' := G'.R) hu hs0.dfr.2
    have hBe : BLe G.B (G'.B.take s0.length) := fun i g hi => by
     obtain ⟨g', k1, k2⟩ := (hB1.trans hle.b) i g hi
     have : i < s0.length := by
      rcases nLg i G.B.length with h | h
      · omega
      · simp [zA1 h] at hi
     exact ⟨g', take_get k1 this, k2⟩
    refine ⟨{ G' with B := G'.B.take s0.length }, _, run_endLoop hheap hbusy, ⟨hle.m0, hle.w0, hle.m, hBe, fun p hp => hle.d p (hD1 p hp), hle.r, hle.f⟩, hr.size, by rw [show ({ G' with B := G'.B.take s0.length } : Gh).F = G.F from hle.f]; exact hdef.mono hle.d, fun i => (hr.vals i).mono hle.m hBe, hu2⟩
   rcases hQ with ⟨rfl, hPn⟩ | ⟨j, hj, s0, c, rfl, hc⟩
   · obtain ⟨k1, k2⟩ := hS xs.length (nLr _)
     obtain ⟨G'', w'', h3, h4, h5⟩ := over _ rc k1 k2 hs' (by rw [hc1]; simp)
     rw [hc2] at h3
     exact ⟨none, w'', h3, env, _, G'', done hPn, h4, h5⟩
   · rcases hc with ⟨rfl, hc⟩ | ⟨id, rfl, hc⟩
     · obtain ⟨k1, k2⟩ := hR _ _ _ hc
       obtain ⟨G'', w'', h3, h4, h5⟩ := over s0 _ k1 k2 hs' (by simp)
       exact ⟨some .ret, w'', h3, wpIn_ret ⟨env, _, G'', left _ _ _ hj hc, h4, h5⟩⟩
     · obtain ⟨k1, k2⟩ := hR _ _ _ hc
       obtain ⟨G'', w'', h3, h4, h5⟩ := over s0 _ k1 k2 hs' (by simp)
       exact ⟨some (.exit id), w'', h3, wpIn_exit ⟨env, _, G'', left _ _ _ hj hc, h4, h5⟩⟩
end Go.Ab
namespace Go.Proofs.YtekfpcgagoidcaaGreatDoor.Al
open Go.Ab Go.Sort
attribute [local irreducible] AWP AOps EStep AQ PStep PRun PCall TCall VCall
def swp (ps : PL) : PL := ps.map fun p => (p.2, p.1)
theorem sndIn_swp (ps : PL) (i : Int) : (lk (swp ps) i).isSome = sndIn ps i := by
 rw [lk_fst]; unfold fstIn swp sndIn; rw [List.any_map]; rfl
theorem ins_new {ps : PL} {i k : Int} (h : fstIn ps i = false) : ins ps i k = ps ++ [(i, k)] := by
 induction ps with
 | nil => rfl
 | cons p r ih =>
   obtain ⟨x, y⟩ := p
   unfold fstIn at h ih
   rw [List.any_cons, zA5] at h
   have hne : x ≠ i := by simpa using h.1
   simp only [ins]
   rw [if_neg hne, ih h.2]; rfl
def freeA (a : List Note) (ps : PL) : List Note := a.filter fun x => !fstIn ps x.id
def freeB (b : List Note) (ps : PL) : List Note := b.filter fun y => !sndIn ps y.id
theorem stepM_done {f : Note → Note → Bool} {b : List Note} {ps : PL} {x : Note} (h : fstIn ps x.id = true) : stepM f b ps x = ps := by unfold stepM; rw [if_pos h]
theorem matchL_free {f : Note → Note → Bool} {b : List Note} (q : PL) : ∀ {l : List Note} {ps : PL}, (∀ i, fstIn q i = true → fstIn ps i = true) → matchL f l b ps = matchL f (freeA l q) b ps
 | [], _, _ => rfl
 | x :: l, ps, h => by
   unfold freeA
   by_cases hx : fstIn q x.id = true
   · rw [zBi (by rw [hx]; decide)]
     show matchL f l b (stepM f b ps x) = _
     rw [stepM_done (h _ hx)]
     exact matchL_free q h
   · rw [zBh (by simpa using hx)]
     show matchL f l b (stepM f b ps x) = matchL f (freeA l q) b (stepM f b ps x)
     exact matchL_free q fun i hi => by
      obtain ⟨k, hk⟩ := fstIn_iff.1 (h i hi)
      exact fstIn_iff.2 ⟨k, stepM_sub hk⟩
def psAt (f : Note → Note → Bool) (a b : List Note) (ps : PL) (j : Nat) : PL := matchL f ((freeA a ps).take j) b ps
theorem psAt_succ {f : Note → Note → Bool} {a b : List Note} {ps : PL} {j : Nat} (h : j < (freeA a ps).length) : psAt f a b ps (j + 1) = stepM f b (psAt f a b ps j) ((freeA a ps).getD j default) := by
 unfold psAt matchL; rw [takeS h, zBy]; rfl
theorem psAt_end {f : Note → Note → Bool} {a b : List Note} {ps : PL} : psAt f a b ps (freeA a ps).length = matchL f a b ps := by
 unfold psAt; rw [zB9]; exact (matchL_free ps (fun _ h => h)).symm
theorem stepM_fst {f : Note → Note → Bool} {b : List Note} {ps : PL} {x : Note} {i : Int} (h : i ≠ x.id) : fstIn (stepM f b ps x) i = fstIn ps i := by
 unfold stepM
 split
 · rfl
 · split
   · rw [fstIn_append]; simp [fstIn]; intro e; exact absurd e.symm h
   · rfl
theorem matchL_fst {f : Note → Note → Bool} {b : List Note} : ∀ {l : List Note} {ps : PL} {i : Int}, (∀ x ∈ l, x.id ≠ i) → fstIn (matchL f l b ps) i = fstIn ps i
 | [], _, _, _ => rfl
 | x :: l, ps, i, h => by
   show fstIn (matchL f l b (stepM f b ps x)) i = _
   rw [matchL_fst (l := l) fun y hy => h y (zAm _ hy), stepM_fst (h x (zAp ..)).symm]
theorem psAt_lk {f : Note → Note → Bool} {a b : List Note} {ps : PL} (hn : (a.map (·.id)).Nodup) {k : Nat} (hk : k < a.length) :
 (lk (psAt f a b ps ((a.take k).filter fun x => !fstIn ps x.id).length) (a.getD k default).id).isSome = fstIn ps (a.getD k default).id := by
 rw [lk_fst]
 unfold psAt freeA
 exact matchL_fst (notin_take (f := fun n : Note => n.id) (fun x => !fstIn ps x.id) hn hk)
theorem find_take {α : Type} [Inhabited α] {p : α → Bool} : ∀ {l : List α} {j : Nat}, j < l.length → (∀ i, i < j → p (l.getD i default) = false) → p (l.getD j default) = true → l.find? p = some (l.getD j default)
 | x :: l, 0, _, _, h => by
   rw [zC9]
   have h : p x = true := h
   rw [h]; rfl
 | x :: l, j + 1, hj, h1, h2 => by
   rw [zC9]
   have h0 : p x = false := h1 0 (zAd _)
   rw [h0]
   exact find_take (l := l) (j := j) (by simpa using hj) (fun i hi => h1 (i + 1) (by omega)) h2
theorem find_filter {α : Type} (p q : α → Bool) : ∀ l : List α, l.find? (fun y => p y && q y) = (l.filter p).find? q
 | [] => rfl
 | y :: l => by
   rw [zC9]
   by_cases hp : p y = true
   · rw [zBh hp, zC9, hp, zC6, find_filter p q l]
   · have hp' : p y = false := by simpa using hp
     rw [zBi hp, hp', Bool.false_and, find_filter p q l]
theorem stepM_at {f : Note → Note → Bool} {b : List Note} {ps : PL} {x : Note} (hx : fstIn ps x.id = false) {j : Nat} (hj : j < (freeB b ps).length) (h1 : ∀ i, i < j → f x ((freeB b ps).getD i default) = false) (h2 : f x ((freeB b ps).getD j default) = true) :
 stepM f b ps x = ps ++ [(x.id, ((freeB b ps).getD j default).id)] := by
 unfold stepM
 rw [if_neg (by rw [hx]; decide), find_filter (fun y => !sndIn ps y.id) (f x)]
 rw [find_take (l := b.filter fun y => !sndIn ps y.id) hj h1 h2]; rfl
theorem stepM_none {f : Note → Note → Bool} {b : List Note} {ps : PL} {x : Note} (hx : fstIn ps x.id = false) (h1 : ∀ i, i < (freeB b ps).length → f x ((freeB b ps).getD i default) = false) : stepM f b ps x = ps := by
 unfold stepM
 rw [if_neg (by rw [hx]; decide), find_filter (fun y => !sndIn ps y.id) (f x)]
 have : (b.filter fun y => !sndIn ps y.id).find? (f x) = none := by
  rw [List.find?_eq_none]
  intro y hy
  obtain ⟨i, hi, rfl⟩ := zB1.1 hy
  have h9 : f x ((b.filter fun y => !sndIn ps y.id).getD i default) = false := h1 i hi
  rw [getD_lt hi] at h9
  rw [h9]; decide
 rw [this]
end Go.Proofs.YtekfpcgagoidcaaGreatDoor.Al
namespace Go.Ab
theorem Ent.agg {us vs : List AV} (hl : us.length = vs.length) (h : ∀ (i : Nat) (u v : AV), us[i]? = some u → vs[i]? = some v → Ent u v) : Ent (.agg us) (.agg vs) := fun M x hx => by
 cases hx with
 | agg _ xs h1 h2 =>
   refine .agg vs xs (by rw [h1, hl]) fun i c hi => ?_
   have hlt : i < us.length := by
    rw [hl]
    rcases nLg i vs.length with h | h
    · exact h
    · simp [zA1 h] at hi
   exact h i us[i] c (zA9 hlt) hi M _ (h2 i _ (zA9 hlt))
end Go.Ab
namespace Go.Proofs.YtekfpcgagoidcaaGreatDoor
open Go.Ab
attribute [local irreducible] AWP AOps EStep AQ PStep PRun PCall TCall VCall
def Score.Sized (s : Score) : Prop := s.bars.length ≤ 9223372036854775807 ∧ s.parts.length ≤ 9223372036854775807 ∧ s.notes.length ≤ 9223372036854775807
theorem notesOk_all {bars : List Bar} {l : List Note} (h : notesOk bars l = true) : barsOk bars = true ∧ l.length ≤ 20000 ∧ ∀ x ∈ l, noteOk bars x = true := by
 unfold notesOk at h
 simp only [zA0, dEt, zA7] at h
 exact ⟨h.1.1.1, by omega, h.1.2⟩
def scoreX (s : Score) : Bool := !scoreBad s && stepsOk (idxAL s.bars) s.notes
theorem scoreOk_eq (s : Score) : scoreOk s = scoreX s := by
 unfold scoreOk scoreX
 cases h : scoreBad s with
 | true => rfl
 | false =>
   have : notesOk s.bars s.notes = true := by
    unfold scoreBad at h
    simp only [zA5, zAe] at h
    exact h.1.2
   rw [sort_steps this]
set_option maxRecDepth 20000 in
theorem valid8_spec (s : Score) (hs : s.Small) : PCall Tryz.prog 45 [.agg (encS s)] (.b (scoreOk s)) := by
 obtain ⟨h1, h2, h3⟩ := hs
 have v1 := r6valid_spec s.bars (by omega)
 have v2 := partsX_spec s.parts (by omega)
 rw [partsX_ok] at v2
 have v3 := r7valid_spec s.bars s.notes (by omega) (by omega)
 rw [scoreOk_eq]
 refine PCall.body Tryz.func45 rfl rfl Tryz.ntmps45 rfl rfl ?_
 repeat' (first | refine aoQ rfl rfl rfl (fun hg => by first | exact std0 | exact pcW (v1) rfl rfl nd rfl nds | exact pcW (v2) rfl rfl nd rfl nds | exact pcW (r8in_spec _ _ _) rfl rfl nd rfl nds) (by exact rfl) ?_ | refine sqW ?_ | refine rgK (fun K' hK => ?_) | (refine aoN (hK _ _ ?_); clear hK K') | refine aoE (bxW rfl rfl rfl rfl rfl tI rfl rfl ?_) | refine cdN rfl tI (fun hc => ?_) (fun hc => ?_) | refine skW ?_ | refine rtW ?_)
 · refine ⟨.inr rfl, Ent.b (Eq.symm ?_)⟩
   unfold scoreX scoreBad
   have : (!inB s.version 1 1000000 || !barsOk s.bars || !partsOk s.parts) = true := hc
   rw [this]; rfl
 have b1 : (!inB s.version 1 1000000 || !barsOk s.bars || !partsOk s.parts) = false := hc
 have hp : barsOk s.bars = true ∧ partsOk s.parts = true := by
  simp only [zA5, zAe] at b1
  exact ⟨b1.1.2, b1.2⟩
 clear hc v1 v2
 repeat' (first | refine aoQ rfl rfl rfl (fun hg => by first | exact std0 | exact pcW (v3) rfl rfl nd rfl nds) (by exact rfl) ?_ | refine sqW ?_ | refine rgK (fun K' hK => ?_) | (refine aoN (hK _ _ ?_); clear hK K') | refine cdN rfl tI (fun hc => ?_) (fun hc => ?_) | refine skW ?_ | refine rtW ?_)
 · refine ⟨.inr rfl, Ent.b (Eq.symm ?_)⟩
   unfold scoreX scoreBad
   rw [b1, show notesOk s.bars s.notes = false by simpa using hc]; rfl
 have hn : notesOk s.bars s.notes = true := by simpa using hc
 clear hc v3
 obtain ⟨n1, n2, n3⟩ := notesOk_all hn
 have v4 := wrong8_spec s.parts s.notes (by omega) (by omega) hp.2 (fun n hn => (noteOk_form (n3 n hn)).2)
 repeat' (first | refine aoQ rfl rfl rfl (fun hg => by first | exact std0 | exact pcW (v4) rfl rfl nd rfl nds) (by exact rfl) ?_ | refine sqW ?_ | refine rgK (fun K' hK => ?_) | (refine aoN (hK _ _ ?_); clear hK K') | refine cdN rfl tI (fun hc => ?_) (fun hc => ?_) | refine blK ?_ | refine skW ?_ | refine rtW ?_)
 · refine ⟨.inr rfl, Ent.b (Eq.symm ?_)⟩
   unfold scoreX scoreBad
   rw [b1, hn, show (wrongR s.parts s.notes != 0) = true from hc]; rfl
 have hw : (wrongR s.parts s.notes != 0) = false := hc
 clear hc v4
 have hbad : scoreBad s = false := by unfold scoreBad; rw [b1, hn, hw]; rfl
 refine lpW (ι := Nat) (fun k => [(1, .ptr 0 0), (6, .int k)]) (fun _ => [.var (encS s)]) (fun k => 1 ≤ k ∧ (k ≤ s.notes.length ∨ k = 1) ∧ ∀ j, j < k → (j == 0 || bef (idxAL s.bars) (s.notes.getD (j - 1) default) (s.notes.getD j default)) = true) (fun k => s.notes.length - k) 1 ⟨nLr _, .inr rfl, fun j h => by (obtain rfl : j = 0 := by omega); rfl⟩ ⟨rfl, rfl, tI⟩ rfl ?_
 rintro k ⟨hk0, hk, hall⟩
 by_cases hlt : k < s.notes.length
 · have hb := before_spec s.bars (s.notes.getD ((k : Int) - 1).toNat default) (s.notes.getD k default) (by omega) n1 (all_mem n3 (by omega)) (all_mem n3 hlt)
   have e : ((k : Int) - 1).toNat = k - 1 := by omega
   repeat' (first | refine aoQ rfl rfl rfl (fun hg => by first | exact std0 | exact std1) (by exact rfl) ?_ | refine sqW ?_ | refine rgK (fun K' hK => ?_) | (refine aoN (hK _ _ ?_); clear hK K') | refine cdN rfl tI (fun hc => ?_) (fun hc => ?_) | refine blK ?_ | refine exW ?_ | refine skW ?_ | refine rtW ?_ | refine dK2 (by decide +kernel) (by kernel_rfl) (by decide +kernel) rfl (fun K' hK => ?_) | (refine aqN (hK _ ?_); clear hK K') | refine aqQ rfl rfl (fun hg => by first | exact std0 | exact pcW (hb) rfl rfl nd rfl nds | exact std1) (by exact rfl) ?_)
   all_goals (first | (exfalso; omega) | skip)
   · refine ⟨.inr rfl, Ent.b (Eq.symm ?_)⟩
     unfold scoreX stepsOk
     rw [e] at hc
     rw [allR_no hlt (by
      have h5 : (k == 0) = false := by simp; omega
      rw [h5, zDe]; simpa using hc)]; simp
   · rw [e] at hc
     refine ⟨k + 1, ⟨by omega, .inl (by omega), fun j hj => lt_succ_cases hall ?_ hj⟩, by omega, ⟨rfl, rfl, tI⟩, rfl⟩
     rw [show bef (idxAL s.bars) (s.notes.getD (k - 1) default) (s.notes.getD k default) = true by simpa using hc]; simp
 · repeat' (first | refine aoQ rfl rfl rfl (fun hg => by first | exact std0 | exact std1) (by exact rfl) ?_ | refine sqW ?_ | refine rgK (fun K' hK => ?_) | (refine aoN (hK _ _ ?_); clear hK K') | refine cdN rfl tI (fun hc => ?_) (fun hc => ?_) | refine blK ?_ | refine exW ?_ | refine skW ?_ | refine rtW ?_ | refine dK2 (by decide +kernel) (by kernel_rfl) (by decide +kernel) rfl (fun K' hK => ?_) | refine aqQ rfl rfl (fun hg => by first | exact std0 | exact std1) (by exact rfl) ?_)
   all_goals (first | (exfalso; omega) | skip)
   refine ⟨.inr rfl, Ent.b (Eq.symm ?_)⟩
   unfold scoreX stepsOk
   rw [hbad, allR_yes fun j hj => hall j (by omega)]; rfl
end Go.Proofs.YtekfpcgagoidcaaGreatDoor
namespace Go.Proofs.YtekfpcgagoidcaaGreatDoor.Al
open Go.Ab Go.Sort
theorem ok_parts {s : Score} (h : scoreOk s = true) : inB s.version 1 1000000 = true ∧ barsOk s.bars = true ∧ partsOk s.parts = true ∧ notesOk s.bars s.notes = true ∧ wrongR s.parts s.notes = 0 := by
 unfold scoreOk scoreBad at h
 simp only [zA0, zAh, zA5, zAe, bne_eq_false_iff_eq] at h
 exact ⟨h.1.1.1.1.1, h.1.1.1.1.2, h.1.1.1.2, h.1.1.2, h.1.2⟩
theorem ticks_rat {r : Rat} (h : (ticksR r).2 = true) : ratOk r = true := by
 unfold ticksR at h
 split at h
 · rename_i h1; exact (durOk_iff.1 h1).1
 · cases h
theorem formed_bIn {b : Bar} {n : Note} (h : nformed b n = true) : bIn n := by
 unfold nformed fits noteForm noteP pitchOk inB at h
 simp only [zA0, dEt] at h
 have r1 := ratOk_iff.1 (ticks_rat h.1.1.1.1)
 have r2 := ratOk_iff.1 (ticks_rat h.1.1.1.2)
 intro x hx
 simp only [keyB, zB6, zCa, or_false] at hx
 rcases hx with rfl | rfl | rfl | rfl | rfl | rfl | rfl | rfl | rfl | rfl <;> omega
theorem note_bar {bars : List Bar} {n : Note} (h : noteOk bars n = true) : ∃ j : Nat, j < bars.length ∧ (bars.getD j default).id = n.bar ∧ nformed (bars.getD j default) n = true := by
 unfold noteOk at h
 split at h
 · rename_i i hi
   obtain ⟨j, rfl, h2, h3⟩ := lk_idx bars n.bar _ _ hi
   exact ⟨j, h2, h3, h⟩
 · cases h
theorem ok_sc {s : Score} (h : scoreOk s = true) : Sc s := by
 obtain ⟨_, h2, _, h4, _⟩ := ok_parts h
 exact ⟨notesOk_nodup h4, barsOk_nodup h2⟩
theorem ok_nts {s : Score} (h : scoreOk s = true) : Nts s := by
 obtain ⟨_, h2, _, h4, _⟩ := ok_parts h
 obtain ⟨_, h5, h6⟩ := notesOk_all h4
 refine ⟨by omega, ?_, fun n hn => ?_⟩
 · unfold barsOk at h2
   simp only [zA0, dEt] at h2
   omega
 · obtain ⟨j, _, _, h7⟩ := note_bar (h6 n hn)
   exact formed_bIn h7
theorem findI_exA {α : Type} [Inhabited α] {p : α → Bool} {l : List α} : findI p l ≥ 0 ↔ ∃ x ∈ l, p x = true := by
 constructor
 · intro h
   obtain ⟨k, _, h2, h3, _⟩ := findI_lt h
   exact ⟨_, by rw [getD_lt h2]; exact lGm h2, h3⟩
 · rintro ⟨x, hx, hp⟩
   rcases (show findI p l ≥ 0 ∨ findI p l < 0 by omega) with h | h
   · exact h
   · exfalso
     have h2 := findI_neg.1 h
     unfold findI at h2
     split at h2
     · omega
     · rename_i h3
       rw [zCl] at h3
       rw [h3 x hx] at hp; cases hp
theorem find_id {l : List Note} (hn : (l.map (·.id)).Nodup) {i : Nat} (hi : i < l.length) : findI (fun x : Note => x.id == (l.getD i default).id) l = i :=
 findI_at hi (by simp) fun j hj => by
  have : (l.getD j default).id ≠ (l.getD i default).id := fun e => by
   have := nodup_at (fun b : Note => b.id) hn (show j < l.length by omega) hi e
   omega
  simpa using this
theorem noteAt_of {l : List Note} (hn : (l.map (·.id)).Nodup) {n : Note} (h : n ∈ l) : ∃ i : Nat, i < l.length ∧ l.getD i default = n ∧ noteAt l n.id = i := by
 obtain ⟨i, hi, e⟩ := zB1.1 h
 have e2 : l.getD i default = n := by rw [getD_lt hi]; exact e
 exact ⟨i, hi, e2, by rw [← e2]; exact find_id hn hi⟩
theorem outM_mem {a : Score} {ps : PL} {p : Int × Int} : p ∈ outM a ps ↔ ∃ n ∈ a.notes, n.id = p.1 ∧ lk ps p.1 = some p.2 := by
 unfold outM
 rw [List.mem_filterMap]
 constructor
 · rintro ⟨n, hn, e⟩
   cases h : lk ps n.id with
   | none => rw [h] at e; cases e
   | some v =>
     rw [h] at e
     cases e
     exact ⟨n, hn, rfl, h⟩
 · rintro ⟨n, hn, e, h⟩
   refine ⟨n, hn, ?_⟩
   rw [e, h]; rfl
theorem pairwise_nodup {l : PL} {f : Int × Int → Int} (h : l.Pairwise fun p q => f p ≠ f q) : (l.map f).Nodup := by
 rw [List.Nodup, List.pairwise_map]; exact h
structure OutF (a b : Score) (l : List (Nat × Nat)) (o : PL) : Prop where
 fst : (o.map (·.1)).Nodup
 snd : (o.map (·.2)).Nodup
 ord : o.Pairwise fun p q => noteAt a.notes p.1 < noteAt a.notes q.1
 of : ∀ p ∈ o, ∃ i k : Nat, i < a.notes.length ∧ k < b.notes.length ∧ noteAt a.notes p.1 = i ∧ noteAt b.notes p.2 = k ∧ (a.notes.getD i default).part = (b.notes.getD k default).part ∧ ∃ q ∈ l, (a.notes.getD i default).bar = (barI a q.1).id ∧ (b.notes.getD k default).bar = (barI b q.2).id
 one : ∀ x ∈ a.notes, ∀ y ∈ b.notes, y.id = x.id → y.part = x.part → (∃ q ∈ l, x.bar = (barI a q.1).id ∧ y.bar = (barI b q.2).id) → (x.id, x.id) ∈ o
theorem out_facts {a b : Score} (ha : Sc a) (hb : Sc b) {l : List (Nat × Nat)} (hp : Pairs a b l) : OutF a b l (notesM a b l) := by
 have hm := pairsM_spec ha hb hp
 unfold notesM
 generalize pairsM a b l [] = ps at hm
 have hord : (outM a ps).Pairwise fun p q => noteAt a.notes p.1 < noteAt a.notes q.1 := by
  unfold outM
  rw [List.pairwise_filterMap]
  have h0 : a.notes.Pairwise fun x y => noteAt a.notes x.id < noteAt a.notes y.id := by
   rw [zC7]
   intro i j hi hj hij
   have e1 := find_id ha.notes hi
   have e2 := find_id ha.notes hj
   rw [getD_lt hi] at e1
   rw [getD_lt hj] at e2
   show findI _ _ < findI _ _
   rw [e1, e2]; omega
  refine h0.imp fun {x y} h p hp q hq => ?_
  cases hx : lk ps x.id with
  | none => rw [hx] at hp; cases hp
  | some u =>
    cases hy : lk ps y.id with
    | none => rw [hy] at hq; cases hq
    | some v =>
      rw [hx] at hp; rw [hy] at hq
      cases hp; cases hq
      exact h
 have hfst : ((outM a ps).map (·.1)).Nodup := pairwise_nodup (f := (·.1)) (hord.imp fun {p q} h e => by
  have e : p.1 = q.1 := e
  rw [e] at h; omega)
 refine ⟨hfst, pairwise_nodup (f := (·.2)) ?_, hord, fun p hp => ?_, fun x hx y hy e1 e2 h => ?_⟩
 · refine hord.imp_of_mem fun {p q} hp hq h e => ?_
   obtain ⟨_, _, _, h1⟩ := outM_mem.1 hp
   obtain ⟨_, _, _, h2⟩ := outM_mem.1 hq
   have e3 := inj_of_nodup (f := (·.2)) hm.snd (lk_mem h1) (lk_mem h2) e
   have e4 : p.1 = q.1 := congrArg (·.1) e3
   rw [e4] at h; omega
 · obtain ⟨n, hn, h1, h2⟩ := outM_mem.1 hp
   obtain ⟨x, hx, y, hy, e, e2, q, hq, e3, e4⟩ := hm.of _ (lk_mem h2)
   have e5 : p.1 = x.id := congrArg (·.1) e
   have e6 : p.2 = y.id := congrArg (·.2) e
   obtain ⟨i, i1, i2, i3⟩ := noteAt_of ha.notes hx
   obtain ⟨k, k1, k2, k3⟩ := noteAt_of hb.notes hy
   exact ⟨i, k, i1, k1, by rw [e5]; exact i3, by rw [e6]; exact k3, by rw [i2, k2]; exact e2, q, hq, by rw [i2]; exact e3, by rw [k2]; exact e4⟩
 · obtain ⟨q, hq, g1, g2⟩ := h
   have := hm.one q hq x (inBar_mem.2 ⟨hx, g1⟩) y (inBar_mem.2 ⟨hy, g2⟩) (by simp [f1, e1, e2])
   exact outM_mem.2 ⟨x, hx, rfl, lk_of_mem hm.fst this⟩
theorem back_pair {c : Nat → Nat → Int} {i k : Nat} (h : T c (i + 1) (k + 1) = T c i k + c i k) : back c (i + 1) (k + 1) = (i, k) :: back c i k := by rw [back, if_pos h]
theorem back_up {c : Nat → Nat → Int} {i k : Nat} (h : k = 0 ∨ ∃ j, k = j + 1 ∧ T c (i + 1) k ≠ T c i j + c i j) (h2 : T c (i + 1) k = T c i k + 2) : back c (i + 1) k = back c i k := by
 rcases h with rfl | ⟨j, rfl, h⟩
 · rw [back]
 · rw [back, if_neg h, if_pos h2]
theorem back_side {c : Nat → Nat → Int} {i k : Nat} (h : i = 0 ∨ ∃ j, i = j + 1 ∧ T c i (k + 1) ≠ T c j k + c j k ∧ T c i (k + 1) ≠ T c j (k + 1) + 2) : back c i (k + 1) = back c i k := by
 rcases h with rfl | ⟨j, rfl, h1, h2⟩
 · rw [back]
 · rw [back, if_neg h1, if_neg h2]
theorem back_nil {c : Nat → Nat → Int} : back c 0 0 = [] := by rw [back]
end Go.Proofs.YtekfpcgagoidcaaGreatDoor.Al
