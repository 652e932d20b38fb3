/- Regions that draw their order, with two chains of effects that may come in any order with one another. Notes by score and bar: a map of slices that grow. Rules and plain facts.  Appends to an empty slice that was written out: at a growing array that was numbered ahead. No statement is proved here. -/
import Derived.Test.YtekfpcgagoidcaaGreatDoorV12
import Derived.Test.YtekfpcgagoidcaaGreatDoorV15
set_option linter.unusedVariables false
set_option linter.unusedSimpArgs false
namespace Go.Ab
section
variable {P : Program} {n : Nat} {ops : Array Oper} {md : Region.Mode} {S : Nat → Nat → Store} {cls : Oper → Nat} {lo hi rank : Nat → Nat → Nat}
inductive WS (P : Program) (n : Nat) (ops : Array Oper) (S : Nat → Nat → Store) (cls : Oper → Nat) (lo hi rank : Nat → Nat → Nat) (i : Nat) (o : Oper) (env : Env) : Nat → Nat → AV → Nat → Nat → Prop
  | q {j1 j2 : Nat} {v : AV} (h1 : lo 1 i ≤ j1 ∧ j1 ≤ hi 1 i) (h2 : lo 2 i ≤ j2 ∧ j2 ≤ hi 2 i) (he : cls o = 0) (h : ∀ k1 k2, k1 ≤ hi 1 i → k2 ≤ hi 2 i → PStep P ops o env (S k1 k2) v) : WS P n ops S cls lo hi rank i o env j1 j2 v j1 j2
  | e1 {j1 j2 : Nat} {v : AV} (hr : rank 1 i = j1 + 1) (h2 : lo 2 i ≤ j2 ∧ j2 ≤ hi 2 i) (he : cls o = 1)
      (h : ∀ env', (∀ x ∈ o.looksAt ops, env' x = env x) → ∀ k2, lo 2 i ≤ k2 → k2 ≤ hi 2 i → EStep P n ops o (fun e s => e = env'.putO o.dst v ∧ s = S (j1 + 1) k2) env' (S j1 k2)) : WS P n ops S cls lo hi rank i o env j1 j2 v (j1 + 1) j2
  | e2 {j1 j2 : Nat} {v : AV} (hr : rank 2 i = j2 + 1) (h1 : lo 1 i ≤ j1 ∧ j1 ≤ hi 1 i) (he : cls o = 2)
      (h : ∀ env', (∀ x ∈ o.looksAt ops, env' x = env x) → ∀ k1, lo 1 i ≤ k1 → k1 ≤ hi 1 i → EStep P n ops o (fun e s => e = env'.putO o.dst v ∧ s = S k1 (j2 + 1)) env' (S k1 j2)) : WS P n ops S cls lo hi rank i o env j1 j2 v j1 (j2 + 1)
theorem WS.congr {i : Nat} {o : Oper} {env env' : Env} {j1 j2 j1' j2' : Nat} {v : AV} (h : WS P n ops S cls lo hi rank i o env j1 j2 v j1' j2') (he : ∀ x ∈ o.looksAt ops, env' x = env x) : WS P n ops S cls lo hi rank i o env' j1 j2 v j1' j2' := by
  cases h with
  | q h1 h2 hf h => exact .q h1 h2 hf fun k1 k2 g1 g2 => (h k1 k2 g1 g2).congr he
  | e1 hr h2 hf h => exact .e1 hr h2 hf fun e2 g2 => h e2 fun x hx => (g2 x hx).trans (he x hx)
  | e2 hr h1 hf h => exact .e2 hr h1 hf fun e2 g2 => h e2 fun x hx => (g2 x hx).trans (he x hx)
def wq (P : Program) (n : Nat) (ops : Array Oper) (S : Nat → Nat → Store) (cls : Oper → Nat) (lo hi rank : Nat → Nat → Nat) (i : Nat) (K : Env → Nat → Nat → Prop) (env : Env) (j1 j2 : Nat) : Prop :=
  match ops[i]? with
  | none => K env j1 j2
  | some o => ∃ v j1' j2', WS P n ops S cls lo hi rank i o env j1 j2 v j1' j2' ∧ K (env.putO o.dst v) j1' j2'
theorem wq_mono {i : Nat} {env : Env} {j1 j2 : Nat} {K K' : Env → Nat → Nat → Prop} (h : ∀ e j1 j2, K e j1 j2 → K' e j1 j2) (hh : wq P n ops S cls lo hi rank i K env j1 j2) : wq P n ops S cls lo hi rank i K' env j1 j2 := by
  unfold wq at *
  split
  · exact h _ _ _ (by simpa [*] using hh)
  · rename_i o ho; simp only [ho] at hh; obtain ⟨v, a, b, h1, h2⟩ := hh; exact ⟨v, a, b, h1, h _ _ _ h2⟩
def wAny (P : Program) (n : Nat) (md : Region.Mode) (ops : Array Oper) (S : Nat → Nat → Store) (cls : Oper → Nat) (lo hi rank : Nat → Nat → Nat) (K : Env → Nat → Nat → Prop) : Nat → Array Bool → Env → Nat → Nat → Prop
  | 0, listed, e, j1, j2 => Region.ready md ops listed = [] ∧ K e j1 j2
  | fuel + 1, listed, e, j1, j2 =>
    (Region.ready md ops listed = [] → K e j1 j2) ∧ ∀ i ∈ Region.ready md ops listed, wq P n ops S cls lo hi rank i (wAny P n md ops S cls lo hi rank K fuel (listed.setIfInBounds i true)) e j1 j2
theorem wq_put {i i0 : Nat} {oi oj : Oper} {v : AV} {j1 j2 a1 a2 : Nat} (hj : ops[i0]? = some oj) (hap : oi.apart ops oj = true) (hp1 : pairC cls lo hi rank 1 i i0 oi oj) (hp2 : pairC cls lo hi rank 2 i i0 oi oj) {K : Env → Nat → Nat → Prop} {env : Env}
    (hy : WS P n ops S cls lo hi rank i oi env j1 j2 v a1 a2) (h : wq P n ops S cls lo hi rank i0 K (env.putO oi.dst v) a1 a2) :
    wq P n ops S cls lo hi rank i0 (fun e b1 b2 => ∃ c1 c2, WS P n ops S cls lo hi rank i oi e b1 b2 v c1 c2 ∧ K (e.putO oi.dst v) c1 c2) env j1 j2 := by
  obtain ⟨h1, h2, h3⟩ := Oper.apart_spec hap
  obtain ⟨p1, p2, p3⟩ := hp1
  obtain ⟨q1, q2, q3⟩ := hp2
  unfold wq at *
  simp only [hj] at *
  obtain ⟨u, c1, c2, hu, hK⟩ := h
  have hu' := hu.congr (env' := env) fun x hx => (Env.putO_other _ fun i hi e => h1 i hi (e ▸ hx)).symm
  have hy' := hy.congr (env' := env.putO oj.dst u) fun x hx => Env.putO_other _ fun i hi e => h3 i hi (e ▸ hx)
  rw [Env.putO_comm env v u h2] at hK
  cases hu' with
  | q g1 g2 gf gh =>
    cases hy' with
    | q k1 k2 kf kh => exact ⟨u, _, _, .q g1 g2 gf gh, _, _, .q k1 k2 kf kh, hK⟩
    | e1 kr k2 kf kh =>
      have := p3 kf (by omega)
      exact ⟨u, _, _, .q ⟨by omega, by omega⟩ g2 gf gh, _, _, .e1 kr k2 kf kh, hK⟩
    | e2 kr k1 kf kh =>
      have := q3 kf (by omega)
      exact ⟨u, _, _, .q g1 ⟨by omega, by omega⟩ gf gh, _, _, .e2 kr k1 kf kh, hK⟩
  | e1 gr g2 gf gh =>
    cases hy' with
    | q k1 k2 kf kh =>
      have := p2 (by omega) gf
      exact ⟨u, _, _, .e1 gr g2 gf gh, _, _, .q ⟨by omega, by omega⟩ k2 kf kh, hK⟩
    | e1 kr k2 kf kh => exact absurd ⟨kf, gf⟩ p1
    | e2 kr k1 kf kh =>
      have a := q3 kf (by omega)
      have b := p2 (by omega) gf
      exact ⟨u, _, _, .e1 gr ⟨by omega, by omega⟩ gf gh, _, _, .e2 kr ⟨by omega, by omega⟩ kf kh, hK⟩
  | e2 gr g1 gf gh =>
    cases hy' with
    | q k1 k2 kf kh =>
      have := q2 (by omega) gf
      exact ⟨u, _, _, .e2 gr g1 gf gh, _, _, .q k1 ⟨by omega, by omega⟩ kf kh, hK⟩
    | e1 kr k2 kf kh =>
      have a := p3 kf (by omega)
      have b := q2 (by omega) gf
      exact ⟨u, _, _, .e2 gr ⟨by omega, by omega⟩ gf gh, _, _, .e1 kr ⟨by omega, by omega⟩ kf kh, hK⟩
    | e2 kr k1 kf kh => exact absurd ⟨kf, gf⟩ q1
theorem wAny_first {K : Env → Nat → Nat → Prop} {i : Nat} {oi : Oper} {v : AV} (hio : ops[i]? = some oi) :
    ∀ (fuel : Nat) (listed : Array Bool) (env : Env) (j1 j2 a1 a2 : Nat),
      (∀ k ok, ops[k]? = some ok → k ≠ i → listed.getD k true = false → (∀ e ∈ ok.after, Region.binds md e = true → e.on ≠ i) → oi.apart ops ok = true ∧ pairC cls lo hi rank 1 i k oi ok ∧ pairC cls lo hi rank 2 i k oi ok) →
      i ∈ Region.ready md ops listed → WS P n ops S cls lo hi rank i oi env j1 j2 v a1 a2 →
      wAny P n md ops S cls lo hi rank K fuel (listed.setIfInBounds i true) (env.putO oi.dst v) a1 a2 → wAny P n md ops S cls lo hi rank K (fuel + 1) listed env j1 j2 := by
  have take : ∀ {env : Env} {j1 j2 a1 a2 : Nat} {K : Env → Nat → Nat → Prop}, WS P n ops S cls lo hi rank i oi env j1 j2 v a1 a2 → K (env.putO oi.dst v) a1 a2 → wq P n ops S cls lo hi rank i K env j1 j2 := fun hy h => by
    unfold wq; simp only [hio]; exact ⟨v, _, _, hy, h⟩
  intro fuel
  induction fuel with
  | zero =>
    intro listed env j1 j2 a1 a2 _ hr hy H
    refine ⟨fun h => (by rw [h] at hr; cases hr), fun k hk => ?_⟩
    by_cases hki : k = i
    · subst hki; exact take hy H
    · have := ready_mono hk hki
      rw [H.1] at this
      cases this
  | succ fuel ih =>
    intro listed env j1 j2 a1 a2 hfree hr hy H
    refine ⟨fun h => (by rw [h] at hr; cases hr), fun k hk => ?_⟩
    by_cases hki : k = i
    · subst hki; exact take hy H
    · have h1 := H.2 k (ready_mono hk hki)
      obtain ⟨hkun, ok, hok, hall⟩ := mem_ready.1 hk
      have hnot : ∀ e ∈ ok.after, Region.binds md e = true → e.on ≠ i := fun e he hb heq => by
        have h1 := hall e he hb
        have h0 := (mem_ready.1 hr).1
        rw [heq] at h1
        rcases zAc i listed.size with h' | h'
        · simp [h'] at h0 h1; rw [h0] at h1; cases h1
        · simp [zAq h'] at h1
      obtain ⟨f1, f2, f3⟩ := hfree k ok hok hki hkun hnot
      have h2 := wq_put hok f1 f2 f3 hy h1
      have hfree' : ∀ l ol, ops[l]? = some ol → l ≠ i → (listed.setIfInBounds k true).getD l true = false →
          (∀ e ∈ ol.after, Region.binds md e = true → e.on ≠ i) → oi.apart ops ol = true ∧ pairC cls lo hi rank 1 i l oi ol ∧ pairC cls lo hi rank 2 i l oi ol := fun l ol hl hli hun hno => by
        refine hfree l ol hl hli ?_ hno
        by_cases hkl : k = l
        · subst hkl; exact hkun
        · rw [getD_set_ne true hkl] at hun; exact hun
      refine wq_mono (fun e' b1 b2 h3 => ?_) h2
      obtain ⟨c1, c2, h4, h5⟩ := h3
      refine ih (listed.setIfInBounds k true) e' b1 b2 c1 c2 hfree' (ready_mono hr (Ne.symm hki)) h4 ?_
      rw [zC9 _ _ hki]
      exact h5
def WQ (P : Program) (n : Nat) (ops : Array Oper) (S : Nat → Nat → Store) (cls : Oper → Nat) (lo hi rank : Nat → Nat → Nat) (K : Env → Nat → Nat → Prop) : List Oper → Nat → Env → Nat → Nat → Prop
  | [], _, e, j1, j2 => K e j1 j2
  | o :: rest, i, e, j1, j2 => ∃ v a1 a2, WS P n ops S cls lo hi rank i o e j1 j2 v a1 a2 ∧ WQ P n ops S cls lo hi rank K rest (i + 1) (e.putO o.dst v) a1 a2
def rngAtW (md : Region.Mode) (ops : Array Oper) (cls : Oper → Nat) (lo hi rank : Nat → Nat → Nat) (listed : Array Bool) (i : Nat) : Bool := (List.range ops.size).all fun k => i == k || listed.getD k true || match ops[i]?, ops[k]? with
  | some o, some o' => edgeB md o' i || !(o.apart ops o') || (rngC cls lo hi rank 1 i k o o' && rngC cls lo hi rank 2 i k o o')
  | _, _ => true
def rngW (md : Region.Mode) (ops : Array Oper) (cls : Oper → Nat) (lo hi rank : Nat → Nat → Nat) : Nat → Nat → Array Bool → Bool
  | 0, _, _ => true
  | f + 1, i, listed => rngAtW md ops cls lo hi rank listed i && rngW md ops cls lo hi rank f (i + 1) (listed.setIfInBounds i true)
theorem rngAtW_spec {listed : Array Bool} {i k : Nat} (h : rngAtW md ops cls lo hi rank listed i = true) {o o' : Oper} (hne : k ≠ i) (h1 : ops[i]? = some o) (h2 : ops[k]? = some o') (hun : listed.getD k true = false) (hno : ∀ e ∈ o'.after, Region.binds md e = true → e.on ≠ i) (hap : o.apart ops o' = true) :
    pairC cls lo hi rank 1 i k o o' ∧ pairC cls lo hi rank 2 i k o o' := by
  have m2 := (zB1.1 h2).1
  have h3 := zA5.1 h k (zAt.2 m2)
  have e : (i == k) = false := by simp; exact fun e => hne e.symm
  have e2 : edgeB md o' i = false := by
    cases hb : edgeB md o' i with
    | false => rfl
    | true =>
      unfold edgeB at hb
      obtain ⟨x, hx, hy⟩ := Array.any_eq_true'.1 hb
      simp only [zA2, beq_iff_eq] at hy
      exact absurd hy.2 (hno x hx hy.1)
  simp only [e, zDe, h1, h2, e2, hap, Bool.not_true, hun, zA2] at h3
  exact ⟨rngC_spec h3.1, rngC_spec h3.2⟩
theorem wAny_lex {K : Env → Nat → Nat → Prop} : ∀ (l : List Oper) (k : Nat) (listed : Array Bool) (env : Env) (j1 j2 : Nat), (∀ i, l[i]? = ops[k + i]?) →
    rngW md ops cls lo hi rank l.length k listed = true → Region.lexFrom md ops l.length k listed = true → WQ P n ops S cls lo hi rank K l k env j1 j2 → wAny P n md ops S cls lo hi rank K l.length listed env j1 j2
  | [], _, _, _, _, _, _, _, hB, h => ⟨by simpa [Region.lexFrom] using hB, h⟩
  | o :: l, k, listed, env, j1, j2, hl, hE, hB, h => by
    simp only [zAd, rngW, zA2] at hE
    have h0 : ops[k]? = some o := by simpa using (hl 0).symm
    simp only [zAd, Region.lexFrom, zA2] at hB
    obtain ⟨⟨hr, hf⟩, hB'⟩ := hB
    obtain ⟨v, a1, a2, hy, hK⟩ := h
    exact wAny_first h0 l.length listed env j1 j2 a1 a2 (fun k2 ok h1 h2 h3 h4 => let ap := Region.free_spec h0 hf k2 ok h1 h2 h3 h4; ⟨ap, rngAtW_spec hE.1 h2 h0 h1 h3 h4 ap⟩) (by simpa using hr) hy
      (wAny_lex l (k + 1) _ _ a1 a2 (fun i => by have := hl (i + 1); simpa [zBv, zD9 1 i] using this) hE.2 hB' hK)
theorem wpAny_of_wAny {K : Env → Nat → Nat → Prop} (ro : Option Nat) (hd : dstsOk n ops = true) : ∀ (fuel : Nat) (listed : Array Bool) (env : Env) (j1 j2 : Nat), wAny P n md ops S cls lo hi rank K fuel listed env j1 j2 → ∀ G a w, ARel n G env (S j1 j2) a w →
    ∀ Q : Exit → Act → World → Prop, (∀ G' env' j1' j2' a' w', G.Le G' → K env' j1' j2' → ARel n G' env' (S j1' j2') a' w' → Q .normal a' w') → wpAnyIn (FR ro) 0 P md ops Q fuel listed a w
  | 0, _, env, j1, j2, h, G, a, w, hr, Q, hQ => ⟨h.1, hQ G env j1 j2 a w (Gh.Le.refl G) h.2 hr⟩
  | fuel + 1, listed, env, j1, j2, h, G, a, w, hr, Q, hQ => by
    refine ⟨fun h0 => hQ G env j1 j2 a w (Gh.Le.refl G) (h.1 h0) hr, fun i hi => ?_⟩
    have hq := h.2 i hi
    unfold wq at hq
    unfold wpOpIn
    split
    · rename_i ho; simp only [ho] at hq; exact wpAny_of_wAny ro hd fuel _ env j1 j2 hq G a w hr Q hQ
    · rename_i o ho
      simp only [ho] at hq
      obtain ⟨v, a1, a2, hx, hK⟩ := hq
      have hdo : ∀ x, o.dst = some x → x < n := dstOk_spec (by
        have := zA5.1 hd o (by
          obtain ⟨hlt, he⟩ := zB1.1 ho
          rw [← he]; simp)
        exact this)
      have effect : EStep P n ops o (fun e s => e = env.putO o.dst v ∧ s = S a1 a2) env (S j1 j2) →
          if Region.wanted o (yielded ops a.tmps) then OWP P o a w (fun a' w' => ∃ env' σ' G', (env' = env.putO o.dst v ∧ σ' = S a1 a2) ∧ G.Le G' ∧ ARel n G' env' σ' a' w')
          else ∃ env' σ', (env' = env.putO o.dst v ∧ σ' = S a1 a2) ∧ ARel n G env' σ' (a.put o.dst undef) w := fun h => h G a w hr
      cases hx with
      | q g1 g2 hf hp =>
        have := hp j1 j2 g1.2 g2.2 G a w hr.st (fun x _ => hr.vals x)
        split
        · rename_i hw
          rw [if_pos hw] at this
          refine this.toIn ?_
          rintro a' w' ⟨x, G', rfl, h1, h2, h3⟩
          have hr' : ARel n G' env (S j1 j2) a w' := hr.later h2 h3
          exact wpAny_of_wAny ro hd fuel _ _ j1 j2 hK G' _ w' (hr'.putO hdo h1) Q fun G'' e' b1 b2 a'' w'' hg hk hr => hQ G'' e' b1 b2 a'' w'' (h2.trans hg) hk hr
        · rename_i hw
          rw [if_neg hw] at this
          exact ⟨fun _ _ => trivial, wpAny_of_wAny ro hd fuel _ _ j1 j2 hK G _ w (hr.putO hdo this) Q hQ⟩
      | e1 gr g2 hf hp =>
        have := effect (hp env (fun _ _ => rfl) j2 g2.1 g2.2)
        split
        · rename_i hw
          rw [if_pos hw] at this
          refine this.toIn ?_
          rintro a' w' ⟨e', s', G', ⟨rfl, rfl⟩, h2, h3⟩
          exact wpAny_of_wAny ro hd fuel _ _ _ _ hK G' a' w' h3 Q fun G'' e' b1 b2 a'' w'' hg hk hr => hQ G'' e' b1 b2 a'' w'' (h2.trans hg) hk hr
        · rename_i hw
          rw [if_neg hw] at this
          obtain ⟨env', σ', ⟨rfl, rfl⟩, h3⟩ := this
          exact ⟨fun _ _ => trivial, wpAny_of_wAny ro hd fuel _ _ _ _ hK G _ w h3 Q hQ⟩
      | e2 gr g1 hf hp =>
        have := effect (hp env (fun _ _ => rfl) j1 g1.1 g1.2)
        split
        · rename_i hw
          rw [if_pos hw] at this
          refine this.toIn ?_
          rintro a' w' ⟨e', s', G', ⟨rfl, rfl⟩, h2, h3⟩
          exact wpAny_of_wAny ro hd fuel _ _ _ _ hK G' a' w' h3 Q fun G'' e' b1 b2 a'' w'' hg hk hr => hQ G'' e' b1 b2 a'' w'' (h2.trans hg) hk hr
        · rename_i hw
          rw [if_neg hw] at this
          obtain ⟨env', σ', ⟨rfl, rfl⟩, h3⟩ := this
          exact ⟨fun _ _ => trivial, wpAny_of_wAny ro hd fuel _ _ _ _ hK G _ w h3 Q hQ⟩
theorem AWP.drawW {id : Nat} {l : List Oper} {K : Exit → Env → Store → Prop} {env : Env} {σ : Store} (cls : Oper → Nat) (S : Nat → Nat → Store) (h0 : S 0 0 = σ)
    (hm : P.follows .mixedOrders = true) (hB : Region.lexB .any l.toArray = true) (hd : dstsOk n l.toArray = true) (hE : rngW .any l.toArray cls (fun c => loOf l (cOf cls c)) (fun c => hiOf l (cOf cls c)) (fun c => rankOf l (cOf cls c)) l.length 0 (Array.replicate l.length false) = true)
    (h : ∀ K' : Env → Nat → Nat → Prop, (∀ e j1 j2, K .normal e (S j1 j2) → K' e j1 j2) → WQ P n l.toArray S cls (fun c => loOf l (cOf cls c)) (fun c => hiOf l (cOf cls c)) (fun c => rankOf l (cOf cls c)) K' l 0 env 0 0) : AWP P n (.region id l.toArray true) K env σ := by
  subst h0
  intro G a w hr
  simp only [Region.lexB, zA2] at hB
  refine wpIn_region_any hm ?_
  have := wAny_lex (md := .any) l 0 (Array.replicate l.toArray.size false) env 0 0 (by simp) (by simpa using hE) (by simpa using hB.2) (h (fun e j1 j2 => K .normal e (S j1 j2)) fun _ _ _ h => h)
  refine wpAny_of_wAny _ hd _ _ env 0 0 (by simpa using this) G a _ ⟨hr.size, hr.defers, hr.vals, hr.st.drew⟩ _ ?_
  intro G' env' b1 b2 a' w' hg hk hr'
  exact ⟨env', S b1 b2, G', hk, hg, hr'⟩
theorem WQ.nil {K : Env → Nat → Nat → Prop} {env : Env} {i j1 j2 : Nat} (h : K env j1 j2) : WQ P n ops S cls lo hi rank K [] i env j1 j2 := h
theorem WQ.q {K : Env → Nat → Nat → Prop} {env : Env} {i j1 j2 : Nat} {o : Oper} {rest : List Oper} {v v' : AV} {g : GG} {d : Nat} (he : cls o = 0) (hj : (decide (lo 1 i ≤ j1) && decide (j1 ≤ hi 1 i) && decide (lo 2 i ≤ j2) && decide (j2 ≤ hi 2 i) && decide (hi 1 i ≤ 2) && decide (hi 2 i ≤ 2)) = true) (hd : o.dst = some d) (hg : gOf ops env o = some g)
    (h : ∀ k1 k2, k1 ≤ 2 → k2 ≤ 2 → g.holds → PRun P o env (S k1 k2) v) (hv : g.wrap v = v') (hk : WQ P n ops S cls lo hi rank K rest (i + 1) (env.put d v') j1 j2) : WQ P n ops S cls lo hi rank K (o :: rest) i env j1 j2 := by
  subst hv
  simp only [zA2, dEt] at hj
  obtain ⟨⟨⟨⟨⟨a1, a2⟩, a3⟩, a4⟩, a5⟩, a6⟩ := hj
  refine ⟨g.wrap v, j1, j2, .q ⟨a1, a2⟩ ⟨a3, a4⟩ he fun k1 k2 h1 h2 => PStep.g hg (h k1 k2 (by omega) (by omega)), ?_⟩
  rw [hd]; exact hk
theorem WQ.e1 (B : Nat) {K : Env → Nat → Nat → Prop} {env : Env} {i j1 j2 : Nat} {o : Oper} {rest : List Oper} {v : AV} {d : Option Nat} (he : cls o = 1) (hj : (rank 1 i == j1 + 1 && decide (lo 2 i ≤ j2) && decide (j2 ≤ hi 2 i) && decide (hi 2 i ≤ B)) = true) (hd : o.dst = d)
    (h : ∀ env', (∀ x ∈ o.looksAt ops, env' x = env x) → ∀ k2, k2 ≤ B → EStep P n ops o (fun e s => e = env'.putO o.dst v ∧ s = S (j1 + 1) k2) env' (S j1 k2))
    (hk : WQ P n ops S cls lo hi rank K rest (i + 1) (env.putO d v) (j1 + 1) j2) : WQ P n ops S cls lo hi rank K (o :: rest) i env j1 j2 := by
  subst hd
  simp only [zA2, dEt, beq_iff_eq] at hj
  obtain ⟨⟨⟨a1, a2⟩, a3⟩, a4⟩ := hj
  exact ⟨v, j1 + 1, j2, .e1 a1 ⟨a2, a3⟩ he fun e1 h1 k2 _ g2 => h e1 h1 k2 (by omega), hk⟩
theorem WQ.e2 (A B : Nat) {K : Env → Nat → Nat → Prop} {env : Env} {i j1 j2 : Nat} {o : Oper} {rest : List Oper} {v : AV} {d : Option Nat} (he : cls o = 2) (hj : (rank 2 i == j2 + 1 && decide (lo 1 i ≤ j1) && decide (j1 ≤ hi 1 i) && decide (hi 1 i ≤ B) && decide (A ≤ lo 1 i)) = true) (hd : o.dst = d)
    (h : ∀ env', (∀ x ∈ o.looksAt ops, env' x = env x) → ∀ k1, A ≤ k1 → k1 ≤ B → EStep P n ops o (fun e s => e = env'.putO o.dst v ∧ s = S k1 (j2 + 1)) env' (S k1 j2))
    (hk : WQ P n ops S cls lo hi rank K rest (i + 1) (env.putO d v) j1 (j2 + 1)) : WQ P n ops S cls lo hi rank K (o :: rest) i env j1 j2 := by
  subst hd
  simp only [zA2, dEt, beq_iff_eq] at hj
  obtain ⟨⟨⟨⟨a1, a2⟩, a3⟩, a4⟩, a5⟩ := hj
  exact ⟨v, j1, j2 + 1, .e2 a1 ⟨a2, a3⟩ he fun e1 h1 k1 g1 g2 => h e1 h1 k1 (by omega) (by omega), hk⟩
end
def clsA (o : Oper) : Nat := match o.op with
  | .call { callee := .builtin .append, args := _, argTypes := _ } => 1
  | .store _ _ _ | .alloc _ => 2
  | _ => 0
theorem AWP.newOwn {P : Program} {n : Nat} {c : Code} {K : Exit → Env → Store → Prop} {env : Env} {σ : Store} (sz : Nat) (hk : AWP P n c K env (σ ++ [.own sz 0])) : AWP P n c K env σ := by
  intro G a w hr
  have hle : G.Le { G with B := G.B ++ [.own none 0 0] } := .upB (BLe.append _ _)
  refine wpIn_mono (hk { G with B := G.B ++ [GB.own none 0 0] } a w (hr.later hle (hr.st.ownNil sz))) ?_
  rintro x a' w' ⟨e, s, G', h1, h2, h3⟩
  exact ⟨e, s, G', h1, Gh.Le.trans hle h2, h3⟩
end Go.Ab
namespace Go.Ab
def EntB (u v : AV) : Prop := ∀ M B x, VRel M B u x → VRel M B v x
theorem EntB.refl (u : AV) : EntB u u := fun _ _ _ h => h
theorem EntB.no (sz : Nat) (es : List (List AV)) (t : Tok) : EntB (.sl sz es t) (.sl sz es .no) := fun _ _ _ h => by
  cases h with
  | sl _ _ _ b off cap f hz hm hr hc ht => exact .sl sz es .no b off cap f hz hm hr hc trivial
  | slz _ t ht => exact .slz sz .no trivial
  | slzz sz a cap => exact .slzz sz a cap
theorem EntB.nil (sz : Nat) : EntB .nils (.sl sz [] .no) := fun _ _ _ h => by cases h; exact .slz sz .no trivial
theorem TCall.args {P : Program} {f : FuncId} {avs avs' : List AV} {σ : Store} {Q : AV → Store → Prop} (h : TCall P f avs σ Q) (hl : avs'.length = avs.length) (he : ∀ (i : Nat) (u v : AV), avs'[i]? = some u → avs[i]? = some v → EntB u v) : TCall P f avs' σ Q :=
  ⟨h.1, fun G w vs hs ha => h.2 G w vs hs ⟨ha.1.trans hl, fun i c hi => by
    have : i < avs'.length := by
      rw [hl]
      rcases nLg i avs.length with h | h
      · exact h
      · rw [zA3 h] at hi; cases hi
    exact he i _ c (zA8 this) hi _ _ _ (ha.2 i _ (zA8 this))⟩⟩
section
variable {P : Program} {n : Nat} {K : Exit → Env → Store → Prop} {env : Env}
theorem AWP.newOwns {c : Code} (sz : Nat) : ∀ (N : Nat) {σ : Store}, AWP P n c K env (σ ++ List.replicate N (.own sz 0)) → AWP P n c K env σ
  | 0, σ, h => by simpa using h
  | N + 1, σ, h => by
    refine AWP.newOwn sz (AWP.newOwns sz N ?_)
    rw [zBn]
    exact h
end
end Go.Ab
namespace Go.Proofs.YtekfpcgagoidcaaGreatDoor.Al
open Go.Ab Go.Sort
abbrev KeyP := Int × Int
abbrev GL := List (KeyP × (List Note × Tok))
abbrev NL := List (KeyP × List Note)
def evT (v : List Note × Tok) : AV := .sl 12 (v.1.map encN) v.2
def evN (v : List Note) : AV := .sl 12 (v.map encN) .no
def lenOwn (v : List Note × Tok) : Nat := match v.2 with | .own _ => v.1.length | _ => 0
def objs (al : GL) (N : Nat) : Store := (List.range N).map fun j => .own 12 (match al[j]? with | some p => lenOwn p.2 | none => 0)
theorem objs_len (al : GL) (N : Nat) : (objs al N).length = N := by simp [objs]
theorem objs_ok (m : Nat) (al : GL) (N : Nat) : (objs al N).all (okObj m) = true := by
  unfold objs; rw [zA5]; intro o ho
  obtain ⟨j, _, rfl⟩ := zAp.1 ho
  rfl
def toG (al : NL) : GL := al.map fun p => (p.1, (p.2, Tok.no))
def toN (al : GL) : NL := al.map fun p => (p.1, p.2.1)
theorem objs_new (al : NL) (N : Nat) : objs (toG al) N = List.replicate N (.own 12 0) := by
  unfold objs toG
  apply zCh
  intro i
  rw [zA9, List.getElem?_replicate]
  split
  · rename_i h
    rw [zD2 h, zB8]
    congr 2
    rw [zA9]
    cases al[i]? <;> rfl
  · rename_i h
    rw [zA3 (by simpa using h)]; rfl
theorem lk_map2 {κ α β : Type} [DecidableEq κ] (f : α → β) (k : κ) : ∀ al : List (κ × α), lk (al.map fun p => (p.1, f p.2)) k = (lk al k).map f
  | [] => rfl
  | p :: r => by
    simp only [zBi, lk]
    split
    · rfl
    · exact lk_map2 f k r
theorem lk_snoc {κ α : Type} [DecidableEq κ] (k k' : κ) (v : α) : ∀ al : List (κ × α), lk al k = none → lk (al ++ [(k, v)]) k' = if k = k' then some v else lk al k'
  | [], _ => by simp [lk]
  | p :: r, h => by
    obtain ⟨a, b⟩ := p
    simp only [lk] at h
    split at h
    · cases h
    rename_i hne
    simp only [List.cons_append, lk]
    rw [lk_snoc k k' v r h]
    by_cases e : a = k'
    · rw [if_pos e, if_pos e, if_neg (fun e2 => hne (e.trans e2.symm))]
    · rw [if_neg e, if_neg e]
theorem lk_set {κ α : Type} [DecidableEq κ] (k k' : κ) (v : α) : ∀ al : List (κ × α), (lk al k).isSome = true → lk (al.set (posOf al k) (k, v)) k' = if k = k' then some v else lk al k'
  | [], h => by cases h
  | p :: r, h => by
    obtain ⟨a, b⟩ := p
    simp only [lk] at h
    simp only [posOf]
    by_cases e : a = k
    · rw [if_pos e, List.set_cons_zero]
      simp only [lk]
      by_cases e2 : k = k'
      · rw [if_pos e2, if_pos e2]
      · rw [if_neg e2, if_neg e2, if_neg (fun h => e2 (e.symm.trans h))]
    · rw [if_neg e] at h
      rw [if_neg e, List.set_cons_succ]
      simp only [lk]
      rw [lk_set k k' v r h]
      by_cases e2 : a = k'
      · rw [if_pos e2, if_pos e2, if_neg (fun h => e (e2.trans h.symm))]
      · rw [if_neg e2, if_neg e2]
def entG (al : GL) (key : KeyP) : GL := if (lk al key).isSome then al else al ++ [(key, ([], .fresh))]
def valG (al : GL) (key : KeyP) : List Note × Tok := (lk al key).getD ([], .fresh)
def addG (base : Nat) (al : GL) (key : KeyP) (n : Note) : GL := (entG al key).set (posOf al key) (key, ((valG al key).1 ++ [n], .own (base + posOf al key)))
def OwnG (base : Nat) (i : Int) (al : GL) : Prop := ∀ (j : Nat) (p : KeyP × (List Note × Tok)), al[j]? = some p → p.1.1 = i → p.2.2 = .own (base + j)
theorem entG_at {base : Nat} {i : Int} {al : GL} (h : OwnG base i al) {key : KeyP} (hk : key.1 = i) :
    posOf al key ≤ al.length ∧ ((valG al key).2 = .own (base + posOf al key) ∨ valG al key = ([], .fresh)) ∧ (entG al key)[posOf al key]? = some (key, valG al key) ∧ posOf al key < (entG al key).length := by
  obtain ⟨_, h2, h3⟩ := findIdx_pos key al
  unfold entG valG
  cases hs : (lk al key).isSome with
  | true =>
    obtain ⟨v, hv, hp⟩ := h2 hs
    have hlt : posOf al key < al.length := by
      rcases nLg (posOf al key) al.length with h | h
      · exact h
      · rw [zA3 h] at hp; cases hp
    rw [hv, zBq, if_pos rfl]
    exact ⟨by omega, .inl (h _ _ hp hk), hp, hlt⟩
  | false =>
    have hp := h3 hs
    have hn : lk al key = none := by simpa using hs
    rw [hn, hp, Option.getD_none]
    simp
theorem lenG {base : Nat} {i : Int} {al : GL} (h : OwnG base i al) {key : KeyP} (hk : key.1 = i) : lenOwn (valG al key) = (valG al key).1.length := by
  rcases (entG_at h hk).2.1 with e | e
  · unfold lenOwn; rw [e]
  · rw [e]; rfl
theorem objs_ent {al : GL} {key : KeyP} {N : Nat} : objs (entG al key) N = objs al N := by
  unfold entG
  split
  · rfl
  · unfold objs
    refine zCo fun j _ => ?_
    congr 1
    rcases Nat.lt_trichotomy j al.length with h | h | h
    · rw [zAa h]
    · subst h; simp [lenOwn]
    · rw [zA3 (by simp; omega), zA3 (by omega)]
theorem objs_at {base : Nat} {i : Int} {al : GL} (h : OwnG base i al) {key : KeyP} (hk : key.1 = i) {N : Nat} (hN : al.length < N) : (objs al N)[posOf al key]? = some (.own 12 ((valG al key).1.map encN).length) := by
  obtain ⟨h1, h2, h3, h4⟩ := entG_at h hk
  rw [← objs_ent (key := key)]
  unfold objs
  rw [zA9, zD2 (by omega), zB8, h3]
  simp only [lenG h hk, lLm]
theorem objs_add {base : Nat} {i : Int} {al : GL} (h : OwnG base i al) {key : KeyP} (hk : key.1 = i) (n : Note) {N : Nat} (hN : al.length < N) :
    (objs al N).set (posOf al key) (.own 12 ((valG al key).1.map encN ++ [encN n]).length) = objs (addG base al key n) N := by
  obtain ⟨h1, h2, h3, h4⟩ := entG_at h hk
  rw [← objs_ent (key := key)]
  unfold objs addG
  apply zCh
  intro j
  rw [List.getElem?_set]
  simp only [lLm, List.length_range, zA9]
  by_cases e : posOf al key = j
  · subst e
    rw [if_pos rfl, if_pos (by omega), zD2 (by omega), zB8, zAf h4]
    simp [lenOwn]
  · rw [if_neg e]
    rcases nLg j N with hj | hj
    · rw [zD2 hj, zB8, zB8, zAm e]
    · rw [zA3 (by simpa using hj)]; rfl
theorem addG_len {base : Nat} {al : GL} {key : KeyP} {n : Note} : (addG base al key n).length ≤ al.length + 1 := by
  unfold addG entG; rw [zD0]; split <;> simp
theorem addG_own {base : Nat} {i : Int} {al : GL} (h : OwnG base i al) {key : KeyP} (hk : key.1 = i) (n : Note) : OwnG base i (addG base al key n) := by
  obtain ⟨h1, h2, h3, h4⟩ := entG_at h hk
  intro j p hj hp
  unfold addG at hj
  rw [List.getElem?_set] at hj
  by_cases e : posOf al key = j
  · rw [if_pos e, if_pos h4] at hj
    simp at hj; subst hj; subst e; rfl
  · rw [if_neg e] at hj
    unfold entG at hj
    split at hj
    · exact h _ _ hj hp
    · rcases Nat.lt_trichotomy j al.length with h5 | h5 | h5
      · rw [zAa h5] at hj; exact h _ _ hj hp
      · rename_i hno
        exact absurd ((findIdx_pos key al).2.2 (by simpa using hno)) (fun h => e (h.trans h5.symm))
      · rw [zA3 (by simp; omega)] at hj; cases hj
theorem addG_lk {base : Nat} {al : GL} {key : KeyP} {n : Note} (k : KeyP) : ((lk (addG base al key n) k).map (·.1)).getD [] = if key = k then ((lk al key).map (·.1)).getD [] ++ [n] else ((lk al k).map (·.1)).getD [] := by
  obtain ⟨_, h2, h3⟩ := findIdx_pos key al
  unfold addG entG valG
  cases hs : (lk al key).isSome with
  | true =>
    obtain ⟨v, hv, hp⟩ := h2 hs
    rw [if_pos rfl, hv, lk_set _ _ _ _ hs]
    by_cases e : key = k
    · rw [if_pos e, if_pos e]; rfl
    · rw [if_neg e, if_neg e]
  | false =>
    have hn : lk al key = none := by simpa using hs
    have hp := h3 hs
    rw [if_neg (by decide), hn]
    have e0 : (al ++ [(key, (([] : List Note), Tok.fresh))]).set (posOf al key) (key, ((none.getD (([] : List Note), Tok.fresh)).1 ++ [n], .own (base + posOf al key))) = al ++ [(key, ([n], .own (base + al.length)))] := by
      rw [hp, List.set_append_right _ _ (nLr _)]; simp
    rw [e0, lk_snoc _ _ _ _ hn]
    by_cases e : key = k
    · rw [if_pos e, if_pos e]; rfl
    · rw [if_neg e, if_neg e]
def foldG (base : Nat) (i : Int) (al : GL) (l : List Note) : GL := l.foldl (fun al n => addG base al (i, n.bar) n) al
theorem foldG_snoc (base : Nat) (i : Int) (al : GL) (l : List Note) (n : Note) : foldG base i al (l ++ [n]) = addG base (foldG base i al l) (i, n.bar) n := by unfold foldG; rw [zCj]; rfl
theorem foldG_spec (base : Nat) (i : Int) : ∀ (l : List Note) (al : GL), OwnG base i al → OwnG base i (foldG base i al l) ∧ (foldG base i al l).length ≤ al.length + l.length ∧
    ∀ k : KeyP, ((lk (foldG base i al l) k).map (·.1)).getD [] = ((lk al k).map (·.1)).getD [] ++ if k.1 = i then l.filter (fun n => n.bar == k.2) else []
  | [], al, h => ⟨h, nLr _, fun k => by simp [foldG]⟩
  | n :: r, al, h => by
    obtain ⟨h1, h2, h3⟩ := foldG_spec base i r (addG base al (i, n.bar) n) (addG_own h rfl n)
    refine ⟨h1, ?_, fun k => ?_⟩
    · have := addG_len (base := base) (al := al) (key := (i, n.bar)) (n := n)
      show (foldG base i (addG base al (i, n.bar) n) r).length ≤ _
      rw [zAd]; omega
    · show ((lk (foldG base i (addG base al (i, n.bar) n) r) k).map (·.1)).getD [] = _
      rw [h3 k, addG_lk]
      by_cases e : (i, n.bar) = k
      · subst e
        rw [if_pos rfl, if_pos rfl, if_pos rfl, zBa (by simp), zBn]; rfl
      · rw [if_neg e]
        by_cases e2 : k.1 = i
        · rw [if_pos e2, if_pos e2, zBh]
          intro h9
          exact e (by rw [← e2, eq_of_beq h9])
        · rw [if_neg e2, if_neg e2]
def Grp (a b : Score) (al : NL) : Prop := ∀ bar : Int, (lk al (0, bar)).getD [] = inBar a bar ∧ (lk al (1, bar)).getD [] = inBar b bar
theorem toG_own {base : Nat} {i : Int} {al : NL} (h : ∀ p ∈ al, p.1.1 ≠ i) : OwnG base i (toG al) := by
  intro j p hj hp
  unfold toG at hj
  rw [zA9, zA6] at hj
  obtain ⟨q, hq, rfl⟩ := hj
  exact absurd hp (h q (zAg hq))
theorem toN_lk (al : GL) (k : KeyP) : lk (toN al) k = (lk al k).map (·.1) := lk_map2 (fun v : List Note × Tok => v.1) k al
theorem toG_lk (al : NL) (k : KeyP) : ((lk (toG al) k).map (·.1)).getD [] = (lk al k).getD [] := by
  rw [show lk (toG al) k = (lk al k).map (fun v : List Note => (v, Tok.no)) from lk_map2 (fun v : List Note => (v, Tok.no)) k al, Option.map_map]
  cases lk al k <;> rfl
theorem foldG_keys (base : Nat) (i : Int) : ∀ (l : List Note) (al : GL) (p : KeyP × (List Note × Tok)), p ∈ foldG base i al l → p.1.1 = i ∨ ∃ q ∈ al, q.1 = p.1
  | [], al, p, h => .inr ⟨p, h, rfl⟩
  | n :: r, al, p, h => by
    rcases foldG_keys base i r (addG base al (i, n.bar) n) p h with h | ⟨q, hq, e⟩
    · exact .inl h
    · unfold addG entG at hq
      rcases zCw hq with hq | hq
      · split at hq
        · exact .inr ⟨q, hq, e⟩
        · rcases zBr.1 hq with hq | hq
          · exact .inr ⟨q, hq, e⟩
          · rw [zAo.1 hq] at e; left; rw [← e]
      · rw [hq] at e; left; rw [← e]
def grp0 (base : Nat) (a : Score) : NL := toN (foldG base 0 (toG []) a.notes)
def grp1 (base base' : Nat) (a b : Score) : NL := toN (foldG base' 1 (toG (grp0 base a)) b.notes)
theorem grp0_keys (base : Nat) (a : Score) : ∀ p ∈ grp0 base a, p.1.1 ≠ 1 := fun p hp e => by
  unfold grp0 toN at hp
  obtain ⟨q, hq, rfl⟩ := zAp.1 hp
  rcases foldG_keys base 0 _ _ _ hq with h | ⟨r, hr, _⟩
  · have e : q.1.1 = 1 := e
    rw [h] at e; exact absurd e (by decide)
  · cases hr
theorem grp_ok (base base' : Nat) (a b : Score) : Grp a b (grp1 base base' a b) := fun bar => by
  have h0 := (foldG_spec base 0 a.notes (toG []) (toG_own fun p h => by cases h)).2.2
  have h1 := (foldG_spec base' 1 b.notes (toG (grp0 base a)) (toG_own (grp0_keys base a))).2.2
  have g0 : ∀ k : KeyP, (lk (grp0 base a) k).getD [] = if k.1 = 0 then a.notes.filter (fun n => n.bar == k.2) else [] := fun k => by
    unfold grp0; rw [toN_lk, h0]; simp [toG, lk]
  unfold grp1
  constructor
  · rw [toN_lk, h1, toG_lk, g0]; simp [inBar]
  · rw [toN_lk, h1, toG_lk, g0]; simp [inBar]
end Go.Proofs.YtekfpcgagoidcaaGreatDoor.Al
namespace Go.Ab
theorem PCall.argE {P : Program} {f : FuncId} {u v : AV} {l : List AV} {r : AV} (he : Ent u v) (h : PCall P f (v :: l) r) : PCall P f (u :: l) r :=
  ⟨h.1, fun M w vs hm ha => h.2 M w vs hm ⟨ha.1, fun i c hi => by
    match i, hi with
    | 0, hi =>
      have h1 := ha.2 0 u rfl
      simp at hi; subst hi
      exact he _ _ h1
    | i + 1, hi => exact ha.2 (i + 1) c hi⟩⟩
section
variable {P : Program} {n : Nat} {ops : Array Oper} {o : Oper} {env : Env} {σ : Store} {k : Env → Store → Prop} {T : Tab}
theorem EStep.appendAt (hT : T.Ok P) {s x : Operand} {t tx e : TypeId} {d l sz : Nat} {es2 : List (List AV)} {u : AV} {s1 b1 : Nat} {z : List Z} {le : LI} (ho : o.op = .call { callee := .builtin .append, args := #[s, x], argTypes := #[t, tx] })
    (hg : o.guard = none) (hd : o.dst = some d) (hdn : d < n) (hs : Rd env s (.sl sz [] .fresh)) (hσ : σ[l]? = some (.own sz 0)) (hx : Rd env x u) (hsrc : AppSrc T tx sz u es2) (hpos : 0 < es2.length)
    (hl : LOk P t ⟨.slice e, s1, b1, z⟩) (he : LOk P e le) (hsz : le.size = sz) (hz0 : le.zero.length = le.size) (hbound : es2.length * le.bytes ≤ 140737488355328) (hb2 : es2.length ≤ 9223372036854775807)
    (hk : k (env.put d (.sl sz es2 (.own l))) (σ.set l (.own sz es2.length))) : EStep P n ops o k env σ := by
  refine EStep.plain hg fun G a w hr => ?_
  have h1 := hr.rd hs
  obtain ⟨news, hS, hN⟩ := hsrc.src hT hr.st.memok (hr.rd hx)
  generalize hA : a.eval s = sv at h1
  obtain ⟨i, hi1, hi2, hi3, hi4⟩ := he.info
  have hund := hl.undSlice
  have hS' : Src P i.size tx (a.eval x) es2.length news w := by rw [hi2, hsz]; exact hS
  have hNs : news.length = es2.length * sz := by have := hN.1; simpa using this
  have hsv : ∃ ad, sv = .slice ad 0 0 := by
    cases h1 with
    | sl _ _ _ b off cap f hz hm hr hc ht => exact ⟨_, by rw [show cap = 0 from ht]; rfl⟩
    | slz => exact ⟨none, rfl⟩
  obtain ⟨ad, rfl⟩ := hsv
  have hgb : ∃ g, G.B[l]? = some g := ⟨_, zA8 (by
    rw [hr.st.len]
    rcases zAc l σ.length with h | h
    · exact h
    · simp [zA3 h] at hσ)⟩
  obtain ⟨g, hgl⟩ := hgb
  have hobj := hr.st.objs l g _ hgl hσ
  have hzc : le.zeroVal.cells.size = sz := by
    unfold LI.zeroVal
    cases ha : le.lt.isAgg with
    | true => simp [Value.cells, hz0, hsz]
    | false =>
      obtain ⟨z', hz'⟩ := he.one ha
      rw [hz'] at hz0 ⊢
      simp at hz0
      rw [← hsz, ← hz0]
      cases z' <;> rfl
  have hgle : g.Le (.own (some w.heap.size) (grownCap w es2.length 0 e) es2.length) := by
    cases hobj with
    | ownz => exact .inr ⟨_, _, _, rfl, hpos⟩
    | own b cap sz n' c T' fr hb hf hlc hn hm => exact .inr ⟨_, _, _, rfl, hpos⟩
  have hold : (Builtin.firstCells i.size 0 (.slice ad 0 0)).run P w.drew = .ok ([] : List Value).toArray w.drew := by
    cases ad with
    | none => rfl
    | some ad =>
      have := run_loadCells_list (P := P) w.drew ad [] (fun j v hj => by simp at hj)
      simp only [Builtin.firstCells, zDj]
      simpa using this
  have hrun := run_append_grow_src (P := P) w t tx o.type e i le.zeroVal hund hi1 (by rw [hi4]; rfl) ad 0 0 [] hold (a.eval x) es2.length news hS' (by omega) (by omega) (growslice_fits (by omega) (by rw [hi3]; simpa using hbound))
  simp only [zBy, List.nil_append] at hrun
  have hcapge : es2.length ≤ grownCap w es2.length 0 e := grownCap_ge _ _ _ _
  generalize hrow : (news.toArray ++ Builtin.zeroCells le.zeroVal.cells (grownCap w es2.length 0 e - es2.length)) = row at hrun
  have hrowsz : row.size = grownCap w es2.length 0 e * sz := by
    rw [← hrow]
    simp only [Array.size_append, zCi, size_zeroCells, hzc, hNs, ← zBd]
    congr 1; omega
  have hrun2 : (execOp a.eval o).run P w = .ok (.value (.slice (some ⟨w.heap.size, 0, none⟩) es2.length (grownCap w es2.length 0 e))) (w.drew.alloc (.cells row e)) := by
    simp [execOp, ho, resolve, invoke, builtin, hA, hrun]
  unfold OWP
  rw [hrun2]
  have row2 : ∀ o, o < es2.length * sz → row.getD o undef = news.toArray.getD o undef := by
    intro o ho
    rw [← hrow]
    simp only [zA4]
    rw [zAn (by simp; omega)]
  have hm0 := (mem_lt hr.st.memok _ (zAl w.heap.size)).1
  let M' : Mem := { G.M with cell := fun b o => if b = w.heap.size then (if o < es2.length * sz then some (row.getD o undef) else none) else G.M.cell b o }
  have hle : G.M.Le M' := ⟨fun b o v hv => by
    show (if b = w.heap.size then _ else _) = _
    split
    · rename_i e; subst e; rw [hm0 o] at hv; cases hv
    · exact hv, fun _ _ h => h⟩
  have hheap : (w.drew.alloc (.cells row e)).heap[w.heap.size]? = some (.cells row e) := by rw [heap_alloc]; simp
  have hok : MemOk M' (w.drew.alloc (.cells row e)) := by
    refine ⟨fun b o v hv => ?_, fun b es' hb => ?_, hr.st.memok.g.mono hle⟩
    · change (if b = w.heap.size then _ else _) = _ at hv
      split at hv
      · rename_i eb; subst eb
        split at hv
        · rename_i ho
          have hlt2 : o < row.size := by
            rw [hrowsz]
            exact zC4 ho (zBf _ hcapge)
          simp only [World.cell?, hheap]
          simp at hv
          simp [hlt2, ← hv]
        · simp at hv
      · have h2 := hr.st.memok.1 _ _ _ hv
        have hlt2 := World.block_lt_of_cell? _ _ h2
        have : (w.drew.alloc (.cells row e)).cell? ⟨b, o, none⟩ = w.drew.cell? ⟨b, o, none⟩ := World.cell?_alloc_lt _ _ _ hlt2
        rw [this]; exact h2
    · obtain ⟨cl, h2⟩ := hr.st.memok.2 _ _ hb
      refine ⟨cl, ?_⟩
      rw [heap_alloc]
      split
      · rename_i eb; subst eb; simp at h2
      · exact h2
  have hcells : ∀ o, o < es2.length * sz → M'.cell w.heap.size o = some (row.getD o undef) := fun o ho => by
    show (if w.heap.size = w.heap.size then _ else _) = _
    rw [if_pos rfl, if_pos ho]
  have hs2 : SRel { G with M := M', B := G.B.set l (.own (some w.heap.size) (grownCap w es2.length 0 e) es2.length) } (σ.set l (.own sz es2.length)) (w.drew.alloc (.cells row e)) := by
    refine hr.st.regrow hgl hle hgle rfl (by simp) (fun k hk hk2 => by rw [heap_alloc]; simp [Nat.ne_of_lt hk2]; rfl) rfl (fun b hb o => if_neg hb) hok (.inr (zAl _)) (by simp) OutR.r ?_
    exact .own w.heap.size _ sz _ row e (0, 0) hheap (by intro o _; simp) hrowsz hcapge fun o ho => by
      show (if w.heap.size = w.heap.size then _ else _) = _
      rw [if_pos rfl, if_neg (by omega)]
  have hG : G.Le { G with M := M', B := G.B.set l (.own (some w.heap.size) (grownCap w es2.length 0 e) es2.length) } := .up hle (BLe.set hgl hgle)
  refine ⟨_, _, _, hk, hG, ?_⟩
  rw [hd]
  have hr' : ARel n { G with M := M', B := G.B.set l (.own (some w.heap.size) (grownCap w es2.length 0 e) es2.length) } env (σ.set l (.own sz es2.length)) a (w.drew.alloc (.cells row e)) := ⟨hr.size, hr.defers, fun i => (hr.vals i).mono hle (BLe.set hgl hgle), hs2⟩
  refine hr'.put hdn ?_
  have hN' : AppRel M' sz es2 news.toArray := ⟨hN.1, hN.2.1, fun i j e a x y => (hN.2.2 i j e a x y).mono hle (BLe.refl _)⟩
  have hO' : AppRel M' sz [] ([] : List Value).toArray := ⟨by simp, by simp, fun i j e a h => by simp at h⟩
  have := vrel_row (M := M') (B := G.B.set l (.own (some w.heap.size) (grownCap w es2.length 0 e) es2.length)) (sz := sz) (es := [] ++ es2) (t := .own l) (b := w.heap.size) (cap := grownCap w es2.length 0 e) (c := row)
    (fun e he => hN.2.1 e (by simpa using he)) (by simpa using hcapge) (fun o ho => hcells o (by simpa using ho)) (get_append2 hO' hN' (fun o ho => by simp at ho) (fun o ho => by simpa using row2 o ho))
    ⟨some w.heap.size, grownCap w es2.length 0 e, es2.length, by rw [zAf (by
      rcases zAc l G.B.length with h | h
      · exact h
      · simp [zA3 h] at hgl)], by simp, fun _ => ⟨by simp, rfl⟩⟩
  simpa using this
end
end Go.Ab
