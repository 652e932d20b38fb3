/- Regions that draw their order, with two chains of effects that may come in any order with one another. Appends to an empty slice that was written out: at a growing array that was numbered ahead. No statement is proved here. -/
import Derived.Test.YtdglbdfdkabjfaaGreatDoorP12
set_option linter.unusedVariables false
set_option linter.unusedSimpArgs false
namespace Go.Ab
section
variable {P : Program} {n : Nat} {ops : Array Oper} {md : Region.Mode} {S : Nat → Nat → Store} {cls : Oper → Nat} {lo hi rank : Nat → Nat → Nat}
inductive WS (P : Program) (n : Nat) (ops : Array Oper) (S : Nat → Nat → Store) (cls : Oper → Nat) (lo hi rank : Nat → Nat → Nat) (i : Nat) (o : Oper) (env : Env) : Nat → Nat → AV → Nat → Nat → Prop
 | q {j1 j2 : Nat} {v : AV} (h1 : lo 1 i ≤ j1 ∧ j1 ≤ hi 1 i) (h2 : lo 2 i ≤ j2 ∧ j2 ≤ hi 2 i) (he : cls o = 0) (h : ∀ k1 k2, k1 ≤ hi 1 i → k2 ≤ hi 2 i → PStep P ops o env (S k1 k2) v) : WS P n ops S cls lo hi rank i o env j1 j2 v j1 j2
 | e1 {j1 j2 : Nat} {v : AV} (hr : rank 1 i = j1 + 1) (h2 : lo 2 i ≤ j2 ∧ j2 ≤ hi 2 i) (he : cls o = 1)
  (h : ∀ env', (∀ x ∈ o.looksAt ops, env' x = env x) → ∀ k2, lo 2 i ≤ k2 → k2 ≤ hi 2 i → EStep P n ops o (fun e s => e = env'.putO o.dst v ∧ s = S (j1 + 1) k2) env' (S j1 k2)) : WS P n ops S cls lo hi rank i o env j1 j2 v (j1 + 1) j2
 | e2 {j1 j2 : Nat} {v : AV} (hr : rank 2 i = j2 + 1) (h1 : lo 1 i ≤ j1 ∧ j1 ≤ hi 1 i) (he : cls o = 2)
  (h : ∀ env', (∀ x ∈ o.looksAt ops, env' x = env x) → ∀ k1, lo 1 i ≤ k1 → k1 ≤ hi 1 i → EStep P n ops o (fun e s => e = env'.putO o.dst v ∧ s = S k1 (j2 + 1)) env' (S k1 j2)) : WS P n ops S cls lo hi rank i o env j1 j2 v j1 (j2 + 1)
theorem WS.congr {i : Nat} {o : Oper} {env env' : Env} {j1 j2 j1' j2' : Nat} {v : AV} (h : WS P n ops S cls lo hi rank i o env j1 j2 v j1' j2') (he : ∀ x ∈ o.looksAt ops, env' x = env x) : WS P n ops S cls lo hi rank i o env' j1 j2 v j1' j2' := by
 cases h with
 | q h1 h2 hf h => exact .q h1 h2 hf fun k1 k2 g1 g2 => (h k1 k2 g1 g2).congr he
 | e1 hr h2 hf h => exact .e1 hr h2 hf fun e2 g2 => h e2 fun x hx => (g2 x hx).trans (he x hx)
 | e2 hr h1 hf h => exact .e2 hr h1 hf fun e2 g2 => h e2 fun x hx => (g2 x hx).trans (he x hx)
def wq (P : Program) (n : Nat) (ops : Array Oper) (S : Nat → Nat → Store) (cls : Oper → Nat) (lo hi rank : Nat → Nat → Nat) (i : Nat) (K : Env → Nat → Nat → Prop) (env : Env) (j1 j2 : Nat) : Prop :=
 match ops[i]? with
 | none => K env j1 j2
 | some o => ∃ v j1' j2', WS P n ops S cls lo hi rank i o env j1 j2 v j1' j2' ∧ K (env.putO o.dst v) j1' j2'
theorem wq_mono {i : Nat} {env : Env} {j1 j2 : Nat} {K K' : Env → Nat → Nat → Prop} (h : ∀ e j1 j2, K e j1 j2 → K' e j1 j2) (hh : wq P n ops S cls lo hi rank i K env j1 j2) : wq P n ops S cls lo hi rank i K' env j1 j2 := by
 unfold wq at *
 split
 · exact h _ _ _ (by simpa [*] using hh)
 · rename_i o ho; simp only [ho] at hh; obtain ⟨v, a, b, h1, h2⟩ := hh; exact ⟨v, a, b, h1, h _ _ _ h2⟩
def wAny (P : Program) (n : Nat) (md : Region.Mode) (ops : Array Oper) (S : Nat → Nat → Store) (cls : Oper → Nat) (lo hi rank : Nat → Nat → Nat) (K : Env → Nat → Nat → Prop) : Nat → Array Bool → Env → Nat → Nat → Prop
 | 0, listed, e, j1, j2 => Region.ready md ops listed = [] ∧ K e j1 j2
 | fuel + 1, listed, e, j1, j2 =>
   (Region.ready md ops listed = [] → K e j1 j2) ∧ ∀ i ∈ Region.ready md ops listed, wq P n ops S cls lo hi rank i (wAny P n md ops S cls lo hi rank K fuel (listed.setIfInBounds i true)) e j1 j2
theorem wq_put {i i0 : Nat} {oi oj : Oper} {v : AV} {j1 j2 a1 a2 : Nat} (hj : ops[i0]? = some oj) (hap : oi.apart ops oj = true) (hp1 : pairC cls lo hi rank 1 i i0 oi oj) (hp2 : pairC cls lo hi rank 2 i i0 oi oj) {K : Env → Nat → Nat → Prop} {env : Env}
 (hy : WS P n ops S cls lo hi rank i oi env j1 j2 v a1 a2) (h : wq P n ops S cls lo hi rank i0 K (env.putO oi.dst v) a1 a2) :
 wq P n ops S cls lo hi rank i0 (fun e b1 b2 => ∃ c1 c2, WS P n ops S cls lo hi rank i oi e b1 b2 v c1 c2 ∧ K (e.putO oi.dst v) c1 c2) env j1 j2 := by
 obtain ⟨h1, h2, h3⟩ := Oper.apart_spec hap
 obtain ⟨p1, p2, p3⟩ := hp1
 obtain ⟨q1, q2, q3⟩ := hp2
 unfold wq at *
 simp only [hj] at *
 obtain ⟨u, c1, c2, hu, hK⟩ := h
 have hu' := hu.congr (env' := env) fun x hx => (Env.putO_other _ fun i hi e => h1 i hi (e ▸ hx)).symm
 have hy' := hy.congr (env' := env.putO oj.dst u) fun x hx => Env.putO_other _ fun i hi e => h3 i hi (e ▸ hx)
 rw [Env.putO_comm env v u h2] at hK
 cases hu' with
 | q g1 g2 gf gh =>
   cases hy' with
   | q k1 k2 kf kh => exact ⟨u, _, _, .q g1 g2 gf gh, _, _, .q k1 k2 kf kh, hK⟩
   | e1 kr k2 kf kh =>
     have := p3 kf (by omega)
     exact ⟨u, _, _, .q ⟨by omega, by omega⟩ g2 gf gh, _, _, .e1 kr k2 kf kh, hK⟩
   | e2 kr k1 kf kh =>
     have := q3 kf (by omega)
     exact ⟨u, _, _, .q g1 ⟨by omega, by omega⟩ gf gh, _, _, .e2 kr k1 kf kh, hK⟩
 | e1 gr g2 gf gh =>
   cases hy' with
   | q k1 k2 kf kh =>
     have := p2 (by omega) gf
     exact ⟨u, _, _, .e1 gr g2 gf gh, _, _, .q ⟨by omega, by omega⟩ k2 kf kh, hK⟩
   | e1 kr k2 kf kh => exact absurd ⟨kf, gf⟩ p1
   | e2 kr k1 kf kh =>
     have a := q3 kf (by omega)
     have b := p2 (by omega) gf
     exact ⟨u, _, _, .e1 gr ⟨by omega, by omega⟩ gf gh, _, _, .e2 kr ⟨by omega, by omega⟩ kf kh, hK⟩
 | e2 gr g1 gf gh =>
   cases hy' with
   | q k1 k2 kf kh =>
     have := q2 (by omega) gf
     exact ⟨u, _, _, .e2 gr g1 gf gh, _, _, .q k1 ⟨by omega, by omega⟩ kf kh, hK⟩
   | e1 kr k2 kf kh =>
     have a := p3 kf (by omega)
     have b := q2 (by omega) gf
     exact ⟨u, _, _, .e2 gr ⟨by omega, by omega⟩ gf gh, _, _, .e1 kr ⟨by omega, by omega⟩ kf kh, hK⟩
   | e2 kr k1 kf kh => exact absurd ⟨kf, gf⟩ q1
theorem wAny_first {K : Env → Nat → Nat → Prop} {i : Nat} {oi : Oper} {v : AV} (hio : ops[i]? = some oi) :
 ∀ (fuel : Nat) (listed : Array Bool) (env : Env) (j1 j2 a1 a2 : Nat),
  (∀ k ok, ops[k]? = some ok → k ≠ i → listed.getD k true = false → (∀ e ∈ ok.after, Region.binds md e = true → e.on ≠ i) → oi.apart ops ok = true ∧ pairC cls lo hi rank 1 i k oi ok ∧ pairC cls lo hi rank 2 i k oi ok) →
  i ∈ Region.ready md ops listed → WS P n ops S cls lo hi rank i oi env j1 j2 v a1 a2 →
  wAny P n md ops S cls lo hi rank K fuel (listed.setIfInBounds i true) (env.putO oi.dst v) a1 a2 → wAny P n md ops S cls lo hi rank K (fuel + 1) listed env j1 j2 := by
 have take : ∀ {env : Env} {j1 j2 a1 a2 : Nat} {K : Env → Nat → Nat → Prop}, WS P n ops S cls lo hi rank i oi env j1 j2 v a1 a2 → K (env.putO oi.dst v) a1 a2 → wq P n ops S cls lo hi rank i K env j1 j2 := fun hy h => by
  unfold wq; simp only [hio]; exact ⟨v, _, _, hy, h⟩
 intro fuel
 induction fuel with
 | zero =>
   intro listed env j1 j2 a1 a2 _ hr hy H
   refine ⟨fun h => (by rw [h] at hr; cases hr), fun k hk => ?_⟩
   by_cases hki : k = i
   · subst hki; exact take hy H
   · have := ready_mono hk hki
     rw [H.1] at this
     cases this
 | succ fuel ih =>
   intro listed env j1 j2 a1 a2 hfree hr hy H
   refine ⟨fun h => (by rw [h] at hr; cases hr), fun k hk => ?_⟩
   by_cases hki : k = i
   · subst hki; exact take hy H
   · have h1 := H.2 k (ready_mono hk hki)
     obtain ⟨hkun, ok, hok, hall⟩ := mem_ready.1 hk
     have hnot : ∀ e ∈ ok.after, Region.binds md e = true → e.on ≠ i := fun e he hb heq => by
      have h1 := hall e he hb
      have h0 := (mem_ready.1 hr).1
      rw [heq] at h1
      rcases zA5 i listed.size with h' | h'
      · simp [h'] at h0 h1; rw [h0] at h1; cases h1
      · simp [zAm h'] at h1
     obtain ⟨f1, f2, f3⟩ := hfree k ok hok hki hkun hnot
     have h2 := wq_put hok f1 f2 f3 hy h1
     have hfree' : ∀ l ol, ops[l]? = some ol → l ≠ i → (listed.setIfInBounds k true).getD l true = false →
      (∀ e ∈ ol.after, Region.binds md e = true → e.on ≠ i) → oi.apart ops ol = true ∧ pairC cls lo hi rank 1 i l oi ol ∧ pairC cls lo hi rank 2 i l oi ol := fun l ol hl hli hun hno => by
      refine hfree l ol hl hli ?_ hno
      by_cases hkl : k = l
      · subst hkl; exact hkun
      · rw [getD_set_ne true hkl] at hun; exact hun
     refine wq_mono (fun e' b1 b2 h3 => ?_) h2
     obtain ⟨c1, c2, h4, h5⟩ := h3
     refine ih (listed.setIfInBounds k true) e' b1 b2 c1 c2 hfree' (ready_mono hr (Ne.symm hki)) h4 ?_
     rw [zCn _ _ hki]
     exact h5
def WQ (P : Program) (n : Nat) (ops : Array Oper) (S : Nat → Nat → Store) (cls : Oper → Nat) (lo hi rank : Nat → Nat → Nat) (K : Env → Nat → Nat → Prop) : List Oper → Nat → Env → Nat → Nat → Prop
 | [], _, e, j1, j2 => K e j1 j2
 | o :: rest, i, e, j1, j2 => ∃ v a1 a2, WS P n ops S cls lo hi rank i o e j1 j2 v a1 a2 ∧ WQ P n ops S cls lo hi rank K rest (i + 1) (e.putO o.dst v) a1 a2
def rngAtW (md : Region.Mode) (ops : Array Oper) (cls : Oper → Nat) (lo hi rank : Nat → Nat → Nat) (listed : Array Bool) (i : Nat) : Bool := (List.range ops.size).all fun k => i == k || listed.getD k true || match ops[i]?, ops[k]? with
 | some o, some o' => edgeB md o' i || !(o.apart ops o') || (rngC cls lo hi rank 1 i k o o' && rngC cls lo hi rank 2 i k o o')
 | _, _ => true
def rngW (md : Region.Mode) (ops : Array Oper) (cls : Oper → Nat) (lo hi rank : Nat → Nat → Nat) : Nat → Nat → Array Bool → Bool
 | 0, _, _ => true
 | f + 1, i, listed => rngAtW md ops cls lo hi rank listed i && rngW md ops cls lo hi rank f (i + 1) (listed.setIfInBounds i true)
theorem rngAtW_spec {listed : Array Bool} {i k : Nat} (h : rngAtW md ops cls lo hi rank listed i = true) {o o' : Oper} (hne : k ≠ i) (h1 : ops[i]? = some o) (h2 : ops[k]? = some o') (hun : listed.getD k true = false) (hno : ∀ e ∈ o'.after, Region.binds md e = true → e.on ≠ i) (hap : o.apart ops o' = true) :
 pairC cls lo hi rank 1 i k o o' ∧ pairC cls lo hi rank 2 i k o o' := by
 have m2 := (zB5.1 h2).1
 have h3 := zA6.1 h k (zAu.2 m2)
 have e : (i == k) = false := by simp; exact fun e => hne e.symm
 have e2 : edgeB md o' i = false := by
  cases hb : edgeB md o' i with
  | false => rfl
  | true =>
    unfold edgeB at hb
    obtain ⟨x, hx, hy⟩ := Array.any_eq_true'.1 hb
    simp only [zA0, beq_iff_eq] at hy
    exact absurd hy.2 (hno x hx hy.1)
 simp only [e, zD5, h1, h2, e2, hap, Bool.not_true, hun, zA0] at h3
 exact ⟨rngC_spec h3.1, rngC_spec h3.2⟩
theorem wAny_lex {K : Env → Nat → Nat → Prop} : ∀ (l : List Oper) (k : Nat) (listed : Array Bool) (env : Env) (j1 j2 : Nat), (∀ i, l[i]? = ops[k + i]?) →
 rngW md ops cls lo hi rank l.length k listed = true → Region.lexFrom md ops l.length k listed = true → WQ P n ops S cls lo hi rank K l k env j1 j2 → wAny P n md ops S cls lo hi rank K l.length listed env j1 j2
 | [], _, _, _, _, _, _, _, hB, h => ⟨by simpa [Region.lexFrom] using hB, h⟩
 | o :: l, k, listed, env, j1, j2, hl, hE, hB, h => by
   simp only [zAe, rngW, zA0] at hE
   have h0 : ops[k]? = some o := by simpa using (hl 0).symm
   simp only [zAe, Region.lexFrom, zA0] at hB
   obtain ⟨⟨hr, hf⟩, hB'⟩ := hB
   obtain ⟨v, a1, a2, hy, hK⟩ := h
   exact wAny_first h0 l.length listed env j1 j2 a1 a2 (fun k2 ok h1 h2 h3 h4 => let ap := Region.free_spec h0 hf k2 ok h1 h2 h3 h4; ⟨ap, rngAtW_spec hE.1 h2 h0 h1 h3 h4 ap⟩) (by simpa using hr) hy
    (wAny_lex l (k + 1) _ _ a1 a2 (fun i => by have := hl (i + 1); simpa [zBy, zDd 1 i] using this) hE.2 hB' hK)
theorem wpAny_of_wAny {K : Env → Nat → Nat → Prop} (ro : Option Nat) (hd : dstsOk n ops = true) : ∀ (fuel : Nat) (listed : Array Bool) (env : Env) (j1 j2 : Nat), wAny P n md ops S cls lo hi rank K fuel listed env j1 j2 → ∀ G a w, ARel n G env (S j1 j2) a w →
 ∀ Q : Exit → Act → World → Prop, (∀ G' env' j1' j2' a' w', G.Le G' → K env' j1' j2' → ARel n G' env' (S j1' j2') a' w' → Q .normal a' w') → wpAnyIn (FR ro) 0 P md ops Q fuel listed a w
 | 0, _, env, j1, j2, h, G, a, w, hr, Q, hQ => ⟨h.1, hQ G env j1 j2 a w (Gh.Le.refl G) h.2 hr⟩
 | fuel + 1, listed, env, j1, j2, h, G, a, w, hr, Q, hQ => by
   refine ⟨fun h0 => hQ G env j1 j2 a w (Gh.Le.refl G) (h.1 h0) hr, fun i hi => ?_⟩
   have hq := h.2 i hi
   unfold wq at hq
   unfold wpOpIn
   split
   · rename_i ho; simp only [ho] at hq; exact wpAny_of_wAny ro hd fuel _ env j1 j2 hq G a w hr Q hQ
   · rename_i o ho
     simp only [ho] at hq
     obtain ⟨v, a1, a2, hx, hK⟩ := hq
     have hdo : ∀ x, o.dst = some x → x < n := dstOk_spec (by
      have := zA6.1 hd o (by
       obtain ⟨hlt, he⟩ := zB5.1 ho
       rw [← he]; simp)
      exact this)
     have effect : EStep P n ops o (fun e s => e = env.putO o.dst v ∧ s = S a1 a2) env (S j1 j2) →
      if Region.wanted o (yielded ops a.tmps) then OWP P o a w (fun a' w' => ∃ env' σ' G', (env' = env.putO o.dst v ∧ σ' = S a1 a2) ∧ G.Le G' ∧ ARel n G' env' σ' a' w')
      else ∃ env' σ', (env' = env.putO o.dst v ∧ σ' = S a1 a2) ∧ ARel n G env' σ' (a.put o.dst undef) w := fun h => h G a w hr
     cases hx with
     | q g1 g2 hf hp =>
       have := hp j1 j2 g1.2 g2.2 G a w hr.st (fun x _ => hr.vals x)
       split
       · rename_i hw
         rw [if_pos hw] at this
         refine this.toIn ?_
         rintro a' w' ⟨x, G', rfl, h1, h2, h3⟩
         have hr' : ARel n G' env (S j1 j2) a w' := hr.later h2 h3
         exact wpAny_of_wAny ro hd fuel _ _ j1 j2 hK G' _ w' (hr'.putO hdo h1) Q fun G'' e' b1 b2 a'' w'' hg hk hr => hQ G'' e' b1 b2 a'' w'' (h2.trans hg) hk hr
       · rename_i hw
         rw [if_neg hw] at this
         exact ⟨fun _ _ => trivial, wpAny_of_wAny ro hd fuel _ _ j1 j2 hK G _ w (hr.putO hdo this) Q hQ⟩
     | e1 gr g2 hf hp =>
       have := effect (hp env (fun _ _ => rfl) j2 g2.1 g2.2)
       split
       · rename_i hw
         rw [if_pos hw] at this
         refine this.toIn ?_
         rintro a' w' ⟨e', s', G', ⟨rfl, rfl⟩, h2, h3⟩
         exact wpAny_of_wAny ro hd fuel _ _ _ _ hK G' a' w' h3 Q fun G'' e' b1 b2 a'' w'' hg hk hr => hQ G'' e' b1 b2 a'' w'' (h2.trans hg) hk hr
       · rename_i hw
         rw [if_neg hw] at this
         obtain ⟨env', σ', ⟨rfl, rfl⟩, h3⟩ := this
         exact ⟨fun _ _ => trivial, wpAny_of_wAny ro hd fuel _ _ _ _ hK G _ w h3 Q hQ⟩
     | e2 gr g1 hf hp =>
       have := effect (hp env (fun _ _ => rfl) j1 g1.1 g1.2)
       split
       · rename_i hw
         rw [if_pos hw] at this
         refine this.toIn ?_
         rintro a' w' ⟨e', s', G', ⟨rfl, rfl⟩, h2, h3⟩
         exact wpAny_of_wAny ro hd fuel _ _ _ _ hK G' a' w' h3 Q fun G'' e' b1 b2 a'' w'' hg hk hr => hQ G'' e' b1 b2 a'' w'' (h2.trans hg) hk hr
       · rename_i hw
         rw [if_neg hw] at this
         obtain ⟨env', σ', ⟨rfl, rfl⟩, h3⟩ := this
         exact ⟨fun _ _ => trivial, wpAny_of_wAny ro hd fuel _ _ _ _ hK G _ w h3 Q hQ⟩
theorem AWP.drawW {id : Nat} {l : List Oper} {K : Exit → Env → Store → Prop} {env : Env} {σ : Store} (cls : Oper → Nat) (S : Nat → Nat → Store) (h0 : S 0 0 = σ)
 (hm : P.follows .mixedOrders = true) (hB : Region.lexB .any l.toArray = true) (hd : dstsOk n l.toArray = true) (hE : rngW .any l.toArray cls (fun c => loOf l (cOf cls c)) (fun c => hiOf l (cOf cls c)) (fun c => rankOf l (cOf cls c)) l.length 0 (Array.replicate l.length false) = true)
 (h : ∀ K' : Env → Nat → Nat → Prop, (∀ e j1 j2, K .normal e (S j1 j2) → K' e j1 j2) → WQ P n l.toArray S cls (fun c => loOf l (cOf cls c)) (fun c => hiOf l (cOf cls c)) (fun c => rankOf l (cOf cls c)) K' l 0 env 0 0) : AWP P n (.region id l.toArray true) K env σ := by
 subst h0
 intro G a w hr
 simp only [Region.lexB, zA0] at hB
 refine wpIn_region_any hm ?_
 have := wAny_lex (md := .any) l 0 (Array.replicate l.toArray.size false) env 0 0 (by simp) (by simpa using hE) (by simpa using hB.2) (h (fun e j1 j2 => K .normal e (S j1 j2)) fun _ _ _ h => h)
 refine wpAny_of_wAny _ hd _ _ env 0 0 (by simpa using this) G a _ ⟨hr.size, hr.defers, hr.vals, hr.st.drew⟩ _ ?_
 intro G' env' b1 b2 a' w' hg hk hr'
 exact ⟨env', S b1 b2, G', hk, hg, hr'⟩
theorem WQ.nil {K : Env → Nat → Nat → Prop} {env : Env} {i j1 j2 : Nat} (h : K env j1 j2) : WQ P n ops S cls lo hi rank K [] i env j1 j2 := h
theorem WQ.q {K : Env → Nat → Nat → Prop} {env : Env} {i j1 j2 : Nat} {o : Oper} {rest : List Oper} {v v' : AV} {g : GG} {d : Nat} (he : cls o = 0) (hj : (decide (lo 1 i ≤ j1) && decide (j1 ≤ hi 1 i) && decide (lo 2 i ≤ j2) && decide (j2 ≤ hi 2 i) && decide (hi 1 i ≤ 2) && decide (hi 2 i ≤ 2)) = true) (hd : o.dst = some d) (hg : gOf ops env o = some g)
 (h : ∀ k1 k2, k1 ≤ 2 → k2 ≤ 2 → g.holds → PRun P o env (S k1 k2) v) (hv : g.wrap v = v') (hk : WQ P n ops S cls lo hi rank K rest (i + 1) (env.put d v') j1 j2) : WQ P n ops S cls lo hi rank K (o :: rest) i env j1 j2 := by
 subst hv
 simp only [zA0, dEt] at hj
 obtain ⟨⟨⟨⟨⟨a1, a2⟩, a3⟩, a4⟩, a5⟩, a6⟩ := hj
 refine ⟨g.wrap v, j1, j2, .q ⟨a1, a2⟩ ⟨a3, a4⟩ he fun k1 k2 h1 h2 => PStep.g hg (h k1 k2 (by omega) (by omega)), ?_⟩
 rw [hd]; exact hk
theorem WQ.e1 (B : Nat) {K : Env → Nat → Nat → Prop} {env : Env} {i j1 j2 : Nat} {o : Oper} {rest : List Oper} {v : AV} {d : Option Nat} (he : cls o = 1) (hj : (rank 1 i == j1 + 1 && decide (lo 2 i ≤ j2) && decide (j2 ≤ hi 2 i) && decide (hi 2 i ≤ B)) = true) (hd : o.dst = d)
 (h : ∀ env', (∀ x ∈ o.looksAt ops, env' x = env x) → ∀ k2, k2 ≤ B → EStep P n ops o (fun e s => e = env'.putO o.dst v ∧ s = S (j1 + 1) k2) env' (S j1 k2))
 (hk : WQ P n ops S cls lo hi rank K rest (i + 1) (env.putO d v) (j1 + 1) j2) : WQ P n ops S cls lo hi rank K (o :: rest) i env j1 j2 := by
 subst hd
 simp only [zA0, dEt, beq_iff_eq] at hj
 obtain ⟨⟨⟨a1, a2⟩, a3⟩, a4⟩ := hj
 exact ⟨v, j1 + 1, j2, .e1 a1 ⟨a2, a3⟩ he fun e1 h1 k2 _ g2 => h e1 h1 k2 (by omega), hk⟩
theorem WQ.e2 (A B : Nat) {K : Env → Nat → Nat → Prop} {env : Env} {i j1 j2 : Nat} {o : Oper} {rest : List Oper} {v : AV} {d : Option Nat} (he : cls o = 2) (hj : (rank 2 i == j2 + 1 && decide (lo 1 i ≤ j1) && decide (j1 ≤ hi 1 i) && decide (hi 1 i ≤ B) && decide (A ≤ lo 1 i)) = true) (hd : o.dst = d)
 (h : ∀ env', (∀ x ∈ o.looksAt ops, env' x = env x) → ∀ k1, A ≤ k1 → k1 ≤ B → EStep P n ops o (fun e s => e = env'.putO o.dst v ∧ s = S k1 (j2 + 1)) env' (S k1 j2))
 (hk : WQ P n ops S cls lo hi rank K rest (i + 1) (env.putO d v) j1 (j2 + 1)) : WQ P n ops S cls lo hi rank K (o :: rest) i env j1 j2 := by
 subst hd
 simp only [zA0, dEt, beq_iff_eq] at hj
 obtain ⟨⟨⟨⟨a1, a2⟩, a3⟩, a4⟩, a5⟩ := hj
 exact ⟨v, j1, j2 + 1, .e2 a1 ⟨a2, a3⟩ he fun e1 h1 k1 g1 g2 => h e1 h1 k1 (by omega) (by omega), hk⟩
end
theorem AWP.newOwn {P : Program} {n : Nat} {c : Code} {K : Exit → Env → Store → Prop} {env : Env} {σ : Store} (sz : Nat) (hk : AWP P n c K env (σ ++ [.own sz 0])) : AWP P n c K env σ := by
 intro G a w hr
 have hle : G.Le { G with B := G.B ++ [.own none 0 0] } := .upB (BLe.append _ _)
 refine wpIn_mono (hk { G with B := G.B ++ [GB.own none 0 0] } a w (hr.later hle (hr.st.ownNil sz))) ?_
 rintro x a' w' ⟨e, s, G', h1, h2, h3⟩
 exact ⟨e, s, G', h1, Gh.Le.trans hle h2, h3⟩
end Go.Ab
namespace Go.Ab
section
variable {P : Program} {n : Nat} {ops : Array Oper} {o : Oper} {env : Env} {σ : Store} {k : Env → Store → Prop} {T : Tab}
theorem EStep.appendAt (hT : T.Ok P) {s x : Operand} {t tx e : TypeId} {d l sz : Nat} {es2 : List (List AV)} {u : AV} {s1 b1 : Nat} {z : List Z} {le : LI} (ho : o.op = .call { callee := .builtin .append, args := #[s, x], argTypes := #[t, tx] })
 (hg : o.guard = none) (hd : o.dst = some d) (hdn : d < n) (hs : Rd env s (.sl sz [] .fresh)) (hσ : σ[l]? = some (.own sz 0)) (hx : Rd env x u) (hsrc : AppSrc T tx sz u es2) (hpos : 0 < es2.length)
 (hl : LOk P t ⟨.slice e, s1, b1, z⟩) (he : LOk P e le) (hsz : le.size = sz) (hz0 : le.zero.length = le.size) (hbound : es2.length * le.bytes ≤ 140737488355328) (hb2 : es2.length ≤ 9223372036854775807)
 (hk : k (env.put d (.sl sz es2 (.own l))) (σ.set l (.own sz es2.length))) : EStep P n ops o k env σ := by
 refine EStep.plain hg fun G a w hr => ?_
 have h1 := hr.rd hs
 obtain ⟨news, hS, hN⟩ := hsrc.src hT hr.st.memok (hr.rd hx)
 generalize hA : a.eval s = sv at h1
 obtain ⟨i, hi1, hi2, hi3, hi4⟩ := he.info
 have hund := hl.undSlice
 have hS' : Src P i.size tx (a.eval x) es2.length news w := by rw [hi2, hsz]; exact hS
 have hNs : news.length = es2.length * sz := by have := hN.1; simpa using this
 have hsv : ∃ ad, sv = .slice ad 0 0 := by
  cases h1 with
  | sl _ _ _ b off cap f hz hm hr hc ht => exact ⟨_, by rw [show cap = 0 from ht]; rfl⟩
  | slz => exact ⟨none, rfl⟩
 obtain ⟨ad, rfl⟩ := hsv
 have hgb : ∃ g, G.B[l]? = some g := ⟨_, zA1 (by
  rw [hr.st.len]
  rcases zA5 l σ.length with h | h
  · exact h
  · simp [zA4 h] at hσ)⟩
 obtain ⟨g, hgl⟩ := hgb
 have hobj := hr.st.objs l g _ hgl hσ
 have hzc : le.zeroVal.cells.size = sz := by
  unfold LI.zeroVal
  cases ha : le.lt.isAgg with
  | true => simp [Value.cells, hz0, hsz]
  | false =>
    obtain ⟨z', hz'⟩ := he.one ha
    rw [hz'] at hz0 ⊢
    simp at hz0
    rw [← hsz, ← hz0]
    cases z' <;> rfl
 have hgle : g.Le (.own (some w.heap.size) (grownCap w es2.length 0 e) es2.length) := by
  cases hobj with
  | ownz => exact .inr ⟨_, _, _, rfl, hpos⟩
  | own b cap sz n' c T' fr hb hf hlc hn hm => exact .inr ⟨_, _, _, rfl, hpos⟩
 have hold : (Builtin.firstCells i.size 0 (.slice ad 0 0)).run P w.drew = .ok ([] : List Value).toArray w.drew := by
  cases ad with
  | none => rfl
  | some ad =>
    have := run_loadCells_list (P := P) w.drew ad [] (fun j v hj => by simp at hj)
    simp only [Builtin.firstCells, zDe]
    simpa using this
 have hrun := run_append_grow_src (P := P) w t tx o.type e i le.zeroVal hund hi1 (by rw [hi4]; rfl) ad 0 0 [] hold (a.eval x) es2.length news hS' (by omega) (by omega) (growslice_fits (by omega) (by rw [hi3]; simpa using hbound))
 simp only [zBn, List.nil_append] at hrun
 have hcapge : es2.length ≤ grownCap w es2.length 0 e := grownCap_ge _ _ _ _
 generalize hrow : (news.toArray ++ Builtin.zeroCells le.zeroVal.cells (grownCap w es2.length 0 e - es2.length)) = row at hrun
 have hrowsz : row.size = grownCap w es2.length 0 e * sz := by
  rw [← hrow]
  simp only [zD4, zCo, size_zeroCells, hzc, hNs, ← zAx]
  congr 1; omega
 have hrun2 : (execOp a.eval o).run P w = .ok (.value (.slice (some ⟨w.heap.size, 0, none⟩) es2.length (grownCap w es2.length 0 e))) (w.drew.alloc (.cells row e)) := by
  simp [execOp, ho, resolve, invoke, builtin, hA, hrun]
 unfold OWP
 rw [hrun2]
 have row2 : ∀ o, o < es2.length * sz → row.getD o undef = news.toArray.getD o undef := by
  intro o ho
  rw [← hrow]
  simp only [zA2]
  rw [zAg (by simp; omega)]
 have hm0 := (mem_lt hr.st.memok _ (zAh w.heap.size)).1
 let M' : Mem := { G.M with cell := fun b o => if b = w.heap.size then (if o < es2.length * sz then some (row.getD o undef) else none) else G.M.cell b o }
 have hle : G.M.Le M' := ⟨fun b o v hv => by
  show (if b = w.heap.size then _ else _) = _
  split
  · rename_i e; subst e; rw [hm0 o] at hv; cases hv
  · exact hv, fun _ _ h => h⟩
 have hheap : (w.drew.alloc (.cells row e)).heap[w.heap.size]? = some (.cells row e) := by rw [heap_alloc]; simp
 have hok : MemOk M' (w.drew.alloc (.cells row e)) := by
  refine ⟨fun b o v hv => ?_, fun b es' hb => ?_, hr.st.memok.g.mono hle⟩
  · change (if b = w.heap.size then _ else _) = _ at hv
    split at hv
    · rename_i eb; subst eb
      split at hv
      · rename_i ho
        have hlt2 : o < row.size := by
         rw [hrowsz]
         exact zBx ho (zAp _ hcapge)
        simp only [World.cell?, hheap]
        simp at hv
        simp [hlt2, ← hv]
      · simp at hv
    · have h2 := hr.st.memok.1 _ _ _ hv
      have hlt2 := World.block_lt_of_cell? _ _ h2
      have : (w.drew.alloc (.cells row e)).cell? ⟨b, o, none⟩ = w.drew.cell? ⟨b, o, none⟩ := World.cell?_alloc_lt _ _ _ hlt2
      rw [this]; exact h2
  · obtain ⟨cl, h2⟩ := hr.st.memok.2 _ _ hb
    refine ⟨cl, ?_⟩
    rw [heap_alloc]
    split
    · rename_i eb; subst eb; simp at h2
    · exact h2
 have hcells : ∀ o, o < es2.length * sz → M'.cell w.heap.size o = some (row.getD o undef) := fun o ho => by
  show (if w.heap.size = w.heap.size then _ else _) = _
  rw [if_pos rfl, if_pos ho]
 have hs2 : SRel { G with M := M', B := G.B.set l (.own (some w.heap.size) (grownCap w es2.length 0 e) es2.length) } (σ.set l (.own sz es2.length)) (w.drew.alloc (.cells row e)) := by
  refine hr.st.regrow hgl hle hgle rfl (by simp) (fun k hk hk2 => by rw [heap_alloc]; simp [Nat.ne_of_lt hk2]; rfl) rfl (fun b hb o => if_neg hb) hok (.inr (zAh _)) (by simp) OutR.r ?_
  exact .own w.heap.size _ sz _ row e (0, 0) hheap (by intro o _; simp) hrowsz hcapge fun o ho => by
   show (if w.heap.size = w.heap.size then _ else _) = _
   rw [if_pos rfl, if_neg (by omega)]
 have hG : G.Le { G with M := M', B := G.B.set l (.own (some w.heap.size) (grownCap w es2.length 0 e) es2.length) } := .up hle (BLe.set hgl hgle)
 refine ⟨_, _, _, hk, hG, ?_⟩
 rw [hd]
 have hr' : ARel n { G with M := M', B := G.B.set l (.own (some w.heap.size) (grownCap w es2.length 0 e) es2.length) } env (σ.set l (.own sz es2.length)) a (w.drew.alloc (.cells row e)) := ⟨hr.size, hr.defers, fun i => (hr.vals i).mono hle (BLe.set hgl hgle), hs2⟩
 refine hr'.put hdn ?_
 have hN' : AppRel M' sz es2 news.toArray := ⟨hN.1, hN.2.1, fun i j e a x y => (hN.2.2 i j e a x y).mono hle (BLe.refl _)⟩
 have hO' : AppRel M' sz [] ([] : List Value).toArray := ⟨by simp, by simp, fun i j e a h => by simp at h⟩
 have := vrel_row (M := M') (B := G.B.set l (.own (some w.heap.size) (grownCap w es2.length 0 e) es2.length)) (sz := sz) (es := [] ++ es2) (t := .own l) (b := w.heap.size) (cap := grownCap w es2.length 0 e) (c := row)
  (fun e he => hN.2.1 e (by simpa using he)) (by simpa using hcapge) (fun o ho => hcells o (by simpa using ho)) (get_append2 hO' hN' (fun o ho => by simp at ho) (fun o ho => by simpa using row2 o ho))
  ⟨some w.heap.size, grownCap w es2.length 0 e, es2.length, by rw [zAd (by
   rcases zA5 l G.B.length with h | h
   · exact h
   · simp [zA4 h] at hgl)], by simp, fun _ => ⟨by simp, rfl⟩⟩
 simpa using this
theorem EStep.appendE (hT : T.Ok P) {s x : Operand} {t tx e : TypeId} {d sz : Nat} {u : AV} {s1 b1 : Nat} {z : List Z} {le : LI} (ho : o.op = .call { callee := .builtin .append, args := #[s, x], argTypes := #[t, tx] })
 (hg : o.guard = none) (hd : o.dst = some d) (hdn : d < n) (hs : Rd env s (.sl sz [] .fresh)) (hx : Rd env x u) (hsrc : AppSrc T tx sz u [])
 (hl : LOk P t ⟨.slice e, s1, b1, z⟩) (he : LOk P e le) (hsz : le.size = sz)
 (hk : k (env.put d (.sl sz [] .fresh)) σ) : EStep P n ops o k env σ := by
 refine EStep.plain hg fun G a w hr => ?_
 have h1 := hr.rd hs
 obtain ⟨news, hS, hN⟩ := hsrc.src hT hr.st.memok (hr.rd hx)
 have h1' := h1
 generalize hA : a.eval s = sv at h1 h1'
 obtain ⟨i, hi1, hi2, hi3, hi4⟩ := he.info
 have hund := hl.undSlice
 have hS' : Src P i.size tx (a.eval x) 0 news w := by rw [hi2, hsz]; exact hS
 have hnews : news = [] := zAs (by have := hN.1; simpa using this)
 have hsv : ∃ ad, sv = .slice ad 0 0 := by
  cases h1 with
  | sl _ _ _ b off cap f hz hm hr hc ht => exact ⟨_, by rw [show cap = 0 from ht]; rfl⟩
  | slz => exact ⟨none, rfl⟩
 obtain ⟨ad, rfl⟩ := hsv
 have hrun : (Builtin.append_ #[t, tx] o.type #[.slice ad 0 0, a.eval x]).run P w = .ok (.slice ad 0 0) w := by
  have hcc := hS'.cells
  have hll := hS'.len
  subst hnews
  cases ad with
  | none => rcases hS.kind with ⟨e', hk'⟩ | hk' <;> simp [Builtin.append_, run_underlying hund, run_underlying hk', sizeOf, typeInfo, hi1, hll, hcc]
  | some ad => rcases hS.kind with ⟨e', hk'⟩ | hk' <;> simp [Builtin.append_, run_underlying hund, run_underlying hk', sizeOf, typeInfo, hi1, hll, hcc, storeCells]
 have hrun2 : (execOp a.eval o).run P w = .ok (.value (.slice ad 0 0)) w := by simp [execOp, ho, resolve, invoke, builtin, hA, hrun]
 unfold OWP
 rw [hrun2]
 refine ⟨_, _, G, hk, Gh.Le.refl G, ?_⟩
 rw [hd]
 exact hr.put hdn h1'
end
end Go.Ab
