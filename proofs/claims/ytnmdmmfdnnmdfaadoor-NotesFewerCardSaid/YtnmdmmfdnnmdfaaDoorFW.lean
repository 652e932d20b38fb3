/- Regions that draw their order, with two chains of effects that may come in any order with one another. -/
import Derived.Test.YtnmdmmfdnnmdfaaDoorFU
set_option linter.unusedVariables false
set_option linter.unusedSimpArgs false
namespace Go.Ab
section
variable {P : Program} {n : Nat} {ops : Array Oper} {md : Region.Mode} {S : Nat → Nat → Store} {cls : Oper → Nat} {lo hi rank : Nat → Nat → Nat}

inductive WS (P : Program) (n : Nat) (ops : Array Oper) (S : Nat → Nat → Store) (cls : Oper → Nat) (lo hi rank : Nat → Nat → Nat) (i : Nat) (o : Oper) (env : Env) : Nat → Nat → AV → Nat → Nat → Prop
  | q {j1 j2 : Nat} {v : AV} (h1 : lo 1 i ≤ j1 ∧ j1 ≤ hi 1 i) (h2 : lo 2 i ≤ j2 ∧ j2 ≤ hi 2 i) (he : cls o = 0) (h : ∀ k1 k2, k1 ≤ hi 1 i → k2 ≤ hi 2 i → PStep P ops o env (S k1 k2) v) : WS P n ops S cls lo hi rank i o env j1 j2 v j1 j2
  | e1 {j1 j2 : Nat} {v : AV} (hr : rank 1 i = j1 + 1) (h2 : lo 2 i ≤ j2 ∧ j2 ≤ hi 2 i) (he : cls o = 1)
      (h : ∀ env', (∀ x ∈ o.looksAt ops, env' x = env x) → ∀ k2, lo 2 i ≤ k2 → k2 ≤ hi 2 i → EStep P n ops o (fun e s => e = env'.putO o.dst v ∧ s = S (j1 + 1) k2) env' (S j1 k2)) : WS P n ops S cls lo hi rank i o env j1 j2 v (j1 + 1) j2
  | e2 {j1 j2 : Nat} {v : AV} (hr : rank 2 i = j2 + 1) (h1 : lo 1 i ≤ j1 ∧ j1 ≤ hi 1 i) (he : cls o = 2)
      (h : ∀ env', (∀ x ∈ o.looksAt ops, env' x = env x) → ∀ k1, lo 1 i ≤ k1 → k1 ≤ hi 1 i → EStep P n ops o (fun e s => e = env'.putO o.dst v ∧ s = S k1 (j2 + 1)) env' (S k1 j2)) : WS P n ops S cls lo hi rank i o env j1 j2 v j1 (j2 + 1)

theorem WS.congr {i : Nat} {o : Oper} {env env' : Env} {j1 j2 j1' j2' : Nat} {v : AV} (h : WS P n ops S cls lo hi rank i o env j1 j2 v j1' j2') (he : ∀ x ∈ o.looksAt ops, env' x = env x) : WS P n ops S cls lo hi rank i o env' j1 j2 v j1' j2' := by
  cases h with
  | q h1 h2 hf h => exact .q h1 h2 hf fun k1 k2 g1 g2 => (h k1 k2 g1 g2).congr he
  | e1 hr h2 hf h => exact .e1 hr h2 hf fun e2 g2 => h e2 fun x hx => (g2 x hx).trans (he x hx)
  | e2 hr h1 hf h => exact .e2 hr h1 hf fun e2 g2 => h e2 fun x hx => (g2 x hx).trans (he x hx)

def wq (P : Program) (n : Nat) (ops : Array Oper) (S : Nat → Nat → Store) (cls : Oper → Nat) (lo hi rank : Nat → Nat → Nat) (i : Nat) (K : Env → Nat → Nat → Prop) (env : Env) (j1 j2 : Nat) : Prop :=
  match ops[i]? with
  | none => K env j1 j2
  | some o => ∃ v j1' j2', WS P n ops S cls lo hi rank i o env j1 j2 v j1' j2' ∧ K (env.putO o.dst v) j1' j2'

theorem wq_mono {i : Nat} {env : Env} {j1 j2 : Nat} {K K' : Env → Nat → Nat → Prop} (h : ∀ e j1 j2, K e j1 j2 → K' e j1 j2) (hh : wq P n ops S cls lo hi rank i K env j1 j2) : wq P n ops S cls lo hi rank i K' env j1 j2 := by
  unfold wq at *
  split
  · exact h _ _ _ (by simpa [*] using hh)
  · rename_i o ho; simp only [ho] at hh; obtain ⟨v, a, b, h1, h2⟩ := hh; exact ⟨v, a, b, h1, h _ _ _ h2⟩

def wAny (P : Program) (n : Nat) (md : Region.Mode) (ops : Array Oper) (S : Nat → Nat → Store) (cls : Oper → Nat) (lo hi rank : Nat → Nat → Nat) (K : Env → Nat → Nat → Prop) : Nat → Array Bool → Env → Nat → Nat → Prop
  | 0, listed, e, j1, j2 => Region.ready md ops listed = [] ∧ K e j1 j2
  | fuel + 1, listed, e, j1, j2 =>
    (Region.ready md ops listed = [] → K e j1 j2) ∧ ∀ i ∈ Region.ready md ops listed, wq P n ops S cls lo hi rank i (wAny P n md ops S cls lo hi rank K fuel (listed.setIfInBounds i true)) e j1 j2

theorem wq_put {i i0 : Nat} {oi oj : Oper} {v : AV} {j1 j2 a1 a2 : Nat} (hj : ops[i0]? = some oj) (hap : oi.apart ops oj = true) (hp1 : pairC cls lo hi rank 1 i i0 oi oj) (hp2 : pairC cls lo hi rank 2 i i0 oi oj) {K : Env → Nat → Nat → Prop} {env : Env}
    (hy : WS P n ops S cls lo hi rank i oi env j1 j2 v a1 a2) (h : wq P n ops S cls lo hi rank i0 K (env.putO oi.dst v) a1 a2) :
    wq P n ops S cls lo hi rank i0 (fun e b1 b2 => ∃ c1 c2, WS P n ops S cls lo hi rank i oi e b1 b2 v c1 c2 ∧ K (e.putO oi.dst v) c1 c2) env j1 j2 := by
  obtain ⟨h1, h2, h3⟩ := Oper.apart_spec hap
  obtain ⟨p1, p2, p3⟩ := hp1
  obtain ⟨q1, q2, q3⟩ := hp2
  unfold wq at *
  simp only [hj] at *
  obtain ⟨u, c1, c2, hu, hK⟩ := h
  have hu' := hu.congr (env' := env) fun x hx => (Env.putO_other _ fun i hi e => h1 i hi (e ▸ hx)).symm
  have hy' := hy.congr (env' := env.putO oj.dst u) fun x hx => Env.putO_other _ fun i hi e => h3 i hi (e ▸ hx)
  rw [Env.putO_comm env v u h2] at hK
  cases hu' with
  | q g1 g2 gf gh =>
    cases hy' with
    | q k1 k2 kf kh => exact ⟨u, _, _, .q g1 g2 gf gh, _, _, .q k1 k2 kf kh, hK⟩
    | e1 kr k2 kf kh =>
      have := p3 kf (by omega)
      exact ⟨u, _, _, .q ⟨by omega, by omega⟩ g2 gf gh, _, _, .e1 kr k2 kf kh, hK⟩
    | e2 kr k1 kf kh =>
      have := q3 kf (by omega)
      exact ⟨u, _, _, .q g1 ⟨by omega, by omega⟩ gf gh, _, _, .e2 kr k1 kf kh, hK⟩
  | e1 gr g2 gf gh =>
    cases hy' with
    | q k1 k2 kf kh =>
      have := p2 (by omega) gf
      exact ⟨u, _, _, .e1 gr g2 gf gh, _, _, .q ⟨by omega, by omega⟩ k2 kf kh, hK⟩
    | e1 kr k2 kf kh => exact absurd ⟨kf, gf⟩ p1
    | e2 kr k1 kf kh =>
      have a := q3 kf (by omega)
      have b := p2 (by omega) gf
      exact ⟨u, _, _, .e1 gr ⟨by omega, by omega⟩ gf gh, _, _, .e2 kr ⟨by omega, by omega⟩ kf kh, hK⟩
  | e2 gr g1 gf gh =>
    cases hy' with
    | q k1 k2 kf kh =>
      have := q2 (by omega) gf
      exact ⟨u, _, _, .e2 gr g1 gf gh, _, _, .q k1 ⟨by omega, by omega⟩ kf kh, hK⟩
    | e1 kr k2 kf kh =>
      have a := p3 kf (by omega)
      have b := q2 (by omega) gf
      exact ⟨u, _, _, .e2 gr ⟨by omega, by omega⟩ gf gh, _, _, .e1 kr ⟨by omega, by omega⟩ kf kh, hK⟩
    | e2 kr k1 kf kh => exact absurd ⟨kf, gf⟩ q1

theorem wAny_first {K : Env → Nat → Nat → Prop} {i : Nat} {oi : Oper} {v : AV} (hio : ops[i]? = some oi) :
    ∀ (fuel : Nat) (listed : Array Bool) (env : Env) (j1 j2 a1 a2 : Nat),
      (∀ k ok, ops[k]? = some ok → k ≠ i → listed.getD k true = false → (∀ e ∈ ok.after, Region.binds md e = true → e.on ≠ i) → oi.apart ops ok = true ∧ pairC cls lo hi rank 1 i k oi ok ∧ pairC cls lo hi rank 2 i k oi ok) →
      i ∈ Region.ready md ops listed → WS P n ops S cls lo hi rank i oi env j1 j2 v a1 a2 →
      wAny P n md ops S cls lo hi rank K fuel (listed.setIfInBounds i true) (env.putO oi.dst v) a1 a2 → wAny P n md ops S cls lo hi rank K (fuel + 1) listed env j1 j2 := by
  have take : ∀ {env : Env} {j1 j2 a1 a2 : Nat} {K : Env → Nat → Nat → Prop}, WS P n ops S cls lo hi rank i oi env j1 j2 v a1 a2 → K (env.putO oi.dst v) a1 a2 → wq P n ops S cls lo hi rank i K env j1 j2 := fun hy h => by
    unfold wq; simp only [hio]; exact ⟨v, _, _, hy, h⟩
  intro fuel
  induction fuel with
  | zero =>
    intro listed env j1 j2 a1 a2 _ hr hy H
    refine ⟨fun h => (by rw [h] at hr; cases hr), fun k hk => ?_⟩
    by_cases hki : k = i
    · subst hki; exact take hy H
    · have := ready_mono hk hki
      rw [H.1] at this
      cases this
  | succ fuel ih =>
    intro listed env j1 j2 a1 a2 hfree hr hy H
    refine ⟨fun h => (by rw [h] at hr; cases hr), fun k hk => ?_⟩
    by_cases hki : k = i
    · subst hki; exact take hy H
    · have h1 := H.2 k (ready_mono hk hki)
      obtain ⟨hkun, ok, hok, hall⟩ := mem_ready.1 hk
      have hnot : ∀ e ∈ ok.after, Region.binds md e = true → e.on ≠ i := fun e he hb heq => by
        have h1 := hall e he hb
        have h0 := (mem_ready.1 hr).1
        rw [heq] at h1
        rcases Nat.lt_or_ge i listed.size with h' | h'
        · simp [h'] at h0 h1; rw [h0] at h1; cases h1
        · simp [Array.getElem?_eq_none h'] at h1
      obtain ⟨f1, f2, f3⟩ := hfree k ok hok hki hkun hnot
      have h2 := wq_put hok f1 f2 f3 hy h1
      have hfree' : ∀ l ol, ops[l]? = some ol → l ≠ i → (listed.setIfInBounds k true).getD l true = false →
          (∀ e ∈ ol.after, Region.binds md e = true → e.on ≠ i) → oi.apart ops ol = true ∧ pairC cls lo hi rank 1 i l oi ol ∧ pairC cls lo hi rank 2 i l oi ol := fun l ol hl hli hun hno => by
        refine hfree l ol hl hli ?_ hno
        by_cases hkl : k = l
        · subst hkl; exact hkun
        · rw [getD_set_ne true hkl] at hun; exact hun
      refine wq_mono (fun e' b1 b2 h3 => ?_) h2
      obtain ⟨c1, c2, h4, h5⟩ := h3
      refine ih (listed.setIfInBounds k true) e' b1 b2 c1 c2 hfree' (ready_mono hr (Ne.symm hki)) h4 ?_
      rw [Array.setIfInBounds_comm _ _ hki]
      exact h5

/-- In the order of the text. -/
def WQ (P : Program) (n : Nat) (ops : Array Oper) (S : Nat → Nat → Store) (cls : Oper → Nat) (lo hi rank : Nat → Nat → Nat) (K : Env → Nat → Nat → Prop) : List Oper → Nat → Env → Nat → Nat → Prop
  | [], _, e, j1, j2 => K e j1 j2
  | o :: rest, i, e, j1, j2 => ∃ v a1 a2, WS P n ops S cls lo hi rank i o e j1 j2 v a1 a2 ∧ WQ P n ops S cls lo hi rank K rest (i + 1) (e.putO o.dst v) a1 a2

def rngAtW (md : Region.Mode) (ops : Array Oper) (cls : Oper → Nat) (lo hi rank : Nat → Nat → Nat) (listed : Array Bool) (i : Nat) : Bool := (List.range ops.size).all fun k => i == k || listed.getD k true || match ops[i]?, ops[k]? with
  | some o, some o' => edgeB md o' i || !(o.apart ops o') || (rngC cls lo hi rank 1 i k o o' && rngC cls lo hi rank 2 i k o o')
  | _, _ => true
def rngW (md : Region.Mode) (ops : Array Oper) (cls : Oper → Nat) (lo hi rank : Nat → Nat → Nat) : Nat → Nat → Array Bool → Bool
  | 0, _, _ => true
  | f + 1, i, listed => rngAtW md ops cls lo hi rank listed i && rngW md ops cls lo hi rank f (i + 1) (listed.setIfInBounds i true)
theorem rngAtW_spec {listed : Array Bool} {i k : Nat} (h : rngAtW md ops cls lo hi rank listed i = true) {o o' : Oper} (hne : k ≠ i) (h1 : ops[i]? = some o) (h2 : ops[k]? = some o') (hun : listed.getD k true = false) (hno : ∀ e ∈ o'.after, Region.binds md e = true → e.on ≠ i) (hap : o.apart ops o' = true) :
    pairC cls lo hi rank 1 i k o o' ∧ pairC cls lo hi rank 2 i k o o' := by
  have m2 := (Array.getElem?_eq_some_iff.1 h2).1
  have h3 := List.all_eq_true.1 h k (List.mem_range.2 m2)
  have e : (i == k) = false := by simp; exact fun e => hne e.symm
  have e2 : edgeB md o' i = false := by
    cases hb : edgeB md o' i with
    | false => rfl
    | true =>
      unfold edgeB at hb
      obtain ⟨x, hx, hy⟩ := Array.any_eq_true'.1 hb
      simp only [Bool.and_eq_true, beq_iff_eq] at hy
      exact absurd hy.2 (hno x hx hy.1)
  simp only [e, Bool.false_or, h1, h2, e2, hap, Bool.not_true, hun, Bool.and_eq_true] at h3
  exact ⟨rngC_spec h3.1, rngC_spec h3.2⟩

theorem wAny_lex {K : Env → Nat → Nat → Prop} : ∀ (l : List Oper) (k : Nat) (listed : Array Bool) (env : Env) (j1 j2 : Nat), (∀ i, l[i]? = ops[k + i]?) →
    rngW md ops cls lo hi rank l.length k listed = true → Region.lexFrom md ops l.length k listed = true → WQ P n ops S cls lo hi rank K l k env j1 j2 → wAny P n md ops S cls lo hi rank K l.length listed env j1 j2
  | [], _, _, _, _, _, _, _, hB, h => ⟨by simpa [Region.lexFrom] using hB, h⟩
  | o :: l, k, listed, env, j1, j2, hl, hE, hB, h => by
    simp only [List.length_cons, rngW, Bool.and_eq_true] at hE
    have h0 : ops[k]? = some o := by simpa using (hl 0).symm
    simp only [List.length_cons, Region.lexFrom, Bool.and_eq_true] at hB
    obtain ⟨⟨hr, hf⟩, hB'⟩ := hB
    obtain ⟨v, a1, a2, hy, hK⟩ := h
    exact wAny_first h0 l.length listed env j1 j2 a1 a2 (fun k2 ok h1 h2 h3 h4 => let ap := Region.free_spec h0 hf k2 ok h1 h2 h3 h4; ⟨ap, rngAtW_spec hE.1 h2 h0 h1 h3 h4 ap⟩) (by simpa using hr) hy
      (wAny_lex l (k + 1) _ _ a1 a2 (fun i => by have := hl (i + 1); simpa [Nat.add_assoc, Nat.add_comm 1 i] using this) hE.2 hB' hK)

theorem wpAny_of_wAny {K : Env → Nat → Nat → Prop} (ro : Option Nat) (hd : dstsOk n ops = true) : ∀ (fuel : Nat) (listed : Array Bool) (env : Env) (j1 j2 : Nat), wAny P n md ops S cls lo hi rank K fuel listed env j1 j2 → ∀ G a w, ARel n G env (S j1 j2) a w →
    ∀ Q : Exit → Act → World → Prop, (∀ G' env' j1' j2' a' w', G.Le G' → K env' j1' j2' → ARel n G' env' (S j1' j2') a' w' → Q .normal a' w') → wpAnyIn (FR ro) 0 P md ops Q fuel listed a w
  | 0, _, env, j1, j2, h, G, a, w, hr, Q, hQ => ⟨h.1, hQ G env j1 j2 a w (Gh.Le.refl G) h.2 hr⟩
  | fuel + 1, listed, env, j1, j2, h, G, a, w, hr, Q, hQ => by
    refine ⟨fun h0 => hQ G env j1 j2 a w (Gh.Le.refl G) (h.1 h0) hr, fun i hi => ?_⟩
    have hq := h.2 i hi
    unfold wq at hq
    unfold wpOpIn
    split
    · rename_i ho; simp only [ho] at hq; exact wpAny_of_wAny ro hd fuel _ env j1 j2 hq G a w hr Q hQ
    · rename_i o ho
      simp only [ho] at hq
      obtain ⟨v, a1, a2, hx, hK⟩ := hq
      have hdo : ∀ x, o.dst = some x → x < n := dstOk_spec (by
        have := List.all_eq_true.1 hd o (by
          obtain ⟨hlt, he⟩ := Array.getElem?_eq_some_iff.1 ho
          rw [← he]; simp)
        exact this)
      have effect : EStep P n ops o (fun e s => e = env.putO o.dst v ∧ s = S a1 a2) env (S j1 j2) →
          if Region.wanted o (yielded ops a.tmps) then OWP P o a w (fun a' w' => ∃ env' σ' G', (env' = env.putO o.dst v ∧ σ' = S a1 a2) ∧ G.Le G' ∧ ARel n G' env' σ' a' w')
          else ∃ env' σ', (env' = env.putO o.dst v ∧ σ' = S a1 a2) ∧ ARel n G env' σ' (a.put o.dst undef) w := fun h => h G a w hr
      cases hx with
      | q g1 g2 hf hp =>
        have := hp j1 j2 g1.2 g2.2 G a w hr.st (fun x _ => hr.vals x)
        split
        · rename_i hw
          rw [if_pos hw] at this
          refine this.toIn ?_
          rintro a' w' ⟨x, G', rfl, h1, h2, h3⟩
          have hr' : ARel n G' env (S j1 j2) a w' := hr.later h2 h3
          exact wpAny_of_wAny ro hd fuel _ _ j1 j2 hK G' _ w' (hr'.putO hdo h1) Q fun G'' e' b1 b2 a'' w'' hg hk hr => hQ G'' e' b1 b2 a'' w'' (h2.trans hg) hk hr
        · rename_i hw
          rw [if_neg hw] at this
          exact ⟨fun _ _ => trivial, wpAny_of_wAny ro hd fuel _ _ j1 j2 hK G _ w (hr.putO hdo this) Q hQ⟩
      | e1 gr g2 hf hp =>
        have := effect (hp env (fun _ _ => rfl) j2 g2.1 g2.2)
        split
        · rename_i hw
          rw [if_pos hw] at this
          refine this.toIn ?_
          rintro a' w' ⟨e', s', G', ⟨rfl, rfl⟩, h2, h3⟩
          exact wpAny_of_wAny ro hd fuel _ _ _ _ hK G' a' w' h3 Q fun G'' e' b1 b2 a'' w'' hg hk hr => hQ G'' e' b1 b2 a'' w'' (h2.trans hg) hk hr
        · rename_i hw
          rw [if_neg hw] at this
          obtain ⟨env', σ', ⟨rfl, rfl⟩, h3⟩ := this
          exact ⟨fun _ _ => trivial, wpAny_of_wAny ro hd fuel _ _ _ _ hK G _ w h3 Q hQ⟩
      | e2 gr g1 hf hp =>
        have := effect (hp env (fun _ _ => rfl) j1 g1.1 g1.2)
        split
        · rename_i hw
          rw [if_pos hw] at this
          refine this.toIn ?_
          rintro a' w' ⟨e', s', G', ⟨rfl, rfl⟩, h2, h3⟩
          exact wpAny_of_wAny ro hd fuel _ _ _ _ hK G' a' w' h3 Q fun G'' e' b1 b2 a'' w'' hg hk hr => hQ G'' e' b1 b2 a'' w'' (h2.trans hg) hk hr
        · rename_i hw
          rw [if_neg hw] at this
          obtain ⟨env', σ', ⟨rfl, rfl⟩, h3⟩ := this
          exact ⟨fun _ _ => trivial, wpAny_of_wAny ro hd fuel _ _ _ _ hK G _ w h3 Q hQ⟩

/-- A region that draws its order, with two chains of effects: the stores on the way are S a b. -/
theorem AWP.drawW {id : Nat} {l : List Oper} {K : Exit → Env → Store → Prop} {env : Env} {σ : Store} (cls : Oper → Nat) (S : Nat → Nat → Store) (h0 : S 0 0 = σ)
    (hm : P.follows .mixedOrders = true) (hB : Region.lexB .any l.toArray = true) (hd : dstsOk n l.toArray = true) (hE : rngW .any l.toArray cls (fun c => loOf l (cOf cls c)) (fun c => hiOf l (cOf cls c)) (fun c => rankOf l (cOf cls c)) l.length 0 (Array.replicate l.length false) = true)
    (h : ∀ K' : Env → Nat → Nat → Prop, (∀ e j1 j2, K .normal e (S j1 j2) → K' e j1 j2) → WQ P n l.toArray S cls (fun c => loOf l (cOf cls c)) (fun c => hiOf l (cOf cls c)) (fun c => rankOf l (cOf cls c)) K' l 0 env 0 0) : AWP P n (.region id l.toArray true) K env σ := by
  subst h0
  intro G a w hr
  simp only [Region.lexB, Bool.and_eq_true] at hB
  refine wpIn_region_any hm ?_
  have := wAny_lex (md := .any) l 0 (Array.replicate l.toArray.size false) env 0 0 (by simp) (by simpa using hE) (by simpa using hB.2) (h (fun e j1 j2 => K .normal e (S j1 j2)) fun _ _ _ h => h)
  refine wpAny_of_wAny _ hd _ _ env 0 0 (by simpa using this) G a _ ⟨hr.size, hr.defers, hr.vals, hr.st.drew⟩ _ ?_
  intro G' env' b1 b2 a' w' hg hk hr'
  exact ⟨env', S b1 b2, G', hk, hg, hr'⟩

theorem WQ.nil {K : Env → Nat → Nat → Prop} {env : Env} {i j1 j2 : Nat} (h : K env j1 j2) : WQ P n ops S cls lo hi rank K [] i env j1 j2 := h
theorem WQ.q {K : Env → Nat → Nat → Prop} {env : Env} {i j1 j2 : Nat} {o : Oper} {rest : List Oper} {v v' : AV} {g : GG} {d : Nat} (he : cls o = 0) (hj : (decide (lo 1 i ≤ j1) && decide (j1 ≤ hi 1 i) && decide (lo 2 i ≤ j2) && decide (j2 ≤ hi 2 i) && decide (hi 1 i ≤ 2) && decide (hi 2 i ≤ 2)) = true) (hd : o.dst = some d) (hg : gOf ops env o = some g)
    (h : ∀ k1 k2, k1 ≤ 2 → k2 ≤ 2 → g.holds → PRun P o env (S k1 k2) v) (hv : g.wrap v = v') (hk : WQ P n ops S cls lo hi rank K rest (i + 1) (env.put d v') j1 j2) : WQ P n ops S cls lo hi rank K (o :: rest) i env j1 j2 := by
  subst hv
  simp only [Bool.and_eq_true, decide_eq_true_eq] at hj
  obtain ⟨⟨⟨⟨⟨a1, a2⟩, a3⟩, a4⟩, a5⟩, a6⟩ := hj
  refine ⟨g.wrap v, j1, j2, .q ⟨a1, a2⟩ ⟨a3, a4⟩ he fun k1 k2 h1 h2 => PStep.g hg (h k1 k2 (by omega) (by omega)), ?_⟩
  rw [hd]; exact hk
theorem WQ.e1 (B : Nat) {K : Env → Nat → Nat → Prop} {env : Env} {i j1 j2 : Nat} {o : Oper} {rest : List Oper} {v : AV} {d : Option Nat} (he : cls o = 1) (hj : (rank 1 i == j1 + 1 && decide (lo 2 i ≤ j2) && decide (j2 ≤ hi 2 i) && decide (hi 2 i ≤ B)) = true) (hd : o.dst = d)
    (h : ∀ env', (∀ x ∈ o.looksAt ops, env' x = env x) → ∀ k2, k2 ≤ B → EStep P n ops o (fun e s => e = env'.putO o.dst v ∧ s = S (j1 + 1) k2) env' (S j1 k2))
    (hk : WQ P n ops S cls lo hi rank K rest (i + 1) (env.putO d v) (j1 + 1) j2) : WQ P n ops S cls lo hi rank K (o :: rest) i env j1 j2 := by
  subst hd
  simp only [Bool.and_eq_true, decide_eq_true_eq, beq_iff_eq] at hj
  obtain ⟨⟨⟨a1, a2⟩, a3⟩, a4⟩ := hj
  exact ⟨v, j1 + 1, j2, .e1 a1 ⟨a2, a3⟩ he fun e1 h1 k2 _ g2 => h e1 h1 k2 (by omega), hk⟩
theorem WQ.e2 (A B : Nat) {K : Env → Nat → Nat → Prop} {env : Env} {i j1 j2 : Nat} {o : Oper} {rest : List Oper} {v : AV} {d : Option Nat} (he : cls o = 2) (hj : (rank 2 i == j2 + 1 && decide (lo 1 i ≤ j1) && decide (j1 ≤ hi 1 i) && decide (hi 1 i ≤ B) && decide (A ≤ lo 1 i)) = true) (hd : o.dst = d)
    (h : ∀ env', (∀ x ∈ o.looksAt ops, env' x = env x) → ∀ k1, A ≤ k1 → k1 ≤ B → EStep P n ops o (fun e s => e = env'.putO o.dst v ∧ s = S k1 (j2 + 1)) env' (S k1 j2))
    (hk : WQ P n ops S cls lo hi rank K rest (i + 1) (env.putO d v) j1 (j2 + 1)) : WQ P n ops S cls lo hi rank K (o :: rest) i env j1 j2 := by
  subst hd
  simp only [Bool.and_eq_true, decide_eq_true_eq, beq_iff_eq] at hj
  obtain ⟨⟨⟨⟨a1, a2⟩, a3⟩, a4⟩, a5⟩ := hj
  exact ⟨v, j1, j2 + 1, .e2 a1 ⟨a2, a3⟩ he fun e1 h1 k1 g1 g2 => h e1 h1 k1 (by omega) (by omega), hk⟩
end
/-- Appends in the first chain, allocations and stores in the second one. -/
def clsA (o : Oper) : Nat := match o.op with
  | .call { callee := .builtin .append, args := _, argTypes := _ } => 1
  | .store _ _ _ | .alloc _ => 2
  | _ => 0
/-- A growing array of the call's own, still empty. -/
theorem AWP.newOwn {P : Program} {n : Nat} {c : Code} {K : Exit → Env → Store → Prop} {env : Env} {σ : Store} (sz : Nat) (hk : AWP P n c K env (σ ++ [.own sz 0])) : AWP P n c K env σ := by
  intro G a w hr
  have hle : G.Le { G with B := G.B ++ [.own none 0 0] } := .upB (BLe.append _ _)
  refine wpIn_mono (hk { G with B := G.B ++ [GB.own none 0 0] } a w (hr.later hle (hr.st.ownNil sz))) ?_
  rintro x a' w' ⟨e, s, G', h1, h2, h3⟩
  exact ⟨e, s, G', h1, Gh.Le.trans hle h2, h3⟩
end Go.Ab
