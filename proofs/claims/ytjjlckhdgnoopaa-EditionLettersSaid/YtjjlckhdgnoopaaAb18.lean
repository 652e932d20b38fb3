/- Regions that draw their order, with a chain of effects among quiet operations. -/
import Derived.Test.YtjjlckhdgnoopaaAb17
namespace Go.Ab
section
variable {P : Program} {n : Nat} {ops : Array Oper} {md : Region.Mode} {S : Nat → Store} {m : Nat}

/-- One operation of such a region: quiet in every state of the store, or the next effect. -/
inductive XS (P : Program) (n : Nat) (ops : Array Oper) (S : Nat → Store) (m : Nat) (eff : Oper → Bool) (o : Oper) (env : Env) : Nat → AV → Nat → Prop
  | quiet {j : Nat} {v : AV} (hj : j ≤ m) (he : eff o = false) (h : ∀ k, k ≤ m → PStep P ops o env (S k) v) : XS P n ops S m eff o env j v j
  | eff {j : Nat} {v : AV} (hj : j < m) (he : eff o = true) (h : ∀ env', (∀ x ∈ o.looksAt ops, env' x = env x) → EStep P n ops o (fun e s => e = env'.putO o.dst v ∧ s = S (j + 1)) env' (S j)) : XS P n ops S m eff o env j v (j + 1)

variable {eff : Oper → Bool}
theorem XS.congr {o : Oper} {env env' : Env} {j j' : Nat} {v : AV} (h : XS P n ops S m eff o env j v j') (he : ∀ x ∈ o.looksAt ops, env' x = env x) : XS P n ops S m eff o env' j v j' := by
  cases h with
  | quiet hj hf h => exact .quiet hj hf fun k hk => (h k hk).congr he
  | eff hj hf h => exact .eff hj hf fun e2 h2 => h e2 fun x hx => (h2 x hx).trans (he x hx)

def xq (P : Program) (n : Nat) (ops : Array Oper) (S : Nat → Store) (m : Nat) (eff : Oper → Bool) (i : Nat) (K : Env → Nat → Prop) (env : Env) (j : Nat) : Prop :=
  match ops[i]? with
  | none => K env j
  | some o => ∃ v j', XS P n ops S m eff o env j v j' ∧ K (env.putO o.dst v) j'

theorem xq_mono {i : Nat} {env : Env} {j : Nat} {K K' : Env → Nat → Prop} (h : ∀ e j, K e j → K' e j) (hh : xq P n ops S m eff i K env j) : xq P n ops S m eff i K' env j := by
  unfold xq at *
  split
  · exact h _ _ (by simpa [*] using hh)
  · rename_i o ho; simp only [ho] at hh; obtain ⟨v, j', h1, h2⟩ := hh; exact ⟨v, j', h1, h _ _ h2⟩

def xAny (P : Program) (n : Nat) (md : Region.Mode) (ops : Array Oper) (S : Nat → Store) (m : Nat) (eff : Oper → Bool) (K : Env → Nat → Prop) : Nat → Array Bool → Env → Nat → Prop
  | 0, listed, e, j => Region.ready md ops listed = [] ∧ K e j
  | fuel + 1, listed, e, j =>
    (Region.ready md ops listed = [] → K e j) ∧ ∀ i ∈ Region.ready md ops listed, xq P n ops S m eff i (xAny P n md ops S m eff K fuel (listed.setIfInBounds i true)) e j

theorem xq_put {i0 : Nat} {oi oj : Oper} {v : AV} {j j1 : Nat} (hj : ops[i0]? = some oj) (hap : oi.apart ops oj = true) (hef : (eff oi && eff oj) = false) {K : Env → Nat → Prop} {env : Env}
    (hy : XS P n ops S m eff oi env j v j1) (h : xq P n ops S m eff i0 K (env.putO oi.dst v) j1) :
    xq P n ops S m eff i0 (fun e j' => ∃ j2, XS P n ops S m eff oi e j' v j2 ∧ K (e.putO oi.dst v) j2) env j := by
  obtain ⟨h1, h2, h3⟩ := Oper.apart_spec hap
  unfold xq at *
  simp only [hj] at *
  obtain ⟨u, j2, hu, hK⟩ := h
  have hu' := hu.congr (env' := env) fun x hx => (Env.putO_other _ fun i hi e => h1 i hi (e ▸ hx)).symm
  have hy' := hy.congr (env' := env.putO oj.dst u) fun x hx => Env.putO_other _ fun i hi e => h3 i hi (e ▸ hx)
  rw [Env.putO_comm env v u h2] at hK
  cases hu' with
  | quiet g1 g2 g3 =>
    cases hy' with
    | quiet k1 k2 k3 => exact ⟨u, _, .quiet g1 g2 g3, _, .quiet k1 k2 k3, hK⟩
    | eff k1 k2 k3 => exact ⟨u, _, .quiet (by omega) g2 g3, _, .eff k1 k2 k3, hK⟩
  | eff g1 g2 g3 =>
    cases hy' with
    | quiet k1 k2 k3 => exact ⟨u, _, .eff g1 g2 g3, _, .quiet (by omega) k2 k3, hK⟩
    | eff k1 k2 k3 => rw [k2, g2] at hef; cases hef

theorem xAny_first {K : Env → Nat → Prop} {i : Nat} {oi : Oper} {v : AV} (hi : ops[i]? = some oi) :
    ∀ (fuel : Nat) (listed : Array Bool) (env : Env) (j j1 : Nat),
      (∀ k ok, ops[k]? = some ok → k ≠ i → listed.getD k true = false → (∀ e ∈ ok.after, Region.binds md e = true → e.on ≠ i) → oi.apart ops ok = true ∧ (eff oi && eff ok) = false) →
      i ∈ Region.ready md ops listed → XS P n ops S m eff oi env j v j1 →
      xAny P n md ops S m eff K fuel (listed.setIfInBounds i true) (env.putO oi.dst v) j1 → xAny P n md ops S m eff K (fuel + 1) listed env j := by
  have take : ∀ {env : Env} {j j1 : Nat} {K : Env → Nat → Prop}, XS P n ops S m eff oi env j v j1 → K (env.putO oi.dst v) j1 → xq P n ops S m eff i K env j := fun hy h => by
    unfold xq; simp only [hi]; exact ⟨v, _, hy, h⟩
  intro fuel
  induction fuel with
  | zero =>
    intro listed env j j1 _ hr hy H
    refine ⟨fun h => (by rw [h] at hr; cases hr), fun k hk => ?_⟩
    by_cases hki : k = i
    · subst hki; exact take hy H
    · have := ready_mono hk hki
      rw [H.1] at this
      cases this
  | succ fuel ih =>
    intro listed env j j1 hfree hr hy H
    refine ⟨fun h => (by rw [h] at hr; cases hr), fun k hk => ?_⟩
    by_cases hki : k = i
    · subst hki; exact take hy H
    · have h1 := H.2 k (ready_mono hk hki)
      obtain ⟨hkun, ok, hok, hall⟩ := mem_ready.1 hk
      have hnot : ∀ e ∈ ok.after, Region.binds md e = true → e.on ≠ i := fun e he hb heq => by
        have h1 := hall e he hb
        have h0 := (mem_ready.1 hr).1
        rw [heq] at h1
        rcases Nat.lt_or_ge i listed.size with h' | h'
        · simp [h'] at h0 h1; rw [h0] at h1; cases h1
        · simp [Array.getElem?_eq_none h'] at h1
      obtain ⟨f1, f2⟩ := hfree k ok hok hki hkun hnot
      have h2 := xq_put hok f1 f2 hy h1
      have hfree' : ∀ l ol, ops[l]? = some ol → l ≠ i → (listed.setIfInBounds k true).getD l true = false →
          (∀ e ∈ ol.after, Region.binds md e = true → e.on ≠ i) → oi.apart ops ol = true ∧ (eff oi && eff ol) = false := fun l ol hl hli hun hno => by
        refine hfree l ol hl hli ?_ hno
        by_cases hkl : k = l
        · subst hkl; exact hkun
        · rw [getD_set_ne true hkl] at hun; exact hun
      refine xq_mono (fun e' j' h3 => ?_) h2
      obtain ⟨j2, h4, h5⟩ := h3
      refine ih (listed.setIfInBounds k true) e' j' j2 hfree' (ready_mono hr (Ne.symm hki)) h4 ?_
      rw [Array.setIfInBounds_comm _ _ hki]
      exact h5

/-- In the order of the text. -/
def XQ (P : Program) (n : Nat) (ops : Array Oper) (S : Nat → Store) (m : Nat) (eff : Oper → Bool) (K : Env → Nat → Prop) : List Oper → Env → Nat → Prop
  | [], e, j => K e j
  | o :: rest, e, j => ∃ v j', XS P n ops S m eff o e j v j' ∧ XQ P n ops S m eff K rest (e.putO o.dst v) j'

/-- No two effects are apart: their order is the text's. -/
def effB (ops : Array Oper) (eff : Oper → Bool) : Bool := (List.range ops.size).all fun i => (List.range ops.size).all fun k => i == k || match ops[i]?, ops[k]? with
  | some o, some o' => !(eff o && eff o' && o.apart ops o')
  | _, _ => true
theorem effB_spec (h : effB ops eff = true) {i k : Nat} {o o' : Oper} (hne : k ≠ i) (h1 : ops[i]? = some o) (h2 : ops[k]? = some o') (hap : o.apart ops o' = true) : (eff o && eff o') = false := by
  have m1 := (Array.getElem?_eq_some_iff.1 h1).1
  have m2 := (Array.getElem?_eq_some_iff.1 h2).1
  have := List.all_eq_true.1 (List.all_eq_true.1 h i (List.mem_range.2 m1)) k (List.mem_range.2 m2)
  have e : (i == k) = false := by simp; exact fun e => hne e.symm
  simp only [e, Bool.false_or, h1, h2] at this
  rw [hap, Bool.and_true, Bool.not_eq_true'] at this
  exact this

theorem xAny_lex (hE : effB ops eff = true) {K : Env → Nat → Prop} : ∀ (l : List Oper) (k : Nat) (listed : Array Bool) (env : Env) (j : Nat), (∀ i, l[i]? = ops[k + i]?) →
    Region.lexFrom md ops l.length k listed = true → XQ P n ops S m eff K l env j → xAny P n md ops S m eff K l.length listed env j
  | [], _, _, _, _, _, hB, h => ⟨by simpa [Region.lexFrom] using hB, h⟩
  | o :: l, k, listed, env, j, hl, hB, h => by
    have h0 : ops[k]? = some o := by simpa using (hl 0).symm
    simp only [List.length_cons, Region.lexFrom, Bool.and_eq_true] at hB
    obtain ⟨⟨hr, hf⟩, hB'⟩ := hB
    obtain ⟨v, j', hy, hK⟩ := h
    exact xAny_first h0 l.length listed env j j' (fun k2 ok h1 h2 h3 h4 => let ap := Region.free_spec h0 hf k2 ok h1 h2 h3 h4; ⟨ap, effB_spec hE h2 h0 h1 ap⟩) (by simpa using hr) hy
      (xAny_lex hE l (k + 1) _ _ j' (fun i => by have := hl (i + 1); simpa [Nat.add_assoc, Nat.add_comm 1 i] using this) hB' hK)

theorem wpAny_of_xAny {K : Env → Nat → Prop} (hd : dstsOk n ops = true) : ∀ (fuel : Nat) (listed : Array Bool) (env : Env) (j : Nat), xAny P n md ops S m eff K fuel listed env j → ∀ G a w, ARel n G env (S j) a w →
    ∀ Q : Exit → Act → World → Prop, (∀ G' env' j' a' w', G.Le G' → K env' j' → ARel n G' env' (S j') a' w' → Q .normal a' w') → wpAny P md ops Q fuel listed a w
  | 0, _, env, j, h, G, a, w, hr, Q, hQ => ⟨h.1, hQ G env j a w (Gh.Le.refl G) h.2 hr⟩
  | fuel + 1, listed, env, j, h, G, a, w, hr, Q, hQ => by
    refine ⟨fun h0 => hQ G env j a w (Gh.Le.refl G) (h.1 h0) hr, fun i hi => ?_⟩
    have hq := h.2 i hi
    unfold xq at hq
    unfold wpOp
    split
    · rename_i ho; simp only [ho] at hq; exact wpAny_of_xAny hd fuel _ env j hq G a w hr Q hQ
    · rename_i o ho
      simp only [ho] at hq
      obtain ⟨v, j', hx, hK⟩ := hq
      have hdo : ∀ x, o.dst = some x → x < n := dstOk_spec (by
        have := List.all_eq_true.1 hd o (by
          obtain ⟨hlt, he⟩ := Array.getElem?_eq_some_iff.1 ho
          rw [← he]; simp)
        exact this)
      cases hx with
      | quiet hj hf hp =>
        have := hp j hj G a w hr.st (fun x _ => hr.vals x)
        split
        · rename_i hw
          rw [if_pos hw] at this
          refine .inl (wp_mono' ?_ rfl this)
          rintro a' w' ⟨x, G', rfl, h1, h2, h3⟩
          have hr' : ARel n G' env (S j) a w' := ⟨hr.size, hr.defers, fun i => (hr.vals i).mono h2.2.2.1 h2.2.2.2, h3⟩
          exact wpAny_of_xAny hd fuel _ _ j hK G' _ w' (hr'.putO hdo h1) Q fun G'' e' j'' a'' w'' hg hk hr => hQ G'' e' j'' a'' w'' (h2.trans hg) hk hr
        · rename_i hw
          rw [if_neg hw] at this
          exact wpAny_of_xAny hd fuel _ _ j hK G _ w (hr.putO hdo this) Q hQ
      | eff hj hf hp =>
        have := hp env (fun _ _ => rfl) G a w hr
        split
        · rename_i hw
          rw [if_pos hw] at this
          refine .inl (wp_mono' ?_ rfl this)
          rintro a' w' ⟨e', s', G', ⟨rfl, rfl⟩, h2, h3⟩
          exact wpAny_of_xAny hd fuel _ _ _ hK G' a' w' h3 Q fun G'' e' j'' a'' w'' hg hk hr => hQ G'' e' j'' a'' w'' (h2.trans hg) hk hr
        · rename_i hw
          rw [if_neg hw] at this
          obtain ⟨env', σ', ⟨rfl, rfl⟩, h3⟩ := this
          exact wpAny_of_xAny hd fuel _ _ _ hK G _ w h3 Q hQ

/-- A region that draws its order, with a chain of effects: the stores on the way are S 0 .. S m. -/
theorem AWP.drawX {id : Nat} {l : List Oper} {K : Exit → Env → Store → Prop} {env : Env} {σ : Store} (S : Nat → Store) (m : Nat) (eff : Oper → Bool) (h0 : S 0 = σ)
    (hm : P.follows .mixedOrders = true) (hB : Region.lexB .any l.toArray = true) (hd : dstsOk n l.toArray = true) (hE : effB l.toArray eff = true)
    (h : ∀ K' : Env → Nat → Prop, (∀ e j, K .normal e (S j) → K' e j) → XQ P n l.toArray S m eff K' l env 0) : AWP P n (.region id l.toArray true) K env σ := by
  subst h0
  intro G a w hr
  simp only [Region.lexB, Bool.and_eq_true] at hB
  refine wp_region_any hm ?_
  have := xAny_lex (md := .any) hE l 0 (Array.replicate l.toArray.size false) env 0 (by simp) (by simpa using hB.2) (h (fun e j => K .normal e (S j)) fun _ _ h => h)
  refine wpAny_of_xAny hd _ _ env 0 (by simpa using this) G a _ ⟨hr.size, hr.defers, hr.vals, hr.st.drew⟩ _ ?_
  intro G' env' j' a' w' hg hk hr'
  exact ⟨env', S j', G', hk, hg, hr'⟩
end
end Go.Ab
