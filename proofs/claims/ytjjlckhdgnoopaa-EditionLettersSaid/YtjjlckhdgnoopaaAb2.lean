/- Regions: one operation after the other, and in any order where all are quiet. -/
import Derived.Test.YtjjlckhdgnoopaaAb1
import Derived.Still
namespace Go.Ab

def noQ : Exit → Act → World → Prop := fun _ _ _ => False

/-- One operation, from what is known of the slots that it looks at: it leaves a value that v tells, and the objects as they were. -/
def PStep (P : Program) (ops : Array Oper) (o : Oper) (env : Env) (σ : Store) (v : AV) : Prop :=
  ∀ G a w, SRel G σ w → (∀ x ∈ o.looksAt ops, VRel G.M G.B (env x) (a.tmps.getD x undef)) →
    if Region.wanted o (yielded ops a.tmps) then o.wp P a w (fun a' w' => ∃ x G', a' = a.put o.dst x ∧ VRel G'.M G'.B v x ∧ G.Le G' ∧ SRel G' σ w') noQ
    else VRel G.M G.B v undef

/-- One operation, that may change the objects. -/
def EStep (P : Program) (n : Nat) (ops : Array Oper) (o : Oper) (k : Env → Store → Prop) (env : Env) (σ : Store) : Prop :=
  ∀ G a w, ARel n G env σ a w →
    if Region.wanted o (yielded ops a.tmps) then o.wp P a w (fun a' w' => ∃ env' σ' G', k env' σ' ∧ G.Le G' ∧ ARel n G' env' σ' a' w') noQ
    else ∃ env' σ', k env' σ' ∧ ARel n G env' σ' (a.put o.dst undef) w

def dstOk (n : Nat) (o : Oper) : Bool := match o.dst with | some d => d < n | none => true

def Env.putO (e : Env) (d : Option Nat) (v : AV) : Env := match d with | some d => e.put d v | none => e

theorem ARel.putO {n : Nat} {G : Gh} {env : Env} {σ : Store} {a : Act} {w : World} (h : ARel n G env σ a w) {d : Option Nat} (hd : ∀ x, d = some x → x < n) {v : AV} {x : Value} (hv : VRel G.M G.B v x) :
    ARel n G (env.putO d v) σ (a.put d x) w := by
  cases d with
  | none => exact h
  | some d => exact h.put (hd d rfl) hv

theorem dstOk_spec {n : Nat} {o : Oper} (h : dstOk n o = true) : ∀ x, o.dst = some x → x < n := by
  intro x hx; simpa [dstOk, hx] using h

theorem wp_mono' {P : Program} {o : Oper} {a : Act} {w : World} {K K' : Act → World → Prop} {Q Q' : Exit → Act → World → Prop} (h : ∀ a w, K a w → K' a w) (hq : Q = noQ)
    (hh : o.wp P a w K Q) : o.wp P a w K' Q' := by
  subst hq
  unfold Oper.wp at *
  generalize (execOp a.eval o).run P w = r at *
  cases r with
  | ok n w' =>
    cases n <;> simp only [Oper.upon] at hh ⊢ <;>
      first
        | exact h _ _ hh
        | exact Calls.mono hh (fun e w'' he => by cases e <;> first | exact h _ _ he | exact he.elim | (obtain ⟨_, _, hx⟩ := he; exact hx.elim))
        | exact Rows.mono hh (fun _ _ he => h _ _ he)
  | halt x w' => cases x <;> simp only [Oper.upon] at hh ⊢ <;> exact hh.elim

theorem EStep.of_pure {P : Program} {n : Nat} {ops : Array Oper} {o : Oper} {k : Env → Store → Prop} {env : Env} {σ : Store} {v : AV} (hd : dstOk n o = true)
    (h : PStep P ops o env σ v) (hk : k (env.putO o.dst v) σ) : EStep P n ops o k env σ := by
  intro G a w hr
  have := h G a w hr.st (fun x _ => hr.vals x)
  split
  · rename_i hw
    rw [if_pos hw] at this
    refine wp_mono' ?_ rfl this
    rintro a' w' ⟨x, G', rfl, h1, h2, h3⟩
    have hr' : ARel n G' env σ a w' := ⟨hr.size, hr.defers, fun i => (hr.vals i).mono h2.2.2.1 h2.2.2.2, h3⟩
    exact ⟨_, σ, G', hk, h2, hr'.putO (dstOk_spec hd) h1⟩
  · rename_i hw
    rw [if_neg hw] at this
    exact ⟨_, σ, hk, hr.putO (dstOk_spec hd) this⟩

def AOps (P : Program) (n : Nat) (ops : Array Oper) (K : Env → Store → Prop) : List Oper → Env → Store → Prop
  | [], e, s => K e s
  | o :: rest, e, s => EStep P n ops o (AOps P n ops K rest) e s

theorem AOps.pure {P : Program} {n : Nat} {ops : Array Oper} {o : Oper} {rest : List Oper} {K : Env → Store → Prop} {env : Env} {σ : Store} {v : AV} (hd : dstOk n o = true)
    (h : PStep P ops o env σ v) (hk : AOps P n ops K rest (env.putO o.dst v) σ) : AOps P n ops K (o :: rest) env σ := EStep.of_pure hd h hk

theorem AOps.sound {P : Program} {n : Nat} {ops : Array Oper} {K : Env → Store → Prop} : ∀ (l : List Oper) (env : Env) (σ : Store), AOps P n ops K l env σ → ∀ G a w, ARel n G env σ a w →
    wpList P ops (fun x a' w' => ∃ env' σ' G', x = .normal ∧ K env' σ' ∧ G.Le G' ∧ ARel n G' env' σ' a' w') l a w
  | [], env, σ, h, G, a, w, hr => ⟨env, σ, G, rfl, h, Gh.Le.refl G, hr⟩
  | o :: rest, env, σ, h, G, a, w, hr => by
    have := h G a w hr
    unfold wpList
    have up : ∀ G' a' w', G.Le G' → (∃ env' σ', AOps P n ops K rest env' σ' ∧ ARel n G' env' σ' a' w') → wpList P ops (fun x a' w' => ∃ env' σ' G', x = .normal ∧ K env' σ' ∧ G.Le G' ∧ ARel n G' env' σ' a' w') rest a' w' := by
      rintro G' a' w' hg ⟨env', σ', h1, h2⟩
      exact wpList_mono (fun x a w ⟨e, s, G2, k0, k1, k2, k3⟩ => ⟨e, s, G2, k0, k1, hg.trans k2, k3⟩) rest a' w' (AOps.sound rest env' σ' h1 G' a' w' h2)
    split
    · rename_i hw
      rw [if_pos hw] at this
      exact .inl (wp_mono' (fun a' w' ⟨e, s, G', h1, h2, h3⟩ => up G' a' w' h2 ⟨e, s, h1, h3⟩) rfl this)
    · rename_i hw
      rw [if_neg hw] at this
      exact up G _ _ (Gh.Le.refl G) this
where
  wpList_mono {P : Program} {ops : Array Oper} {Q Q' : Exit → Act → World → Prop} (h : ∀ x a w, Q x a w → Q' x a w) : ∀ (l : List Oper) (a : Act) (w : World), wpList P ops Q l a w → wpList P ops Q' l a w
    | [], a, w, hh => h _ a w hh
    | o :: rest, a, w, hh => by
      unfold wpList at *
      split
      · rename_i hw
        rw [if_pos hw] at hh
        rcases hh with hh | ⟨h1, a0, w0, h2⟩
        · refine .inl ?_
          unfold Oper.wp at *
          generalize (execOp a.eval o).run P w = r at *
          cases r with
          | ok n w' =>
            cases n <;> simp only [Oper.upon] at hh ⊢ <;>
              first
                | exact wpList_mono h _ _ _ hh
                | exact Calls.mono hh (fun e w'' he => by cases e <;> first | exact wpList_mono h _ _ _ he | exact h _ _ _ he | (obtain ⟨a1, w1, hx⟩ := he; exact ⟨a1, w1, h _ _ _ hx⟩))
                | exact Rows.mono hh (fun _ _ he => wpList_mono h _ _ _ he)
          | halt x w' => cases x <;> simp only [Oper.upon] at hh ⊢ <;> first | exact hh | exact h _ _ _ hh
        · exact .inr ⟨h1, a0, w0, h _ _ _ h2⟩
      · rename_i hw
        rw [if_neg hw] at hh
        exact wpList_mono h rest _ _ hh

/-- A region without a draw. -/
theorem AWP.region {P : Program} {n : Nat} {id : Nat} {l : List Oper} {K : Exit → Env → Store → Prop} {env : Env} {σ : Store}
    (h : AOps P n l.toArray (K .normal) l env σ) : AWP P n (.region id l.toArray false) K env σ := by
  intro G a w hr
  refine wp_region_lit (AOps.sound.wpList_mono ?_ l a w (AOps.sound l env σ h G a w hr))
  rintro x a' w' ⟨e, s, G', rfl, h1, h2, h3⟩
  exact ⟨e, s, G', h1, h2, h3⟩

/-! ### Any order -/
section
variable {P : Program} {ops : Array Oper} {md : Region.Mode} {σ : Store}

theorem Env.put_comm (e : Env) {i j : Nat} (u v : AV) (h : i ≠ j) : (e.put i u).put j v = (e.put j v).put i u := by
  funext x
  simp only [Env.put]
  by_cases h1 : x = j
  · subst h1
    have : ¬ x = i := fun e => h e.symm
    simp [this]
  · simp [h1]
theorem Env.putO_comm (e : Env) {x y : Option Nat} (u v : AV) (h : ∀ d, x = some d → y ≠ some d) : (e.putO x u).putO y v = (e.putO y v).putO x u := by
  cases x with
  | none => rfl
  | some i => cases y with
    | none => rfl
    | some j => exact Env.put_comm e u v fun hij => h i rfl (by rw [hij])
theorem Env.putO_other (e : Env) {d : Option Nat} {v : AV} {x : Nat} (h : ∀ i, d = some i → i ≠ x) : (e.putO d v) x = e x := by
  cases d with
  | none => rfl
  | some i => exact if_neg fun hx => h i rfl hx.symm

theorem PStep.congr {o : Oper} {env env' : Env} {v : AV} (h : PStep P ops o env σ v) (he : ∀ x ∈ o.looksAt ops, env' x = env x) : PStep P ops o env' σ v :=
  fun G a w hs hv => h G a w hs fun x hx => by rw [← he x hx]; exact hv x hx

def aq (P : Program) (ops : Array Oper) (σ : Store) (i : Nat) (K : Env → Prop) (env : Env) : Prop :=
  match ops[i]? with
  | none => K env
  | some o => ∃ v, PStep P ops o env σ v ∧ K (env.putO o.dst v)

theorem aq_mono {i : Nat} {env : Env} {K K' : Env → Prop} (h : ∀ e, K e → K' e) (hh : aq P ops σ i K env) : aq P ops σ i K' env := by
  unfold aq at *
  split
  · exact h _ (by simpa [*] using hh)
  · rename_i o ho; simp only [ho] at hh; obtain ⟨v, h1, h2⟩ := hh; exact ⟨v, h1, h _ h2⟩

def aAny (P : Program) (md : Region.Mode) (ops : Array Oper) (σ : Store) (K : Env → Prop) : Nat → Array Bool → Env → Prop
  | 0, listed, e => Region.ready md ops listed = [] ∧ K e
  | fuel + 1, listed, e =>
    (Region.ready md ops listed = [] → K e) ∧ ∀ i ∈ Region.ready md ops listed, aq P ops σ i (aAny P md ops σ K fuel (listed.setIfInBounds i true)) e

theorem aq_put {j : Nat} {oi oj : Oper} {v : AV} (hj : ops[j]? = some oj) (hap : oi.apart ops oj = true) {K : Env → Prop} {env : Env}
    (hy : PStep P ops oi env σ v) (h : aq P ops σ j K (env.putO oi.dst v)) :
    aq P ops σ j (fun e => PStep P ops oi e σ v ∧ K (e.putO oi.dst v)) env := by
  obtain ⟨h1, h2, h3⟩ := Oper.apart_spec hap
  unfold aq at *
  simp only [hj] at *
  obtain ⟨u, hu, hK⟩ := h
  refine ⟨u, hu.congr fun x hx => (Env.putO_other _ fun i hi e => h1 i hi (e ▸ hx)).symm, hy.congr fun x hx => Env.putO_other _ fun i hi e => h3 i hi (e ▸ hx), ?_⟩
  rw [Env.putO_comm env v u h2] at hK
  exact hK

theorem aAny_first {K : Env → Prop} {i : Nat} {oi : Oper} {v : AV} (hi : ops[i]? = some oi) :
    ∀ (fuel : Nat) (listed : Array Bool) (env : Env),
      (∀ j oj, ops[j]? = some oj → j ≠ i → listed.getD j true = false → (∀ e ∈ oj.after, Region.binds md e = true → e.on ≠ i) → oi.apart ops oj = true) →
      i ∈ Region.ready md ops listed → PStep P ops oi env σ v →
      aAny P md ops σ K fuel (listed.setIfInBounds i true) (env.putO oi.dst v) → aAny P md ops σ K (fuel + 1) listed env := by
  have take : ∀ {env : Env} {K : Env → Prop}, PStep P ops oi env σ v → K (env.putO oi.dst v) → aq P ops σ i K env := fun hy h => by
    unfold aq; simp only [hi]; exact ⟨v, hy, h⟩
  intro fuel
  induction fuel with
  | zero =>
    intro listed env _ hr hy H
    refine ⟨fun h => (by rw [h] at hr; cases hr), fun j hj => ?_⟩
    by_cases hji : j = i
    · subst hji; exact take hy H
    · have := ready_mono hj hji
      rw [H.1] at this
      cases this
  | succ fuel ih =>
    intro listed env hfree hr hy H
    refine ⟨fun h => (by rw [h] at hr; cases hr), fun j hj => ?_⟩
    by_cases hji : j = i
    · subst hji; exact take hy H
    · have h1 := H.2 j (ready_mono hj hji)
      obtain ⟨hjun, oj, hoj, hall⟩ := mem_ready.1 hj
      have hnot : ∀ e ∈ oj.after, Region.binds md e = true → e.on ≠ i := fun e he hb heq => by
        have h1 := hall e he hb
        have h0 := (mem_ready.1 hr).1
        rw [heq] at h1
        rcases Nat.lt_or_ge i listed.size with h' | h'
        · simp [h'] at h0 h1; rw [h0] at h1; cases h1
        · simp [Array.getElem?_eq_none h'] at h1
      have h2 := aq_put hoj (hfree j oj hoj hji hjun hnot) hy h1
      have hfree' : ∀ k ok, ops[k]? = some ok → k ≠ i → (listed.setIfInBounds j true).getD k true = false →
          (∀ e ∈ ok.after, Region.binds md e = true → e.on ≠ i) → oi.apart ops ok = true := fun k ok hk hki hun hno => by
        refine hfree k ok hk hki ?_ hno
        by_cases hjk : j = k
        · subst hjk; exact hjun
        · rw [getD_set_ne true hjk] at hun; exact hun
      refine aq_mono (fun e' h3 => ih (listed.setIfInBounds j true) e' hfree' (ready_mono hr (Ne.symm hji)) h3.1 ?_) h2
      rw [Array.setIfInBounds_comm _ _ hji]
      exact h3.2

/-- In the order of the text, every operation quiet. -/
def AQ (P : Program) (ops : Array Oper) (σ : Store) (K : Env → Prop) : List Oper → Env → Prop
  | [], e => K e
  | o :: rest, e => ∃ v, PStep P ops o e σ v ∧ AQ P ops σ K rest (e.putO o.dst v)

theorem aAny_lex {K : Env → Prop} : ∀ (l : List Oper) (k : Nat) (listed : Array Bool) (env : Env), (∀ j, l[j]? = ops[k + j]?) →
    Region.lexFrom md ops l.length k listed = true → AQ P ops σ K l env → aAny P md ops σ K l.length listed env
  | [], _, _, _, _, hB, h => ⟨by simpa [Region.lexFrom] using hB, h⟩
  | o :: l, k, listed, env, hl, hB, h => by
    have h0 : ops[k]? = some o := by simpa using (hl 0).symm
    simp only [List.length_cons, Region.lexFrom, Bool.and_eq_true] at hB
    obtain ⟨⟨hr, hf⟩, hB'⟩ := hB
    obtain ⟨v, hy, hK⟩ := h
    exact aAny_first h0 l.length listed env (Region.free_spec h0 hf) (by simpa using hr) hy
      (aAny_lex l (k + 1) _ _ (fun j => by have := hl (j + 1); simpa [Nat.add_assoc, Nat.add_comm 1 j] using this) hB' hK)

def dstsOk (n : Nat) (ops : Array Oper) : Bool := ops.toList.all (dstOk n)

theorem wpAny_of_aAny {n : Nat} {K : Env → Prop} (hd : dstsOk n ops = true) : ∀ (fuel : Nat) (listed : Array Bool) (env : Env), aAny P md ops σ K fuel listed env → ∀ G a w, ARel n G env σ a w →
    ∀ Q : Exit → Act → World → Prop, (∀ G' env' a' w', G.Le G' → K env' → ARel n G' env' σ a' w' → Q .normal a' w') → wpAny P md ops Q fuel listed a w
  | 0, _, env, h, G, a, w, hr, Q, hQ => ⟨h.1, hQ G env a w (Gh.Le.refl G) h.2 hr⟩
  | fuel + 1, listed, env, h, G, a, w, hr, Q, hQ => by
    refine ⟨fun h0 => hQ G env a w (Gh.Le.refl G) (h.1 h0) hr, fun i hi => ?_⟩
    have hq := h.2 i hi
    unfold aq at hq
    unfold wpOp
    split
    · rename_i ho; simp only [ho] at hq; exact wpAny_of_aAny hd fuel _ env hq G a w hr Q hQ
    · rename_i o ho
      simp only [ho] at hq
      obtain ⟨v, hp, hK⟩ := hq
      have hdo : ∀ x, o.dst = some x → x < n := dstOk_spec (by
        have := List.all_eq_true.1 hd o (by
          obtain ⟨hlt, he⟩ := Array.getElem?_eq_some_iff.1 ho
          rw [← he]; simp)
        exact this)
      have := hp G a w hr.st (fun x _ => hr.vals x)
      split
      · rename_i hw
        rw [if_pos hw] at this
        refine .inl (wp_mono' ?_ rfl this)
        rintro a' w' ⟨x, G', rfl, h1, h2, h3⟩
        have hr' : ARel n G' env σ a w' := ⟨hr.size, hr.defers, fun i => (hr.vals i).mono h2.2.2.1 h2.2.2.2, h3⟩
        exact wpAny_of_aAny hd fuel _ _ hK G' _ w' (hr'.putO hdo h1) Q fun G'' e' a'' w'' hg hk hr => hQ G'' e' a'' w'' (h2.trans hg) hk hr
      · rename_i hw
        rw [if_neg hw] at this
        exact wpAny_of_aAny hd fuel _ _ hK G _ w (hr.putO hdo this) Q hQ

end

theorem SRel.drew {G : Gh} {σ : Store} {w : World} (h : SRel G σ w) : SRel G σ { w with drawn := w.drawn + 1 } :=
  ⟨h.memok, h.m0, h.base, h.len, fun l g o h1 h2 => by
    have := h.objs l g o h1 h2
    cases this with
    | var b cs c T fr hb hf hl hr hm => exact .var b cs c T fr hb hf hl hr hm
    | ownz sz => exact .ownz sz
    | own b cap sz n c T fr hb hf hl hn hm => exact .own b cap sz n c T fr hb hf hl hn hm
    | map b kvs es clock hb hl hk hr hm => exact .map b kvs es clock hb hl hk hr hm
    | siter b s pos hb => exact .siter b s pos hb
    | dead => exact .dead _, h.fresh, h.inj, h.out⟩

/-- A region that draws its order, all of whose operations are quiet. -/
theorem AWP.region_draw {P : Program} {n : Nat} {id : Nat} {l : List Oper} {K : Exit → Env → Store → Prop} {env : Env} {σ : Store}
    (hm : P.follows .mixedOrders = true) (hB : Region.lexB .any l.toArray = true) (hd : dstsOk n l.toArray = true)
    (h : AQ P l.toArray σ (fun e => K .normal e σ) l env) : AWP P n (.region id l.toArray true) K env σ := by
  intro G a w hr
  simp only [Region.lexB, Bool.and_eq_true] at hB
  refine wp_region_any hm ?_
  have := aAny_lex (md := .any) l 0 (Array.replicate l.toArray.size false) env (by simp) (by simpa using hB.2) h
  refine wpAny_of_aAny hd _ _ env (by simpa using this) G a _ ⟨hr.size, hr.defers, hr.vals, hr.st.drew⟩ _ ?_
  intro G' env' a' w' hg hk hr'
  exact ⟨env', σ, G', hk, hg, hr'⟩
end Go.Ab
