/- Objects that a round makes and leaves behind. -/
import Derived.Test.YtjjlckhdgnoopaaAb12
namespace Go.Ab

/-- Names no object from m on. -/
def okRef (m : Nat) : Nat → AV → Bool
  | 0, _ => false
  | k + 1, v => match v with
    | .any | .prim _ | .nils | .imap _ | .iptr _ | .ext _ => true
    | .sl _ _ (.own l) => decide (l < m)
    | .sl _ _ _ => true
    | .ptr l _ => decide (l < m)
    | .map l => decide (l < m)
    | .agg cs => cs.all (okRef m k)
    | .tup cs => cs.all (okRef m k)
    | .fn _ a c => a.all (okRef m k) && c.all (okRef m k)
    | .when _ v => okRef m k v
def okObj (m : Nat) : AObj → Bool
  | .var cs => cs.all (okRef m 3)
  | .map kvs => kvs.all fun kv => okRef m 3 kv.2
  | _ => true

theorem take_get {B : List GB} {m l : Nat} {g : GB} (h : B[l]? = some g) (hl : l < m) : (B.take m)[l]? = some g := by
  rw [List.getElem?_take, if_pos hl]; exact h

theorem VRel.take {M : Mem} {B : List GB} {m : Nat} : ∀ (k : Nat) (v : AV) (x : Value), okRef m k v = true → VRel M B v x → VRel M (B.take m) v x
  | 0, _, _, h, _ => by simp [okRef] at h
  | k + 1, v, x, h, hv => by
    have tok : ∀ {t : Tok} {a : Option (Nat × Nat)} {len cap : Nat}, (∀ l, t = .own l → l < m) → TokOk B t a len cap → TokOk (B.take m) t a len cap := by
      intro t a len cap hl ht
      cases t with
      | no => trivial
      | fresh => exact ht
      | own l =>
        obtain ⟨ob, cp, n, h1, h2, h3⟩ := ht
        exact ⟨ob, cp, n, take_get h1 (hl l rfl), h2, h3⟩
    have lst : ∀ (cs : List AV) (vs : Array Value), cs.all (okRef m k) = true → (∀ (i : Nat) (c : AV), cs[i]? = some c → VRel M B c (vs.getD i undef)) → ∀ (i : Nat) (c : AV), cs[i]? = some c → VRel M (B.take m) c (vs.getD i undef) :=
      fun cs vs ha hr i c hi => VRel.take k c _ (List.all_eq_true.1 ha c (List.mem_of_getElem? hi)) (hr i c hi)
    cases hv with
    | any => exact .any _
    | prim => exact .prim _
    | agg cs vs hl hr => exact .agg _ _ hl (lst _ _ (by simpa [okRef] using h) hr)
    | tup cs vs hl hr => exact .tup _ _ hl (lst _ _ (by simpa [okRef] using h) hr)
    | nils => exact .nils
    | sl sz es t b off cap f hz hm hr hc ht => exact .sl sz es t b off cap f hz hm hr hc (tok (fun l e => by subst e; simpa [okRef] using h) ht)
    | slz sz t ht => exact .slz sz t (tok (fun l e => by subst e; simpa [okRef] using h) ht)
    | ptr l off b hb => exact .ptr l off b (take_get hb (by simpa [okRef] using h))
    | iptr cs b off f hm hr => exact .iptr cs b off f hm hr
    | fn f first caps vf vc hf hc h1 h2 =>
      simp only [okRef, Bool.and_eq_true] at h
      exact .fn f first caps vf vc hf hc (lst _ _ h.1 h1) (lst _ _ h.2 h2)
    | map l b hb => exact .map l b (take_get hb (by simpa [okRef] using h))
    | imap kvs b es hm hl hk hr => exact .imap kvs b es hm hl hk hr
    | imapz => exact .imapz
    | when g v x h1 h2 => exact .when g v x (fun hg => VRel.take k v x (by simpa [okRef] using h) (h1 hg)) h2
    | ext v x h => exact .ext v x h

theorem SRel.take {G : Gh} {σ : Store} {w : World} (h : SRel G σ w) (m : Nat) (ho : (σ.take m).all (okObj m) = true) : SRel { G with B := G.B.take m } (σ.take m) w := by
  have sub : ∀ (l : Nat) (g : GB), (G.B.take m)[l]? = some g → G.B[l]? = some g := fun l g hl => by
    rw [List.getElem?_take] at hl; split at hl
    · exact hl
    · simp at hl
  have sub2 : ∀ (l : Nat) (o : AObj), (σ.take m)[l]? = some o → σ[l]? = some o := fun l g hl => by
    rw [List.getElem?_take] at hl; split at hl
    · exact hl
    · simp at hl
  refine ⟨h.memok, h.m0, h.base, by simp [h.len], fun l g o h1 h2 => ?_, fun l g b h1 h2 => h.fresh l g b (sub l g h1) h2, fun l l' g g' b h1 h2 h3 h4 => h.inj l l' g g' b (sub _ _ h1) (sub _ _ h2) h3 h4, h.out⟩
  have hok := List.all_eq_true.1 ho o (List.mem_of_getElem? h2)
  have := h.objs l g o (sub l g h1) (sub2 l o h2)
  cases this with
  | var b cs c T fr hb hf hl hr hm => exact .var b cs c T fr hb hf hl (fun i a hi => VRel.take 3 a _ (List.all_eq_true.1 (by simpa [okObj] using hok) a (List.mem_of_getElem? hi)) (hr i a hi)) hm
  | ownz sz => exact .ownz sz
  | own b cap sz n c T fr hb hf hl hn hm => exact .own b cap sz n c T fr hb hf hl hn hm
  | map b kvs es clock hb hl hk hr hm => exact .map b kvs es clock hb hl hk (fun i k v e x y => VRel.take 3 v _ (List.all_eq_true.1 (show kvs.all (fun kv => okRef m 3 kv.2) = true from hok) (k, v) (List.mem_of_getElem? x)) (hr i k v e x y)) hm
  | siter b s pos hb => exact .siter b s pos hb
  | dead => exact .dead _

theorem ofE_ok {m : Nat} {l : List (Nat × AV)} (h : l.all (fun p => okRef m 4 p.2) = true) (i : Nat) : okRef m 4 (Env.of l i) = true := by
  unfold Env.of
  cases hf : l.find? (fun p => p.1 == i) with
  | none => rfl
  | some p => exact List.all_eq_true.1 h p (List.mem_of_find?_eq_some hf)

section
variable {P : Program} {n : Nat} {K : Exit → Env → Store → Prop} {env : Env} {σ : Store}
/-- A loop whose rounds leave objects behind. -/
theorem AWP.loopD {c : Code} {ι : Type} (E : ι → List (Nat × AV)) (S : ι → Store) (inv : ι → Prop) (μ : ι → Nat) (m : Nat) (hS' : ∀ i, (S i).length = m) (i0 : ι) (h0 : inv i0) (hE : WeakL env (E i0)) (hS : σ = S i0)
    (hokE : ∀ i, inv i → (E i).all (fun p => okRef m 4 p.2) = true) (hokS : ∀ i, inv i → (S i).all (okObj m) = true)
    (round : ∀ i, inv i → AWP P n c (thenK (fun e s => ∃ j, inv j ∧ μ j < μ i ∧ WeakL e (E j) ∧ s.take m = S j) K) (Env.of (E i)) (S i)) : AWP P n (.loop c) K env σ := by
  subst hS
  intro G a w hr
  refine wp_loop_ghost (fun q a w => ∃ i G', μ i = q ∧ inv i ∧ G.Le G' ∧ G'.B.length = m ∧ ARel n G' (Env.of (E i)) (S i) a w) (μ i0) ⟨i0, G, rfl, h0, Gh.Le.refl G, by rw [hr.st.len, hS'], hr.weaken hE.weak⟩ ?_
  rintro q a w ⟨i, G', hm, hi, hg, hlen, hr⟩
  refine wp_mono (round i hi G' a w hr) ?_
  rintro x a' w' ⟨e, s, G'', h1, h2, h3⟩
  cases x with
  | normal =>
    obtain ⟨j, hj, hlt, hw, hs⟩ := h1
    have hrs := h3.weaken hw.weak
    have hst := h3.st.take m (by rw [hs]; exact hokS j hj)
    rw [hs] at hst
    have hr' : ARel n { G'' with B := G''.B.take m } (Env.of (E j)) (S j) a' w' := ⟨hrs.size, hrs.defers, fun i => VRel.take 4 _ _ (ofE_ok (hokE j hj) i) (hrs.vals i), hst⟩
    have hB : BLe G'.B (G''.B.take m) := fun l g hl => by
      obtain ⟨g', k1, k2⟩ := h2.2.2.2 l g hl
      have : l < m := by
        rw [← hlen]
        rcases Nat.lt_or_ge l G'.B.length with h | h
        · exact h
        · simp [List.getElem?_eq_none h] at hl
      exact ⟨g', take_get k1 this, k2⟩
    exact ⟨μ j, hm ▸ hlt, j, { G'' with B := G''.B.take m }, rfl, hj, hg.trans ⟨h2.1, h2.2.1, h2.2.2.1, hB⟩, by rw [hst.len, hS'], hr'⟩
  | _ => exact ⟨e, s, G'', h1, hg.trans h2, h3⟩
end
end Go.Ab
