/- Regions that draw their order: a chain of effects whose order is told by several edges, one after the other.  Contracts by content: align: Cost, Check. No statement is proved here. -/
import Derived.Test.YtekfpcgagoidcaaGreatDoorQ16
import Derived.Test.YtekfpcgagoidcaaGreatDoorQ22
import Derived.Test.YtekfpcgagoidcaaGreatDoorQ24
set_option linter.unusedVariables false
set_option linter.unusedSimpArgs false
namespace Go.Ab
section
variable {P : Program} {n : Nat} {ops : Array Oper} {md : Region.Mode} {S : Nat → Store} {eff : Oper → Bool} {lo hi rank : Nat → Nat}
inductive Aft (md : Region.Mode) (ops : Array Oper) (i : Nat) : Nat → Prop
  | one {k : Nat} {o : Oper} (h : ops[k]? = some o) (he : edgeB md o i = true) : Aft md ops i k
  | step {k m : Nat} {o : Oper} (hm : Aft md ops i m) (h : ops[k]? = some o) (he : edgeB md o m = true) : Aft md ops i k
def Closed (md : Region.Mode) (ops : Array Oper) (listed : Array Bool) : Prop := ∀ k o, ops[k]? = some o → listed.getD k false = true → ∀ e ∈ o.after, Region.binds md e = true → listed.getD e.on false = true
theorem edge_mem {o : Oper} {m : Nat} (h : edgeB md o m = true) : ∃ e ∈ o.after, Region.binds md e = true ∧ e.on = m := by
  unfold edgeB at h
  obtain ⟨x, hx, hy⟩ := Array.any_eq_true'.1 h
  simp only [Bool.and_eq_true, beq_iff_eq] at hy
  exact ⟨x, hx, hy.1, hy.2⟩
theorem Closed.aft {listed : Array Bool} (h : Closed md ops listed) {i : Nat} {k : Nat} (ha : Aft md ops i k) : listed.getD k false = true → listed.getD i false = true := by
  induction ha with
  | one h1 he =>
    intro hk
    obtain ⟨e, h2, h3, h4⟩ := edge_mem he
    have := h _ _ h1 hk e h2 h3
    rwa [h4] at this
  | step hm h1 he ih =>
    intro hk
    obtain ⟨e, h2, h3, h4⟩ := edge_mem he
    have := h _ _ h1 hk e h2 h3
    rw [h4] at this
    exact ih this
theorem ready_aft {listed : Array Bool} (h : Closed md ops listed) {i k : Nat} (hk : k ∈ Region.ready md ops listed) (ha : Aft md ops i k) : listed.getD i false = true := by
  obtain ⟨_, ok, hok, hall⟩ := mem_ready.1 hk
  have key : ∀ (x : Nat) (o : Oper), ops[k]? = some o → edgeB md o x = true → listed.getD x false = true := fun x o ho he => by
    rw [hok] at ho
    cases ho
    obtain ⟨e, h2, h3, h4⟩ := edge_mem he
    have := hall e h2 h3
    rwa [h4] at this
  cases ha with
  | one h1 he => exact key _ _ h1 he
  | step hm h1 he => exact h.aft hm (key _ _ h1 he)
theorem unlisted_false {listed : Array Bool} {i : Nat} (h : listed.getD i true = false) : listed.getD i false = false := by
  rcases Nat.lt_or_ge i listed.size with h' | h'
  · simp [h'] at h ⊢; exact h
  · simp [Array.getElem?_eq_none h'] at h
theorem Closed.set {listed : Array Bool} (h : Closed md ops listed) {k : Nat} (hk : k ∈ Region.ready md ops listed) : Closed md ops (listed.setIfInBounds k true) := by
  intro m o hm hl e he hb
  by_cases hkm : k = m
  · subst hkm
    obtain ⟨_, ok, hok, hall⟩ := mem_ready.1 hk
    rw [hok] at hm; cases hm
    exact getD_set_true (hall e he hb)
  · rw [getD_set_ne false hkm] at hl
    exact getD_set_true (h m o hm hl e he hb)
theorem yAny_firstT {K : Env → Nat → Prop} {i : Nat} {oi : Oper} {v : AV} (hio : ops[i]? = some oi) :
    ∀ (fuel : Nat) (listed : Array Bool) (env : Env) (j j1 : Nat), Closed md ops listed →
      (∀ k ok, ops[k]? = some ok → k ≠ i → listed.getD k true = false → ¬ Aft md ops i k → oi.apart ops ok = true ∧ pairOk eff lo hi rank i k oi ok) →
      i ∈ Region.ready md ops listed → YS P n ops S eff lo hi rank i oi env j v j1 →
      yAny P n md ops S eff lo hi rank K fuel (listed.setIfInBounds i true) (env.putO oi.dst v) j1 → yAny P n md ops S eff lo hi rank K (fuel + 1) listed env j := by
  have take : ∀ {env : Env} {j j1 : Nat} {K : Env → Nat → Prop}, YS P n ops S eff lo hi rank i oi env j v j1 → K (env.putO oi.dst v) j1 → yq P n ops S eff lo hi rank i K env j := fun hy h => by
    unfold yq; simp only [hio]; exact ⟨v, _, hy, h⟩
  intro fuel
  induction fuel with
  | zero =>
    intro listed env j j1 _ _ hr hy H
    refine ⟨fun h => (by rw [h] at hr; cases hr), fun k hk => ?_⟩
    by_cases hki : k = i
    · subst hki; exact take hy H
    · have := ready_mono hk hki
      rw [H.1] at this
      cases this
  | succ fuel ih =>
    intro listed env j j1 hcl hfree hr hy H
    refine ⟨fun h => (by rw [h] at hr; cases hr), fun k hk => ?_⟩
    by_cases hki : k = i
    · subst hki; exact take hy H
    · have h1 := H.2 k (ready_mono hk hki)
      obtain ⟨hkun, ok, hok, hall⟩ := mem_ready.1 hk
      have hnot : ¬ Aft md ops i k := fun ha => by
        have h1 := ready_aft hcl hk ha
        rw [unlisted_false (mem_ready.1 hr).1] at h1; cases h1
      obtain ⟨f1, f2⟩ := hfree k ok hok hki hkun hnot
      have h2 := yq_put hok f1 f2 hy h1
      have hfree' : ∀ l ol, ops[l]? = some ol → l ≠ i → (listed.setIfInBounds k true).getD l true = false →
          ¬ Aft md ops i l → oi.apart ops ol = true ∧ pairOk eff lo hi rank i l oi ol := fun l ol hl hli hun hno => by
        refine hfree l ol hl hli ?_ hno
        by_cases hkl : k = l
        · subst hkl; exact hkun
        · rw [getD_set_ne true hkl] at hun; exact hun
      refine yq_mono (fun e' j' h3 => ?_) h2
      obtain ⟨j2, h4, h5⟩ := h3
      refine ih (listed.setIfInBounds k true) e' j' j2 (hcl.set hk) hfree' (ready_mono hr (Ne.symm hki)) h4 ?_
      rw [Array.setIfInBounds_comm _ _ hki]
      exact h5
def aftL (md : Region.Mode) (i : Nat) : List Oper → Nat → List Nat → List Nat
  | [], _, acc => acc
  | o :: r, k, acc => aftL md i r (k + 1) (if edgeB md o i || acc.any (fun m => edgeB md o m) then k :: acc else acc)
theorem aftL_spec {i : Nat} : ∀ (l : List Oper) (k : Nat) (acc : List Nat), (∀ j, l[j]? = ops[k + j]?) → (∀ m ∈ acc, Aft md ops i m) → ∀ m ∈ aftL md i l k acc, Aft md ops i m
  | [], _, _, _, h => h
  | o :: r, k, acc, hl, h => by
    have h0 : ops[k]? = some o := by simpa using (hl 0).symm
    refine aftL_spec r (k + 1) _ (fun j => by have := hl (j + 1); simpa [Nat.add_assoc, Nat.add_comm 1 j] using this) ?_
    intro m hm
    split at hm
    · rename_i hc
      rcases List.mem_cons.1 hm with rfl | hm
      · rw [Bool.or_eq_true] at hc
        rcases hc with hc | hc
        · exact .one h0 hc
        · obtain ⟨x, hx, hy⟩ := List.any_eq_true.1 hc
          exact .step (h x hx) h0 hy
      · exact h m hm
    · exact h m hm
def rngAtT (md : Region.Mode) (ops : Array Oper) (eff : Oper → Bool) (lo hi rank : Nat → Nat) (listed : Array Bool) (i : Nat) (af : List Nat) : Bool := (List.range ops.size).all fun k => i == k || listed.getD k true || match ops[i]?, ops[k]? with
  | some o, some o' => af.contains k || ((!(eff o && eff o') && (eff o || !eff o' || decide (rank k ≤ hi i)) && (!eff o || eff o' || decide (lo k < rank i))))
  | _, _ => true
def rngT (md : Region.Mode) (ops : Array Oper) (eff : Oper → Bool) (lo hi rank : Nat → Nat) : Nat → Nat → Array Bool → Bool
  | 0, _, _ => true
  | f + 1, i, listed => rngAtT md ops eff lo hi rank listed i (aftL md i ops.toList 0 []) && rngT md ops eff lo hi rank f (i + 1) (listed.setIfInBounds i true)
theorem rngAtT_spec {listed : Array Bool} {i k : Nat} {af : List Nat} (h : rngAtT md ops eff lo hi rank listed i af = true) {o o' : Oper} (hne : k ≠ i) (h1 : ops[i]? = some o) (h2 : ops[k]? = some o') (hun : listed.getD k true = false) (hno : k ∉ af) : pairOk eff lo hi rank i k o o' := by
  have m2 := (Array.getElem?_eq_some_iff.1 h2).1
  have h3 := List.all_eq_true.1 h k (List.mem_range.2 m2)
  have e : (i == k) = false := by simp; exact fun e => hne e.symm
  have e2 : af.contains k = false := by
    cases hb : af.contains k with
    | false => rfl
    | true => exact absurd (List.contains_iff_mem.1 hb) hno
  simp only [e, Bool.false_or, h1, h2, e2, hun] at h3
  unfold pairOk
  cases ho : eff o <;> cases ho' : eff o' <;> simp_all
theorem edge_aft {i k : Nat} {o : Oper} (h : ops[k]? = some o) (hno : ¬ Aft md ops i k) : ∀ e ∈ o.after, Region.binds md e = true → e.on ≠ i := fun e he hb heq =>
  hno (.one h (by
    unfold edgeB
    exact Array.any_eq_true'.2 ⟨e, he, by simp [hb, heq]⟩))
theorem yAny_lexT {K : Env → Nat → Prop} : ∀ (l : List Oper) (k : Nat) (listed : Array Bool) (env : Env) (j : Nat), (∀ i, l[i]? = ops[k + i]?) → Closed md ops listed →
    rngT md ops eff lo hi rank l.length k listed = true → Region.lexFrom md ops l.length k listed = true → YQ P n ops S eff lo hi rank K l k env j → yAny P n md ops S eff lo hi rank K l.length listed env j
  | [], _, _, _, _, _, _, _, hB, h => ⟨by simpa [Region.lexFrom] using hB, h⟩
  | o :: l, k, listed, env, j, hl, hcl, hE, hB, h => by
    simp only [List.length_cons, rngT, Bool.and_eq_true] at hE
    have h0 : ops[k]? = some o := by simpa using (hl 0).symm
    simp only [List.length_cons, Region.lexFrom, Bool.and_eq_true] at hB
    obtain ⟨⟨hr, hf⟩, hB'⟩ := hB
    obtain ⟨v, j', hy, hK⟩ := h
    have hr' : k ∈ Region.ready md ops listed := by simpa using hr
    exact yAny_firstT h0 l.length listed env j j' hcl (fun k2 ok h1 h2 h3 h4 => ⟨Region.free_spec h0 hf k2 ok h1 h2 h3 (edge_aft h1 h4), rngAtT_spec hE.1 h2 h0 h1 h3 (fun hm => h4 (aftL_spec ops.toList 0 [] (fun i => by simp) (fun _ h => by cases h) _ hm))⟩) hr' hy
      (yAny_lexT l (k + 1) _ _ j' (fun i => by have := hl (i + 1); simpa [Nat.add_assoc, Nat.add_comm 1 i] using this) (hcl.set hr') hE.2 hB' hK)
end
theorem closed_none (md : Region.Mode) (ops : Array Oper) (m : Nat) : Closed md ops (Array.replicate m false) := fun k o _ hl => by
  rcases Nat.lt_or_ge k m with h | h
  · simp [h] at hl
  · simp [Array.getElem?_eq_none (xs := Array.replicate m false) (i := k) (by simpa using h)] at hl
theorem AWP.drawYT {P : Program} {n : Nat} (eff : Oper → Bool) {id : Nat} {l : List Oper} {K : Exit → Env → Store → Prop} {env : Env} {σ : Store} (S : Nat → Store) (h0 : S 0 = σ)
    (hm : P.follows .mixedOrders = true) (hB : Region.lexB .any l.toArray = true) (hd : dstsOk n l.toArray = true) (hE : rngT .any l.toArray eff (loOf l eff) (hiOf l eff) (rankOf l eff) l.length 0 (Array.replicate l.length false) = true)
    (h : ∀ K' : Env → Nat → Prop, (∀ e j, K .normal e (S j) → K' e j) → YQ P n l.toArray S eff (loOf l eff) (hiOf l eff) (rankOf l eff) K' l 0 env 0) : AWP P n (.region id l.toArray true) K env σ := by
  subst h0
  intro G a w hr
  simp only [Region.lexB, Bool.and_eq_true] at hB
  refine wpIn_region_any hm ?_
  have := yAny_lexT (md := .any) l 0 (Array.replicate l.toArray.size false) env 0 (by simp) (closed_none _ _ _) (by simpa using hE) (by simpa using hB.2) (h (fun e j => K .normal e (S j)) fun _ _ h => h)
  refine wpAny_of_yAny _ hd _ _ env 0 (by simpa using this) G a _ ⟨hr.size, hr.defers, hr.vals, hr.st.drew⟩ _ ?_
  intro G' env' j' a' w' hg hk hr'
  exact ⟨env', S j', G', hk, hg, hr'⟩
end Go.Ab


namespace Go.Proofs.YtekfpcgagoidcaaGreatDoor.Al
open Go.Ab Go.Sort
attribute [local irreducible] AWP AOps EStep AQ PStep PRun PCall TCall VCall
def effD (l : List Nat) (o : Oper) : Bool := match o.dst with
  | some d => l.contains d
  | none => effOp o
def costI (a b : Score) (i k : Int) : Int × Int := if scoreOk a = true ∧ scoreOk b = true ∧ 0 ≤ i ∧ i < a.bars.length ∧ 0 ≤ k ∧ k < b.bars.length then (costR a b i.toNat k.toNat, 0) else (0, 1)
set_option maxHeartbeats 8000000 in
set_option maxRecDepth 20000 in
theorem aCost_spec (a b : Score) (ha : a.Small) (hb : b.Small) (i k : Int) : PCall Tryz.prog 17 [.agg (encS a), .agg (encS b), .int i, .int k] (.tup [.int (costI a b i k).1, .int (costI a b i k).2]) := by
  have ha1 := ha.1
  have hb1 := hb.1
  have h3 : Pure3 (.own 1 0) (.var (encS a)) (.var (encS b)) := fun _ => ⟨rfl, rfl, rfl⟩
  have hv0 := TCall.val (first := []) (caps := []) (avs := [.agg (encS a), .agg (encS b)]) (newPair_spec h3 a b ha hb)
  refine PCall.body Tryz.func17 rfl rfl Tryz.ntmps17 rfl rfl ?_
  refine AWP.newOwn 1 ?_
  repeat' (first | refine AOps.q rfl rfl rfl (fun hg => by exact std0) (by exact rfl) ?_ | refine AWP.seq ?_ | refine AWP.regionK (fun K' hK => ?_) | (refine AOps.nil (hK _ _ ?_); clear hK K') | refine AOps.e (EStep.boxW rfl rfl rfl rfl rfl True.intro rfl rfl ?_) | refine AOps.e (EStep.callT (hv0) rfl rfl rfl rfl rfl nd rfl rfl nds ?_))
  intro r s hr
  unfold npR at hr
  split at hr
  · rename_i hok
    obtain ⟨rfl, al, hg, rfl⟩ := hr
    simp only [Bool.and_eq_true] at hok
    have hna := ok_nts hok.1
    have hnb := ok_nts hok.2
    by_cases hin : 0 ≤ i ∧ i < a.bars.length ∧ 0 ≤ k ∧ k < b.bars.length
    · obtain ⟨i1, i2, k1, k2⟩ := hin
      have hr : costI a b i k = (costR a b i.toNat k.toNat, 0) := if_pos ⟨hok.1, hok.2, i1, i2, k1, k2⟩
      obtain ⟨i, rfl⟩ := Int.eq_ofNat_of_zero_le i1
      obtain ⟨k, rfl⟩ := Int.eq_ofNat_of_zero_le k1
      have hc0 := TCall.val (first := []) (caps := []) (avs := [.ptr 7 0, .int i, .int k]) (cost_spec h3 hna hnb hg (KnOk.nil a b) (show i < a.bars.length by omega) (show k < b.bars.length by omega))
      repeat' (first | refine AOps.q rfl rfl rfl (fun hg => by first | exact std0 | exact std1) (by exact rfl) ?_ | refine AWP.seq ?_ | refine AWP.regionK (fun K' hK => ?_) | (refine AOps.nil (hK _ _ ?_); clear hK K') | refine AOps.e (EStep.callT (hc0) rfl rfl rfl rfl rfl nd rfl rfl nds ?_) | (refine AWP.condW rfl True.intro (fun hc => ?_) (fun hc => ?_) <;> (first | (simp only [dEt] at hc) | (simp only [dEf, iNl, iNe] at hc) | skip)) | refine AWP.skip ?_ | refine AWP.ret ?_)
      · exfalso; simp at hc; omega
      rintro _ _ ⟨rfl, rfl⟩
      repeat' (first | refine AOps.q rfl rfl rfl (fun hg => by exact std0) (by exact rfl) ?_ | (refine AOps.nil (hK _ _ ?_); clear hK K') | refine AWP.ret ?_)
      rw [hr]
      exact ⟨.inr rfl, Ent.rfl' _⟩
    · have hr : costI a b i k = (0, 1) := if_neg (fun h => hin h.2.2)
      repeat' (first | refine AOps.q rfl rfl rfl (fun hg => by first | exact std0 | exact std1) (by exact rfl) ?_ | refine AWP.seq ?_ | refine AWP.regionK (fun K' hK => ?_) | (refine AOps.nil (hK _ _ ?_); clear hK K') | (refine AWP.condW rfl True.intro (fun hc => ?_) (fun hc => ?_) <;> (first | (simp only [dEt] at hc) | (simp only [dEf, iNl, iNe] at hc) | skip)) | refine AWP.skip ?_ | refine AWP.ret ?_)
      · rw [hr]; exact ⟨.inr rfl, Ent.rfl' _⟩
      · exfalso; simp at hc; omega
  · rename_i hok
    obtain ⟨rfl, rfl⟩ := hr
    repeat' (first | refine AOps.q rfl rfl rfl (fun hg => by first | exact std0 | exact (Bool.noConfusion (show false = true from hg) : PRun _ _ _ _ (.b false))) (by exact rfl) ?_ | refine AWP.seq ?_ | refine AWP.regionK (fun K' hK => ?_) | (refine AOps.nil (hK _ _ ?_); clear hK K') | (refine AWP.condW rfl True.intro (fun hc => ?_) (fun hc => ?_) <;> (first | (simp only [dEt] at hc) | (simp only [dEf, iNl, iNe] at hc) | skip)) | refine AWP.skip ?_ | refine AWP.ret ?_)
    all_goals (first | (exfalso; omega) | (exfalso; simp at hc; done) | (exfalso; simp at hc; omega) | (exfalso; simp only [dEf, dEt] at hc; omega) | (rename_i h0; exfalso; simp at h0; done) | (rename_i h0; exfalso; simp at h0; omega) | skip)
    refine ⟨.inr rfl, ?_⟩
    unfold costI
    rw [if_neg (fun h => hok (by rw [h.1, h.2.1]; rfl))]
    exact Ent.rfl' _
def checkR (a b : Score) (x : Algn) : Bool × Int :=
  if scoreOk a = true ∧ scoreOk b = true then (if a.bars.length > 200 ∨ b.bars.length > 200 then (false, 2) else if pOk a.bars.length b.bars.length (-1) (-1) x.pairs = true ∧ totI (costR a b) a.bars.length b.bars.length x.pairs = x.cost ∧ tabOkB (costR a b) a.bars.length b.bars.length x.table = true then (get2 x.table a.bars.length b.bars.length == x.cost, 0) else (false, 0)) else (false, 1)
theorem tabOk_len {c : Nat → Nat → Int} {n m : Nat} {t : List (List Int)} (h : tabOkB c n m t = true) : t.length = n + 1 ∧ (t.getD n []).length = m + 1 := by
  unfold tabOkB at h
  simp only [Bool.and_eq_true, dEt, List.all_eq_true] at h
  refine ⟨h.1, ?_⟩
  have := h.2.1 n (List.mem_range.2 (Nat.lt_succ_self _))
  unfold rowOk at this
  simp only [Bool.and_eq_true, dEt] at this
  exact this.1
set_option maxHeartbeats 16000000 in
set_option maxRecDepth 20000 in
theorem aCheck_spec (a b : Score) (ha : a.Small) (hb : b.Small) (x : Algn) (hx : x.pairs.length ≤ 1000000) (hx2 : x.table.length ≤ 9223372036854775807) :
    PCall Tryz.prog 22 [.agg (encS a), .agg (encS b), .agg (encA x)] (.tup [.b (checkR a b x).1, .int (checkR a b x).2]) := by
  have ha1 := ha.1
  have hb1 := hb.1
  have h3 : Pure3 (.var (encS a)) (.var (encS b)) (.var (encA x)) := fun _ => ⟨rfl, rfl, rfl⟩
  have hv0 := TCall.val (first := []) (caps := []) (avs := [.agg (encS a), .agg (encS b)]) (newPair_spec h3 a b ha hb)
  have hp1 := fun u v => arePairs_spec a b u v ha hb x.pairs hx
  have hp2 := fun u v => isLong_spec a b u v ha hb
  refine PCall.body Tryz.func22 rfl rfl Tryz.ntmps22 rfl rfl ?_
  repeat' (first | refine AOps.q rfl rfl rfl (fun hg => by exact std0) (by exact rfl) ?_ | refine AWP.seq ?_ | refine AWP.regionK (fun K' hK => ?_) | (refine AOps.nil (hK _ _ ?_); clear hK K') | refine AOps.e (EStep.boxW rfl rfl rfl rfl rfl True.intro rfl rfl ?_) | refine AOps.e (EStep.callT (hv0) rfl rfl rfl rfl rfl nd rfl rfl nds ?_))
  intro r s hr
  unfold npR at hr
  split at hr
  · rename_i hok
    obtain ⟨rfl, al, hg, rfl⟩ := hr
    simp only [Bool.and_eq_true] at hok
    have hna := ok_nts hok.1
    have hnb := ok_nts hok.2
    have hR : checkR a b x = if a.bars.length > 200 ∨ b.bars.length > 200 then (false, 2) else if pOk a.bars.length b.bars.length (-1) (-1) x.pairs = true ∧ totI (costR a b) a.bars.length b.bars.length x.pairs = x.cost ∧ tabOkB (costR a b) a.bars.length b.bars.length x.table = true then (get2 x.table a.bars.length b.bars.length == x.cost, 0) else (false, 0) := if_pos hok
    repeat' (first | refine AOps.q rfl rfl rfl (fun hg => by first | exact std0 | exact PRun.callBW (hp2 _ _) rfl rfl nd rfl rfl nds) (by exact rfl) ?_ | refine AWP.seq ?_ | refine AWP.regionK (fun K' hK => ?_) | (refine AOps.nil (hK _ _ ?_); clear hK K') | (refine AWP.condW rfl True.intro (fun hc => ?_) (fun hc => ?_) <;> (first | (simp only [dEt] at hc) | (simp only [dEf, iNl, iNe] at hc) | skip)) | refine AWP.block ?_ | refine AWP.ret ?_)
    all_goals (first | (exfalso; omega) | (exfalso; simp at hc; done) | (exfalso; simp at hc; omega) | (exfalso; simp only [dEf, dEt] at hc; omega) | (rename_i h0; exfalso; simp at h0; done) | (rename_i h0; exfalso; simp at h0; omega) | skip)
    · rw [hR, if_pos (by simp only [Int.toNat_natCast, Bool.or_eq_true, Bool.and_eq_true, Bool.or_eq_false_iff, Bool.and_eq_false_iff, dEt, dEf, Bool.not_eq_true', Bool.not_eq_false', beq_iff_eq, beq_eq_false_iff_ne, bne_iff_ne, bne_eq_false_iff_eq, gt_iff_lt, ge_iff_le, ne_eq] at hc; exact hc)]
      exact ⟨.inr rfl, Ent.rfl' _⟩
    rw [hR, if_neg (by simp only [Int.toNat_natCast, Bool.or_eq_true, Bool.and_eq_true, Bool.or_eq_false_iff, Bool.and_eq_false_iff, dEt, dEf, Bool.not_eq_true', Bool.not_eq_false', beq_iff_eq, beq_eq_false_iff_ne, bne_iff_ne, bne_eq_false_iff_eq, gt_iff_lt, ge_iff_le, ne_eq] at hc; omega)]
    clear hc hR
    cases hpk : pOk a.bars.length b.bars.length (-1) (-1) x.pairs with
    | false =>
      rw [hpk] at hp1
      repeat' (first | refine AOps.q rfl rfl rfl (fun hg => by exact std0) (by exact rfl) ?_ | refine AWP.seq ?_ | refine AWP.regionK (fun K' hK => ?_) | (refine AOps.nil (hK _ _ ?_); clear hK K') | (refine AWP.condW rfl True.intro (fun hc => ?_) (fun hc => ?_) <;> (first | (simp only [dEt] at hc) | (simp only [dEf, iNl, iNe] at hc) | skip)) | refine AWP.skip ?_ | refine AWP.ret ?_ | refine AWP.drawK2 (by decide +kernel) (by kernel_rfl) (by decide +kernel) rfl (fun K' hK => ?_) | (refine AQ.nil (hK _ ?_); clear hK K') | refine AQ.q rfl rfl (fun hg => by first | exact std0 | exact PRun.callBW (hp1 _ _) rfl rfl nd rfl rfl nds | exact (Bool.noConfusion (show false = true from hg) : PRun _ _ _ _ (.b false)) | exact std1) (by exact rfl) ?_)
      all_goals (first | (exfalso; omega) | (exfalso; simp at hc; done) | (exfalso; simp at hc; omega) | (exfalso; simp only [dEf, dEt] at hc; omega) | (rename_i h0; exfalso; simp at h0; done) | (rename_i h0; exfalso; simp at h0; omega) | skip)
      rw [if_neg (fun h => Bool.noConfusion h.1)]
      exact ⟨.inr rfl, Ent.rfl' _⟩
    | true =>
      rw [hpk] at hp1
      have hc0 := TCall.val (first := []) (caps := []) (avs := [.ptr 7 0, .sl 2 (x.pairs.map encPr) .no]) (total_spec h3 hna hnb hg (KnOk.nil a b) x.pairs hx hpk)
      have hk1 : KnOk a b (knP a b [] x.pairs) := (KnOk.nil a b).knP
      by_cases ht : totI (costR a b) a.bars.length b.bars.length x.pairs = x.cost
      · have hc1 := TCall.val (first := []) (caps := []) (avs := [.ptr 7 0, .sl 1 (x.table.map encRow) .no]) (isTable_spec h3 hna hnb hg hk1 x.table)
        have hk2 := hk1.knTab x.table
        refine AWP.drawYT (effD [32, 41]) (fun j => match j with | 0 => PairS (.var (encS a)) (.var (encS b)) (.var (encA x)) a b al [] | 1 => PairS (.var (encS a)) (.var (encS b)) (.var (encA x)) a b al (knP a b [] x.pairs) | _ => PairS (.var (encS a)) (.var (encS b)) (.var (encA x)) a b al (knTab a b (knP a b [] x.pairs) x.table)) rfl (by kernel_rfl) (by decide +kernel) rfl (by decide +kernel) (fun K' hK => ?_)
        repeat' (first
          | refine YQ.q (a := 0) (b := 0) rfl (by decide +kernel) (by decide +kernel) rfl rfl rfl (fun k h1 h2 hg => by (have hk : k = 0 := (by omega)); (rcases hk with rfl) <;> (first | exact std0 | exact PRun.callBW (hp1 _ _) rfl rfl nd rfl rfl nds | exact std1)) (by exact rfl) ?_
          | refine YQ.q (a := 0) (b := 1) rfl (by decide +kernel) (by decide +kernel) rfl rfl rfl (fun k h1 h2 hg => by (have hk : k = 0 ∨ k = 1 := (by omega)); (rcases hk with rfl | rfl) <;> (first | exact std0 | exact PRun.callBW (hp1 _ _) rfl rfl nd rfl rfl nds | exact std1)) (by exact rfl) ?_
          | refine YQ.q (a := 1) (b := 1) rfl (by decide +kernel) (by decide +kernel) rfl rfl rfl (fun k h1 h2 hg => by (have hk : k = 1 := (by omega)); (rcases hk with rfl) <;> (first | exact std0 | exact PRun.callBW (hp1 _ _) rfl rfl nd rfl rfl nds | exact std1)) (by exact rfl) ?_
          | refine YQ.q (a := 0) (b := 2) rfl (by decide +kernel) (by decide +kernel) rfl rfl rfl (fun k h1 h2 hg => by (have hk : k = 0 ∨ k = 1 ∨ k = 2 := (by omega)); (rcases hk with rfl | rfl | rfl) <;> (first | exact std0 | exact PRun.callBW (hp1 _ _) rfl rfl nd rfl rfl nds | exact std1)) (by exact rfl) ?_
          | refine YQ.q (a := 1) (b := 2) rfl (by decide +kernel) (by decide +kernel) rfl rfl rfl (fun k h1 h2 hg => by (have hk : k = 1 ∨ k = 2 := (by omega)); (rcases hk with rfl | rfl) <;> (first | exact std0 | exact PRun.callBW (hp1 _ _) rfl rfl nd rfl rfl nds | exact std1)) (by exact rfl) ?_
          | refine YQ.q (a := 2) (b := 2) rfl (by decide +kernel) (by decide +kernel) rfl rfl rfl (fun k h1 h2 hg => by (have hk : k = 2 := (by omega)); (rcases hk with rfl) <;> (first | exact std0 | exact PRun.callBW (hp1 _ _) rfl rfl nd rfl rfl nds | exact std1)) (by exact rfl) ?_)
        refine YQ.e (v := .int (totI (costR a b) a.bars.length b.bars.length x.pairs)) (d := some 32) rfl rfl rfl ?_ ?_
        · intro env' he
          refine EStep.gd (gOf_yesA rfl rfl ((he 28 (by decide +kernel)).trans rfl)) rfl (EStep.callT hc0 rfl rfl rfl rfl rfl True.intro rfl (by simp only [rds, rdv_congr (he 29 (by decide +kernel)), rdv_congr (he 31 (by decide +kernel))]; rfl) ⟨(by rw [rdn_congr (he 29 (by decide +kernel))]; first | exact True.intro | exact rfl), (by rw [rdn_congr (he 31 (by decide +kernel))]; first | exact True.intro | exact rfl), True.intro⟩ ?_)
          rintro _ _ ⟨rfl, rfl⟩
          exact ⟨rfl, rfl⟩
        repeat' (first
          | refine YQ.q (a := 0) (b := 0) rfl (by decide +kernel) (by decide +kernel) rfl rfl rfl (fun k h1 h2 hg => by (have hk : k = 0 := (by omega)); (rcases hk with rfl) <;> (first | exact PRun.eq (PRun.binW rfl rfl nd rfl nd rfl) (show AV.b (!(totI (costR a b) a.bars.length b.bars.length x.pairs == x.cost)) = AV.b false by rw [ht]; simp) | exact std0 | exact std1)) (by exact rfl) ?_
          | refine YQ.q (a := 0) (b := 1) rfl (by decide +kernel) (by decide +kernel) rfl rfl rfl (fun k h1 h2 hg => by (have hk : k = 0 ∨ k = 1 := (by omega)); (rcases hk with rfl | rfl) <;> (first | exact PRun.eq (PRun.binW rfl rfl nd rfl nd rfl) (show AV.b (!(totI (costR a b) a.bars.length b.bars.length x.pairs == x.cost)) = AV.b false by rw [ht]; simp) | exact std0 | exact std1)) (by exact rfl) ?_
          | refine YQ.q (a := 1) (b := 1) rfl (by decide +kernel) (by decide +kernel) rfl rfl rfl (fun k h1 h2 hg => by (have hk : k = 1 := (by omega)); (rcases hk with rfl) <;> (first | exact PRun.eq (PRun.binW rfl rfl nd rfl nd rfl) (show AV.b (!(totI (costR a b) a.bars.length b.bars.length x.pairs == x.cost)) = AV.b false by rw [ht]; simp) | exact std0 | exact std1)) (by exact rfl) ?_
          | refine YQ.q (a := 0) (b := 2) rfl (by decide +kernel) (by decide +kernel) rfl rfl rfl (fun k h1 h2 hg => by (have hk : k = 0 ∨ k = 1 ∨ k = 2 := (by omega)); (rcases hk with rfl | rfl | rfl) <;> (first | exact PRun.eq (PRun.binW rfl rfl nd rfl nd rfl) (show AV.b (!(totI (costR a b) a.bars.length b.bars.length x.pairs == x.cost)) = AV.b false by rw [ht]; simp) | exact std0 | exact std1)) (by exact rfl) ?_
          | refine YQ.q (a := 1) (b := 2) rfl (by decide +kernel) (by decide +kernel) rfl rfl rfl (fun k h1 h2 hg => by (have hk : k = 1 ∨ k = 2 := (by omega)); (rcases hk with rfl | rfl) <;> (first | exact PRun.eq (PRun.binW rfl rfl nd rfl nd rfl) (show AV.b (!(totI (costR a b) a.bars.length b.bars.length x.pairs == x.cost)) = AV.b false by rw [ht]; simp) | exact std0 | exact std1)) (by exact rfl) ?_
          | refine YQ.q (a := 2) (b := 2) rfl (by decide +kernel) (by decide +kernel) rfl rfl rfl (fun k h1 h2 hg => by (have hk : k = 2 := (by omega)); (rcases hk with rfl) <;> (first | exact PRun.eq (PRun.binW rfl rfl nd rfl nd rfl) (show AV.b (!(totI (costR a b) a.bars.length b.bars.length x.pairs == x.cost)) = AV.b false by rw [ht]; simp) | exact std0 | exact std1)) (by exact rfl) ?_)
        refine YQ.e (v := .b (tabOkB (costR a b) a.bars.length b.bars.length x.table)) (d := some 41) rfl rfl rfl ?_ ?_
        · intro env' he
          refine EStep.gd (gOf_yesA rfl rfl ((he 37 (by decide +kernel)).trans rfl)) rfl (EStep.callT hc1 rfl rfl rfl rfl rfl True.intro rfl (by simp only [rds, rdv_congr (he 38 (by decide +kernel)), rdv_congr (he 40 (by decide +kernel))]; rfl) ⟨(by rw [rdn_congr (he 38 (by decide +kernel))]; first | exact True.intro | exact rfl), (by rw [rdn_congr (he 40 (by decide +kernel))]; first | exact True.intro | exact rfl), True.intro⟩ ?_)
          rintro _ _ ⟨rfl, rfl⟩
          exact ⟨rfl, rfl⟩
        repeat' (first
          | refine YQ.q (a := 0) (b := 0) rfl (by decide +kernel) (by decide +kernel) rfl rfl rfl (fun k h1 h2 hg => by (have hk : k = 0 := (by omega)); (rcases hk with rfl) <;> (first | exact std0 | exact std1)) (by exact rfl) ?_
          | refine YQ.q (a := 0) (b := 1) rfl (by decide +kernel) (by decide +kernel) rfl rfl rfl (fun k h1 h2 hg => by (have hk : k = 0 ∨ k = 1 := (by omega)); (rcases hk with rfl | rfl) <;> (first | exact std0 | exact std1)) (by exact rfl) ?_
          | refine YQ.q (a := 1) (b := 1) rfl (by decide +kernel) (by decide +kernel) rfl rfl rfl (fun k h1 h2 hg => by (have hk : k = 1 := (by omega)); (rcases hk with rfl) <;> (first | exact std0 | exact std1)) (by exact rfl) ?_
          | refine YQ.q (a := 0) (b := 2) rfl (by decide +kernel) (by decide +kernel) rfl rfl rfl (fun k h1 h2 hg => by (have hk : k = 0 ∨ k = 1 ∨ k = 2 := (by omega)); (rcases hk with rfl | rfl | rfl) <;> (first | exact std0 | exact std1)) (by exact rfl) ?_
          | refine YQ.q (a := 1) (b := 2) rfl (by decide +kernel) (by decide +kernel) rfl rfl rfl (fun k h1 h2 hg => by (have hk : k = 1 ∨ k = 2 := (by omega)); (rcases hk with rfl | rfl) <;> (first | exact std0 | exact std1)) (by exact rfl) ?_
          | refine YQ.q (a := 2) (b := 2) rfl (by decide +kernel) (by decide +kernel) rfl rfl rfl (fun k h1 h2 hg => by (have hk : k = 2 := (by omega)); (rcases hk with rfl) <;> (first | exact std0 | exact std1)) (by exact rfl) ?_)
        refine YQ.nil (hK _ _ ?_)
        clear hK K' hc0 hc1
        cases ht2 : tabOkB (costR a b) a.bars.length b.bars.length x.table with
        | false =>
          repeat' (first | refine AOps.q rfl rfl rfl (fun hg => by exact std0) (by exact rfl) ?_ | refine AWP.seq ?_ | refine AWP.regionK (fun K' hK => ?_) | (refine AOps.nil (hK _ _ ?_); clear hK K') | (refine AWP.condW rfl True.intro (fun hc => ?_) (fun hc => ?_) <;> (first | (simp only [dEt] at hc) | (simp only [dEf, iNl, iNe] at hc) | skip)) | refine AWP.skip ?_ | refine AWP.ret ?_ | refine AWP.drawK2 (by decide +kernel) (by kernel_rfl) (by decide +kernel) rfl (fun K' hK => ?_) | refine AQ.q rfl rfl (fun hg => by first | exact std0 | exact std1) (by exact rfl) ?_)
          all_goals (first | (exfalso; omega) | (exfalso; simp at hc; done) | (exfalso; simp at hc; omega) | (exfalso; simp only [dEf, dEt] at hc; omega) | (rename_i h0; exfalso; simp at h0; done) | (rename_i h0; exfalso; simp at h0; omega) | skip)
          rw [if_neg (fun h => Bool.noConfusion h.2.2)]
          exact ⟨.inr rfl, Ent.rfl' _⟩
        | true =>
          obtain ⟨l1, l2⟩ := tabOk_len ht2
          obtain ⟨r, hr⟩ : ∃ r, x.table.getD a.bars.length [] = r := ⟨_, rfl⟩
          rw [hr] at l2
          obtain ⟨v, hv⟩ : ∃ v, r.getD b.bars.length 0 = v := ⟨_, rfl⟩
          rw [if_pos ⟨rfl, ht, rfl⟩, show get2 x.table a.bars.length b.bars.length = v by rw [← hv, ← hr]; rfl]
          repeat' (first | refine AOps.q rfl rfl rfl (fun hg => by exact std0) (by exact rfl) ?_ | refine AWP.seq ?_ | refine AWP.regionK (fun K' hK => ?_) | (refine AOps.nil (hK _ _ ?_); clear hK K') | (refine AWP.condW rfl True.intro (fun hc => ?_) (fun hc => ?_) <;> (first | (simp only [dEt] at hc) | (simp only [dEf, iNl, iNe] at hc) | skip)) | refine AWP.skip ?_ | refine AWP.ret ?_ | refine AWP.drawK2 (by decide +kernel) (by kernel_rfl) (by decide +kernel) rfl (fun K' hK => ?_) | (refine AQ.nil (hK _ ?_); clear hK K') | refine AQ.q rfl rfl (fun hg => by first | exact iX encI r ((b.bars.length : Nat) : Int) hv (hb := by omega) | exact iX encRow x.table ((a.bars.length : Nat) : Int) hr (hb := by omega) | exact std0 | exact std1) (by exact rfl) ?_)
          all_goals (first | (exfalso; omega) | (exfalso; simp at hc; done) | (exfalso; simp at hc; omega) | (exfalso; simp only [dEf, dEt] at hc; omega) | (rename_i h0; exfalso; simp at h0; done) | (rename_i h0; exfalso; simp at h0; omega) | skip)
          exact ⟨.inr rfl, Ent.rfl' _⟩
      · refine AWP.drawYM (effD [32]) (fun j => match j with | 0 => PairS (.var (encS a)) (.var (encS b)) (.var (encA x)) a b al [] | _ => PairS (.var (encS a)) (.var (encS b)) (.var (encA x)) a b al (knP a b [] x.pairs)) rfl (by kernel_rfl) (by decide +kernel) rfl (by decide +kernel) (fun K' hK => ?_)
        repeat' (first
          | refine YQ.q (a := 0) (b := 0) rfl (by decide +kernel) (by decide +kernel) rfl rfl rfl (fun k h1 h2 hg => by (have hk : k = 0 := (by omega)); (rcases hk with rfl) <;> (first | exact std0 | exact PRun.callBW (hp1 _ _) rfl rfl nd rfl rfl nds | exact std1)) (by exact rfl) ?_
          | refine YQ.q (a := 0) (b := 1) rfl (by decide +kernel) (by decide +kernel) rfl rfl rfl (fun k h1 h2 hg => by (have hk : k = 0 ∨ k = 1 := (by omega)); (rcases hk with rfl | rfl) <;> (first | exact std0 | exact PRun.callBW (hp1 _ _) rfl rfl nd rfl rfl nds | exact std1)) (by exact rfl) ?_
          | refine YQ.q (a := 1) (b := 1) rfl (by decide +kernel) (by decide +kernel) rfl rfl rfl (fun k h1 h2 hg => by (have hk : k = 1 := (by omega)); (rcases hk with rfl) <;> (first | exact std0 | exact PRun.callBW (hp1 _ _) rfl rfl nd rfl rfl nds | exact std1)) (by exact rfl) ?_
          | refine YQ.q (a := 0) (b := 2) rfl (by decide +kernel) (by decide +kernel) rfl rfl rfl (fun k h1 h2 hg => by (have hk : k = 0 ∨ k = 1 ∨ k = 2 := (by omega)); (rcases hk with rfl | rfl | rfl) <;> (first | exact std0 | exact PRun.callBW (hp1 _ _) rfl rfl nd rfl rfl nds | exact std1)) (by exact rfl) ?_
          | refine YQ.q (a := 1) (b := 2) rfl (by decide +kernel) (by decide +kernel) rfl rfl rfl (fun k h1 h2 hg => by (have hk : k = 1 ∨ k = 2 := (by omega)); (rcases hk with rfl | rfl) <;> (first | exact std0 | exact PRun.callBW (hp1 _ _) rfl rfl nd rfl rfl nds | exact std1)) (by exact rfl) ?_
          | refine YQ.q (a := 2) (b := 2) rfl (by decide +kernel) (by decide +kernel) rfl rfl rfl (fun k h1 h2 hg => by (have hk : k = 2 := (by omega)); (rcases hk with rfl) <;> (first | exact std0 | exact PRun.callBW (hp1 _ _) rfl rfl nd rfl rfl nds | exact std1)) (by exact rfl) ?_)
        refine YQ.e (v := .int (totI (costR a b) a.bars.length b.bars.length x.pairs)) (d := some 32) rfl rfl rfl ?_ ?_
        · intro env' he
          refine EStep.gd (gOf_yesA rfl rfl ((he 28 (by decide +kernel)).trans rfl)) rfl (EStep.callT hc0 rfl rfl rfl rfl rfl True.intro rfl (by simp only [rds, rdv_congr (he 29 (by decide +kernel)), rdv_congr (he 31 (by decide +kernel))]; rfl) ⟨(by rw [rdn_congr (he 29 (by decide +kernel))]; first | exact True.intro | exact rfl), (by rw [rdn_congr (he 31 (by decide +kernel))]; first | exact True.intro | exact rfl), True.intro⟩ ?_)
          rintro _ _ ⟨rfl, rfl⟩
          exact ⟨rfl, rfl⟩
        repeat' (first
          | refine YQ.q (a := 0) (b := 0) rfl (by decide +kernel) (by decide +kernel) rfl rfl rfl (fun k h1 h2 hg => by (have hk : k = 0 := (by omega)); (rcases hk with rfl) <;> (first | exact PRun.eq (PRun.binW rfl rfl nd rfl nd rfl) (show AV.b (!(totI (costR a b) a.bars.length b.bars.length x.pairs == x.cost)) = AV.b true by rw [show (totI (costR a b) a.bars.length b.bars.length x.pairs == x.cost) = false by simpa using ht]; rfl) | exact std0 | exact (Bool.noConfusion (show false = true from hg) : PRun _ _ _ _ (.b false)) | exact std1)) (by exact rfl) ?_
          | refine YQ.q (a := 0) (b := 1) rfl (by decide +kernel) (by decide +kernel) rfl rfl rfl (fun k h1 h2 hg => by (have hk : k = 0 ∨ k = 1 := (by omega)); (rcases hk with rfl | rfl) <;> (first | exact PRun.eq (PRun.binW rfl rfl nd rfl nd rfl) (show AV.b (!(totI (costR a b) a.bars.length b.bars.length x.pairs == x.cost)) = AV.b true by rw [show (totI (costR a b) a.bars.length b.bars.length x.pairs == x.cost) = false by simpa using ht]; rfl) | exact std0 | exact (Bool.noConfusion (show false = true from hg) : PRun _ _ _ _ (.b false)) | exact std1)) (by exact rfl) ?_
          | refine YQ.q (a := 1) (b := 1) rfl (by decide +kernel) (by decide +kernel) rfl rfl rfl (fun k h1 h2 hg => by (have hk : k = 1 := (by omega)); (rcases hk with rfl) <;> (first | exact PRun.eq (PRun.binW rfl rfl nd rfl nd rfl) (show AV.b (!(totI (costR a b) a.bars.length b.bars.length x.pairs == x.cost)) = AV.b true by rw [show (totI (costR a b) a.bars.length b.bars.length x.pairs == x.cost) = false by simpa using ht]; rfl) | exact std0 | exact (Bool.noConfusion (show false = true from hg) : PRun _ _ _ _ (.b false)) | exact std1)) (by exact rfl) ?_
          | refine YQ.q (a := 0) (b := 2) rfl (by decide +kernel) (by decide +kernel) rfl rfl rfl (fun k h1 h2 hg => by (have hk : k = 0 ∨ k = 1 ∨ k = 2 := (by omega)); (rcases hk with rfl | rfl | rfl) <;> (first | exact PRun.eq (PRun.binW rfl rfl nd rfl nd rfl) (show AV.b (!(totI (costR a b) a.bars.length b.bars.length x.pairs == x.cost)) = AV.b true by rw [show (totI (costR a b) a.bars.length b.bars.length x.pairs == x.cost) = false by simpa using ht]; rfl) | exact std0 | exact (Bool.noConfusion (show false = true from hg) : PRun _ _ _ _ (.b false)) | exact std1)) (by exact rfl) ?_
          | refine YQ.q (a := 1) (b := 2) rfl (by decide +kernel) (by decide +kernel) rfl rfl rfl (fun k h1 h2 hg => by (have hk : k = 1 ∨ k = 2 := (by omega)); (rcases hk with rfl | rfl) <;> (first | exact PRun.eq (PRun.binW rfl rfl nd rfl nd rfl) (show AV.b (!(totI (costR a b) a.bars.length b.bars.length x.pairs == x.cost)) = AV.b true by rw [show (totI (costR a b) a.bars.length b.bars.length x.pairs == x.cost) = false by simpa using ht]; rfl) | exact std0 | exact (Bool.noConfusion (show false = true from hg) : PRun _ _ _ _ (.b false)) | exact std1)) (by exact rfl) ?_
          | refine YQ.q (a := 2) (b := 2) rfl (by decide +kernel) (by decide +kernel) rfl rfl rfl (fun k h1 h2 hg => by (have hk : k = 2 := (by omega)); (rcases hk with rfl) <;> (first | exact PRun.eq (PRun.binW rfl rfl nd rfl nd rfl) (show AV.b (!(totI (costR a b) a.bars.length b.bars.length x.pairs == x.cost)) = AV.b true by rw [show (totI (costR a b) a.bars.length b.bars.length x.pairs == x.cost) = false by simpa using ht]; rfl) | exact std0 | exact (Bool.noConfusion (show false = true from hg) : PRun _ _ _ _ (.b false)) | exact std1)) (by exact rfl) ?_)
        refine YQ.nil (hK _ _ ?_)
        clear hK K' hc0
        repeat' (first | refine AOps.q rfl rfl rfl (fun hg => by exact std0) (by exact rfl) ?_ | refine AWP.seq ?_ | refine AWP.regionK (fun K' hK => ?_) | (refine AOps.nil (hK _ _ ?_); clear hK K') | (refine AWP.condW rfl True.intro (fun hc => ?_) (fun hc => ?_) <;> (first | (simp only [dEt] at hc) | (simp only [dEf, iNl, iNe] at hc) | skip)) | refine AWP.skip ?_ | refine AWP.ret ?_ | refine AWP.drawK2 (by decide +kernel) (by kernel_rfl) (by decide +kernel) rfl (fun K' hK => ?_) | refine AQ.q rfl rfl (fun hg => by first | exact std0 | exact std1) (by exact rfl) ?_)
        all_goals (first | (exfalso; omega) | (exfalso; simp at hc; done) | (exfalso; simp at hc; omega) | (exfalso; simp only [dEf, dEt] at hc; omega) | (rename_i h0; exfalso; simp at h0; done) | (rename_i h0; exfalso; simp at h0; omega) | skip)
        rw [if_neg (fun h => ht h.2.1)]
        exact ⟨.inr rfl, Ent.rfl' _⟩
  · rename_i hok
    obtain ⟨rfl, rfl⟩ := hr
    repeat' (first | refine AOps.q rfl rfl rfl (fun hg => by exact std0) (by exact rfl) ?_ | refine AWP.seq ?_ | refine AWP.regionK (fun K' hK => ?_) | (refine AOps.nil (hK _ _ ?_); clear hK K') | (refine AWP.condW rfl True.intro (fun hc => ?_) (fun hc => ?_) <;> (first | (simp only [dEt] at hc) | (simp only [dEf, iNl, iNe] at hc) | skip)) | refine AWP.block ?_ | refine AWP.ret ?_)
    all_goals (first | (exfalso; omega) | (exfalso; simp at hc; done) | (exfalso; simp at hc; omega) | (exfalso; simp only [dEf, dEt] at hc; omega) | (rename_i h0; exfalso; simp at h0; done) | (rename_i h0; exfalso; simp at h0; omega) | skip)
    have hR : checkR a b x = (false, 1) := if_neg (fun h => hok (by rw [h.1, h.2]; rfl))
    rw [hR]
    exact ⟨.inr rfl, Ent.rfl' _⟩
end Go.Proofs.YtekfpcgagoidcaaGreatDoor.Al

