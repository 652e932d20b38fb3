/- What a deed does, case by case, in plain words; tablets as a list. No program is in sight. Regions that draw their order, with chains of effects: which pairs may be exchanged. Regions that draw their order, with any number of chains of effects; variables numbered ahead. No statement is proved here. -/
import Derived.Test.YtbneeinknlddaaaGreatQ12
import Derived.Test.YtbneeinknlddaaaGreatQ21
set_option linter.unusedSectionVars false
set_option linter.unusedVariables false
set_option linter.unusedSimpArgs false
namespace Go.Sy
open Go.Jo
def tabsL (n : Nat) (t : Nat → Tab) : List Tab := (List.range n).map t
theorem tabs_len (n : Nat) (t : Nat → Tab) : (tabsL n t).length = n := by unfold tabsL; rw [zBw, zCq]
theorem tabs_at {n : Nat} {t : Nat → Tab} {i : Nat} (h : i < n) : (tabsL n t).getD i default = t i := by
 unfold tabsL
 rw [getD_lt' (by rw [zBw, zCq]; exact h), List.getElem_map, List.getElem_range]
theorem tabs_snoc (n : Nat) (t : Nat → Tab) : tabsL (n + 1) t = tabsL n t ++ [t n] := by unfold tabsL; rw [List.range_succ, zB3]; rfl
theorem tabs_set {n : Nat} {t : Nat → Tab} {i : Nat} (h : i < n) (x : Tab) : (tabsL n t).set i x = tabsL n (set1 t i x) := by
 refine List.ext_getElem (by rw [List.length_set, tabs_len, tabs_len]) fun j h1 h2 => ?_
 rw [tabs_len] at h2
 simp only [tabsL, List.getElem_set, List.getElem_map, List.getElem_range, set1]
 by_cases hj : i = j
 · subst hj; simp
 · rw [if_neg hj, if_neg (fun g => hj g.symm)]
section
variable {n m : Nat} {t : Nat → Tab} (hn : 0 < n) (hm : m < 90) (h : In n m t) (d : Deed)
include hn hm h
theorem do_bad (c : d.what % 5 ≤ 1) (he : evOk (deedE (t (d.at_ % n)) d) = false) : (doT n t d).2 = t := by
 unfold doT
 dsimp only
 rw [if_pos c, if_neg (by rw [he]; decide)]
theorem do_down (c : d.what % 5 ≤ 1) (he : evOk (deedE (t (d.at_ % n)) d) = true) (hu : (t (d.at_ % n)).up = false) : (writeT (t (d.at_ % n)) (deedE (t (d.at_ % n)) d)).2 = 6 ∧ (doT n t d).2 = t := by
 have h1 := (do_in hn hm h d).1
 unfold doT at h1 ⊢
 dsimp only at h1 ⊢
 rw [if_pos c, if_pos he, if_neg (by rw [hu]; decide)] at h1 ⊢
 exact ⟨by simpa using h1, rfl⟩
theorem do_write (c : d.what % 5 ≤ 1) (he : evOk (deedE (t (d.at_ % n)) d) = true) (hu : (t (d.at_ % n)).up = true) : (writeT (t (d.at_ % n)) (deedE (t (d.at_ % n)) d)).2 = 0 ∧ validT (writeT (t (d.at_ % n)) (deedE (t (d.at_ % n)) d)).1 = true ∧ (doT n t d).2 = set1 t (d.at_ % n) (writeT (t (d.at_ % n)) (deedE (t (d.at_ % n)) d)).1 := by
 have h1 := (do_in hn hm h d).1
 unfold doT at h1 ⊢
 dsimp only at h1 ⊢
 rw [if_pos c, if_pos he, if_pos hu] at h1 ⊢
 rw [zA2, dEt] at h1
 exact ⟨h1.1, h1.2, rfl⟩
theorem do_self (c : d.what % 5 = 2) (hi : d.at_ % n = d.with_ % n) : (exchT (t (d.at_ % n)) (t (d.with_ % n))).2.2 = 1 ∧ (doT n t d).2 = t := by
 have h1 := (do_in hn hm h d).1
 unfold doT at h1 ⊢
 dsimp only at h1 ⊢
 rw [if_neg (by omega), if_pos c, if_pos hi] at h1 ⊢
 exact ⟨by simpa using h1, rfl⟩
theorem do_one (c : d.what % 5 = 2) (hi : d.at_ % n ≠ d.with_ % n) (hu : ¬ ((t (d.at_ % n)).up = true ∧ (t (d.with_ % n)).up = true)) : (exchT (t (d.at_ % n)) (t (d.with_ % n))).2.2 = 6 ∧ (doT n t d).2 = t := by
 have h1 := (do_in hn hm h d).1
 unfold doT at h1 ⊢
 dsimp only at h1 ⊢
 rw [if_neg (by omega), if_pos c, if_neg hi, if_pos hu] at h1 ⊢
 exact ⟨by simpa using h1, rfl⟩
theorem do_exch (c : d.what % 5 = 2) (hi : d.at_ % n ≠ d.with_ % n) (hu : (t (d.at_ % n)).up = true ∧ (t (d.with_ % n)).up = true) : (exchT (t (d.at_ % n)) (t (d.with_ % n))).2.2 = 0 ∧ (doT n t d).2 = set1 (set1 t (d.at_ % n) (exchT (t (d.at_ % n)) (t (d.with_ % n))).1) (d.with_ % n) (exchT (t (d.at_ % n)) (t (d.with_ % n))).2.1 := by
 have h1 := (do_in hn hm h d).1
 unfold doT at h1 ⊢
 dsimp only at h1 ⊢
 rw [if_neg (by omega), if_pos c, if_neg hi, if_neg (fun g => g hu)] at h1 ⊢
 by_cases h0 : (exchT (t (d.at_ % n)) (t (d.with_ % n))).2.2 = 0
 · rw [if_pos h0]; exact ⟨h0, rfl⟩
 · rw [if_neg h0] at h1; cases h1
theorem do_crash (c : d.what % 5 = 3) (hu : (t (d.at_ % n)).up = true) : (crashT (t (d.at_ % n)) (crashAt (t (d.at_ % n)) d.cut)).2 = 0 ∧ validT (crashT (t (d.at_ % n)) (crashAt (t (d.at_ % n)) d.cut)).1 = true ∧ (doT n t d).2 = set1 t (d.at_ % n) (crashT (t (d.at_ % n)) (crashAt (t (d.at_ % n)) d.cut)).1 := by
 have h1 := (do_in hn hm h d).1
 unfold doT at h1 ⊢
 dsimp only at h1 ⊢
 rw [if_neg (by omega), if_neg (by omega), if_pos c, if_pos hu] at h1 ⊢
 rw [zA2, dEt] at h1
 exact ⟨h1.1, h1.2, rfl⟩
theorem do_crashed (c : d.what % 5 = 3) (hu : (t (d.at_ % n)).up = false) : (crashT (t (d.at_ % n)) (crashAt (t (d.at_ % n)) d.cut)).2 = 6 ∧ (doT n t d).2 = t := by
 have h1 := (do_in hn hm h d).1
 unfold doT at h1 ⊢
 dsimp only at h1 ⊢
 rw [if_neg (by omega), if_neg (by omega), if_pos c, if_neg (by rw [hu]; decide)] at h1 ⊢
 exact ⟨by simpa using h1, rfl⟩
theorem do_awake (c : d.what % 5 = 4) (hu : (t (d.at_ % n)).up = true) : (wakeT (t (d.at_ % n))).2 = 6 ∧ (doT n t d).2 = t := by
 have h1 := (do_in hn hm h d).1
 unfold doT at h1 ⊢
 dsimp only at h1 ⊢
 rw [if_neg (by omega), if_neg (by omega), if_neg (by omega), if_pos hu] at h1 ⊢
 exact ⟨by simpa using h1, rfl⟩
theorem do_wake (c : d.what % 5 = 4) (hu : (t (d.at_ % n)).up = false) : (wakeT (t (d.at_ % n))).2 = 0 ∧ validT (wakeT (t (d.at_ % n))).1 = true ∧ (doT n t d).2 = set1 t (d.at_ % n) (wakeT (t (d.at_ % n))).1 := by
 have h1 := (do_in hn hm h d).1
 unfold doT at h1 ⊢
 dsimp only at h1 ⊢
 rw [if_neg (by omega), if_neg (by omega), if_neg (by omega), if_neg (by rw [hu]; decide)] at h1 ⊢
 rw [zA2, dEt] at h1
 exact ⟨h1.1, h1.2, rfl⟩
end
theorem in_valid {n m : Nat} {t : Nat → Tab} (h : In n m t) {i : Nat} (hi : i < n) : validT (t i) = true := by
 obtain ⟨_, _, _, hw, _⟩ := h
 exact (hw.each i hi).valid
end Go.Sy
namespace Go.Ab
section
variable {cls : Oper → Nat} {lo hi rank : Nat → Nat → Nat}
def pairC (cls : Oper → Nat) (lo hi rank : Nat → Nat → Nat) (c i k : Nat) (oi ok : Oper) : Prop :=
 ¬ (cls oi = c ∧ cls ok = c) ∧ (cls oi ≠ c → cls ok = c → rank c k ≤ hi c i) ∧ (cls oi = c → cls ok ≠ c → lo c k < rank c i)
def rngC (cls : Oper → Nat) (lo hi rank : Nat → Nat → Nat) (c i k : Nat) (o o' : Oper) : Bool :=
 !(cls o == c && cls o' == c) && (cls o == c || !(cls o' == c) || decide (rank c k ≤ hi c i)) && (!(cls o == c) || cls o' == c || decide (lo c k < rank c i))
theorem rngC_spec {c i k : Nat} {o o' : Oper} (h : rngC cls lo hi rank c i k o o' = true) : pairC cls lo hi rank c i k o o' := by
 unfold rngC at h
 simp only [zA2, zAx, zAz, zAs, beq_iff_eq, beq_eq_false_iff_ne, dEt, ne_eq] at h
 obtain ⟨⟨h1, h2⟩, h3⟩ := h
 refine ⟨fun ⟨a, b⟩ => ?_, fun a b => ?_, fun a b => ?_⟩
 · rcases h1 with h1 | h1
   · exact h1 a
   · exact h1 b
 · rcases h2 with (h2 | h2) | h2
   · exact absurd h2 a
   · exact absurd b h2
   · exact h2
 · rcases h3 with (h3 | h3) | h3
   · exact absurd a h3
   · exact absurd h3 b
   · exact h3
abbrev cOf (cls : Oper → Nat) (c : Nat) (o : Oper) : Bool := cls o == c
end
end Go.Ab
namespace Go.Ab
def bump (J : Nat → Nat) (c : Nat) : Nat → Nat := fun x => if x = c then J x + 1 else J x
theorem bump_self (J : Nat → Nat) (c : Nat) : bump J c c = J c + 1 := if_pos rfl
theorem bump_ne {J : Nat → Nat} {c d : Nat} (h : d ≠ c) : bump J c d = J d := if_neg h
theorem bump_comm (J : Nat → Nat) (c d : Nat) (h : c ≠ d) : bump (bump J c) d = bump (bump J d) c := by
 funext x
 unfold bump
 by_cases h1 : x = c
 · subst h1; simp [h]
 · by_cases h2 : x = d
   · subst h2; simp [h1]
   · simp [h1, h2]
section
variable {P : Program} {n : Nat} {ops : Array Oper} {md : Region.Mode} {S : (Nat → Nat) → Store} {m : Nat} {cls : Oper → Nat} {lo hi rank : Nat → Nat → Nat}
inductive VS (P : Program) (n : Nat) (ops : Array Oper) (S : (Nat → Nat) → Store) (m : Nat) (cls : Oper → Nat) (lo hi rank : Nat → Nat → Nat) (i : Nat) (o : Oper) (env : Env) : (Nat → Nat) → AV → (Nat → Nat) → Prop
 | q {J : Nat → Nat} {v : AV} (h1 : ∀ c, 1 ≤ c → c ≤ m → lo c i ≤ J c ∧ J c ≤ hi c i) (he : cls o = 0) (h : ∀ J', (∀ c, 1 ≤ c → c ≤ m → lo c i ≤ J' c ∧ J' c ≤ hi c i) → PStep P ops o env (S J') v) : VS P n ops S m cls lo hi rank i o env J v J
 | e {J : Nat → Nat} {v : AV} (c : Nat) (he : cls o = c) (hc : 1 ≤ c ∧ c ≤ m) (hr : rank c i = J c + 1) (h1 : ∀ d, 1 ≤ d → d ≤ m → d ≠ c → lo d i ≤ J d ∧ J d ≤ hi d i)
  (h : ∀ env', (∀ x ∈ o.looksAt ops, env' x = env x) → ∀ J', J' c + 1 = rank c i → EStep P n ops o (fun e s => e = env'.putO o.dst v ∧ s = S (bump J' c)) env' (S J')) : VS P n ops S m cls lo hi rank i o env J v (bump J c)
theorem VS.congr {i : Nat} {o : Oper} {env env' : Env} {J J' : Nat → Nat} {v : AV} (h : VS P n ops S m cls lo hi rank i o env J v J') (he : ∀ x ∈ o.looksAt ops, env' x = env x) : VS P n ops S m cls lo hi rank i o env' J v J' := by
 cases h with
 | q h1 hf h => exact .q h1 hf fun k r => (h k r).congr he
 | e c hf hc hr h1 h => exact .e c hf hc hr h1 fun e2 g2 => h e2 fun x hx => (g2 x hx).trans (he x hx)
def vq (P : Program) (n : Nat) (ops : Array Oper) (S : (Nat → Nat) → Store) (m : Nat) (cls : Oper → Nat) (lo hi rank : Nat → Nat → Nat) (i : Nat) (K : Env → (Nat → Nat) → Prop) (env : Env) (J : Nat → Nat) : Prop :=
 match ops[i]? with
 | none => K env J
 | some o => ∃ v J', VS P n ops S m cls lo hi rank i o env J v J' ∧ K (env.putO o.dst v) J'
theorem vq_mono {i : Nat} {env : Env} {J : Nat → Nat} {K K' : Env → (Nat → Nat) → Prop} (h : ∀ e J, K e J → K' e J) (hh : vq P n ops S m cls lo hi rank i K env J) : vq P n ops S m cls lo hi rank i K' env J := by
 unfold vq at *
 split
 · exact h _ _ (by simpa [*] using hh)
 · rename_i o ho; simp only [ho] at hh; obtain ⟨v, a, h1, h2⟩ := hh; exact ⟨v, a, h1, h _ _ h2⟩
def vAny (P : Program) (n : Nat) (md : Region.Mode) (ops : Array Oper) (S : (Nat → Nat) → Store) (m : Nat) (cls : Oper → Nat) (lo hi rank : Nat → Nat → Nat) (K : Env → (Nat → Nat) → Prop) : Nat → Array Bool → Env → (Nat → Nat) → Prop
 | 0, listed, e, J => Region.ready md ops listed = [] ∧ K e J
 | fuel + 1, listed, e, J =>
   (Region.ready md ops listed = [] → K e J) ∧ ∀ i ∈ Region.ready md ops listed, vq P n ops S m cls lo hi rank i (vAny P n md ops S m cls lo hi rank K fuel (listed.setIfInBounds i true)) e J
theorem vq_put {i i0 : Nat} {oi oj : Oper} {v : AV} {J A : Nat → Nat} (hj : ops[i0]? = some oj) (hap : oi.apart ops oj = true) (hp : ∀ c, 1 ≤ c → c ≤ m → pairC cls lo hi rank c i i0 oi oj) {K : Env → (Nat → Nat) → Prop} {env : Env}
 (hy : VS P n ops S m cls lo hi rank i oi env J v A) (h : vq P n ops S m cls lo hi rank i0 K (env.putO oi.dst v) A) :
 vq P n ops S m cls lo hi rank i0 (fun e B => ∃ C, VS P n ops S m cls lo hi rank i oi e B v C ∧ K (e.putO oi.dst v) C) env J := by
 obtain ⟨h1, h2, h3⟩ := Oper.apart_spec hap
 unfold vq at *
 simp only [hj] at *
 obtain ⟨u, C, hu, hK⟩ := h
 have hu' := hu.congr (env' := env) fun x hx => (Env.putO_other _ fun i hi e => h1 i hi (e ▸ hx)).symm
 have hy' := hy.congr (env' := env.putO oj.dst u) fun x hx => Env.putO_other _ fun i hi e => h3 i hi (e ▸ hx)
 rw [Env.putO_comm env v u h2] at hK
 cases hu' with
 | q g1 gf gh =>
   cases hy' with
   | q k1 kf kh => exact ⟨u, _, .q g1 gf gh, _, .q k1 kf kh, hK⟩
   | e c kf kc kr k1 kh =>
     refine ⟨u, _, .q (fun d d1 d2 => ?_) gf gh, _, .e c kf kc kr k1 kh, hK⟩
     have g := g1 d d1 d2
     by_cases hd : d = c
     · subst hd
       have := (hp d d1 d2).2.2 kf (by omega)
       rw [bump_self] at g
       omega
     · rwa [bump_ne hd] at g
 | e c gf gc gr g1 gh =>
   cases hy' with
   | q k1 kf kh =>
     refine ⟨u, _, .e c gf gc gr g1 gh, _, .q (fun d d1 d2 => ?_) kf kh, hK⟩
     have k := k1 d d1 d2
     by_cases hd : d = c
     · subst hd
       have := (hp d d1 d2).2.1 (by omega) gf
       rw [bump_self]
       omega
     · rwa [bump_ne hd]
   | e c2 kf kc kr k1 kh =>
     have hne : c ≠ c2 := fun e => by subst e; exact (hp c gc.1 gc.2).1 ⟨kf, gf⟩
     rw [bump_ne hne] at gr
     have a := (hp c2 kc.1 kc.2).2.2 kf (by omega)
     have b := (hp c gc.1 gc.2).2.1 (by omega) gf
     refine ⟨u, _, .e c gf gc gr (fun d d1 d2 hd => ?_) gh, bump (bump J c) c2, .e c2 kf kc (by rw [bump_ne (Ne.symm hne)]; exact kr) (fun d d1 d2 hd => ?_) kh, by rw [bump_comm J c c2 hne]; exact hK⟩
     · have g := g1 d d1 d2 hd
       by_cases hd2 : d = c2
       · subst hd2; rw [bump_self] at g; omega
       · rwa [bump_ne hd2] at g
     · have k := k1 d d1 d2 hd
       by_cases hd2 : d = c
       · subst hd2; rw [bump_self]; omega
       · rwa [bump_ne hd2]
theorem vAny_first {K : Env → (Nat → Nat) → Prop} {i : Nat} {oi : Oper} {v : AV} (hio : ops[i]? = some oi) :
 ∀ (fuel : Nat) (listed : Array Bool) (env : Env) (J A : Nat → Nat),
  (∀ k ok, ops[k]? = some ok → k ≠ i → listed.getD k true = false → (∀ e ∈ ok.after, Region.binds md e = true → e.on ≠ i) → oi.apart ops ok = true ∧ ∀ c, 1 ≤ c → c ≤ m → pairC cls lo hi rank c i k oi ok) →
  i ∈ Region.ready md ops listed → VS P n ops S m cls lo hi rank i oi env J v A →
  vAny P n md ops S m cls lo hi rank K fuel (listed.setIfInBounds i true) (env.putO oi.dst v) A → vAny P n md ops S m cls lo hi rank K (fuel + 1) listed env J := by
 have take : ∀ {env : Env} {J A : Nat → Nat} {K : Env → (Nat → Nat) → Prop}, VS P n ops S m cls lo hi rank i oi env J v A → K (env.putO oi.dst v) A → vq P n ops S m cls lo hi rank i K env J := fun hy h => by
  unfold vq; simp only [hio]; exact ⟨v, _, hy, h⟩
 intro fuel
 induction fuel with
 | zero =>
   intro listed env J A _ hr hy H
   refine ⟨fun h => (by rw [h] at hr; cases hr), fun k hk => ?_⟩
   by_cases hki : k = i
   · subst hki; exact take hy H
   · have := ready_mono hk hki
     rw [H.1] at this
     cases this
 | succ fuel ih =>
   intro listed env J A hfree hr hy H
   refine ⟨fun h => (by rw [h] at hr; cases hr), fun k hk => ?_⟩
   by_cases hki : k = i
   · subst hki; exact take hy H
   · have h1 := H.2 k (ready_mono hk hki)
     obtain ⟨hkun, ok, hok, hall⟩ := mem_ready.1 hk
     have hnot : ∀ e ∈ ok.after, Region.binds md e = true → e.on ≠ i := fun e he hb heq => by
      have h1 := hall e he hb
      have h0 := (mem_ready.1 hr).1
      rw [heq] at h1
      rcases zA8 i listed.size with h' | h'
      · simp [h'] at h0 h1; rw [h0] at h1; cases h1
      · simp [zAu h'] at h1
     obtain ⟨f1, f2⟩ := hfree k ok hok hki hkun hnot
     have h2 := vq_put hok f1 f2 hy h1
     have hfree' : ∀ l ol, ops[l]? = some ol → l ≠ i → (listed.setIfInBounds k true).getD l true = false →
      (∀ e ∈ ol.after, Region.binds md e = true → e.on ≠ i) → oi.apart ops ol = true ∧ ∀ c, 1 ≤ c → c ≤ m → pairC cls lo hi rank c i l oi ol := fun l ol hl hli hun hno => by
      refine hfree l ol hl hli ?_ hno
      by_cases hkl : k = l
      · subst hkl; exact hkun
      · rw [getD_set_ne true hkl] at hun; exact hun
     refine vq_mono (fun e' B h3 => ?_) h2
     obtain ⟨C, h4, h5⟩ := h3
     refine ih (listed.setIfInBounds k true) e' B C hfree' (ready_mono hr (Ne.symm hki)) h4 ?_
     rw [zC4 _ _ hki]
     exact h5
def VQ (P : Program) (n : Nat) (ops : Array Oper) (S : (Nat → Nat) → Store) (m : Nat) (cls : Oper → Nat) (lo hi rank : Nat → Nat → Nat) (K : Env → (Nat → Nat) → Prop) : List Oper → Nat → Env → (Nat → Nat) → Prop
 | [], _, e, J => K e J
 | o :: rest, i, e, J => ∃ v A, VS P n ops S m cls lo hi rank i o e J v A ∧ VQ P n ops S m cls lo hi rank K rest (i + 1) (e.putO o.dst v) A
def rngAtV (md : Region.Mode) (ops : Array Oper) (m : Nat) (cls : Oper → Nat) (lo hi rank : Nat → Nat → Nat) (listed : Array Bool) (i : Nat) : Bool := (List.range ops.size).all fun k => i == k || listed.getD k true || match ops[i]?, ops[k]? with
 | some o, some o' => edgeB md o' i || !(o.apart ops o') || (List.range (m + 1)).all fun c => c == 0 || rngC cls lo hi rank c i k o o'
 | _, _ => true
def rngV (md : Region.Mode) (ops : Array Oper) (m : Nat) (cls : Oper → Nat) (lo hi rank : Nat → Nat → Nat) : Nat → Nat → Array Bool → Bool
 | 0, _, _ => true
 | f + 1, i, listed => rngAtV md ops m cls lo hi rank listed i && rngV md ops m cls lo hi rank f (i + 1) (listed.setIfInBounds i true)
theorem rngAtV_spec {listed : Array Bool} {i k : Nat} (h : rngAtV md ops m cls lo hi rank listed i = true) {o o' : Oper} (hne : k ≠ i) (h1 : ops[i]? = some o) (h2 : ops[k]? = some o') (hun : listed.getD k true = false) (hno : ∀ e ∈ o'.after, Region.binds md e = true → e.on ≠ i) (hap : o.apart ops o' = true) :
 ∀ c, 1 ≤ c → c ≤ m → pairC cls lo hi rank c i k o o' := by
 have m2 := (zBa.1 h2).1
 have h3 := zAb.1 h k (zBx.2 m2)
 have e : (i == k) = false := by simp; exact fun e => hne e.symm
 have e2 : edgeB md o' i = false := by
  cases hb : edgeB md o' i with
  | false => rfl
  | true =>
    unfold edgeB at hb
    obtain ⟨x, hx, hy⟩ := Array.any_eq_true'.1 hb
    simp only [zA2, beq_iff_eq] at hy
    exact absurd hy.2 (hno x hx hy.1)
 simp only [e, zBr, h1, h2, e2, hap, Bool.not_true, hun] at h3
 intro c c1 c2
 have h4 := zAb.1 h3 c (zBx.2 (by omega))
 simp only [zAx, beq_iff_eq] at h4
 rcases h4 with h4 | h4
 · omega
 · exact rngC_spec h4
theorem vAny_lex {K : Env → (Nat → Nat) → Prop} : ∀ (l : List Oper) (k : Nat) (listed : Array Bool) (env : Env) (J : Nat → Nat), (∀ i, l[i]? = ops[k + i]?) →
 rngV md ops m cls lo hi rank l.length k listed = true → Region.lexFrom md ops l.length k listed = true → VQ P n ops S m cls lo hi rank K l k env J → vAny P n md ops S m cls lo hi rank K l.length listed env J
 | [], _, _, _, _, _, _, hB, h => ⟨by simpa [Region.lexFrom] using hB, h⟩
 | o :: l, k, listed, env, J, hl, hE, hB, h => by
   simp only [zA1, rngV, zA2] at hE
   have h0 : ops[k]? = some o := by simpa using (hl 0).symm
   simp only [zA1, Region.lexFrom, zA2] at hB
   obtain ⟨⟨hr, hf⟩, hB'⟩ := hB
   obtain ⟨v, A, hy, hK⟩ := h
   exact vAny_first h0 l.length listed env J A (fun k2 ok h1 h2 h3 h4 => let ap := Region.free_spec h0 hf k2 ok h1 h2 h3 h4; ⟨ap, rngAtV_spec hE.1 h2 h0 h1 h3 h4 ap⟩) (by simpa using hr) hy
    (vAny_lex l (k + 1) _ _ A (fun i => by have := hl (i + 1); simpa [zBy, zCe 1 i] using this) hE.2 hB' hK)
theorem wpAny_of_vAny {K : Env → (Nat → Nat) → Prop} (ro : Option Nat) (hd : dstsOk n ops = true) : ∀ (fuel : Nat) (listed : Array Bool) (env : Env) (J : Nat → Nat), vAny P n md ops S m cls lo hi rank K fuel listed env J → ∀ G a w, ARel n G env (S J) a w →
 ∀ Q : Exit → Act → World → Prop, (∀ G' env' J' a' w', G.Le G' → K env' J' → ARel n G' env' (S J') a' w' → Q .normal a' w') → wpAnyIn (FR ro) 0 P md ops Q fuel listed a w
 | 0, _, env, J, h, G, a, w, hr, Q, hQ => ⟨h.1, hQ G env J a w (Gh.Le.refl G) h.2 hr⟩
 | fuel + 1, listed, env, J, h, G, a, w, hr, Q, hQ => by
   refine ⟨fun h0 => hQ G env J a w (Gh.Le.refl G) (h.1 h0) hr, fun i hi => ?_⟩
   have hq := h.2 i hi
   unfold vq at hq
   unfold wpOpIn
   split
   · rename_i ho; simp only [ho] at hq; exact wpAny_of_vAny ro hd fuel _ env J hq G a w hr Q hQ
   · rename_i o ho
     simp only [ho] at hq
     obtain ⟨v, A, hx, hK⟩ := hq
     have hdo : ∀ x, o.dst = some x → x < n := dstOk_spec (by
      have := zAb.1 hd o (by
       obtain ⟨hlt, he⟩ := zBa.1 ho
       rw [← he]; simp)
      exact this)
     have effect : EStep P n ops o (fun e s => e = env.putO o.dst v ∧ s = S A) env (S J) →
      if Region.wanted o (yielded ops a.tmps) then OWP P o a w (fun a' w' => ∃ env' σ' G', (env' = env.putO o.dst v ∧ σ' = S A) ∧ G.Le G' ∧ ARel n G' env' σ' a' w')
      else ∃ env' σ', (env' = env.putO o.dst v ∧ σ' = S A) ∧ ARel n G env' σ' (a.put o.dst undef) w := fun h => h G a w hr
     cases hx with
     | q g1 hf hp =>
       have := hp J g1 G a w hr.st (fun x _ => hr.vals x)
       split
       · rename_i hw
         rw [if_pos hw] at this
         refine this.toIn ?_
         rintro a' w' ⟨x, G', rfl, h1, h2, h3⟩
         have hr' : ARel n G' env (S J) a w' := hr.later h2 h3
         exact wpAny_of_vAny ro hd fuel _ _ J hK G' _ w' (hr'.putO hdo h1) Q fun G'' e' B a'' w'' hg hk hr => hQ G'' e' B a'' w'' (h2.trans hg) hk hr
       · rename_i hw
         rw [if_neg hw] at this
         exact ⟨fun _ _ => trivial, wpAny_of_vAny ro hd fuel _ _ J hK G _ w (hr.putO hdo this) Q hQ⟩
     | e c gf gc gr g1 hp =>
       have := effect (hp env (fun _ _ => rfl) J gr.symm)
       split
       · rename_i hw
         rw [if_pos hw] at this
         refine this.toIn ?_
         rintro a' w' ⟨e', s', G', ⟨rfl, rfl⟩, h2, h3⟩
         exact wpAny_of_vAny ro hd fuel _ _ _ hK G' a' w' h3 Q fun G'' e' B a'' w'' hg hk hr => hQ G'' e' B a'' w'' (h2.trans hg) hk hr
       · rename_i hw
         rw [if_neg hw] at this
         obtain ⟨env', σ', ⟨rfl, rfl⟩, h3⟩ := this
         exact ⟨fun _ _ => trivial, wpAny_of_vAny ro hd fuel _ _ _ hK G _ w h3 Q hQ⟩
theorem AWP.drawV {id : Nat} {l : List Oper} {K : Exit → Env → Store → Prop} {env : Env} {σ : Store} (m : Nat) (cls : Oper → Nat) (S : (Nat → Nat) → Store) (h0 : S (fun _ => 0) = σ)
 (hm : P.follows .mixedOrders = true) (hB : Region.lexB .any l.toArray = true) (hd : dstsOk n l.toArray = true) (hE : rngV .any l.toArray m cls (fun c => loOf l (cOf cls c)) (fun c => hiOf l (cOf cls c)) (fun c => rankOf l (cOf cls c)) l.length 0 (Array.replicate l.length false) = true)
 (h : ∀ K' : Env → (Nat → Nat) → Prop, (∀ e J, K .normal e (S J) → K' e J) → VQ P n l.toArray S m cls (fun c => loOf l (cOf cls c)) (fun c => hiOf l (cOf cls c)) (fun c => rankOf l (cOf cls c)) K' l 0 env (fun _ => 0)) : AWP P n (.region id l.toArray true) K env σ := by
 subst h0
 intro G a w hr
 simp only [Region.lexB, zA2] at hB
 refine wpIn_region_any hm ?_
 have := vAny_lex (md := .any) l 0 (Array.replicate l.toArray.size false) env (fun _ => 0) (by simp) (by simpa using hE) (by simpa using hB.2) (h (fun e J => K .normal e (S J)) fun _ _ h => h)
 refine wpAny_of_vAny _ hd _ _ env (fun _ => 0) (by simpa using this) G a _ ⟨hr.size, hr.defers, hr.vals, hr.st.drew⟩ _ ?_
 intro G' env' B a' w' hg hk hr'
 exact ⟨env', S B, G', hk, hg, hr'⟩
def inV (m : Nat) (lo hi : Nat → Nat → Nat) (i x : Nat) (J : Nat → Nat) : Bool := (List.range (m + 1)).all fun c => c == 0 || c == x || (decide (lo c i ≤ J c) && decide (J c ≤ hi c i))
theorem inV_spec {i x : Nat} {J : Nat → Nat} (h : inV m lo hi i x J = true) : ∀ d, 1 ≤ d → d ≤ m → d ≠ x → lo d i ≤ J d ∧ J d ≤ hi d i := fun d d1 d2 d3 => by
 have h4 := zAb.1 h d (zBx.2 (by omega))
 simp only [zAx, beq_iff_eq, zA2, dEt] at h4
 rcases h4 with (h4 | h4) | h4
 · omega
 · omega
 · exact h4
theorem VQ.nil {K : Env → (Nat → Nat) → Prop} {env : Env} {i : Nat} {J : Nat → Nat} (h : K env J) : VQ P n ops S m cls lo hi rank K [] i env J := h
theorem VQ.q {K : Env → (Nat → Nat) → Prop} {env : Env} {i : Nat} {J : Nat → Nat} {o : Oper} {rest : List Oper} {v v' : AV} {g : GG} {d : Nat} (he : cls o = 0) (hj : inV m lo hi i 0 J = true) (hd : o.dst = some d) (hg : gOf ops env o = some g)
 (h : ∀ J', g.holds → PRun P o env (S J') v) (hv : g.wrap v = v') (hk : VQ P n ops S m cls lo hi rank K rest (i + 1) (env.put d v') J) : VQ P n ops S m cls lo hi rank K (o :: rest) i env J := by
 subst hv
 refine ⟨g.wrap v, J, .q (fun c c1 c2 => inV_spec hj c c1 c2 (by omega)) he fun J' _ => PStep.g hg (h J'), ?_⟩
 rw [hd]; exact hk
theorem VQ.e (c r : Nat) {K : Env → (Nat → Nat) → Prop} {env : Env} {i : Nat} {J : Nat → Nat} {o : Oper} {rest : List Oper} {v : AV} {d : Option Nat} (he : cls o = c) (hc : (decide (1 ≤ c) && decide (c ≤ m) && (rank c i == r + 1) && (J c == r) && inV m lo hi i c J) = true) (hd : o.dst = d)
 (h : ∀ env', (∀ x ∈ o.looksAt ops, env' x = env x) → ∀ J', J' c = r → EStep P n ops o (fun e s => e = env'.putO o.dst v ∧ s = S (bump J' c)) env' (S J'))
 (hk : VQ P n ops S m cls lo hi rank K rest (i + 1) (env.putO d v) (bump J c)) : VQ P n ops S m cls lo hi rank K (o :: rest) i env J := by
 subst hd
 simp only [zA2, dEt, beq_iff_eq] at hc
 obtain ⟨⟨⟨⟨a1, a2⟩, a3⟩, a4⟩, a5⟩ := hc
 exact ⟨v, bump J c, .e c he ⟨a1, a2⟩ (by omega) (inV_spec a5) fun e1 h1 J' g2 => h e1 h1 J' (by omega), hk⟩
end
theorem AWP.newArr {P : Program} {n : Nat} {c : Code} {K : Exit → Env → Store → Prop} {env : Env} {σ : Store} (sz : Nat) (hk : AWP P n c K env (σ ++ [.arr sz 0 []])) : AWP P n c K env σ := by
 intro G a w hr
 have hle : G.Le { G with B := G.B ++ [.own none 0 0] } := .upB (BLe.append _ _)
 have hs : SRel { G with B := G.B ++ [GB.own none 0 0] } (σ ++ [.arr sz 0 []]) w := by
  have h0 := hr.st.ownNil sz
  refine ⟨h0.memok, h0.m0, h0.base, by simpa using h0.len, fun l g o h1 h2 => ?_, h0.fresh, h0.inj, h0.out, h0.dfr⟩
  rcases zA8 l σ.length with hl | hl
  · exact h0.objs l g o h1 (by rw [zA5 hl] at h2 ⊢; exact h2)
  · have h3 := h2
    rw [zA7 hl] at h3
    have h4 : l - σ.length = 0 := by
     rcases zBe (l - σ.length) with h | h
     · exact h
     · rw [zA3 (by simp; omega)] at h3; cases h3
    rw [h4] at h3; simp at h3; subst h3
    rw [zA7 (by rw [hr.st.len]; exact hl), hr.st.len, h4] at h1
    simp at h1; subst h1
    exact .arrz sz 0
 refine wpIn_mono (hk { G with B := G.B ++ [GB.own none 0 0] } a w (hr.later hle hs)) ?_
 rintro x a' w' ⟨e, s, G', h1, h2, h3⟩
 exact ⟨e, s, G', h1, Gh.Le.trans hle h2, h3⟩
theorem EStep.allocArr {P : Program} {T : Tab} {n : Nat} {ops : Array Oper} {o : Oper} {env : Env} {σ : Store} {k : Env → Store → Prop} (hT : T.Ok P) {t : TypeId} {d l sz : Nat} {li : LI} {cs : List AV} (ho : o.op = .alloc t) (hg : o.guard = none) (hd : o.dst = some d) (hdn : (decide (d < n)) = true) (hl : T.get t = some li) (hf : forceL (li.zero.map Z.av) = some cs) (hsz : decide (li.zero.length = sz ∧ 0 < sz) = true)
 (hσ : σ[l]? = some (.arr sz 0 [])) (hk : k (env.put d (.eptr l sz 0 0 1)) (σ.set l (.arr sz 1 [cs]))) : EStep P n ops o k env σ := by
 refine EStep.plain hg fun G a w hr => ?_
 have hl := LOk.of (hT.get hl)
 have hzl := (of_decide_eq_true hsz).1
 have hrun : (execOp a.eval o).run P w = .ok (.value (.pointer (some ⟨w.heap.size, 0, none⟩))) (w.alloc (.cells li.zeroVal.cells t)) := by
  simp [execOp, ho, Instr.alloc, newVar, newRow, hl.run_zero w]
 have hcells : li.zeroVal.cells = (li.zero.map Z.val).toArray := by
  unfold LI.zeroVal
  cases ha : li.lt.isAgg with
  | true => rfl
  | false =>
    obtain ⟨z, hz⟩ := hl.one ha
    rw [hz]
    cases z <;> rfl
 unfold OWP
 rw [hrun]
 have hcs : cs = li.zero.map Z.av := (forceL_eq hf).symm
 obtain ⟨ob, cap, hB, _, _⟩ := arr_at hr.st hσ
 have hm := mem_lt hr.st.memok
 have hls : l < G.B.length := by
  rcases zA8 l G.B.length with h | h
  · exact h
  · simp [zA3 h] at hB
 have hgl : GB.Le (.own ob cap 0) (.own (some w.heap.size) 1 1) := .inr ⟨_, _, _, rfl, by omega⟩
 have hal := hr.st.alloc (o := .cells li.zeroVal.cells t) (g := .own (some w.heap.size) 1 1) (ao := .arr sz 1 [cs]) rfl (.arr w.heap.size 1 sz 1 [cs] li.zeroVal.cells t (0, 0) (by rw [heap_alloc, if_pos rfl]) (by intro o _; simp) (by rw [hcells]; simp [hzl]) (by simp) (fun e he => by
  simp at he; subst he; rw [hcs]; simp [hzl]) (fun i j e c h1 h2 => by
  match i, h1 with
  | 0, h1 =>
    simp at h1; subst h1
    rw [hcs] at h2
    simp only [zAd, zA6] at h2
    obtain ⟨z, hz, rfl⟩ := h2
    rw [hcells]
    have : (li.zero.map Z.val).toArray.getD (0 * sz + j) undef = z.val := by simp [hz, zA4]
    rw [this]; cases z <;> first | exact .prim _ | exact .nils | exact .imapz
  | i + 1, h1 => simp at h1) (hm _ (zAi _)).1)
 have hs : SRel { G with M := G.M, B := G.B.set l (.own (some w.heap.size) 1 1) } (σ.set l (.arr sz 1 [cs])) (w.alloc (.cells li.zeroVal.cells t)) := by
  refine hr.st.regrow (w' := w.alloc (.cells li.zeroVal.cells t)) hB (Mem.Le.refl _) hgl rfl (by simp) (fun k hk hk2 => by rw [heap_alloc, if_neg (by omega)]) rfl (fun b hb o => rfl) hal.memok (.inr (zAi _)) (by simp) OutR.r ?_
  refine .arr w.heap.size 1 sz 1 [cs] li.zeroVal.cells t (0, 0) (by rw [heap_alloc, if_pos rfl]) (by intro o _; simp) (by rw [hcells]; simp [hzl]) (by simp) (fun e he => by
   simp at he; subst he; rw [hcs]; simp [hzl]) (fun i j e c h1 h2 => ?_) (hm _ (zAi _)).1
  match i, h1 with
  | 0, h1 =>
    simp at h1; subst h1
    rw [hcs] at h2
    simp only [zAd, zA6] at h2
    obtain ⟨z, hz, rfl⟩ := h2
    rw [hcells]
    have : (li.zero.map Z.val).toArray.getD (0 * sz + j) undef = z.val := by simp [hz, zA4]
    rw [this]; cases z <;> first | exact .prim _ | exact .nils | exact .imapz
  | i + 1, h1 => simp at h1
 have hle : BLe G.B (G.B.set l (.own (some w.heap.size) 1 1)) := by
  intro l' g1 h1
  by_cases e : l = l'
  · subst e
    rw [hB] at h1; simp at h1; subst h1
    exact ⟨_, by rw [zAp hls], hgl⟩
  · exact ⟨g1, by rw [zAy e]; exact h1, GB.Le.refl _⟩
 refine ⟨_, _, _, hk, .upB hle, ?_⟩
 rw [hd]
 have hr' : ARel n { G with B := G.B.set l (.own (some w.heap.size) 1 1) } env (σ.set l (.arr sz 1 [cs])) a (w.alloc (.cells li.zeroVal.cells t)) := hr.later (.upB hle) hs
 refine hr'.put (of_decide_eq_true hdn) ?_
 exact .eptr l sz 0 0 1 w.heap.size 0 ⟨some w.heap.size, 1, 1, by rw [zAp hls], zAi _, fun _ => ⟨by omega, (of_decide_eq_true hsz).2, by simp, rfl⟩⟩
end Go.Ab
