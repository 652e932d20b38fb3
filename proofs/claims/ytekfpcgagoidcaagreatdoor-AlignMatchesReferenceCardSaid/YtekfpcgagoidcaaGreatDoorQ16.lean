/- Notes by score and bar: a map of slices that grow. Rules and plain facts.  Appends to an empty slice that was written out: at a growing array that was numbered ahead. Contracts by content: align.newPair. No statement is proved here. -/
import Derived.Test.YtekfpcgagoidcaaGreatDoorQ12
import Derived.Test.YtekfpcgagoidcaaGreatDoorQ13
import Derived.Test.YtekfpcgagoidcaaGreatDoorQ15
set_option linter.unusedVariables false
set_option linter.unusedSimpArgs false
namespace Go.Ab
def EntB (u v : AV) : Prop := ∀ M B x, VRel M B u x → VRel M B v x
theorem EntB.refl (u : AV) : EntB u u := fun _ _ _ h => h
theorem EntB.no (sz : Nat) (es : List (List AV)) (t : Tok) : EntB (.sl sz es t) (.sl sz es .no) := fun _ _ _ h => by
  cases h with
  | sl _ _ _ b off cap f hz hm hr hc ht => exact .sl sz es .no b off cap f hz hm hr hc trivial
  | slz _ t ht => exact .slz sz .no trivial
  | slzz sz a cap => exact .slzz sz a cap
theorem EntB.nil (sz : Nat) : EntB .nils (.sl sz [] .no) := fun _ _ _ h => by cases h; exact .slz sz .no trivial
theorem TCall.args {P : Program} {f : FuncId} {avs avs' : List AV} {σ : Store} {Q : AV → Store → Prop} (h : TCall P f avs σ Q) (hl : avs'.length = avs.length) (he : ∀ (i : Nat) (u v : AV), avs'[i]? = some u → avs[i]? = some v → EntB u v) : TCall P f avs' σ Q :=
  ⟨h.1, fun G w vs hs ha => h.2 G w vs hs ⟨ha.1.trans hl, fun i c hi => by
    have : i < avs'.length := by
      rw [hl]
      rcases Nat.lt_or_ge i avs.length with h | h
      · exact h
      · rw [List.getElem?_eq_none h] at hi; cases hi
    exact he i _ c (List.getElem?_eq_getElem this) hi _ _ _ (ha.2 i _ (List.getElem?_eq_getElem this))⟩⟩
section
variable {P : Program} {n : Nat} {K : Exit → Env → Store → Prop} {env : Env}
theorem AWP.newOwns {c : Code} (sz : Nat) : ∀ (N : Nat) {σ : Store}, AWP P n c K env (σ ++ List.replicate N (.own sz 0)) → AWP P n c K env σ
  | 0, σ, h => by simpa using h
  | N + 1, σ, h => by
    refine AWP.newOwn sz (AWP.newOwns sz N ?_)
    rw [List.append_assoc]
    exact h
end
end Go.Ab
namespace Go.Proofs.YtekfpcgagoidcaaGreatDoor.Al
open Go.Ab Go.Sort
abbrev KeyP := Int × Int
abbrev GL := List (KeyP × (List Note × Tok))
abbrev NL := List (KeyP × List Note)
def evT (v : List Note × Tok) : AV := .sl 12 (v.1.map encN) v.2
def evN (v : List Note) : AV := .sl 12 (v.map encN) .no
def lenOwn (v : List Note × Tok) : Nat := match v.2 with | .own _ => v.1.length | _ => 0
def objs (al : GL) (N : Nat) : Store := (List.range N).map fun j => .own 12 (match al[j]? with | some p => lenOwn p.2 | none => 0)
theorem objs_len (al : GL) (N : Nat) : (objs al N).length = N := by simp [objs]
theorem objs_ok (m : Nat) (al : GL) (N : Nat) : (objs al N).all (okObj m) = true := by
  unfold objs; rw [List.all_eq_true]; intro o ho
  obtain ⟨j, _, rfl⟩ := List.mem_map.1 ho
  rfl
def toG (al : NL) : GL := al.map fun p => (p.1, (p.2, Tok.no))
def toN (al : GL) : NL := al.map fun p => (p.1, p.2.1)
theorem objs_new (al : NL) (N : Nat) : objs (toG al) N = List.replicate N (.own 12 0) := by
  unfold objs toG
  apply List.ext_getElem?
  intro i
  rw [List.getElem?_map, List.getElem?_replicate]
  split
  · rename_i h
    rw [List.getElem?_range h, Option.map_some]
    congr 2
    rw [List.getElem?_map]
    cases al[i]? <;> rfl
  · rename_i h
    rw [List.getElem?_eq_none (by simpa using h)]; rfl
theorem lk_map2 {κ α β : Type} [DecidableEq κ] (f : α → β) (k : κ) : ∀ al : List (κ × α), lk (al.map fun p => (p.1, f p.2)) k = (lk al k).map f
  | [] => rfl
  | p :: r => by
    simp only [List.map_cons, lk]
    split
    · rfl
    · exact lk_map2 f k r
theorem lk_snoc {κ α : Type} [DecidableEq κ] (k k' : κ) (v : α) : ∀ al : List (κ × α), lk al k = none → lk (al ++ [(k, v)]) k' = if k = k' then some v else lk al k'
  | [], _ => by simp [lk]
  | p :: r, h => by
    obtain ⟨a, b⟩ := p
    simp only [lk] at h
    split at h
    · cases h
    rename_i hne
    simp only [List.cons_append, lk]
    rw [lk_snoc k k' v r h]
    by_cases e : a = k'
    · rw [if_pos e, if_pos e, if_neg (fun e2 => hne (e.trans e2.symm))]
    · rw [if_neg e, if_neg e]
theorem lk_set {κ α : Type} [DecidableEq κ] (k k' : κ) (v : α) : ∀ al : List (κ × α), (lk al k).isSome = true → lk (al.set (posOf al k) (k, v)) k' = if k = k' then some v else lk al k'
  | [], h => by cases h
  | p :: r, h => by
    obtain ⟨a, b⟩ := p
    simp only [lk] at h
    simp only [posOf]
    by_cases e : a = k
    · rw [if_pos e, List.set_cons_zero]
      simp only [lk]
      by_cases e2 : k = k'
      · rw [if_pos e2, if_pos e2]
      · rw [if_neg e2, if_neg e2, if_neg (fun h => e2 (e.symm.trans h))]
    · rw [if_neg e] at h
      rw [if_neg e, List.set_cons_succ]
      simp only [lk]
      rw [lk_set k k' v r h]
      by_cases e2 : a = k'
      · rw [if_pos e2, if_pos e2, if_neg (fun h => e (e2.trans h.symm))]
      · rw [if_neg e2, if_neg e2]
def entG (al : GL) (key : KeyP) : GL := if (lk al key).isSome then al else al ++ [(key, ([], .fresh))]
def valG (al : GL) (key : KeyP) : List Note × Tok := (lk al key).getD ([], .fresh)
def addG (base : Nat) (al : GL) (key : KeyP) (n : Note) : GL := (entG al key).set (posOf al key) (key, ((valG al key).1 ++ [n], .own (base + posOf al key)))
def OwnG (base : Nat) (i : Int) (al : GL) : Prop := ∀ (j : Nat) (p : KeyP × (List Note × Tok)), al[j]? = some p → p.1.1 = i → p.2.2 = .own (base + j)
theorem entG_at {base : Nat} {i : Int} {al : GL} (h : OwnG base i al) {key : KeyP} (hk : key.1 = i) :
    posOf al key ≤ al.length ∧ ((valG al key).2 = .own (base + posOf al key) ∨ valG al key = ([], .fresh)) ∧ (entG al key)[posOf al key]? = some (key, valG al key) ∧ posOf al key < (entG al key).length := by
  obtain ⟨_, h2, h3⟩ := findIdx_pos key al
  unfold entG valG
  cases hs : (lk al key).isSome with
  | true =>
    obtain ⟨v, hv, hp⟩ := h2 hs
    have hlt : posOf al key < al.length := by
      rcases Nat.lt_or_ge (posOf al key) al.length with h | h
      · exact h
      · rw [List.getElem?_eq_none h] at hp; cases hp
    rw [hv, Option.getD_some, if_pos rfl]
    exact ⟨by omega, .inl (h _ _ hp hk), hp, hlt⟩
  | false =>
    have hp := h3 hs
    have hn : lk al key = none := by simpa using hs
    rw [hn, hp, Option.getD_none]
    simp
theorem lenG {base : Nat} {i : Int} {al : GL} (h : OwnG base i al) {key : KeyP} (hk : key.1 = i) : lenOwn (valG al key) = (valG al key).1.length := by
  rcases (entG_at h hk).2.1 with e | e
  · unfold lenOwn; rw [e]
  · rw [e]; rfl
theorem objs_ent {al : GL} {key : KeyP} {N : Nat} : objs (entG al key) N = objs al N := by
  unfold entG
  split
  · rfl
  · unfold objs
    refine List.map_congr_left fun j _ => ?_
    congr 1
    rcases Nat.lt_trichotomy j al.length with h | h | h
    · rw [List.getElem?_append_left h]
    · subst h; simp [lenOwn]
    · rw [List.getElem?_eq_none (by simp; omega), List.getElem?_eq_none (by omega)]
theorem objs_at {base : Nat} {i : Int} {al : GL} (h : OwnG base i al) {key : KeyP} (hk : key.1 = i) {N : Nat} (hN : al.length < N) : (objs al N)[posOf al key]? = some (.own 12 ((valG al key).1.map encN).length) := by
  obtain ⟨h1, h2, h3, h4⟩ := entG_at h hk
  rw [← objs_ent (key := key)]
  unfold objs
  rw [List.getElem?_map, List.getElem?_range (by omega), Option.map_some, h3]
  simp only [lenG h hk, List.length_map]
theorem objs_add {base : Nat} {i : Int} {al : GL} (h : OwnG base i al) {key : KeyP} (hk : key.1 = i) (n : Note) {N : Nat} (hN : al.length < N) :
    (objs al N).set (posOf al key) (.own 12 ((valG al key).1.map encN ++ [encN n]).length) = objs (addG base al key n) N := by
  obtain ⟨h1, h2, h3, h4⟩ := entG_at h hk
  rw [← objs_ent (key := key)]
  unfold objs addG
  apply List.ext_getElem?
  intro j
  rw [List.getElem?_set]
  simp only [List.length_map, List.length_range, List.getElem?_map]
  by_cases e : posOf al key = j
  · subst e
    rw [if_pos rfl, if_pos (by omega), List.getElem?_range (by omega), Option.map_some, List.getElem?_set_self h4]
    simp [lenOwn]
  · rw [if_neg e]
    rcases Nat.lt_or_ge j N with hj | hj
    · rw [List.getElem?_range hj, Option.map_some, Option.map_some, List.getElem?_set_ne e]
    · rw [List.getElem?_eq_none (by simpa using hj)]; rfl
theorem addG_len {base : Nat} {al : GL} {key : KeyP} {n : Note} : (addG base al key n).length ≤ al.length + 1 := by
  unfold addG entG; rw [List.length_set]; split <;> simp
theorem addG_own {base : Nat} {i : Int} {al : GL} (h : OwnG base i al) {key : KeyP} (hk : key.1 = i) (n : Note) : OwnG base i (addG base al key n) := by
  obtain ⟨h1, h2, h3, h4⟩ := entG_at h hk
  intro j p hj hp
  unfold addG at hj
  rw [List.getElem?_set] at hj
  by_cases e : posOf al key = j
  · rw [if_pos e, if_pos h4] at hj
    simp at hj; subst hj; subst e; rfl
  · rw [if_neg e] at hj
    unfold entG at hj
    split at hj
    · exact h _ _ hj hp
    · rcases Nat.lt_trichotomy j al.length with h5 | h5 | h5
      · rw [List.getElem?_append_left h5] at hj; exact h _ _ hj hp
      · rename_i hno
        exact absurd ((findIdx_pos key al).2.2 (by simpa using hno)) (fun h => e (h.trans h5.symm))
      · rw [List.getElem?_eq_none (by simp; omega)] at hj; cases hj
theorem addG_lk {base : Nat} {al : GL} {key : KeyP} {n : Note} (k : KeyP) : ((lk (addG base al key n) k).map (·.1)).getD [] = if key = k then ((lk al key).map (·.1)).getD [] ++ [n] else ((lk al k).map (·.1)).getD [] := by
  obtain ⟨_, h2, h3⟩ := findIdx_pos key al
  unfold addG entG valG
  cases hs : (lk al key).isSome with
  | true =>
    obtain ⟨v, hv, hp⟩ := h2 hs
    rw [if_pos rfl, hv, lk_set _ _ _ _ hs]
    by_cases e : key = k
    · rw [if_pos e, if_pos e]; rfl
    · rw [if_neg e, if_neg e]
  | false =>
    have hn : lk al key = none := by simpa using hs
    have hp := h3 hs
    rw [if_neg (by decide), hn]
    have e0 : (al ++ [(key, (([] : List Note), Tok.fresh))]).set (posOf al key) (key, ((none.getD (([] : List Note), Tok.fresh)).1 ++ [n], .own (base + posOf al key))) = al ++ [(key, ([n], .own (base + al.length)))] := by
      rw [hp, List.set_append_right _ _ (Nat.le_refl _)]; simp
    rw [e0, lk_snoc _ _ _ _ hn]
    by_cases e : key = k
    · rw [if_pos e, if_pos e]; rfl
    · rw [if_neg e, if_neg e]
def foldG (base : Nat) (i : Int) (al : GL) (l : List Note) : GL := l.foldl (fun al n => addG base al (i, n.bar) n) al
theorem foldG_snoc (base : Nat) (i : Int) (al : GL) (l : List Note) (n : Note) : foldG base i al (l ++ [n]) = addG base (foldG base i al l) (i, n.bar) n := by unfold foldG; rw [List.foldl_append]; rfl
theorem foldG_spec (base : Nat) (i : Int) : ∀ (l : List Note) (al : GL), OwnG base i al → OwnG base i (foldG base i al l) ∧ (foldG base i al l).length ≤ al.length + l.length ∧
    ∀ k : KeyP, ((lk (foldG base i al l) k).map (·.1)).getD [] = ((lk al k).map (·.1)).getD [] ++ if k.1 = i then l.filter (fun n => n.bar == k.2) else []
  | [], al, h => ⟨h, Nat.le_refl _, fun k => by simp [foldG]⟩
  | n :: r, al, h => by
    obtain ⟨h1, h2, h3⟩ := foldG_spec base i r (addG base al (i, n.bar) n) (addG_own h rfl n)
    refine ⟨h1, ?_, fun k => ?_⟩
    · have := addG_len (base := base) (al := al) (key := (i, n.bar)) (n := n)
      show (foldG base i (addG base al (i, n.bar) n) r).length ≤ _
      rw [List.length_cons]; omega
    · show ((lk (foldG base i (addG base al (i, n.bar) n) r) k).map (·.1)).getD [] = _
      rw [h3 k, addG_lk]
      by_cases e : (i, n.bar) = k
      · subst e
        rw [if_pos rfl, if_pos rfl, if_pos rfl, List.filter_cons_of_pos (by simp), List.append_assoc]; rfl
      · rw [if_neg e]
        by_cases e2 : k.1 = i
        · rw [if_pos e2, if_pos e2, List.filter_cons_of_neg]
          intro h9
          exact e (by rw [← e2, eq_of_beq h9])
        · rw [if_neg e2, if_neg e2]
def Grp (a b : Score) (al : NL) : Prop := ∀ bar : Int, (lk al (0, bar)).getD [] = inBar a bar ∧ (lk al (1, bar)).getD [] = inBar b bar
theorem toG_own {base : Nat} {i : Int} {al : NL} (h : ∀ p ∈ al, p.1.1 ≠ i) : OwnG base i (toG al) := by
  intro j p hj hp
  unfold toG at hj
  rw [List.getElem?_map, Option.map_eq_some_iff] at hj
  obtain ⟨q, hq, rfl⟩ := hj
  exact absurd hp (h q (List.mem_of_getElem? hq))
theorem toN_lk (al : GL) (k : KeyP) : lk (toN al) k = (lk al k).map (·.1) := lk_map2 (fun v : List Note × Tok => v.1) k al
theorem toG_lk (al : NL) (k : KeyP) : ((lk (toG al) k).map (·.1)).getD [] = (lk al k).getD [] := by
  rw [show lk (toG al) k = (lk al k).map (fun v : List Note => (v, Tok.no)) from lk_map2 (fun v : List Note => (v, Tok.no)) k al, Option.map_map]
  cases lk al k <;> rfl
theorem foldG_keys (base : Nat) (i : Int) : ∀ (l : List Note) (al : GL) (p : KeyP × (List Note × Tok)), p ∈ foldG base i al l → p.1.1 = i ∨ ∃ q ∈ al, q.1 = p.1
  | [], al, p, h => .inr ⟨p, h, rfl⟩
  | n :: r, al, p, h => by
    rcases foldG_keys base i r (addG base al (i, n.bar) n) p h with h | ⟨q, hq, e⟩
    · exact .inl h
    · unfold addG entG at hq
      rcases List.mem_or_eq_of_mem_set hq with hq | hq
      · split at hq
        · exact .inr ⟨q, hq, e⟩
        · rcases List.mem_append.1 hq with hq | hq
          · exact .inr ⟨q, hq, e⟩
          · rw [List.mem_singleton.1 hq] at e; left; rw [← e]
      · rw [hq] at e; left; rw [← e]
def grp0 (base : Nat) (a : Score) : NL := toN (foldG base 0 (toG []) a.notes)
def grp1 (base base' : Nat) (a b : Score) : NL := toN (foldG base' 1 (toG (grp0 base a)) b.notes)
theorem grp0_keys (base : Nat) (a : Score) : ∀ p ∈ grp0 base a, p.1.1 ≠ 1 := fun p hp e => by
  unfold grp0 toN at hp
  obtain ⟨q, hq, rfl⟩ := List.mem_map.1 hp
  rcases foldG_keys base 0 _ _ _ hq with h | ⟨r, hr, _⟩
  · have e : q.1.1 = 1 := e
    rw [h] at e; exact absurd e (by decide)
  · cases hr
theorem grp_ok (base base' : Nat) (a b : Score) : Grp a b (grp1 base base' a b) := fun bar => by
  have h0 := (foldG_spec base 0 a.notes (toG []) (toG_own fun p h => by cases h)).2.2
  have h1 := (foldG_spec base' 1 b.notes (toG (grp0 base a)) (toG_own (grp0_keys base a))).2.2
  have g0 : ∀ k : KeyP, (lk (grp0 base a) k).getD [] = if k.1 = 0 then a.notes.filter (fun n => n.bar == k.2) else [] := fun k => by
    unfold grp0; rw [toN_lk, h0]; simp [toG, lk]
  unfold grp1
  constructor
  · rw [toN_lk, h1, toG_lk, g0]; simp [inBar]
  · rw [toN_lk, h1, toG_lk, g0]; simp [inBar]
end Go.Proofs.YtekfpcgagoidcaaGreatDoor.Al


namespace Go.Ab
section
variable {P : Program} {n : Nat} {ops : Array Oper} {o : Oper} {env : Env} {σ : Store} {k : Env → Store → Prop} {T : Tab}
theorem EStep.appendAt (hT : T.Ok P) {s x : Operand} {t tx e : TypeId} {d l sz : Nat} {es2 : List (List AV)} {u : AV} {s1 b1 : Nat} {z : List Z} {le : LI} (ho : o.op = .call { callee := .builtin .append, args := #[s, x], argTypes := #[t, tx] })
    (hg : o.guard = none) (hd : o.dst = some d) (hdn : d < n) (hs : Rd env s (.sl sz [] .fresh)) (hσ : σ[l]? = some (.own sz 0)) (hx : Rd env x u) (hsrc : AppSrc T tx sz u es2) (hpos : 0 < es2.length)
    (hl : LOk P t ⟨.slice e, s1, b1, z⟩) (he : LOk P e le) (hsz : le.size = sz) (hz0 : le.zero.length = le.size) (hbound : es2.length * le.bytes ≤ 140737488355328) (hb2 : es2.length ≤ 9223372036854775807)
    (hk : k (env.put d (.sl sz es2 (.own l))) (σ.set l (.own sz es2.length))) : EStep P n ops o k env σ := by
  refine EStep.plain hg fun G a w hr => ?_
  have h1 := hr.rd hs
  obtain ⟨news, hS, hN⟩ := hsrc.src hT hr.st.memok (hr.rd hx)
  generalize hA : a.eval s = sv at h1
  obtain ⟨i, hi1, hi2, hi3, hi4⟩ := he.info
  have hund := hl.undSlice
  have hS' : Src P i.size tx (a.eval x) es2.length news w := by rw [hi2, hsz]; exact hS
  have hNs : news.length = es2.length * sz := by have := hN.1; simpa using this
  have hsv : ∃ ad, sv = .slice ad 0 0 := by
    cases h1 with
    | sl _ _ _ b off cap f hz hm hr hc ht => exact ⟨_, by rw [show cap = 0 from ht]; rfl⟩
    | slz => exact ⟨none, rfl⟩
  obtain ⟨ad, rfl⟩ := hsv
  have hgb : ∃ g, G.B[l]? = some g := ⟨_, List.getElem?_eq_getElem (by
    rw [hr.st.len]
    rcases Nat.lt_or_ge l σ.length with h | h
    · exact h
    · simp [List.getElem?_eq_none h] at hσ)⟩
  obtain ⟨g, hgl⟩ := hgb
  have hobj := hr.st.objs l g _ hgl hσ
  have hzc : le.zeroVal.cells.size = sz := by
    unfold LI.zeroVal
    cases ha : le.lt.isAgg with
    | true => simp [Value.cells, hz0, hsz]
    | false =>
      obtain ⟨z', hz'⟩ := he.one ha
      rw [hz'] at hz0 ⊢
      simp at hz0
      rw [← hsz, ← hz0]
      cases z' <;> rfl
  have hgle : g.Le (.own (some w.heap.size) (grownCap w es2.length 0 e) es2.length) := by
    cases hobj with
    | ownz => exact .inr ⟨_, _, _, rfl, hpos⟩
    | own b cap sz n' c T' fr hb hf hlc hn hm => exact .inr ⟨_, _, _, rfl, hpos⟩
  have hold : (Builtin.firstCells i.size 0 (.slice ad 0 0)).run P w.drew = .ok ([] : List Value).toArray w.drew := by
    cases ad with
    | none => rfl
    | some ad =>
      have := run_loadCells_list (P := P) w.drew ad [] (fun j v hj => by simp at hj)
      simp only [Builtin.firstCells, Nat.zero_mul]
      simpa using this
  have hrun := run_append_grow_src (P := P) w t tx o.type e i le.zeroVal hund hi1 (by rw [hi4]; rfl) ad 0 0 [] hold (a.eval x) es2.length news hS' (by omega) (by omega) (growslice_fits (by omega) (by rw [hi3]; simpa using hbound))
  simp only [Nat.zero_add, List.nil_append] at hrun
  have hcapge : es2.length ≤ grownCap w es2.length 0 e := grownCap_ge _ _ _ _
  generalize hrow : (news.toArray ++ Builtin.zeroCells le.zeroVal.cells (grownCap w es2.length 0 e - es2.length)) = row at hrun
  have hrowsz : row.size = grownCap w es2.length 0 e * sz := by
    rw [← hrow]
    simp only [Array.size_append, List.size_toArray, size_zeroCells, hzc, hNs, ← Nat.add_mul]
    congr 1; omega
  have hrun2 : (execOp a.eval o).run P w = .ok (.value (.slice (some ⟨w.heap.size, 0, none⟩) es2.length (grownCap w es2.length 0 e))) (w.drew.alloc (.cells row e)) := by
    simp [execOp, ho, resolve, invoke, builtin, hA, hrun]
  unfold OWP
  rw [hrun2]
  have row2 : ∀ o, o < es2.length * sz → row.getD o undef = news.toArray.getD o undef := by
    intro o ho
    rw [← hrow]
    simp only [Array.getD_eq_getD_getElem?]
    rw [Array.getElem?_append_left (by simp; omega)]
  have hm0 := (mem_lt hr.st.memok _ (Nat.le_refl w.heap.size)).1
  let M' : Mem := { G.M with cell := fun b o => if b = w.heap.size then (if o < es2.length * sz then some (row.getD o undef) else none) else G.M.cell b o }
  have hle : G.M.Le M' := ⟨fun b o v hv => by
    show (if b = w.heap.size then _ else _) = _
    split
    · rename_i e; subst e; rw [hm0 o] at hv; cases hv
    · exact hv, fun _ _ h => h⟩
  have hheap : (w.drew.alloc (.cells row e)).heap[w.heap.size]? = some (.cells row e) := by rw [heap_alloc]; simp
  have hok : MemOk M' (w.drew.alloc (.cells row e)) := by
    refine ⟨fun b o v hv => ?_, fun b es' hb => ?_, hr.st.memok.g.mono hle⟩
    · change (if b = w.heap.size then _ else _) = _ at hv
      split at hv
      · rename_i eb; subst eb
        split at hv
        · rename_i ho
          have hlt2 : o < row.size := by
            rw [hrowsz]
            exact Nat.lt_of_lt_of_le ho (Nat.mul_le_mul_right _ hcapge)
          simp only [World.cell?, hheap]
          simp at hv
          simp [hlt2, ← hv]
        · simp at hv
      · have h2 := hr.st.memok.1 _ _ _ hv
        have hlt2 := World.block_lt_of_cell? _ _ h2
        have : (w.drew.alloc (.cells row e)).cell? ⟨b, o, none⟩ = w.drew.cell? ⟨b, o, none⟩ := World.cell?_alloc_lt _ _ _ hlt2
        rw [this]; exact h2
    · obtain ⟨cl, h2⟩ := hr.st.memok.2 _ _ hb
      refine ⟨cl, ?_⟩
      rw [heap_alloc]
      split
      · rename_i eb; subst eb; simp at h2
      · exact h2
  have hcells : ∀ o, o < es2.length * sz → M'.cell w.heap.size o = some (row.getD o undef) := fun o ho => by
    show (if w.heap.size = w.heap.size then _ else _) = _
    rw [if_pos rfl, if_pos ho]
  have hs2 : SRel { G with M := M', B := G.B.set l (.own (some w.heap.size) (grownCap w es2.length 0 e) es2.length) } (σ.set l (.own sz es2.length)) (w.drew.alloc (.cells row e)) := by
    refine hr.st.regrow hgl hle hgle rfl (by simp) (fun k hk hk2 => by rw [heap_alloc]; simp [Nat.ne_of_lt hk2]; rfl) rfl (fun b hb o => if_neg hb) hok (.inr (Nat.le_refl _)) (by simp) OutR.r ?_
    exact .own w.heap.size _ sz _ row e (0, 0) hheap (by intro o _; simp) hrowsz hcapge fun o ho => by
      show (if w.heap.size = w.heap.size then _ else _) = _
      rw [if_pos rfl, if_neg (by omega)]
  have hG : G.Le { G with M := M', B := G.B.set l (.own (some w.heap.size) (grownCap w es2.length 0 e) es2.length) } := .up hle (BLe.set hgl hgle)
  refine ⟨_, _, _, hk, hG, ?_⟩
  rw [hd]
  have hr' : ARel n { G with M := M', B := G.B.set l (.own (some w.heap.size) (grownCap w es2.length 0 e) es2.length) } env (σ.set l (.own sz es2.length)) a (w.drew.alloc (.cells row e)) := ⟨hr.size, hr.defers, fun i => (hr.vals i).mono hle (BLe.set hgl hgle), hs2⟩
  refine hr'.put hdn ?_
  have hN' : AppRel M' sz es2 news.toArray := ⟨hN.1, hN.2.1, fun i j e a x y => (hN.2.2 i j e a x y).mono hle (BLe.refl _)⟩
  have hO' : AppRel M' sz [] ([] : List Value).toArray := ⟨by simp, by simp, fun i j e a h => by simp at h⟩
  have := vrel_row (M := M') (B := G.B.set l (.own (some w.heap.size) (grownCap w es2.length 0 e) es2.length)) (sz := sz) (es := [] ++ es2) (t := .own l) (b := w.heap.size) (cap := grownCap w es2.length 0 e) (c := row)
    (fun e he => hN.2.1 e (by simpa using he)) (by simpa using hcapge) (fun o ho => hcells o (by simpa using ho)) (get_append2 hO' hN' (fun o ho => by simp at ho) (fun o ho => by simpa using row2 o ho))
    ⟨some w.heap.size, grownCap w es2.length 0 e, es2.length, by rw [List.getElem?_set_self (by
      rcases Nat.lt_or_ge l G.B.length with h | h
      · exact h
      · simp [List.getElem?_eq_none h] at hgl)], by simp, fun _ => ⟨by simp, rfl⟩⟩
  simpa using this
end
end Go.Ab


namespace Go.Ab
theorem AWP.kill {P : Program} {n : Nat} {c : Code} {K : Exit → Env → Store → Prop} {env : Env} {σ : Store} (l : Nat) {o : AObj} (hσ : σ[l]? = some o) (hk : AWP P n c K env (σ.set l .dead)) : AWP P n c K env σ := by
  intro G a w hr
  exact hk G a w ⟨hr.size, hr.defers, hr.vals, SRel.retell (o' := .dead) hr.st hσ fun g _ _ => .dead g⟩
theorem AWP.drawYM {P : Program} {n : Nat} (eff : Oper → Bool) {id : Nat} {l : List Oper} {K : Exit → Env → Store → Prop} {env : Env} {σ : Store} (S : Nat → Store) (h0 : S 0 = σ)
    (hm : P.follows .mixedOrders = true) (hB : Region.lexB .any l.toArray = true) (hd : dstsOk n l.toArray = true) (hE : rngB .any l.toArray eff (loOf l eff) (hiOf l eff) (rankOf l eff) l.length 0 (Array.replicate l.length false) = true)
    (h : ∀ K' : Env → Nat → Prop, (∀ e j, K .normal e (S j) → K' e j) → YQ P n l.toArray S eff (loOf l eff) (hiOf l eff) (rankOf l eff) K' l 0 env 0) : AWP P n (.region id l.toArray true) K env σ := by
  subst h0
  intro G a w hr
  simp only [Region.lexB, Bool.and_eq_true] at hB
  refine wpIn_region_any hm ?_
  have := yAny_lex (md := .any) l 0 (Array.replicate l.toArray.size false) env 0 (by simp) (by simpa using hE) (by simpa using hB.2) (h (fun e j => K .normal e (S j)) fun _ _ h => h)
  refine wpAny_of_yAny _ hd _ _ env 0 (by simpa using this) G a _ ⟨hr.size, hr.defers, hr.vals, hr.st.drew⟩ _ ?_
  intro G' env' j' a' w' hg hk hr'
  exact ⟨env', S j', G', hk, hg, hr'⟩
end Go.Ab
namespace Go.Proofs.YtekfpcgagoidcaaGreatDoor.Al
open Go.Ab Go.Sort
attribute [local irreducible] AWP AOps EStep AQ PStep PRun PCall TCall VCall
def effM (o : Oper) : Bool := effOp o || match o.op with | .mapEntry _ _ _ => true | _ => false
theorem pairKA : KeyLaw Tryz.prog 60 ekP := keyLaw_pair (e := 3) (by kernel_rfl) (by kernel_rfl) (by kernel_rfl) (by kernel_rfl)
def pc (a b : Score) (m k : Nat) : List AV := encS a ++ encS b ++ [.map m, .map k]
def PairS (o0 o1 o2 : AObj) (a b : Score) (al : NL) (kn : List (KeyP × Int)) : Store := [o0, o1, o2, .dead, .dead, .map (Go.Ab.encM ekP evN al), .map (Go.Ab.encM ekP AV.int kn), .var (pc a b 5 6)]
theorem okMapN (m : Nat) (al : NL) : okObj m (.map (Go.Ab.encM ekP evN al)) = true := by
  show (Go.Ab.encM ekP evN al).all (fun kv => okRef m 3 kv.2) = true
  rw [List.all_eq_true]; intro x hx
  obtain ⟨p, _, rfl⟩ := List.mem_map.1 hx
  rfl
theorem okMapI (m : Nat) (kn : List (KeyP × Int)) : okObj m (.map (Go.Ab.encM ekP AV.int kn)) = true := by
  show (Go.Ab.encM ekP AV.int kn).all (fun kv => okRef m 3 kv.2) = true
  rw [List.all_eq_true]; intro x hx
  obtain ⟨p, _, rfl⟩ := List.mem_map.1 hx
  rfl
theorem okVarPc (m : Nat) (hm : 8 ≤ m) (a b : Score) : okObj m (.var (pc a b 5 6)) = true := by
  show (decide (5 < m) && (decide (6 < m) && true)) = true
  rw [decide_eq_true (show 5 < m by omega), decide_eq_true (show 6 < m by omega)]; rfl
def Pure3 (o0 o1 o2 : AObj) : Prop := ∀ m, okObj m o0 = true ∧ okObj m o1 = true ∧ okObj m o2 = true
theorem pairS_ok {o0 o1 o2 : AObj} (h : Pure3 o0 o1 o2) {m : Nat} (hm : 8 ≤ m) (a b : Score) (al : NL) (kn : List (KeyP × Int)) : (PairS o0 o1 o2 a b al kn).all (okObj m) = true := by
  obtain ⟨h0, h1, h2⟩ := h m
  simp only [PairS, List.all_cons, List.all_nil, h0, h1, h2, okMapN, okMapI, okVarPc m hm]; rfl
def TokLt (m : Nat) (al : GL) : Prop := ∀ p ∈ al, okRef m 3 (evT p.2) = true
theorem addG_tok {m base : Nat} {al : GL} (h : TokLt m al) (hb : base + al.length < m) (key : KeyP) (n : Note) : TokLt m (addG base al key n) := by
  obtain ⟨_, h2, h3⟩ := findIdx_pos key al
  have hp : posOf al key ≤ al.length := by
    cases hs : (lk al key).isSome with
    | true =>
      obtain ⟨v, _, hp⟩ := h2 hs
      rcases Nat.lt_or_ge (posOf al key) al.length with h | h
      · omega
      · rw [List.getElem?_eq_none h] at hp; cases hp
    | false => rw [h3 hs]; exact Nat.le_refl _
  intro p hp2
  unfold addG entG at hp2
  rcases List.mem_or_eq_of_mem_set hp2 with hq | hq
  · split at hq
    · exact h p hq
    · rcases List.mem_append.1 hq with hq | hq
      · exact h p hq
      · rw [List.mem_singleton.1 hq]; rfl
  · rw [hq]; show decide (base + posOf al key < m) = true
    exact decide_eq_true (by omega)
theorem foldG_tok {m base : Nat} (i : Int) : ∀ (l : List Note) {al : GL}, TokLt m al → base + al.length + l.length ≤ m → TokLt m (foldG base i al l)
  | [], _, h, _ => h
  | n :: r, al, h, hb => by
    rw [List.length_cons] at hb
    have := addG_len (base := base) (al := al) (key := (i, n.bar)) (n := n)
    exact foldG_tok (al := addG base al (i, n.bar) n) i r (addG_tok h (by omega) _ n) (by omega)
theorem okMapT {m : Nat} {al : GL} (h : TokLt m al) : okObj m (.map (Go.Ab.encM ekP evT al)) = true := by
  show (Go.Ab.encM ekP evT al).all (fun kv => okRef m 3 kv.2) = true
  rw [List.all_eq_true]; intro x hx
  obtain ⟨p, hp, rfl⟩ := List.mem_map.1 hx
  exact h p hp
def cNo : Option Note → List (List AV)
  | none => []
  | some n => [encN n]
def cKo (i : Int) : Option Note → List (List AV)
  | none => []
  | some n => [[.int i, .int n.bar]]
def lastO (l : List Note) : Nat → Option Note
  | 0 => none
  | k + 1 => some (l.getD k default)
def preS (o0 o1 o2 : AObj) (a b s : Score) (i : Int) (al : GL) (k : Nat) (o : Option Note) : Store := [o0, o1, o2, .dead, .dead, .map (Go.Ab.encM ekP evT al), .map [], .var (pc a b 5 6), .var (encS s), .arr 12 k (cNo o), .arr 2 k (cKo i o)]
theorem preS_ok {o0 o1 o2 : AObj} (h : Pure3 o0 o1 o2) {m : Nat} (hm : 8 ≤ m) (a b s : Score) (i : Int) {al : GL} (ht : TokLt m al) (k : Nat) (o : Option Note) : (preS o0 o1 o2 a b s i al k o).all (okObj m) = true := by
  obtain ⟨h0, h1, h2⟩ := h m
  have h3 : okObj m (.arr 12 k (cNo o)) = true := by cases o <;> rfl
  have h4 : okObj m (.arr 2 k (cKo i o)) = true := by cases o <;> rfl
  simp only [preS, List.all_cons, List.all_nil, h0, h1, h2, okMapT ht, okVarPc m hm, h3, h4]; rfl
theorem EStep.appendG {P : Program} {n : Nat} {ops : Array Oper} {o : Oper} {env : Env} {σ : Store} {T : Tab} {k : Env → Store → Prop} (hT : T.Ok P) {s x : Operand} {t tx e : TypeId} {d l : Nat} {v : List Note × Tok} {m : Note} {s1 b1 : Nat} {z : List Z} {le : LI} (ho : o.op = .call { callee := .builtin .append, args := #[s, x], argTypes := #[t, tx] })
    (hg : o.guard = none) (hd : o.dst = some d) (hdn : d < n) (hv : v.2 = .own l ∨ v = ([], .fresh)) (hs : Rd env s (evT v)) (hσ : σ[l]? = some (.own 12 (v.1.map encN).length)) {u : AV} (hx : Rd env x u) (hsrc : AppSrc T tx 12 u [encN m])
    (hl : LOk P t ⟨.slice e, s1, b1, z⟩) (he : LOk P e le) (hsz : le.size = 12) (hz0 : le.zero.length = le.size) (hb : le.bytes ≤ 1000) (hbound : v.1.length ≤ 1000000000)
    (hk : k (env.put d (evT (v.1 ++ [m], .own l))) (σ.set l (.own 12 (v.1.map encN ++ [encN m]).length))) : EStep P n ops o k env σ := by
  obtain ⟨es, tk⟩ := v
  rcases hv with hv | hv
  · have hv : tk = .own l := hv
    subst hv
    have hbd : ((es.map encN).length + [encN m].length) * le.bytes ≤ 140737488355328 := by
      have h1 : (es.map encN).length + [encN m].length ≤ 1000000001 := by simp; exact hbound
      calc ((es.map encN).length + [encN m].length) * le.bytes ≤ 1000000001 * 1000 := Nat.mul_le_mul h1 hb
        _ ≤ _ := by omega
    refine EStep.appendOwn' hT ho hg hd hdn hs hσ hx hsrc hl he hsz hz0 hbd (by simp; have : es.length ≤ 1000000000 := hbound; omega) ?_
    have e1 : evT (es ++ [m], .own l) = .sl 12 (es.map encN ++ [encN m]) (.own l) := by show AV.sl 12 ((es ++ [m]).map encN) (.own l) = _; rw [List.map_append]; rfl
    rw [e1] at hk; exact hk
  · cases hv
    exact EStep.appendAt hT ho hg hd hdn hs hσ hx hsrc (Nat.succ_pos _) hl he hsz hz0 (by simp; omega) (by simp) hk
end Go.Proofs.YtekfpcgagoidcaaGreatDoor.Al

