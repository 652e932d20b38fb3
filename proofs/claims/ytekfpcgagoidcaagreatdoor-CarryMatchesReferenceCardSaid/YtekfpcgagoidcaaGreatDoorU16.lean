/- Appends to an empty slice that was written out: at a growing array that was numbered ahead. Contracts by content: align.newPair.  Contracts by content: align.newPair makes the map of notes. No statement is proved here. -/
import Derived.Test.YtekfpcgagoidcaaGreatDoorU11
import Derived.Test.YtekfpcgagoidcaaGreatDoorU12
import Derived.Test.YtekfpcgagoidcaaGreatDoorU13
import Derived.Test.YtekfpcgagoidcaaGreatDoorU15
set_option linter.unusedVariables false
set_option linter.unusedSimpArgs false
namespace Go.Ab
theorem PCall.argE {P : Program} {f : FuncId} {u v : AV} {l : List AV} {r : AV} (he : Ent u v) (h : PCall P f (v :: l) r) : PCall P f (u :: l) r :=
 ⟨h.1, fun M w vs hm ha => h.2 M w vs hm ⟨ha.1, fun i c hi => by
  match i, hi with
  | 0, hi =>
    have h1 := ha.2 0 u rfl
    simp at hi; subst hi
    exact he _ _ h1
  | i + 1, hi => exact ha.2 (i + 1) c hi⟩⟩
section
variable {P : Program} {n : Nat} {ops : Array Oper} {o : Oper} {env : Env} {σ : Store} {k : Env → Store → Prop} {T : Tab}
theorem EStep.appendAt (hT : T.Ok P) {s x : Operand} {t tx e : TypeId} {d l sz : Nat} {es2 : List (List AV)} {u : AV} {s1 b1 : Nat} {z : List Z} {le : LI} (ho : o.op = .call { callee := .builtin .append, args := #[s, x], argTypes := #[t, tx] })
 (hg : o.guard = none) (hd : o.dst = some d) (hdn : d < n) (hs : Rd env s (.sl sz [] .fresh)) (hσ : σ[l]? = some (.own sz 0)) (hx : Rd env x u) (hsrc : AppSrc T tx sz u es2) (hpos : 0 < es2.length)
 (hl : LOk P t ⟨.slice e, s1, b1, z⟩) (he : LOk P e le) (hsz : le.size = sz) (hz0 : le.zero.length = le.size) (hbound : es2.length * le.bytes ≤ 140737488355328) (hb2 : es2.length ≤ 9223372036854775807)
 (hk : k (env.put d (.sl sz es2 (.own l))) (σ.set l (.own sz es2.length))) : EStep P n ops o k env σ := by
 refine EStep.plain hg fun G a w hr => ?_
 have h1 := hr.rd hs
 obtain ⟨news, hS, hN⟩ := hsrc.src hT hr.st.memok (hr.rd hx)
 generalize hA : a.eval s = sv at h1
 obtain ⟨i, hi1, hi2, hi3, hi4⟩ := he.info
 have hund := hl.undSlice
 have hS' : Src P i.size tx (a.eval x) es2.length news w := by rw [hi2, hsz]; exact hS
 have hNs : news.length = es2.length * sz := by have := hN.1; simpa using this
 have hsv : ∃ ad, sv = .slice ad 0 0 := by
  cases h1 with
  | sl _ _ _ b off cap f hz hm hr hc ht => exact ⟨_, by rw [show cap = 0 from ht]; rfl⟩
  | slz => exact ⟨none, rfl⟩
 obtain ⟨ad, rfl⟩ := hsv
 have hgb : ∃ g, G.B[l]? = some g := ⟨_, zA9 (by
  rw [hr.st.len]
  rcases zAa l σ.length with h | h
  · exact h
  · simp [zA1 h] at hσ)⟩
 obtain ⟨g, hgl⟩ := hgb
 have hobj := hr.st.objs l g _ hgl hσ
 have hzc : le.zeroVal.cells.size = sz := by
  unfold LI.zeroVal
  cases ha : le.lt.isAgg with
  | true => simp [Value.cells, hz0, hsz]
  | false =>
    obtain ⟨z', hz'⟩ := he.one ha
    rw [hz'] at hz0 ⊢
    simp at hz0
    rw [← hsz, ← hz0]
    cases z' <;> rfl
 have hgle : g.Le (.own (some w.heap.size) (grownCap w es2.length 0 e) es2.length) := by
  cases hobj with
  | ownz => exact .inr ⟨_, _, _, rfl, hpos⟩
  | own b cap sz n' c T' fr hb hf hlc hn hm => exact .inr ⟨_, _, _, rfl, hpos⟩
 have hold : (Builtin.firstCells i.size 0 (.slice ad 0 0)).run P w.drew = .ok ([] : List Value).toArray w.drew := by
  cases ad with
  | none => rfl
  | some ad =>
    have := run_loadCells_list (P := P) w.drew ad [] (fun j v hj => by simp at hj)
    simp only [Builtin.firstCells, zDd]
    simpa using this
 have hrun := run_append_grow_src (P := P) w t tx o.type e i le.zeroVal hund hi1 (by rw [hi4]; rfl) ad 0 0 [] hold (a.eval x) es2.length news hS' (by omega) (by omega) (growslice_fits (by omega) (by rw [hi3]; simpa using hbound))
 simp only [zBp, List.nil_append] at hrun
 have hcapge : es2.length ≤ grownCap w es2.length 0 e := grownCap_ge _ _ _ _
 generalize hrow : (news.toArray ++ Builtin.zeroCells le.zeroVal.cells (grownCap w es2.length 0 e - es2.length)) = row at hrun
 have hrowsz : row.size = grownCap w es2.length 0 e * sz := by
  rw [← hrow]
  simp only [Array.size_append, zCd, size_zeroCells, hzc, hNs, ← zB7]
  congr 1; omega
 have hrun2 : (execOp a.eval o).run P w = .ok (.value (.slice (some ⟨w.heap.size, 0, none⟩) es2.length (grownCap w es2.length 0 e))) (w.drew.alloc (.cells row e)) := by
  simp [execOp, ho, resolve, invoke, builtin, hA, hrun]
 unfold OWP
 rw [hrun2]
 have row2 : ∀ o, o < es2.length * sz → row.getD o undef = news.toArray.getD o undef := by
  intro o ho
  rw [← hrow]
  simp only [zA4]
  rw [zAr (by simp; omega)]
 have hm0 := (mem_lt hr.st.memok _ (zAo w.heap.size)).1
 let M' : Mem := { G.M with cell := fun b o => if b = w.heap.size then (if o < es2.length * sz then some (row.getD o undef) else none) else G.M.cell b o }
 have hle : G.M.Le M' := ⟨fun b o v hv => by
  show (if b = w.heap.size then _ else _) = _
  split
  · rename_i e; subst e; rw [hm0 o] at hv; cases hv
  · exact hv, fun _ _ h => h⟩
 have hheap : (w.drew.alloc (.cells row e)).heap[w.heap.size]? = some (.cells row e) := by rw [heap_alloc]; simp
 have hok : MemOk M' (w.drew.alloc (.cells row e)) := by
  refine ⟨fun b o v hv => ?_, fun b es' hb => ?_, hr.st.memok.g.mono hle⟩
  · change (if b = w.heap.size then _ else _) = _ at hv
    split at hv
    · rename_i eb; subst eb
      split at hv
      · rename_i ho
        have hlt2 : o < row.size := by
         rw [hrowsz]
         exact zBz ho (zB8 _ hcapge)
        simp only [World.cell?, hheap]
        simp at hv
        simp [hlt2, ← hv]
      · simp at hv
    · have h2 := hr.st.memok.1 _ _ _ hv
      have hlt2 := World.block_lt_of_cell? _ _ h2
      have : (w.drew.alloc (.cells row e)).cell? ⟨b, o, none⟩ = w.drew.cell? ⟨b, o, none⟩ := World.cell?_alloc_lt _ _ _ hlt2
      rw [this]; exact h2
  · obtain ⟨cl, h2⟩ := hr.st.memok.2 _ _ hb
    refine ⟨cl, ?_⟩
    rw [heap_alloc]
    split
    · rename_i eb; subst eb; simp at h2
    · exact h2
 have hcells : ∀ o, o < es2.length * sz → M'.cell w.heap.size o = some (row.getD o undef) := fun o ho => by
  show (if w.heap.size = w.heap.size then _ else _) = _
  rw [if_pos rfl, if_pos ho]
 have hs2 : SRel { G with M := M', B := G.B.set l (.own (some w.heap.size) (grownCap w es2.length 0 e) es2.length) } (σ.set l (.own sz es2.length)) (w.drew.alloc (.cells row e)) := by
  refine hr.st.regrow hgl hle hgle rfl (by simp) (fun k hk hk2 => by rw [heap_alloc]; simp [Nat.ne_of_lt hk2]; rfl) rfl (fun b hb o => if_neg hb) hok (.inr (zAo _)) (by simp) OutR.r ?_
  exact .own w.heap.size _ sz _ row e (0, 0) hheap (by intro o _; simp) hrowsz hcapge fun o ho => by
   show (if w.heap.size = w.heap.size then _ else _) = _
   rw [if_pos rfl, if_neg (by omega)]
 have hG : G.Le { G with M := M', B := G.B.set l (.own (some w.heap.size) (grownCap w es2.length 0 e) es2.length) } := .up hle (BLe.set hgl hgle)
 refine ⟨_, _, _, hk, hG, ?_⟩
 rw [hd]
 have hr' : ARel n { G with M := M', B := G.B.set l (.own (some w.heap.size) (grownCap w es2.length 0 e) es2.length) } env (σ.set l (.own sz es2.length)) a (w.drew.alloc (.cells row e)) := ⟨hr.size, hr.defers, fun i => (hr.vals i).mono hle (BLe.set hgl hgle), hs2⟩
 refine hr'.put hdn ?_
 have hN' : AppRel M' sz es2 news.toArray := ⟨hN.1, hN.2.1, fun i j e a x y => (hN.2.2 i j e a x y).mono hle (BLe.refl _)⟩
 have hO' : AppRel M' sz [] ([] : List Value).toArray := ⟨by simp, by simp, fun i j e a h => by simp at h⟩
 have := vrel_row (M := M') (B := G.B.set l (.own (some w.heap.size) (grownCap w es2.length 0 e) es2.length)) (sz := sz) (es := [] ++ es2) (t := .own l) (b := w.heap.size) (cap := grownCap w es2.length 0 e) (c := row)
  (fun e he => hN.2.1 e (by simpa using he)) (by simpa using hcapge) (fun o ho => hcells o (by simpa using ho)) (get_append2 hO' hN' (fun o ho => by simp at ho) (fun o ho => by simpa using row2 o ho))
  ⟨some w.heap.size, grownCap w es2.length 0 e, es2.length, by rw [zAj (by
   rcases zAa l G.B.length with h | h
   · exact h
   · simp [zA1 h] at hgl)], by simp, fun _ => ⟨by simp, rfl⟩⟩
 simpa using this
end
end Go.Ab
namespace Go.Ab
theorem AWP.kill {P : Program} {n : Nat} {c : Code} {K : Exit → Env → Store → Prop} {env : Env} {σ : Store} (l : Nat) {o : AObj} (hσ : σ[l]? = some o) (hk : AWP P n c K env (σ.set l .dead)) : AWP P n c K env σ := by
 intro G a w hr
 exact hk G a w ⟨hr.size, hr.defers, hr.vals, SRel.retell (o' := .dead) hr.st hσ fun g _ _ => .dead g⟩
theorem AWP.drawYM {P : Program} {n : Nat} (eff : Oper → Bool) {id : Nat} {l : List Oper} {K : Exit → Env → Store → Prop} {env : Env} {σ : Store} (S : Nat → Store) (h0 : S 0 = σ)
 (hm : P.follows .mixedOrders = true) (hB : Region.lexB .any l.toArray = true) (hd : dstsOk n l.toArray = true) (hE : rngB .any l.toArray eff (loOf l eff) (hiOf l eff) (rankOf l eff) l.length 0 (Array.replicate l.length false) = true)
 (h : ∀ K' : Env → Nat → Prop, (∀ e j, K .normal e (S j) → K' e j) → YQ P n l.toArray S eff (loOf l eff) (hiOf l eff) (rankOf l eff) K' l 0 env 0) : AWP P n (.region id l.toArray true) K env σ := by
 subst h0
 intro G a w hr
 simp only [Region.lexB, zA0] at hB
 refine wpIn_region_any hm ?_
 have := yAny_lex (md := .any) l 0 (Array.replicate l.toArray.size false) env 0 (by simp) (by simpa using hE) (by simpa using hB.2) (h (fun e j => K .normal e (S j)) fun _ _ h => h)
 refine wpAny_of_yAny _ hd _ _ env 0 (by simpa using this) G a _ ⟨hr.size, hr.defers, hr.vals, hr.st.drew⟩ _ ?_
 intro G' env' j' a' w' hg hk hr'
 exact ⟨env', S j', G', hk, hg, hr'⟩
end Go.Ab
namespace Go.Proofs.YtekfpcgagoidcaaGreatDoor.Al
open Go.Ab Go.Sort
attribute [local irreducible] AWP AOps EStep AQ PStep PRun PCall TCall VCall
def effM (o : Oper) : Bool := effOp o || match o.op with | .mapEntry _ _ _ => true | _ => false
theorem pairKA : KeyLaw Tryz.prog 60 ekP := keyLaw_pair (e := 3) (by kernel_rfl) (by kernel_rfl) (by kernel_rfl) (by kernel_rfl)
def pc (a b : Score) (m k : Nat) : List AV := encS a ++ encS b ++ [.map m, .map k]
def PairS (o0 o1 o2 : AObj) (a b : Score) (al : NL) (kn : List (KeyP × Int)) : Store := [o0, o1, o2, .dead, .dead, .map (Go.Ab.encM ekP evN al), .map (Go.Ab.encM ekP AV.int kn), .var (pc a b 5 6)]
theorem okMapN (m : Nat) (al : NL) : okObj m (.map (Go.Ab.encM ekP evN al)) = true := by
 show (Go.Ab.encM ekP evN al).all (fun kv => okRef m 3 kv.2) = true
 rw [zA7]; intro x hx
 obtain ⟨p, _, rfl⟩ := zAu.1 hx
 rfl
theorem okMapI (m : Nat) (kn : List (KeyP × Int)) : okObj m (.map (Go.Ab.encM ekP AV.int kn)) = true := by
 show (Go.Ab.encM ekP AV.int kn).all (fun kv => okRef m 3 kv.2) = true
 rw [zA7]; intro x hx
 obtain ⟨p, _, rfl⟩ := zAu.1 hx
 rfl
theorem okVarPc (m : Nat) (hm : 8 ≤ m) (a b : Score) : okObj m (.var (pc a b 5 6)) = true := by
 show (decide (5 < m) && (decide (6 < m) && true)) = true
 rw [decide_eq_true (show 5 < m by omega), decide_eq_true (show 6 < m by omega)]; rfl
def Pure3 (o0 o1 o2 : AObj) : Prop := ∀ m, okObj m o0 = true ∧ okObj m o1 = true ∧ okObj m o2 = true
theorem pairS_ok {o0 o1 o2 : AObj} (h : Pure3 o0 o1 o2) {m : Nat} (hm : 8 ≤ m) (a b : Score) (al : NL) (kn : List (KeyP × Int)) : (PairS o0 o1 o2 a b al kn).all (okObj m) = true := by
 obtain ⟨h0, h1, h2⟩ := h m
 simp only [PairS, zBg, zBl, h0, h1, h2, okMapN, okMapI, okVarPc m hm]; rfl
def TokLt (m : Nat) (al : GL) : Prop := ∀ p ∈ al, okRef m 3 (evT p.2) = true
theorem addG_tok {m base : Nat} {al : GL} (h : TokLt m al) (hb : base + al.length < m) (key : KeyP) (n : Note) : TokLt m (addG base al key n) := by
 obtain ⟨_, h2, h3⟩ := findIdx_pos key al
 have hp : posOf al key ≤ al.length := by
  cases hs : (lk al key).isSome with
  | true =>
    obtain ⟨v, _, hp⟩ := h2 hs
    rcases nLg (posOf al key) al.length with h | h
    · omega
    · rw [zA1 h] at hp; cases hp
  | false => rw [h3 hs]; exact nLr _
 intro p hp2
 unfold addG entG at hp2
 rcases zCm hp2 with hq | hq
 · split at hq
   · exact h p hq
   · rcases zBv.1 hq with hq | hq
     · exact h p hq
     · rw [zAn.1 hq]; rfl
 · rw [hq]; show decide (base + posOf al key < m) = true
   exact decide_eq_true (by omega)
theorem foldG_tok {m base : Nat} (i : Int) : ∀ (l : List Note) {al : GL}, TokLt m al → base + al.length + l.length ≤ m → TokLt m (foldG base i al l)
 | [], _, h, _ => h
 | n :: r, al, h, hb => by
   rw [zA8] at hb
   have := addG_len (base := base) (al := al) (key := (i, n.bar)) (n := n)
   exact foldG_tok (al := addG base al (i, n.bar) n) i r (addG_tok h (by omega) _ n) (by omega)
theorem okMapT {m : Nat} {al : GL} (h : TokLt m al) : okObj m (.map (Go.Ab.encM ekP evT al)) = true := by
 show (Go.Ab.encM ekP evT al).all (fun kv => okRef m 3 kv.2) = true
 rw [zA7]; intro x hx
 obtain ⟨p, hp, rfl⟩ := zAu.1 hx
 exact h p hp
def cNo : Option Note → List (List AV)
 | none => []
 | some n => [encN n]
def cKo (i : Int) : Option Note → List (List AV)
 | none => []
 | some n => [[.int i, .int n.bar]]
def lastO (l : List Note) : Nat → Option Note
 | 0 => none
 | k + 1 => some (l.getD k default)
def preS (o0 o1 o2 : AObj) (a b s : Score) (i : Int) (al : GL) (k : Nat) (o : Option Note) : Store := [o0, o1, o2, .dead, .dead, .map (Go.Ab.encM ekP evT al), .map [], .var (pc a b 5 6), .var (encS s), .arr 12 k (cNo o), .arr 2 k (cKo i o)]
theorem preS_ok {o0 o1 o2 : AObj} (h : Pure3 o0 o1 o2) {m : Nat} (hm : 8 ≤ m) (a b s : Score) (i : Int) {al : GL} (ht : TokLt m al) (k : Nat) (o : Option Note) : (preS o0 o1 o2 a b s i al k o).all (okObj m) = true := by
 obtain ⟨h0, h1, h2⟩ := h m
 have h3 : okObj m (.arr 12 k (cNo o)) = true := by cases o <;> rfl
 have h4 : okObj m (.arr 2 k (cKo i o)) = true := by cases o <;> rfl
 simp only [preS, zBg, zBl, h0, h1, h2, okMapT ht, okVarPc m hm, h3, h4]; rfl
theorem EStep.appendG {P : Program} {n : Nat} {ops : Array Oper} {o : Oper} {env : Env} {σ : Store} {T : Tab} {k : Env → Store → Prop} (hT : T.Ok P) {s x : Operand} {t tx e : TypeId} {d l : Nat} {v : List Note × Tok} {m : Note} {s1 b1 : Nat} {z : List Z} {le : LI} (ho : o.op = .call { callee := .builtin .append, args := #[s, x], argTypes := #[t, tx] })
 (hg : o.guard = none) (hd : o.dst = some d) (hdn : d < n) (hv : v.2 = .own l ∨ v = ([], .fresh)) (hs : Rd env s (evT v)) (hσ : σ[l]? = some (.own 12 (v.1.map encN).length)) {u : AV} (hx : Rd env x u) (hsrc : AppSrc T tx 12 u [encN m])
 (hl : LOk P t ⟨.slice e, s1, b1, z⟩) (he : LOk P e le) (hsz : le.size = 12) (hz0 : le.zero.length = le.size) (hb : le.bytes ≤ 1000) (hbound : v.1.length ≤ 1000000000)
 (hk : k (env.put d (evT (v.1 ++ [m], .own l))) (σ.set l (.own 12 (v.1.map encN ++ [encN m]).length))) : EStep P n ops o k env σ := by
 obtain ⟨es, tk⟩ := v
 rcases hv with hv | hv
 · have hv : tk = .own l := hv
   subst hv
   have hbd : ((es.map encN).length + [encN m].length) * le.bytes ≤ 140737488355328 := by
    have h1 : (es.map encN).length + [encN m].length ≤ 1000000001 := by simp; exact hbound
    calc ((es.map encN).length + [encN m].length) * le.bytes ≤ 1000000001 * 1000 := Nat.mul_le_mul h1 hb
     _ ≤ _ := by omega
   refine apO hT ho hg hd hdn hs hσ hx hsrc hl he hsz hz0 hbd (by simp; have : es.length ≤ 1000000000 := hbound; omega) ?_
   have e1 : evT (es ++ [m], .own l) = .sl 12 (es.map encN ++ [encN m]) (.own l) := by show AV.sl 12 ((es ++ [m]).map encN) (.own l) = _; rw [zAs]; rfl
   rw [e1] at hk; exact hk
 · cases hv
   exact EStep.appendAt hT ho hg hd hdn hs hσ hx hsrc (zAd _) hl he hsz hz0 (by simp; omega) (by simp) hk
def alO (a b : Score) : Nat → NL
 | 0 => []
 | 1 => grp0 11 a
 | _ => grp1 11 11 a b
theorem alO_at (a b : Score) (ha : a.Small) (hb : b.Small) {i : Nat} (hi : i < 2) : ∃ s : Score, [a, b].getD i default = s ∧ s.Small ∧ (∀ p ∈ alO a b i, p.1.1 ≠ (i : Int)) ∧ alO a b (i + 1) = toN (foldG 11 i (toG (alO a b i)) s.notes) := by
 have h2 : i = 0 ∨ i = 1 := by omega
 rcases h2 with rfl | rfl
 · exact ⟨a, rfl, ha, (fun p hp => by cases hp), rfl⟩
 · exact ⟨b, rfl, hb, grp0_keys 11 a, rfl⟩
theorem toG_tok {m : Nat} (al : NL) : TokLt m (toG al) := fun p hp => by
 obtain ⟨q, _, rfl⟩ := zAu.1 hp; rfl
theorem lk_none_of {κ α : Type} [DecidableEq κ] (k : κ) : ∀ {al : List (κ × α)}, (∀ p ∈ al, p.1 ≠ k) → lk al k = none
 | [], _ => rfl
 | p :: r, h => by
   simp only [lk]
   rw [if_neg (h p (zAp ..))]
   exact lk_none_of k fun q hq => h q (zAm _ hq)
theorem toG_none {al : NL} {i b : Int} (h : ∀ p ∈ al, p.1.1 ≠ i) : ((lk (toG al) (i, b)).map (·.1)).getD [] = [] := by
 rw [toG_lk, lk_none_of _ fun p hp e => h p hp (by rw [e])]; rfl
theorem valG_fst (al : GL) (k : KeyP) : (valG al k).1 = ((lk al k).map (·.1)).getD [] := by
 unfold valG; cases lk al k <;> rfl
def npR (o0 o1 o2 : AObj) (a b : Score) (r : AV) (s : Store) : Prop :=
 if scoreOk a && scoreOk b then r = .tup [.ptr 7 0, .b true] ∧ ∃ al, Grp a b al ∧ s = PairS o0 o1 o2 a b al [] else r = .tup [.prim (.pointer none), .b false] ∧ s = [o0, o1, o2]
set_option maxHeartbeats 8000000 in
set_option maxRecDepth 20000 in
theorem newPair_spec {o0 o1 o2 : AObj} (h3 : Pure3 o0 o1 o2) (a b : Score) (ha : a.Small) (hb : b.Small) : TCall Tryz.prog 43 [.agg (encS a), .agg (encS b)] [o0, o1, o2] (npR o0 o1 o2 a b) := by
 have va := svalid_spec a ha
 have vb := svalid_spec b hb
 have hn2 := ha.2.2
 have hn3 := hb.2.2
 refine TCall.body Tryz.func43 rfl rfl Tryz.ntmps43 rfl rfl ?_
 repeat' (first | refine aoQ rfl rfl rfl (fun hg => by first | exact std0 | exact pcW (va) rfl rfl nd rfl nds | exact pcW (vb) rfl rfl nd rfl nds | exact pbD tabOk rfl rfl nds | exact pbS tabOk rfl rfl nds | exact std1) (by exact rfl) ?_ | refine sqW ?_ | refine rgK (fun K' hK => ?_) | (refine aoN (hK _ _ ?_); clear hK K') | refine aoE (bxW rfl rfl rfl rfl rfl tI rfl rfl ?_) | refine aoE (EStep.makeMapW rfl rfl rfl rfl ?_) | refine cdN rfl tI (fun hc => ?_) (fun hc => ?_) | refine blK ?_ | refine skW ?_ | refine rtW ?_)
 · have hv : (scoreOk a && scoreOk b) = false := by
    cases h1 : scoreOk a <;> cases h2 : scoreOk b <;> simp_all
   refine ⟨.inr rfl, _, [o0, o1, o2], ?_, rfl, nLr _, ?_, rfl, rfl⟩
   · unfold npR; rw [hv]; exact ⟨rfl, rfl⟩
   · obtain ⟨k0, k1, k2⟩ := h3 3
     simp only [zA8, zAg, zBg, zBl, k0, k1, k2]; rfl
 have hv : (scoreOk a && scoreOk b) = true := by
  cases h1 : scoreOk a <;> cases h2 : scoreOk b <;> simp_all
 clear hc va vb
 refine AWP.kill 3 rfl (AWP.kill 4 rfl ?_)
 refine lpD (ι := Nat) (fun i => [(6, .ptr 7 0), (28, .sl 4 ([a, b].map encS) .fresh), (29, .int 2), (30, .int i)]) (fun i => PairS o0 o1 o2 a b (alO a b i) []) (fun i => i ≤ 2) (fun i => 2 - i) 8 (fun _ => rfl) 0 (nZl _) ⟨rfl, rfl, rfl, rfl, tI⟩ rfl (fun _ _ => rfl) (fun i _ => pairS_ok h3 (nLr _) a b _ _) ?_
 intro i hi
 by_cases hlt : i < 2
 · obtain ⟨s, hs, hsm, hkey, hst⟩ := alO_at a b ha hb hlt
   have hn1 := hsm.2.2
   have hs' : ([a, b].getD ((i : Nat) : Int).toNat default) = s := by rw [zA2]; exact hs
   repeat' (first | refine aoQ rfl rfl rfl (fun hg => by first | exact iX encS ([a, b]) ((i : Nat) : Int) hs' (hb := ⟨zC2 _, Int.ofNat_lt.2 (show _ < 2 by omega)⟩) | exact std0 | exact std1) (by exact rfl) ?_ | refine sqW ?_ | refine rgK (fun K' hK => ?_) | (refine aoN (hK _ _ ?_); clear hK K') | refine aoE (stW tabOk rfl rfl rfl tI rfl rfl tI rfl rfl rfl rfl rfl rfl rfl ?_) | refine aoE (alW tabOk rfl rfl rfl rfl rfl rfl ?_) | refine cdN rfl tI (fun hc => ?_) (fun hc => ?_) | refine blK ?_ | refine exW ?_ | refine skW ?_ | refine rtW ?_)
   all_goals (first | (exfalso; omega) | skip)
   generalize hal : alO a b i = al0 at *
   refine AWP.mapWeak (ek := ekP) (ev := evN) (ev' := evT) (al := al0) 5 (fun l : List Note => (l, Tok.no)) (by rfl) (fun _ _ _ _ h => h) ?_
   refine AWP.newArr 12 (AWP.newArr 2 (AWP.newOwns 12 (al0.length + s.notes.length + 1) ?_))
   have hown := fun k : Nat => foldG_spec 11 i (s.notes.take k) (toG al0) (toG_own hkey)
   have hlen0 : (toG al0).length = al0.length := by simp [toG]
   have htok : ∀ k, k ≤ s.notes.length → TokLt (11 + (al0.length + s.notes.length + 1)) (foldG 11 i (toG al0) (s.notes.take k)) := fun k hk => foldG_tok i _ (toG_tok al0) (by rw [hlen0, zAl]; omega)
   refine lpD (ι := Nat) (fun k => [(6, .ptr 7 0), (7, .int i), (28, .sl 4 ([a, b].map encS) .fresh), (29, .int 2), (30, .int i), (36, .sl 12 (s.notes.map encN) .no), (37, .int s.notes.length), (38, .int k)])
    (fun k => preS o0 o1 o2 a b s i (foldG 11 i (toG al0) (s.notes.take k)) k (lastO s.notes k) ++ objs (foldG 11 i (toG al0) (s.notes.take k)) (al0.length + s.notes.length + 1))
    (fun k => k ≤ s.notes.length) (fun k => s.notes.length - k) (11 + (al0.length + s.notes.length + 1)) (fun k => by rw [lLa, objs_len]; rfl) 0 (nZl _) ⟨rfl, rfl, rfl, rfl, rfl, rfl, rfl, rfl, tI⟩
    (by rw [List.take_zero]; show _ = preS o0 o1 o2 a b s i (toG al0) 0 none ++ objs (toG al0) _; rw [objs_new]; rfl)
    (fun _ _ => by show (decide (7 < 11 + _) && _) = true; rw [decide_eq_true (by omega)]; rfl) (fun k hk => by rw [zCi, objs_ok, preS_ok h3 (by omega) a b s i (htok k hk)]; rfl) ?_
   intro k hk
   by_cases hkl : k < s.notes.length
   · obtain ⟨n, hn⟩ : ∃ n, s.notes.getD k default = n := ⟨_, rfl⟩
     have hstep : foldG 11 i (toG al0) (s.notes.take (k + 1)) = addG 11 (foldG 11 i (toG al0) (s.notes.take k)) ((i : Int), n.bar) n := by rw [takeS hkl, hn, foldG_snoc]
     have hlast : lastO s.notes (k + 1) = some n := by rw [← hn]; rfl
     obtain ⟨g1, g2, g3⟩ := hown k
     rw [hlen0, zAl] at g2
     obtain ⟨e1, e2, e3, e4⟩ := entG_at g1 (key := ((i : Int), n.bar)) rfl
     have e5 := objs_at g1 (key := ((i : Int), n.bar)) rfl (N := al0.length + s.notes.length + 1) (by omega)
     have e6 := objs_add g1 (key := ((i : Int), n.bar)) rfl n (N := al0.length + s.notes.length + 1) (by omega)
     have e7 : (valG (foldG 11 i (toG al0) (s.notes.take k)) ((i : Int), n.bar)).1.length ≤ 1000000000 := by
      rw [valG_fst, g3, toG_none hkey, if_pos rfl]
      have := zBf (fun m : Note => m.bar == n.bar) (s.notes.take k)
      rw [zAl] at this
      simp only [List.nil_append]; omega
     generalize foldG 11 i (toG al0) (s.notes.take k) = G at *
     generalize al0.length + s.notes.length + 1 = N at *
     clear hs' hown htok hst hs
     repeat' (first | refine aoE (EStep.allocArrV (l := 9) tabOk rfl rfl rfl rfl rfl rfl rfl rfl ?_) | refine aoE (EStep.allocArrV (l := 10) tabOk rfl rfl rfl rfl rfl rfl rfl rfl ?_) | refine aoQ rfl rfl rfl (fun hg => by first | exact iX encN s.notes ((k : Nat) : Int) hn (hb := by omega) | exact std0 | exact PRun.fieldE tabOk rfl rfl nd rfl rfl | exact PRun.loadE tabOk rfl rfl nd rfl (zAd _) rfl rfl rfl | exact PRun.buildAW tabOk rfl rfl nds) (by exact rfl) ?_ | refine sqW ?_ | refine rgK (fun K' hK => ?_) | (refine aoN (hK _ _ ?_); clear hK K') | refine aoE (EStep.storeE (l := 9) tabOk rfl rfl rfl tI rfl (zAd _) rfl tI rfl rfl rfl rfl rfl rfl ?_) | refine aoE (EStep.storeE (l := 10) tabOk rfl rfl rfl tI rfl (zAd _) rfl tI rfl rfl rfl rfl rfl rfl ?_) | refine cdN rfl tI (fun hc => ?_) (fun hc => ?_) | refine blK ?_ | refine exW ?_ | refine skW ?_)
     all_goals (first | (exfalso; omega) | skip)
     refine AWP.drawYM effM (fun j => match j with | 0 => preS o0 o1 o2 a b s i G (k + 1) (some n) ++ objs G N | 1 => preS o0 o1 o2 a b s i (entG G ((i : Int), n.bar)) (k + 1) (some n) ++ objs G N | 2 => preS o0 o1 o2 a b s i (entG G ((i : Int), n.bar)) (k + 1) (some n) ++ objs (addG 11 G ((i : Int), n.bar) n) N | _ => preS o0 o1 o2 a b s i (addG 11 G ((i : Int), n.bar) n) (k + 1) (some n) ++ objs (addG 11 G ((i : Int), n.bar) n) N) rfl (by kernel_rfl) (by decide +kernel) rfl (by decide +kernel) (fun K' hK => ?_)
     repeat' (first
      | refine yqQ (a := 0) (b := 0) rfl (by decide +kernel) (by decide +kernel) rfl rfl rfl (fun k h1 h2 hg => by (have hk : k = 0 := (by omega)); (rcases hk with rfl) <;> (first | exact std0 | exact PRun.fieldE tabOk rfl rfl nd rfl rfl | exact PRun.loadE tabOk rfl rfl nd rfl (zAd _) rfl rfl rfl | exact pbS tabOk rfl rfl nds | exact std1)) (by exact rfl) ?_
      | refine yqQ (a := 0) (b := 1) rfl (by decide +kernel) (by decide +kernel) rfl rfl rfl (fun k h1 h2 hg => by (have hk : k = 0 ∨ k = 1 := (by omega)); (rcases hk with rfl | rfl) <;> (first | exact std0 | exact PRun.fieldE tabOk rfl rfl nd rfl rfl | exact PRun.loadE tabOk rfl rfl nd rfl (zAd _) rfl rfl rfl | exact pbS tabOk rfl rfl nds | exact std1)) (by exact rfl) ?_
      | refine yqQ (a := 1) (b := 1) rfl (by decide +kernel) (by decide +kernel) rfl rfl rfl (fun k h1 h2 hg => by (have hk : k = 1 := (by omega)); (rcases hk with rfl) <;> (first | exact std0 | exact PRun.fieldE tabOk rfl rfl nd rfl rfl | exact PRun.loadE tabOk rfl rfl nd rfl (zAd _) rfl rfl rfl | exact pbS tabOk rfl rfl nds | exact std1)) (by exact rfl) ?_
      | refine yqQ (a := 0) (b := 2) rfl (by decide +kernel) (by decide +kernel) rfl rfl rfl (fun k h1 h2 hg => by (have hk : k = 0 ∨ k = 1 ∨ k = 2 := (by omega)); (rcases hk with rfl | rfl | rfl) <;> (first | exact std0 | exact PRun.fieldE tabOk rfl rfl nd rfl rfl | exact PRun.loadE tabOk rfl rfl nd rfl (zAd _) rfl rfl rfl | exact pbS tabOk rfl rfl nds | exact std1)) (by exact rfl) ?_
      | refine yqQ (a := 1) (b := 2) rfl (by decide +kernel) (by decide +kernel) rfl rfl rfl (fun k h1 h2 hg => by (have hk : k = 1 ∨ k = 2 := (by omega)); (rcases hk with rfl | rfl) <;> (first | exact std0 | exact PRun.fieldE tabOk rfl rfl nd rfl rfl | exact PRun.loadE tabOk rfl rfl nd rfl (zAd _) rfl rfl rfl | exact pbS tabOk rfl rfl nds | exact std1)) (by exact rfl) ?_
      | refine yqQ (a := 2) (b := 2) rfl (by decide +kernel) (by decide +kernel) rfl rfl rfl (fun k h1 h2 hg => by (have hk : k = 2 := (by omega)); (rcases hk with rfl) <;> (first | exact std0 | exact PRun.fieldE tabOk rfl rfl nd rfl rfl | exact PRun.loadE tabOk rfl rfl nd rfl (zAd _) rfl rfl rfl | exact pbS tabOk rfl rfl nds | exact std1)) (by exact rfl) ?_)
     refine YQ.e (v := .tup [evT (valG G ((i : Int), n.bar)), .int (posOf G ((i : Int), n.bar))]) (d := some 54) rfl rfl rfl ?_ ?_
     · intro env' he
       exact EStep.mapEnt (l := 5) (ek := ekP) (ev := evT) (al := G) (key := ((i : Int), n.bar)) (v0 := ([], .fresh)) pairKA (LOk.of (tabOk.get rfl)) (LOk.of (tabOk.get rfl)) rfl rfl rfl rfl (Rd.w ((rdv_congr (he 49 (by decide +kernel))).trans rfl) (by rw [rdn_congr (he 49 (by decide +kernel))]; first | exact tI | exact rfl)) rfl (Rd.w ((rdv_congr (he 50 (by decide +kernel))).trans rfl) (by rw [rdn_congr (he 50 (by decide +kernel))]; first | exact tI | exact rfl)) rfl (fun _ _ _ => .slz 12 .fresh rfl) ⟨rfl, rfl⟩
     repeat' (first
      | refine yqQ (a := 0) (b := 0) rfl (by decide +kernel) (by decide +kernel) rfl rfl rfl (fun k h1 h2 hg => by (have hk : k = 0 := (by omega)); (rcases hk with rfl) <;> (first | exact std0 | exact std1)) (by exact rfl) ?_
      | refine yqQ (a := 0) (b := 1) rfl (by decide +kernel) (by decide +kernel) rfl rfl rfl (fun k h1 h2 hg => by (have hk : k = 0 ∨ k = 1 := (by omega)); (rcases hk with rfl | rfl) <;> (first | exact std0 | exact std1)) (by exact rfl) ?_
      | refine yqQ (a := 1) (b := 1) rfl (by decide +kernel) (by decide +kernel) rfl rfl rfl (fun k h1 h2 hg => by (have hk : k = 1 := (by omega)); (rcases hk with rfl) <;> (first | exact std0 | exact std1)) (by exact rfl) ?_
      | refine yqQ (a := 0) (b := 2) rfl (by decide +kernel) (by decide +kernel) rfl rfl rfl (fun k h1 h2 hg => by (have hk : k = 0 ∨ k = 1 ∨ k = 2 := (by omega)); (rcases hk with rfl | rfl | rfl) <;> (first | exact std0 | exact std1)) (by exact rfl) ?_
      | refine yqQ (a := 1) (b := 2) rfl (by decide +kernel) (by decide +kernel) rfl rfl rfl (fun k h1 h2 hg => by (have hk : k = 1 ∨ k = 2 := (by omega)); (rcases hk with rfl | rfl) <;> (first | exact std0 | exact std1)) (by exact rfl) ?_
      | refine yqQ (a := 2) (b := 2) rfl (by decide +kernel) (by decide +kernel) rfl rfl rfl (fun k h1 h2 hg => by (have hk : k = 2 := (by omega)); (rcases hk with rfl) <;> (first | exact std0 | exact std1)) (by exact rfl) ?_)
     refine YQ.e (v := evT ((valG G ((i : Int), n.bar)).1 ++ [n], .own (11 + posOf G ((i : Int), n.bar)))) (d := some 55) rfl rfl rfl ?_ ?_
     · intro env' he
       refine EStep.appendG (l := 11 + posOf G ((i : Int), n.bar)) (v := valG G ((i : Int), n.bar)) (m := n) tabOk rfl rfl rfl (by decide) e2 (Rd.w ((rdv_congr (he 51 (by decide +kernel))).trans rfl) (by rw [rdn_congr (he 51 (by decide +kernel))]; first | exact tI | exact rfl)) ?_ (Rd.w ((rdv_congr (he 53 (by decide +kernel))).trans rfl) (by rw [rdn_congr (he 53 (by decide +kernel))]; first | exact tI | exact rfl)) (.sl rfl (by intro x hx; rcases zAn.1 hx with rfl; rfl)) (LOk.of (tabOk.get rfl)) (LOk.of (tabOk.get rfl)) rfl rfl (by decide) e7 ⟨rfl, ?_⟩
       · show (preS o0 o1 o2 a b s i (entG G ((i : Int), n.bar)) (k + 1) (some n) ++ objs G N)[11 + posOf G ((i : Int), n.bar)]? = _
         rw [zAc (by show 11 ≤ _; omega)]
         show (objs G N)[11 + posOf G ((i : Int), n.bar) - 11]? = _
         rw [zC0]; exact e5
       · show (preS o0 o1 o2 a b s i (entG G ((i : Int), n.bar)) (k + 1) (some n) ++ objs G N).set (11 + posOf G ((i : Int), n.bar)) _ = preS o0 o1 o2 a b s i (entG G ((i : Int), n.bar)) (k + 1) (some n) ++ objs (addG 11 G ((i : Int), n.bar) n) N
         rw [List.set_append_right _ _ (by show 11 ≤ _; omega)]
         show _ ++ (objs G N).set (11 + posOf G ((i : Int), n.bar) - 11) _ = _
         rw [zC0, e6]
     repeat' (first
      | refine yqQ (a := 0) (b := 0) rfl (by decide +kernel) (by decide +kernel) rfl rfl rfl (fun k h1 h2 hg => by (have hk : k = 0 := (by omega)); (rcases hk with rfl) <;> (first | exact std0 | exact std1)) (by exact rfl) ?_
      | refine yqQ (a := 0) (b := 1) rfl (by decide +kernel) (by decide +kernel) rfl rfl rfl (fun k h1 h2 hg => by (have hk : k = 0 ∨ k = 1 := (by omega)); (rcases hk with rfl | rfl) <;> (first | exact std0 | exact std1)) (by exact rfl) ?_
      | refine yqQ (a := 1) (b := 1) rfl (by decide +kernel) (by decide +kernel) rfl rfl rfl (fun k h1 h2 hg => by (have hk : k = 1 := (by omega)); (rcases hk with rfl) <;> (first | exact std0 | exact std1)) (by exact rfl) ?_
      | refine yqQ (a := 0) (b := 2) rfl (by decide +kernel) (by decide +kernel) rfl rfl rfl (fun k h1 h2 hg => by (have hk : k = 0 ∨ k = 1 ∨ k = 2 := (by omega)); (rcases hk with rfl | rfl | rfl) <;> (first | exact std0 | exact std1)) (by exact rfl) ?_
      | refine yqQ (a := 1) (b := 2) rfl (by decide +kernel) (by decide +kernel) rfl rfl rfl (fun k h1 h2 hg => by (have hk : k = 1 ∨ k = 2 := (by omega)); (rcases hk with rfl | rfl) <;> (first | exact std0 | exact std1)) (by exact rfl) ?_
      | refine yqQ (a := 2) (b := 2) rfl (by decide +kernel) (by decide +kernel) rfl rfl rfl (fun k h1 h2 hg => by (have hk : k = 2 := (by omega)); (rcases hk with rfl) <;> (first | exact std0 | exact std1)) (by exact rfl) ?_)
     refine YQ.e (v := .any) (d := none) rfl rfl rfl ?_ ?_
     · intro env' he
       exact EStep.entStore (l := 5) (i := posOf G ((i : Int), n.bar)) (al := entG G ((i : Int), n.bar)) (key := ((i : Int), n.bar)) (v1 := valG G ((i : Int), n.bar)) (v := ((valG G ((i : Int), n.bar)).1 ++ [n], .own (11 + posOf G ((i : Int), n.bar)))) rfl rfl rfl (Rd.w ((rdv_congr (he 49 (by decide +kernel))).trans rfl) (by rw [rdn_congr (he 49 (by decide +kernel))]; first | exact tI | exact rfl)) rfl (Rd.w ((rdv_congr (he 56 (by decide +kernel))).trans rfl) (by rw [rdn_congr (he 56 (by decide +kernel))]; first | exact tI | exact rfl)) e3 (Rd.w ((rdv_congr (he 55 (by decide +kernel))).trans rfl) (by rw [rdn_congr (he 55 (by decide +kernel))]; first | exact tI | exact rfl)) ⟨rfl, rfl⟩
     refine YQ.nil (hK _ _ ?_)
     clear hK K'
     repeat' (first | refine aoQ rfl rfl rfl (fun hg => by exact std0) (by exact rfl) ?_ | refine rgK (fun K' hK => ?_) | (refine aoN (hK _ _ ?_); clear hK K'))
     refine ⟨k + 1, by omega, by omega, ⟨rfl, rfl, rfl, rfl, rfl, rfl, rfl, rfl, tI⟩, ?_⟩
     show _ = preS o0 o1 o2 a b s i (foldG 11 i (toG al0) (s.notes.take (k + 1))) (k + 1) (lastO s.notes (k + 1)) ++ objs (foldG 11 i (toG al0) (s.notes.take (k + 1))) N
     rw [hstep, hlast]
     exact zAt (by show (preS o0 o1 o2 a b s i (addG 11 G ((i : Int), n.bar) n) (k + 1) (some n) ++ objs (addG 11 G ((i : Int), n.bar) n) N).length ≤ _; rw [lLa, objs_len]; exact nLr _)
   · obtain rfl : k = s.notes.length := by omega
     refine AWP.mapWeak (ev' := evN) 5 (fun v : List Note × Tok => v.1) (by rfl) (fun v M B x h => EntB.no _ _ _ _ _ _ h) ?_
     repeat' (first | refine aoQ rfl rfl rfl (fun hg => by first | exact std0 | exact std1) (by exact rfl) ?_ | refine sqW ?_ | refine rgK (fun K' hK => ?_) | (refine aoN (hK _ _ ?_); clear hK K') | refine aoE (alW tabOk rfl rfl rfl rfl rfl rfl ?_) | refine cdN rfl tI (fun hc => ?_) (fun hc => ?_) | refine blK ?_ | refine exW ?_ | refine skW ?_)
     all_goals (first | (exfalso; omega) | skip)
     refine ⟨i + 1, by omega, by omega, ⟨rfl, rfl, rfl, rfl, tI⟩, ?_⟩
     rw [hst, zB9]; rfl
 · obtain rfl : i = 2 := by omega
   repeat' (first | refine aoQ rfl rfl rfl (fun hg => by first | exact std0 | exact std1) (by exact rfl) ?_ | refine sqW ?_ | refine rgK (fun K' hK => ?_) | (refine aoN (hK _ _ ?_); clear hK K') | refine aoE (stW tabOk rfl rfl rfl tI rfl rfl tI rfl rfl rfl rfl rfl rfl rfl ?_) | refine aoE (alW tabOk rfl rfl rfl rfl rfl rfl ?_) | refine cdN rfl tI (fun hc => ?_) (fun hc => ?_) | refine blK ?_ | refine exW ?_ | refine skW ?_ | refine rtW ?_)
   all_goals (first | (exfalso; omega) | skip)
   refine ⟨.inr rfl, _, PairS o0 o1 o2 a b (alO a b 2) [], ?_, rfl, (by show 3 ≤ 8; decide), pairS_ok h3 (nLr _) a b _ _, rfl, rfl⟩
   unfold npR; rw [hv]
   exact ⟨rfl, _, grp_ok 11 11 a b, rfl⟩
end Go.Proofs.YtekfpcgagoidcaaGreatDoor.Al
