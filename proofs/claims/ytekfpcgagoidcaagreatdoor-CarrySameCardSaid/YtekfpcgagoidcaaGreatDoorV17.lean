/- Contracts by content: align.newPair.  Contracts by content: align.newPair makes the map of notes.  Contracts by content: the reference of parts. No statement is proved here. -/
import Derived.Test.YtekfpcgagoidcaaGreatDoorV9
import Derived.Test.YtekfpcgagoidcaaGreatDoorV12
import Derived.Test.YtekfpcgagoidcaaGreatDoorV13
import Derived.Test.YtekfpcgagoidcaaGreatDoorV16
set_option linter.unusedVariables false
set_option linter.unusedSimpArgs false
namespace Go.Ab
theorem AWP.kill {P : Program} {n : Nat} {c : Code} {K : Exit → Env → Store → Prop} {env : Env} {σ : Store} (l : Nat) {o : AObj} (hσ : σ[l]? = some o) (hk : AWP P n c K env (σ.set l .dead)) : AWP P n c K env σ := by
  intro G a w hr
  exact hk G a w ⟨hr.size, hr.defers, hr.vals, SRel.retell (o' := .dead) hr.st hσ fun g _ _ => .dead g⟩
theorem AWP.drawYM {P : Program} {n : Nat} (eff : Oper → Bool) {id : Nat} {l : List Oper} {K : Exit → Env → Store → Prop} {env : Env} {σ : Store} (S : Nat → Store) (h0 : S 0 = σ)
    (hm : P.follows .mixedOrders = true) (hB : Region.lexB .any l.toArray = true) (hd : dstsOk n l.toArray = true) (hE : rngB .any l.toArray eff (loOf l eff) (hiOf l eff) (rankOf l eff) l.length 0 (Array.replicate l.length false) = true)
    (h : ∀ K' : Env → Nat → Prop, (∀ e j, K .normal e (S j) → K' e j) → YQ P n l.toArray S eff (loOf l eff) (hiOf l eff) (rankOf l eff) K' l 0 env 0) : AWP P n (.region id l.toArray true) K env σ := by
  subst h0
  intro G a w hr
  simp only [Region.lexB, zA2] at hB
  refine wpIn_region_any hm ?_
  have := yAny_lex (md := .any) l 0 (Array.replicate l.toArray.size false) env 0 (by simp) (by simpa using hE) (by simpa using hB.2) (h (fun e j => K .normal e (S j)) fun _ _ h => h)
  refine wpAny_of_yAny _ hd _ _ env 0 (by simpa using this) G a _ ⟨hr.size, hr.defers, hr.vals, hr.st.drew⟩ _ ?_
  intro G' env' j' a' w' hg hk hr'
  exact ⟨env', S j', G', hk, hg, hr'⟩
end Go.Ab
namespace Go.Proofs.YtekfpcgagoidcaaGreatDoor.Al
open Go.Ab Go.Sort
attribute [local irreducible] AWP AOps EStep AQ PStep PRun PCall TCall VCall
def effM (o : Oper) : Bool := effOp o || match o.op with | .mapEntry _ _ _ => true | _ => false
theorem pairKA : KeyLaw Tryz.prog 60 ekP := keyLaw_pair (e := 3) (by kernel_rfl) (by kernel_rfl) (by kernel_rfl) (by kernel_rfl)
def pc (a b : Score) (m k : Nat) : List AV := encS a ++ encS b ++ [.map m, .map k]
def PairS (o0 o1 o2 : AObj) (a b : Score) (al : NL) (kn : List (KeyP × Int)) : Store := [o0, o1, o2, .dead, .dead, .map (Go.Ab.encM ekP evN al), .map (Go.Ab.encM ekP AV.int kn), .var (pc a b 5 6)]
theorem okMapN (m : Nat) (al : NL) : okObj m (.map (Go.Ab.encM ekP evN al)) = true := by
  show (Go.Ab.encM ekP evN al).all (fun kv => okRef m 3 kv.2) = true
  rw [zA5]; intro x hx
  obtain ⟨p, _, rfl⟩ := zAp.1 hx
  rfl
theorem okMapI (m : Nat) (kn : List (KeyP × Int)) : okObj m (.map (Go.Ab.encM ekP AV.int kn)) = true := by
  show (Go.Ab.encM ekP AV.int kn).all (fun kv => okRef m 3 kv.2) = true
  rw [zA5]; intro x hx
  obtain ⟨p, _, rfl⟩ := zAp.1 hx
  rfl
theorem okVarPc (m : Nat) (hm : 8 ≤ m) (a b : Score) : okObj m (.var (pc a b 5 6)) = true := by
  show (decide (5 < m) && (decide (6 < m) && true)) = true
  rw [decide_eq_true (show 5 < m by omega), decide_eq_true (show 6 < m by omega)]; rfl
def Pure3 (o0 o1 o2 : AObj) : Prop := ∀ m, okObj m o0 = true ∧ okObj m o1 = true ∧ okObj m o2 = true
theorem pairS_ok {o0 o1 o2 : AObj} (h : Pure3 o0 o1 o2) {m : Nat} (hm : 8 ≤ m) (a b : Score) (al : NL) (kn : List (KeyP × Int)) : (PairS o0 o1 o2 a b al kn).all (okObj m) = true := by
  obtain ⟨h0, h1, h2⟩ := h m
  simp only [PairS, zBg, zBm, h0, h1, h2, okMapN, okMapI, okVarPc m hm]; rfl
def TokLt (m : Nat) (al : GL) : Prop := ∀ p ∈ al, okRef m 3 (evT p.2) = true
theorem addG_tok {m base : Nat} {al : GL} (h : TokLt m al) (hb : base + al.length < m) (key : KeyP) (n : Note) : TokLt m (addG base al key n) := by
  obtain ⟨_, h2, h3⟩ := findIdx_pos key al
  have hp : posOf al key ≤ al.length := by
    cases hs : (lk al key).isSome with
    | true =>
      obtain ⟨v, _, hp⟩ := h2 hs
      rcases nLg (posOf al key) al.length with h | h
      · omega
      · rw [zA3 h] at hp; cases hp
    | false => rw [h3 hs]; exact nLr _
  intro p hp2
  unfold addG entG at hp2
  rcases zCw hp2 with hq | hq
  · split at hq
    · exact h p hq
    · rcases zBr.1 hq with hq | hq
      · exact h p hq
      · rw [zAo.1 hq]; rfl
  · rw [hq]; show decide (base + posOf al key < m) = true
    exact decide_eq_true (by omega)
theorem foldG_tok {m base : Nat} (i : Int) : ∀ (l : List Note) {al : GL}, TokLt m al → base + al.length + l.length ≤ m → TokLt m (foldG base i al l)
  | [], _, h, _ => h
  | n :: r, al, h, hb => by
    rw [zAd] at hb
    have := addG_len (base := base) (al := al) (key := (i, n.bar)) (n := n)
    exact foldG_tok (al := addG base al (i, n.bar) n) i r (addG_tok h (by omega) _ n) (by omega)
theorem okMapT {m : Nat} {al : GL} (h : TokLt m al) : okObj m (.map (Go.Ab.encM ekP evT al)) = true := by
  show (Go.Ab.encM ekP evT al).all (fun kv => okRef m 3 kv.2) = true
  rw [zA5]; intro x hx
  obtain ⟨p, hp, rfl⟩ := zAp.1 hx
  exact h p hp
def cNo : Option Note → List (List AV)
  | none => []
  | some n => [encN n]
def cKo (i : Int) : Option Note → List (List AV)
  | none => []
  | some n => [[.int i, .int n.bar]]
def lastO (l : List Note) : Nat → Option Note
  | 0 => none
  | k + 1 => some (l.getD k default)
def preS (o0 o1 o2 : AObj) (a b s : Score) (i : Int) (al : GL) (k : Nat) (o : Option Note) : Store := [o0, o1, o2, .dead, .dead, .map (Go.Ab.encM ekP evT al), .map [], .var (pc a b 5 6), .var (encS s), .arr 12 k (cNo o), .arr 2 k (cKo i o)]
theorem preS_ok {o0 o1 o2 : AObj} (h : Pure3 o0 o1 o2) {m : Nat} (hm : 8 ≤ m) (a b s : Score) (i : Int) {al : GL} (ht : TokLt m al) (k : Nat) (o : Option Note) : (preS o0 o1 o2 a b s i al k o).all (okObj m) = true := by
  obtain ⟨h0, h1, h2⟩ := h m
  have h3 : okObj m (.arr 12 k (cNo o)) = true := by cases o <;> rfl
  have h4 : okObj m (.arr 2 k (cKo i o)) = true := by cases o <;> rfl
  simp only [preS, zBg, zBm, h0, h1, h2, okMapT ht, okVarPc m hm, h3, h4]; rfl
theorem EStep.appendG {P : Program} {n : Nat} {ops : Array Oper} {o : Oper} {env : Env} {σ : Store} {T : Tab} {k : Env → Store → Prop} (hT : T.Ok P) {s x : Operand} {t tx e : TypeId} {d l : Nat} {v : List Note × Tok} {m : Note} {s1 b1 : Nat} {z : List Z} {le : LI} (ho : o.op = .call { callee := .builtin .append, args := #[s, x], argTypes := #[t, tx] })
    (hg : o.guard = none) (hd : o.dst = some d) (hdn : d < n) (hv : v.2 = .own l ∨ v = ([], .fresh)) (hs : Rd env s (evT v)) (hσ : σ[l]? = some (.own 12 (v.1.map encN).length)) {u : AV} (hx : Rd env x u) (hsrc : AppSrc T tx 12 u [encN m])
    (hl : LOk P t ⟨.slice e, s1, b1, z⟩) (he : LOk P e le) (hsz : le.size = 12) (hz0 : le.zero.length = le.size) (hb : le.bytes ≤ 1000) (hbound : v.1.length ≤ 1000000000)
    (hk : k (env.put d (evT (v.1 ++ [m], .own l))) (σ.set l (.own 12 (v.1.map encN ++ [encN m]).length))) : EStep P n ops o k env σ := by
  obtain ⟨es, tk⟩ := v
  rcases hv with hv | hv
  · have hv : tk = .own l := hv
    subst hv
    have hbd : ((es.map encN).length + [encN m].length) * le.bytes ≤ 140737488355328 := by
      have h1 : (es.map encN).length + [encN m].length ≤ 1000000001 := by simp; exact hbound
      calc ((es.map encN).length + [encN m].length) * le.bytes ≤ 1000000001 * 1000 := Nat.mul_le_mul h1 hb
        _ ≤ _ := by omega
    refine apO hT ho hg hd hdn hs hσ hx hsrc hl he hsz hz0 hbd (by simp; have : es.length ≤ 1000000000 := hbound; omega) ?_
    have e1 : evT (es ++ [m], .own l) = .sl 12 (es.map encN ++ [encN m]) (.own l) := by show AV.sl 12 ((es ++ [m]).map encN) (.own l) = _; rw [zAu]; rfl
    rw [e1] at hk; exact hk
  · cases hv
    exact EStep.appendAt hT ho hg hd hdn hs hσ hx hsrc (zAb _) hl he hsz hz0 (by simp; omega) (by simp) hk
def alO (a b : Score) : Nat → NL
  | 0 => []
  | 1 => grp0 11 a
  | _ => grp1 11 11 a b
theorem alO_at (a b : Score) (ha : a.Small) (hb : b.Small) {i : Nat} (hi : i < 2) : ∃ s : Score, [a, b].getD i default = s ∧ s.Small ∧ (∀ p ∈ alO a b i, p.1.1 ≠ (i : Int)) ∧ alO a b (i + 1) = toN (foldG 11 i (toG (alO a b i)) s.notes) := by
  have h2 : i = 0 ∨ i = 1 := by omega
  rcases h2 with rfl | rfl
  · exact ⟨a, rfl, ha, (fun p hp => by cases hp), rfl⟩
  · exact ⟨b, rfl, hb, grp0_keys 11 a, rfl⟩
theorem toG_tok {m : Nat} (al : NL) : TokLt m (toG al) := fun p hp => by
  obtain ⟨q, _, rfl⟩ := zAp.1 hp; rfl
theorem lk_none_of {κ α : Type} [DecidableEq κ] (k : κ) : ∀ {al : List (κ × α)}, (∀ p ∈ al, p.1 ≠ k) → lk al k = none
  | [], _ => rfl
  | p :: r, h => by
    simp only [lk]
    rw [if_neg (h p (zAk ..))]
    exact lk_none_of k fun q hq => h q (zAj _ hq)
theorem toG_none {al : NL} {i b : Int} (h : ∀ p ∈ al, p.1.1 ≠ i) : ((lk (toG al) (i, b)).map (·.1)).getD [] = [] := by
  rw [toG_lk, lk_none_of _ fun p hp e => h p hp (by rw [e])]; rfl
theorem valG_fst (al : GL) (k : KeyP) : (valG al k).1 = ((lk al k).map (·.1)).getD [] := by
  unfold valG; cases lk al k <;> rfl
def npR (o0 o1 o2 : AObj) (a b : Score) (r : AV) (s : Store) : Prop :=
  if scoreOk a && scoreOk b then r = .tup [.ptr 7 0, .b true] ∧ ∃ al, Grp a b al ∧ s = PairS o0 o1 o2 a b al [] else r = .tup [.prim (.pointer none), .b false] ∧ s = [o0, o1, o2]
set_option maxHeartbeats 8000000 in
set_option maxRecDepth 20000 in
theorem newPair_spec {o0 o1 o2 : AObj} (h3 : Pure3 o0 o1 o2) (a b : Score) (ha : a.Small) (hb : b.Small) : TCall Tryz.prog 43 [.agg (encS a), .agg (encS b)] [o0, o1, o2] (npR o0 o1 o2 a b) := by
  have va := svalid_spec a ha
  have vb := svalid_spec b hb
  have hn2 := ha.2.2
  have hn3 := hb.2.2
  refine TCall.body Tryz.func43 rfl rfl Tryz.ntmps43 rfl rfl ?_
  repeat' (first | refine aoQ rfl rfl rfl (fun hg => by first | exact std0 | exact pcW (va) rfl rfl nd rfl nds | exact pcW (vb) rfl rfl nd rfl nds | exact pbD tabOk rfl rfl nds | exact pbS tabOk rfl rfl nds | exact std1) (by exact rfl) ?_ | refine sqW ?_ | refine rgK (fun K' hK => ?_) | (refine aoN (hK _ _ ?_); clear hK K') | refine aoE (bxW rfl rfl rfl rfl rfl tI rfl rfl ?_) | refine aoE (EStep.makeMapW rfl rfl rfl rfl ?_) | (refine cdW rfl tI (fun hc => ?_) (fun hc => ?_) <;> (first | (simp only [dEt] at hc) | (simp only [dEf, zA0, zA1] at hc) | skip)) | refine blK ?_ | refine skW ?_ | refine rtW ?_)
  · have hv : (scoreOk a && scoreOk b) = false := by
      cases h1 : scoreOk a <;> cases h2 : scoreOk b <;> simp_all
    refine ⟨.inr rfl, _, [o0, o1, o2], ?_, rfl, nLr _, ?_, rfl, rfl⟩
    · unfold npR; rw [hv]; exact ⟨rfl, rfl⟩
    · obtain ⟨k0, k1, k2⟩ := h3 3
      simp only [zAd, zAi, zBg, zBm, k0, k1, k2]; rfl
  have hv : (scoreOk a && scoreOk b) = true := by
    cases h1 : scoreOk a <;> cases h2 : scoreOk b <;> simp_all
  clear hc va vb
  refine AWP.kill 3 rfl (AWP.kill 4 rfl ?_)
  refine lpD (ι := Nat) (fun i => [(6, .ptr 7 0), (28, .sl 4 ([a, b].map encS) .fresh), (29, .int 2), (30, .int i)]) (fun i => PairS o0 o1 o2 a b (alO a b i) []) (fun i => i ≤ 2) (fun i => 2 - i) 8 (fun _ => rfl) 0 (nZl _) ⟨rfl, rfl, rfl, rfl, tI⟩ rfl (fun _ _ => rfl) (fun i _ => pairS_ok h3 (nLr _) a b _ _) ?_
  intro i hi
  by_cases hlt : i < 2
  · obtain ⟨s, hs, hsm, hkey, hst⟩ := alO_at a b ha hb hlt
    have hn1 := hsm.2.2
    have hs' : ([a, b].getD ((i : Nat) : Int).toNat default) = s := by rw [zAe]; exact hs
    repeat' (first | refine aoQ rfl rfl rfl (fun hg => by first | exact iX encS ([a, b]) ((i : Nat) : Int) hs' (hb := ⟨zCt _, Int.ofNat_lt.2 (show _ < 2 by omega)⟩) | exact std0 | exact std1) (by exact rfl) ?_ | refine sqW ?_ | refine rgK (fun K' hK => ?_) | (refine aoN (hK _ _ ?_); clear hK K') | refine aoE (stW tabOk rfl rfl rfl tI rfl rfl tI rfl rfl rfl rfl rfl rfl rfl ?_) | refine aoE (alW tabOk rfl rfl rfl rfl rfl rfl ?_) | (refine cdW rfl tI (fun hc => ?_) (fun hc => ?_) <;> (first | (simp only [dEt] at hc) | (simp only [dEf, zA0, zA1] at hc) | skip)) | refine blK ?_ | refine exW ?_ | refine skW ?_ | refine rtW ?_)
    all_goals (first | (exfalso; omega) | skip)
    generalize hal : alO a b i = al0 at *
    refine AWP.mapWeak (ek := ekP) (ev := evN) (ev' := evT) (al := al0) 5 (fun l : List Note => (l, Tok.no)) (by rfl) (fun _ _ _ _ h => h) ?_
    refine AWP.newArr 12 (AWP.newArr 2 (AWP.newOwns 12 (al0.length + s.notes.length + 1) ?_))
    have hown := fun k : Nat => foldG_spec 11 i (s.notes.take k) (toG al0) (toG_own hkey)
    have hlen0 : (toG al0).length = al0.length := by simp [toG]
    have htok : ∀ k, k ≤ s.notes.length → TokLt (11 + (al0.length + s.notes.length + 1)) (foldG 11 i (toG al0) (s.notes.take k)) := fun k hk => foldG_tok i _ (toG_tok al0) (by rw [hlen0, zB3]; omega)
    refine lpD (ι := Nat) (fun k => [(6, .ptr 7 0), (7, .int i), (28, .sl 4 ([a, b].map encS) .fresh), (29, .int 2), (30, .int i), (36, .sl 12 (s.notes.map encN) .no), (37, .int s.notes.length), (38, .int k)])
      (fun k => preS o0 o1 o2 a b s i (foldG 11 i (toG al0) (s.notes.take k)) k (lastO s.notes k) ++ objs (foldG 11 i (toG al0) (s.notes.take k)) (al0.length + s.notes.length + 1))
      (fun k => k ≤ s.notes.length) (fun k => s.notes.length - k) (11 + (al0.length + s.notes.length + 1)) (fun k => by rw [lLa, objs_len]; rfl) 0 (nZl _) ⟨rfl, rfl, rfl, rfl, rfl, rfl, rfl, rfl, tI⟩
      (by rw [List.take_zero]; show _ = preS o0 o1 o2 a b s i (toG al0) 0 none ++ objs (toG al0) _; rw [objs_new]; rfl)
      (fun _ _ => by show (decide (7 < 11 + _) && _) = true; rw [decide_eq_true (by omega)]; rfl) (fun k hk => by rw [zCp, objs_ok, preS_ok h3 (by omega) a b s i (htok k hk)]; rfl) ?_
    intro k hk
    by_cases hkl : k < s.notes.length
    · obtain ⟨n, hn⟩ : ∃ n, s.notes.getD k default = n := ⟨_, rfl⟩
      have hstep : foldG 11 i (toG al0) (s.notes.take (k + 1)) = addG 11 (foldG 11 i (toG al0) (s.notes.take k)) ((i : Int), n.bar) n := by rw [takeS hkl, hn, foldG_snoc]
      have hlast : lastO s.notes (k + 1) = some n := by rw [← hn]; rfl
      obtain ⟨g1, g2, g3⟩ := hown k
      rw [hlen0, zB3] at g2
      obtain ⟨e1, e2, e3, e4⟩ := entG_at g1 (key := ((i : Int), n.bar)) rfl
      have e5 := objs_at g1 (key := ((i : Int), n.bar)) rfl (N := al0.length + s.notes.length + 1) (by omega)
      have e6 := objs_add g1 (key := ((i : Int), n.bar)) rfl n (N := al0.length + s.notes.length + 1) (by omega)
      have e7 : (valG (foldG 11 i (toG al0) (s.notes.take k)) ((i : Int), n.bar)).1.length ≤ 1000000000 := by
        rw [valG_fst, g3, toG_none hkey, if_pos rfl]
        have := zCu (fun m : Note => m.bar == n.bar) (s.notes.take k)
        rw [zB3] at this
        simp only [List.nil_append]; omega
      generalize foldG 11 i (toG al0) (s.notes.take k) = G at *
      generalize al0.length + s.notes.length + 1 = N at *
      clear hs' hown htok hst hs
      repeat' (first | refine aoE (EStep.allocArrV (l := 9) tabOk rfl rfl rfl rfl rfl rfl rfl rfl ?_) | refine aoE (EStep.allocArrV (l := 10) tabOk rfl rfl rfl rfl rfl rfl rfl rfl ?_) | refine aoQ rfl rfl rfl (fun hg => by first | exact iX encN s.notes ((k : Nat) : Int) hn (hb := by omega) | exact std0 | exact PRun.fieldE tabOk rfl rfl nd rfl rfl | exact PRun.loadE tabOk rfl rfl nd rfl (zAb _) rfl rfl rfl | exact PRun.buildAW tabOk rfl rfl nds) (by exact rfl) ?_ | refine sqW ?_ | refine rgK (fun K' hK => ?_) | (refine aoN (hK _ _ ?_); clear hK K') | refine aoE (EStep.storeE (l := 9) tabOk rfl rfl rfl tI rfl (zAb _) rfl tI rfl rfl rfl rfl rfl rfl ?_) | refine aoE (EStep.storeE (l := 10) tabOk rfl rfl rfl tI rfl (zAb _) rfl tI rfl rfl rfl rfl rfl rfl ?_) | (refine cdW rfl tI (fun hc => ?_) (fun hc => ?_) <;> (first | (simp only [dEt] at hc) | (simp only [dEf, zA0, zA1] at hc) | skip)) | refine blK ?_ | refine exW ?_ | refine skW ?_)
      all_goals (first | (exfalso; omega) | skip)
      refine AWP.drawYM effM (fun j => match j with | 0 => preS o0 o1 o2 a b s i G (k + 1) (some n) ++ objs G N | 1 => preS o0 o1 o2 a b s i (entG G ((i : Int), n.bar)) (k + 1) (some n) ++ objs G N | 2 => preS o0 o1 o2 a b s i (entG G ((i : Int), n.bar)) (k + 1) (some n) ++ objs (addG 11 G ((i : Int), n.bar) n) N | _ => preS o0 o1 o2 a b s i (addG 11 G ((i : Int), n.bar) n) (k + 1) (some n) ++ objs (addG 11 G ((i : Int), n.bar) n) N) rfl (by kernel_rfl) (by decide +kernel) rfl (by decide +kernel) (fun K' hK => ?_)
      repeat' (first
        | refine yqQ (a := 0) (b := 0) rfl (by decide +kernel) (by decide +kernel) rfl rfl rfl (fun k h1 h2 hg => by (have hk : k = 0 := (by omega)); (rcases hk with rfl) <;> (first | exact std0 | exact PRun.fieldE tabOk rfl rfl nd rfl rfl | exact PRun.loadE tabOk rfl rfl nd rfl (zAb _) rfl rfl rfl | exact pbS tabOk rfl rfl nds | exact std1)) (by exact rfl) ?_
        | refine yqQ (a := 0) (b := 1) rfl (by decide +kernel) (by decide +kernel) rfl rfl rfl (fun k h1 h2 hg => by (have hk : k = 0 ∨ k = 1 := (by omega)); (rcases hk with rfl | rfl) <;> (first | exact std0 | exact PRun.fieldE tabOk rfl rfl nd rfl rfl | exact PRun.loadE tabOk rfl rfl nd rfl (zAb _) rfl rfl rfl | exact pbS tabOk rfl rfl nds | exact std1)) (by exact rfl) ?_
        | refine yqQ (a := 1) (b := 1) rfl (by decide +kernel) (by decide +kernel) rfl rfl rfl (fun k h1 h2 hg => by (have hk : k = 1 := (by omega)); (rcases hk with rfl) <;> (first | exact std0 | exact PRun.fieldE tabOk rfl rfl nd rfl rfl | exact PRun.loadE tabOk rfl rfl nd rfl (zAb _) rfl rfl rfl | exact pbS tabOk rfl rfl nds | exact std1)) (by exact rfl) ?_
        | refine yqQ (a := 0) (b := 2) rfl (by decide +kernel) (by decide +kernel) rfl rfl rfl (fun k h1 h2 hg => by (have hk : k = 0 ∨ k = 1 ∨ k = 2 := (by omega)); (rcases hk with rfl | rfl | rfl) <;> (first | exact std0 | exact PRun.fieldE tabOk rfl rfl nd rfl rfl | exact PRun.loadE tabOk rfl rfl nd rfl (zAb _) rfl rfl rfl | exact pbS tabOk rfl rfl nds | exact std1)) (by exact rfl) ?_
        | refine yqQ (a := 1) (b := 2) rfl (by decide +kernel) (by decide +kernel) rfl rfl rfl (fun k h1 h2 hg => by (have hk : k = 1 ∨ k = 2 := (by omega)); (rcases hk with rfl | rfl) <;> (first | exact std0 | exact PRun.fieldE tabOk rfl rfl nd rfl rfl | exact PRun.loadE tabOk rfl rfl nd rfl (zAb _) rfl rfl rfl | exact pbS tabOk rfl rfl nds | exact std1)) (by exact rfl) ?_
        | refine yqQ (a := 2) (b := 2) rfl (by decide +kernel) (by decide +kernel) rfl rfl rfl (fun k h1 h2 hg => by (have hk : k = 2 := (by omega)); (rcases hk with rfl) <;> (first | exact std0 | exact PRun.fieldE tabOk rfl rfl nd rfl rfl | exact PRun.loadE tabOk rfl rfl nd rfl (zAb _) rfl rfl rfl | exact pbS tabOk rfl rfl nds | exact std1)) (by exact rfl) ?_)
      refine YQ.e (v := .tup [evT (valG G ((i : Int), n.bar)), .int (posOf G ((i : Int), n.bar))]) (d := some 54) rfl rfl rfl ?_ ?_
      · intro env' he
        exact EStep.mapEnt (l := 5) (ek := ekP) (ev := evT) (al := G) (key := ((i : Int), n.bar)) (v0 := ([], .fresh)) pairKA (LOk.of (tabOk.get rfl)) (LOk.of (tabOk.get rfl)) rfl rfl rfl rfl (Rd.w ((rdv_congr (he 49 (by decide +kernel))).trans rfl) (by rw [rdn_congr (he 49 (by decide +kernel))]; first | exact tI | exact rfl)) rfl (Rd.w ((rdv_congr (he 50 (by decide +kernel))).trans rfl) (by rw [rdn_congr (he 50 (by decide +kernel))]; first | exact tI | exact rfl)) rfl (fun _ _ _ => .slz 12 .fresh rfl) ⟨rfl, rfl⟩
      repeat' (first
        | refine yqQ (a := 0) (b := 0) rfl (by decide +kernel) (by decide +kernel) rfl rfl rfl (fun k h1 h2 hg => by (have hk : k = 0 := (by omega)); (rcases hk with rfl) <;> (first | exact std0 | exact std1)) (by exact rfl) ?_
        | refine yqQ (a := 0) (b := 1) rfl (by decide +kernel) (by decide +kernel) rfl rfl rfl (fun k h1 h2 hg => by (have hk : k = 0 ∨ k = 1 := (by omega)); (rcases hk with rfl | rfl) <;> (first | exact std0 | exact std1)) (by exact rfl) ?_
        | refine yqQ (a := 1) (b := 1) rfl (by decide +kernel) (by decide +kernel) rfl rfl rfl (fun k h1 h2 hg => by (have hk : k = 1 := (by omega)); (rcases hk with rfl) <;> (first | exact std0 | exact std1)) (by exact rfl) ?_
        | refine yqQ (a := 0) (b := 2) rfl (by decide +kernel) (by decide +kernel) rfl rfl rfl (fun k h1 h2 hg => by (have hk : k = 0 ∨ k = 1 ∨ k = 2 := (by omega)); (rcases hk with rfl | rfl | rfl) <;> (first | exact std0 | exact std1)) (by exact rfl) ?_
        | refine yqQ (a := 1) (b := 2) rfl (by decide +kernel) (by decide +kernel) rfl rfl rfl (fun k h1 h2 hg => by (have hk : k = 1 ∨ k = 2 := (by omega)); (rcases hk with rfl | rfl) <;> (first | exact std0 | exact std1)) (by exact rfl) ?_
        | refine yqQ (a := 2) (b := 2) rfl (by decide +kernel) (by decide +kernel) rfl rfl rfl (fun k h1 h2 hg => by (have hk : k = 2 := (by omega)); (rcases hk with rfl) <;> (first | exact std0 | exact std1)) (by exact rfl) ?_)
      refine YQ.e (v := evT ((valG G ((i : Int), n.bar)).1 ++ [n], .own (11 + posOf G ((i : Int), n.bar)))) (d := some 55) rfl rfl rfl ?_ ?_
      · intro env' he
        refine EStep.appendG (l := 11 + posOf G ((i : Int), n.bar)) (v := valG G ((i : Int), n.bar)) (m := n) tabOk rfl rfl rfl (by decide) e2 (Rd.w ((rdv_congr (he 51 (by decide +kernel))).trans rfl) (by rw [rdn_congr (he 51 (by decide +kernel))]; first | exact tI | exact rfl)) ?_ (Rd.w ((rdv_congr (he 53 (by decide +kernel))).trans rfl) (by rw [rdn_congr (he 53 (by decide +kernel))]; first | exact tI | exact rfl)) (.sl rfl (by intro x hx; rcases zAo.1 hx with rfl; rfl)) (LOk.of (tabOk.get rfl)) (LOk.of (tabOk.get rfl)) rfl rfl (by decide) e7 ⟨rfl, ?_⟩
        · show (preS o0 o1 o2 a b s i (entG G ((i : Int), n.bar)) (k + 1) (some n) ++ objs G N)[11 + posOf G ((i : Int), n.bar)]? = _
          rw [zA7 (by show 11 ≤ _; omega)]
          show (objs G N)[11 + posOf G ((i : Int), n.bar) - 11]? = _
          rw [zC5]; exact e5
        · show (preS o0 o1 o2 a b s i (entG G ((i : Int), n.bar)) (k + 1) (some n) ++ objs G N).set (11 + posOf G ((i : Int), n.bar)) _ = preS o0 o1 o2 a b s i (entG G ((i : Int), n.bar)) (k + 1) (some n) ++ objs (addG 11 G ((i : Int), n.bar) n) N
          rw [List.set_append_right _ _ (by show 11 ≤ _; omega)]
          show _ ++ (objs G N).set (11 + posOf G ((i : Int), n.bar) - 11) _ = _
          rw [zC5, e6]
      repeat' (first
        | refine yqQ (a := 0) (b := 0) rfl (by decide +kernel) (by decide +kernel) rfl rfl rfl (fun k h1 h2 hg => by (have hk : k = 0 := (by omega)); (rcases hk with rfl) <;> (first | exact std0 | exact std1)) (by exact rfl) ?_
        | refine yqQ (a := 0) (b := 1) rfl (by decide +kernel) (by decide +kernel) rfl rfl rfl (fun k h1 h2 hg => by (have hk : k = 0 ∨ k = 1 := (by omega)); (rcases hk with rfl | rfl) <;> (first | exact std0 | exact std1)) (by exact rfl) ?_
        | refine yqQ (a := 1) (b := 1) rfl (by decide +kernel) (by decide +kernel) rfl rfl rfl (fun k h1 h2 hg => by (have hk : k = 1 := (by omega)); (rcases hk with rfl) <;> (first | exact std0 | exact std1)) (by exact rfl) ?_
        | refine yqQ (a := 0) (b := 2) rfl (by decide +kernel) (by decide +kernel) rfl rfl rfl (fun k h1 h2 hg => by (have hk : k = 0 ∨ k = 1 ∨ k = 2 := (by omega)); (rcases hk with rfl | rfl | rfl) <;> (first | exact std0 | exact std1)) (by exact rfl) ?_
        | refine yqQ (a := 1) (b := 2) rfl (by decide +kernel) (by decide +kernel) rfl rfl rfl (fun k h1 h2 hg => by (have hk : k = 1 ∨ k = 2 := (by omega)); (rcases hk with rfl | rfl) <;> (first | exact std0 | exact std1)) (by exact rfl) ?_
        | refine yqQ (a := 2) (b := 2) rfl (by decide +kernel) (by decide +kernel) rfl rfl rfl (fun k h1 h2 hg => by (have hk : k = 2 := (by omega)); (rcases hk with rfl) <;> (first | exact std0 | exact std1)) (by exact rfl) ?_)
      refine YQ.e (v := .any) (d := none) rfl rfl rfl ?_ ?_
      · intro env' he
        exact EStep.entStore (l := 5) (i := posOf G ((i : Int), n.bar)) (al := entG G ((i : Int), n.bar)) (key := ((i : Int), n.bar)) (v1 := valG G ((i : Int), n.bar)) (v := ((valG G ((i : Int), n.bar)).1 ++ [n], .own (11 + posOf G ((i : Int), n.bar)))) rfl rfl rfl (Rd.w ((rdv_congr (he 49 (by decide +kernel))).trans rfl) (by rw [rdn_congr (he 49 (by decide +kernel))]; first | exact tI | exact rfl)) rfl (Rd.w ((rdv_congr (he 56 (by decide +kernel))).trans rfl) (by rw [rdn_congr (he 56 (by decide +kernel))]; first | exact tI | exact rfl)) e3 (Rd.w ((rdv_congr (he 55 (by decide +kernel))).trans rfl) (by rw [rdn_congr (he 55 (by decide +kernel))]; first | exact tI | exact rfl)) ⟨rfl, rfl⟩
      refine YQ.nil (hK _ _ ?_)
      clear hK K'
      repeat' (first | refine aoQ rfl rfl rfl (fun hg => by exact std0) (by exact rfl) ?_ | refine rgK (fun K' hK => ?_) | (refine aoN (hK _ _ ?_); clear hK K'))
      refine ⟨k + 1, by omega, by omega, ⟨rfl, rfl, rfl, rfl, rfl, rfl, rfl, rfl, tI⟩, ?_⟩
      show _ = preS o0 o1 o2 a b s i (foldG 11 i (toG al0) (s.notes.take (k + 1))) (k + 1) (lastO s.notes (k + 1)) ++ objs (foldG 11 i (toG al0) (s.notes.take (k + 1))) N
      rw [hstep, hlast]
      exact zAs (by show (preS o0 o1 o2 a b s i (addG 11 G ((i : Int), n.bar) n) (k + 1) (some n) ++ objs (addG 11 G ((i : Int), n.bar) n) N).length ≤ _; rw [lLa, objs_len]; exact nLr _)
    · obtain rfl : k = s.notes.length := by omega
      refine AWP.mapWeak (ev' := evN) 5 (fun v : List Note × Tok => v.1) (by rfl) (fun v M B x h => EntB.no _ _ _ _ _ _ h) ?_
      repeat' (first | refine aoQ rfl rfl rfl (fun hg => by first | exact std0 | exact std1) (by exact rfl) ?_ | refine sqW ?_ | refine rgK (fun K' hK => ?_) | (refine aoN (hK _ _ ?_); clear hK K') | refine aoE (alW tabOk rfl rfl rfl rfl rfl rfl ?_) | (refine cdW rfl tI (fun hc => ?_) (fun hc => ?_) <;> (first | (simp only [dEt] at hc) | (simp only [dEf, zA0, zA1] at hc) | skip)) | refine blK ?_ | refine exW ?_ | refine skW ?_)
      all_goals (first | (exfalso; omega) | skip)
      refine ⟨i + 1, by omega, by omega, ⟨rfl, rfl, rfl, rfl, tI⟩, ?_⟩
      rw [hst, zBt]; rfl
  · obtain rfl : i = 2 := by omega
    repeat' (first | refine aoQ rfl rfl rfl (fun hg => by first | exact std0 | exact std1) (by exact rfl) ?_ | refine sqW ?_ | refine rgK (fun K' hK => ?_) | (refine aoN (hK _ _ ?_); clear hK K') | refine aoE (stW tabOk rfl rfl rfl tI rfl rfl tI rfl rfl rfl rfl rfl rfl rfl ?_) | refine aoE (alW tabOk rfl rfl rfl rfl rfl rfl ?_) | (refine cdW rfl tI (fun hc => ?_) (fun hc => ?_) <;> (first | (simp only [dEt] at hc) | (simp only [dEf, zA0, zA1] at hc) | skip)) | refine blK ?_ | refine exW ?_ | refine skW ?_ | refine rtW ?_)
    all_goals (first | (exfalso; omega) | skip)
    refine ⟨.inr rfl, _, PairS o0 o1 o2 a b (alO a b 2) [], ?_, rfl, (by show 3 ≤ 8; decide), pairS_ok h3 (nLr _) a b _ _, rfl, rfl⟩
    unfold npR; rw [hv]
    exact ⟨rfl, _, grp_ok 11 11 a b, rfl⟩
end Go.Proofs.YtekfpcgagoidcaaGreatDoor.Al
namespace Go.Proofs.YtekfpcgagoidcaaGreatDoor
open Go.Ab
attribute [local irreducible] AWP AOps EStep AQ PStep PRun PCall TCall VCall
theorem r8in_spec (a b c : Int) : PCall Tryz.prog 88 [.int a, .int b, .int c] (.b (inB a b c)) := by
  refine PCall.body Tryz.func88 rfl rfl Tryz.ntmps88 rfl rfl ?_
  repeat' (first | refine aoQ rfl rfl rfl (fun hg => by exact std0) (by exact rfl) ?_ | refine sqW ?_ | refine rgK (fun K' hK => ?_) | (refine aoN (hK _ _ ?_); clear hK K') | refine rtW ?_)
  exact ⟨.inr rfl, Ent.b rfl⟩
theorem r8shift_spec (i : Interval) : PCall Tryz.prog 153 [.agg (encI i)] (.b (shiftOk i)) := by
  refine PCall.body Tryz.func153 rfl rfl Tryz.ntmps153 rfl rfl ?_
  repeat' (first | refine aoQ rfl rfl rfl (fun hg => by first | exact std0 | exact pcW (r3fifths_spec i) rfl rfl nd rfl nds | exact pcW (r8in_spec _ _ _) rfl rfl nd rfl nds) (by exact rfl) ?_ | refine sqW ?_ | refine rgK (fun K' hK => ?_) | (refine aoN (hK _ _ ?_); clear hK K') | refine aoE (bxW rfl rfl rfl rfl rfl tI rfl rfl ?_) | refine rtW ?_)
  exact ⟨.inr rfl, Ent.b rfl⟩
set_option maxHeartbeats 1000000 in
theorem part1_spec (p : Part) : PCall Tryz.prog 116 [.agg (encP p)] (.b (partOk p)) := by
  have h1 := r8shift_spec p.shift
  have h2 := r2valid_spec p.low
  have h3 := r2valid_spec p.high
  refine PCall.body Tryz.func116 rfl rfl Tryz.ntmps116 rfl rfl ?_
  repeat' (first | refine aoQ rfl rfl rfl (fun hg => by first | exact std0 | exact pcW (r8in_spec _ _ _) rfl rfl nd rfl nds | exact pcW (h1) rfl rfl nd rfl nds | exact pcW (h2) rfl rfl nd rfl nds | exact pcW (h3) rfl rfl nd rfl nds) (by exact rfl) ?_ | refine sqW ?_ | refine rgK (fun K' hK => ?_) | (refine aoN (hK _ _ ?_); clear hK K') | refine aoE (bxW rfl rfl rfl rfl rfl tI rfl rfl ?_) | (refine cdW rfl tI (fun hc => ?_) (fun hc => ?_) <;> (first | (simp only [dEt] at hc) | (simp only [dEf, zA0, zA1] at hc) | skip)) | refine skW ?_ | refine rtW ?_ | refine dK2 (by decide +kernel) (by kernel_rfl) (by decide +kernel) rfl (fun K' hK => ?_) | refine aqQ rfl rfl (fun hg => by exact std0) (by exact rfl) ?_)
  · refine ⟨.inr rfl, Ent.b (Eq.symm ?_)⟩
    unfold partOk partBad partNums
    revert hc
    generalize inB p.id 1 1000000 = z1
    generalize inB p.section_ 0 99 = z2
    generalize inB p.of_ 0 1000000 = z3
    generalize inB p.octave (-2) 2 = z4
    generalize inB p.desks 1 40 = z5
    generalize shiftOk p.shift = z6
    generalize pitchOk p.low = z7
    generalize pitchOk p.high = z8
    generalize (p.of_ == p.id) = z9
    generalize (p.of_ == 0 && p.octave != 0) = z10
    generalize decide ((numR2 p.low).1 ≤ (numR2 p.high).1) = z11
    revert z1 z2 z3 z4 z5 z6 z7 z8 z9 z10 z11; decide
  · have hv : pitchOk p.low = true ∧ pitchOk p.high = true := by
      simp only [zAh, zAr] at hc
      exact ⟨hc.1.2, hc.2⟩
    have h4 := sound_spec p.low (pitchIn_ok hv.1)
    have h5 := sound_spec p.high (pitchIn_ok hv.2)
    rw [soundR_num hv.1] at h4
    rw [soundR_num hv.2] at h5
    repeat' (first | refine rtW ?_ | (refine aqN (hK _ ?_); clear hK K') | refine aqQ rfl rfl (fun hg => by first | exact std0 | exact pcW (h4) rfl rfl nd rfl nds | exact pcW (h5) rfl rfl nd rfl nds) (by exact rfl) ?_)
    refine ⟨.inr rfl, Ent.b (Eq.symm ?_)⟩
    unfold partOk partBad partNums
    show _ = ((p.of_ != p.id && (p.of_ != 0 || p.octave == 0)) && decide ((numR2 p.low).1 ≤ (numR2 p.high).1))
    simp only [bne]
    revert hc
    generalize inB p.id 1 1000000 = z1
    generalize inB p.section_ 0 99 = z2
    generalize inB p.of_ 0 1000000 = z3
    generalize inB p.octave (-2) 2 = z4
    generalize inB p.desks 1 40 = z5
    generalize shiftOk p.shift = z6
    generalize pitchOk p.low = z7
    generalize pitchOk p.high = z8
    generalize (p.of_ == p.id) = z9
    generalize (p.of_ == 0) = z10
    generalize decide ((numR2 p.low).1 ≤ (numR2 p.high).1) = z11
    generalize (p.octave == 0) = z12
    revert z1 z2 z3 z4 z5 z6 z7 z8 z9 z10 z11 z12; decide
def partAt (l : List Part) (id : Int) : Int := findI (fun b : Part => b.id == id) l
def noteAt (l : List Note) (id : Int) : Int := findI (fun b : Note => b.id == id) l
theorem partAt_spec (l : List Part) (id : Int) (hl : l.length ≤ 9223372036854775807) : PCall Tryz.prog 117 [.sl 13 (l.map encP) .no, .int id] (.int (partAt l id)) := by
  refine PCall.body Tryz.func117 rfl rfl Tryz.ntmps117 rfl rfl ?_
  repeat' (first | refine aoQ rfl rfl rfl (fun hg => by exact std0) (by exact rfl) ?_ | refine sqW ?_ | refine rgK (fun K' hK => ?_) | (refine aoN (hK _ _ ?_); clear hK K') | refine blK ?_)
  refine lpW (ι := Nat) (fun k => [(0, .sl 13 (l.map encP) .no), (1, .int id), (5, .int k)]) (fun _ => []) (fun k => k ≤ l.length ∧ ∀ j, j < k → ((l.getD j default).id == id) = false) (fun k => l.length - k) 0 ⟨nZl _, fun j h => absurd h (by omega)⟩ ⟨rfl, rfl, rfl, tI⟩ rfl ?_
  rintro k ⟨hk, hall⟩
  by_cases hlt : k < l.length
  · repeat' (first | refine aoQ rfl rfl rfl (fun hg => by first | exact std0 | exact std1) (by exact rfl) ?_ | refine sqW ?_ | refine rgK (fun K' hK => ?_) | (refine aoN (hK _ _ ?_); clear hK K') | (refine cdW rfl tI (fun hc => ?_) (fun hc => ?_) <;> (first | (simp only [dEt] at hc) | (simp only [dEf, zA0, zA1] at hc) | skip)) | refine blK ?_ | refine exW ?_ | refine skW ?_ | refine rtW ?_)
    · refine ⟨.inr rfl, Ent.int ?_⟩
      exact (findI_at hlt hc hall).symm
    · exact ⟨k + 1, ⟨by omega, fun j hj => lt_succ_cases hall hc hj⟩, by omega, ⟨rfl, rfl, rfl, tI⟩, rfl⟩
    · exfalso; omega
  · repeat' (first | refine aoQ rfl rfl rfl (fun hg => by first | exact std0 | exact std1) (by exact rfl) ?_ | refine sqW ?_ | refine rgK (fun K' hK => ?_) | (refine aoN (hK _ _ ?_); clear hK K') | (refine cdW rfl tI (fun hc => ?_) (fun hc => ?_) <;> (first | (simp only [dEt] at hc) | (simp only [dEf, zA0, zA1] at hc) | skip)) | refine blK ?_ | refine exW ?_ | refine skW ?_ | refine rtW ?_)
    all_goals (first | (exfalso; omega) | skip)
    refine ⟨.inr rfl, Ent.int ?_⟩
    exact (findI_no fun j hj => hall j (by omega)).symm
theorem noteAt_spec (l : List Note) (id : Int) (hl : l.length ≤ 9223372036854775807) : PCall Tryz.prog 40 [.sl 12 (l.map encN) .no, .int id] (.int (noteAt l id)) := by
  refine PCall.body Tryz.func40 rfl rfl Tryz.ntmps40 rfl rfl ?_
  repeat' (first | refine aoQ rfl rfl rfl (fun hg => by exact std0) (by exact rfl) ?_ | refine sqW ?_ | refine rgK (fun K' hK => ?_) | (refine aoN (hK _ _ ?_); clear hK K') | refine blK ?_)
  refine lpW (ι := Nat) (fun k => [(0, .sl 12 (l.map encN) .no), (1, .int id), (5, .int k)]) (fun _ => []) (fun k => k ≤ l.length ∧ ∀ j, j < k → ((l.getD j default).id == id) = false) (fun k => l.length - k) 0 ⟨nZl _, fun j h => absurd h (by omega)⟩ ⟨rfl, rfl, rfl, tI⟩ rfl ?_
  rintro k ⟨hk, hall⟩
  by_cases hlt : k < l.length
  · repeat' (first | refine aoQ rfl rfl rfl (fun hg => by first | exact std0 | exact std1) (by exact rfl) ?_ | refine sqW ?_ | refine rgK (fun K' hK => ?_) | (refine aoN (hK _ _ ?_); clear hK K') | (refine cdW rfl tI (fun hc => ?_) (fun hc => ?_) <;> (first | (simp only [dEt] at hc) | (simp only [dEf, zA0, zA1] at hc) | skip)) | refine blK ?_ | refine exW ?_ | refine skW ?_ | refine rtW ?_)
    · refine ⟨.inr rfl, Ent.int ?_⟩
      exact (findI_at hlt hc hall).symm
    · exact ⟨k + 1, ⟨by omega, fun j hj => lt_succ_cases hall hc hj⟩, by omega, ⟨rfl, rfl, rfl, tI⟩, rfl⟩
    · exfalso; omega
  · repeat' (first | refine aoQ rfl rfl rfl (fun hg => by first | exact std0 | exact std1) (by exact rfl) ?_ | refine sqW ?_ | refine rgK (fun K' hK => ?_) | (refine aoN (hK _ _ ?_); clear hK K') | (refine cdW rfl tI (fun hc => ?_) (fun hc => ?_) <;> (first | (simp only [dEt] at hc) | (simp only [dEf, zA0, zA1] at hc) | skip)) | refine blK ?_ | refine exW ?_ | refine skW ?_ | refine rtW ?_)
    all_goals (first | (exfalso; omega) | skip)
    refine ⟨.inr rfl, Ent.int ?_⟩
    exact (findI_no fun j hj => hall j (by omega)).symm
theorem partAt_in (l : List Part) (id : Int) : (partAt l id = -1 ∧ ∀ q ∈ l, q.id ≠ id) ∨ ∃ j : Nat, partAt l id = j ∧ j < l.length ∧ (l.getD j default).id = id ∧ ∀ i, i < j → (l.getD i default).id ≠ id := by
  rcases (show partAt l id < 0 ∨ 0 ≤ partAt l id by omega) with h | h
  · left
    refine ⟨findI_neg.1 h, fun q hq e => ?_⟩
    have h2 := findI_neg.1 h
    unfold findI at h2
    split at h2
    · omega
    · rename_i h3
      rw [zCv] at h3
      have := h3 q hq
      simp [e] at this
  · right
    obtain ⟨k, h1, h2, h3, h4⟩ := findI_lt h
    exact ⟨k, h1, h2, by simpa using h3, fun i hi => by simpa using h4 i hi⟩
def ownX (l : List Part) (n : Note) : Int := if partAt l n.part < 0 then -1 else if (l.getD (partAt l n.part).toNat default).of_ != 0 then -1 else partAt l n.part
theorem own_spec (l : List Part) (n : Note) (hl : l.length ≤ 9223372036854775807) : PCall Tryz.prog 119 [.sl 13 (l.map encP) .no, .agg (encN n)] (.int (ownX l n)) := by
  have h1 := partAt_spec l n.part hl
  have hx : -1 ≤ partAt l n.part ∧ partAt l n.part < l.length := by
    rcases partAt_in l n.part with ⟨h, _⟩ | ⟨j, h, h2, _⟩ <;> omega
  refine PCall.body Tryz.func119 rfl rfl Tryz.ntmps119 rfl rfl ?_
  repeat' (first | refine aoQ rfl rfl rfl (fun hg => by first | exact std0 | exact pcW (h1) rfl rfl nd rfl nds | exact std1) (by exact rfl) ?_ | refine sqW ?_ | refine rgK (fun K' hK => ?_) | (refine aoN (hK _ _ ?_); clear hK K') | refine aoE (bxW rfl rfl rfl rfl rfl tI rfl rfl ?_) | (refine cdW rfl tI (fun hc => ?_) (fun hc => ?_) <;> (first | (simp only [dEt] at hc) | (simp only [dEf, zA0, zA1] at hc) | skip)) | refine skW ?_ | refine rtW ?_)
  · exact ⟨.inr rfl, Ent.int (by unfold ownX; rw [if_pos hc])⟩
  · exact ⟨.inr rfl, Ent.int (by unfold ownX; rw [if_neg (by omega), if_pos hc])⟩
  · exact ⟨.inr rfl, Ent.int (by unfold ownX; rw [if_neg (by omega), if_neg (by rw [hc]; decide)])⟩
def partX (l : List Part) (i : Nat) : Bool := partOk (l.getD i default) && (partAt l (l.getD i default).id == i) && ((l.getD i default).of_ == 0 || (decide (0 ≤ partAt l (l.getD i default).of_) && (l.getD (partAt l (l.getD i default).of_).toNat default).of_ == 0))
def partsX (l : List Part) : Bool := inB l.length 1 60 && (List.range l.length).all (partX l)
theorem partsX_spec (l : List Part) (hl : l.length ≤ 9223372036854775807) : PCall Tryz.prog 87 [.sl 13 (l.map encP) .no] (.b (partsX l)) := by
  refine PCall.body Tryz.func87 rfl rfl Tryz.ntmps87 rfl rfl ?_
  repeat' (first | refine aoQ rfl rfl rfl (fun hg => by first | exact std0 | exact std1) (by exact rfl) ?_ | refine sqW ?_ | refine rgK (fun K' hK => ?_) | (refine aoN (hK _ _ ?_); clear hK K') | (refine cdW rfl tI (fun hc => ?_) (fun hc => ?_) <;> (first | (simp only [dEt] at hc) | (simp only [dEf, zA0, zA1] at hc) | skip)) | refine blK ?_ | refine skW ?_ | refine rtW ?_)
  · refine ⟨.inr rfl, Ent.b (Eq.symm ?_)⟩
    unfold partsX inB
    simp at hc
    by_cases h : (1 : Int) ≤ l.length
    · rw [decide_eq_false (show ¬ (l.length : Int) ≤ 60 by omega)]; simp
    · rw [decide_eq_false h]; rfl
  have hn : inB (l.length : Int) 1 60 = true := by simp [inB]; simp at hc; omega
  clear hc
  refine lpW (ι := Nat) (fun k => [(0, .sl 13 (l.map encP) .no), (3, .int k)]) (fun _ => []) (fun k => k ≤ l.length ∧ (∀ j, j < k → partX l j = true)) (fun k => l.length - k) 0 ⟨nZl _, fun j h => absurd h (by omega)⟩ ⟨rfl, rfl, tI⟩ rfl ?_
  rintro k ⟨hk, hall⟩
  by_cases hlt : k < l.length
  · have h1 := part1_spec (l.getD k default)
    have h2 := partAt_spec l (l.getD k default).id hl
    have h3 := partAt_spec l (l.getD k default).of_ hl
    have hx : partAt l (l.getD k default).of_ < l.length := by
      rcases partAt_in l (l.getD k default).of_ with ⟨h, _⟩ | ⟨j, h, h2, _⟩ <;> omega
    have bad : ∀ b, partX l k = false → partsX l = b → b = false := fun b h e => by
      rw [← e]; unfold partsX; rw [allR_no hlt h]; simp
    repeat' (first | refine aoQ rfl rfl rfl (fun hg => by first | exact std0 | exact pcW (h1) rfl rfl nd rfl nds | exact pcW (h2) rfl rfl nd rfl nds | exact pcW (h3) rfl rfl nd rfl nds | exact std1) (by exact rfl) ?_ | refine sqW ?_ | refine rgK (fun K' hK => ?_) | (refine aoN (hK _ _ ?_); clear hK K') | (refine cdW rfl tI (fun hc => ?_) (fun hc => ?_) <;> (first | (simp only [dEt] at hc) | (simp only [dEf, zA0, zA1] at hc) | skip)) | refine blK ?_ | refine exW ?_ | refine skW ?_ | refine rtW ?_)
    all_goals (first | (exfalso; omega) | skip)
    · refine ⟨.inr rfl, Ent.b (Eq.symm (bad _ ?_ rfl))⟩
      unfold partX
      have h4 : (partOk (l.getD k default) && (partAt l (l.getD k default).id == (k : Int))) = false := by
        revert hc
        show ((!partOk (l.getD k default)) || (partAt l (l.getD k default).id != (k : Int))) = true → _
        unfold bne
        generalize partOk (l.getD k default) = z1
        generalize (partAt l (l.getD k default).id == (k : Int)) = z2
        revert z1 z2; decide
      rw [h4]; rfl
    · rename_i hc1
      have h4 : (partOk (l.getD k default) && (partAt l (l.getD k default).id == (k : Int))) = true := by
        revert hc1
        show ((!partOk (l.getD k default)) || (partAt l (l.getD k default).id != (k : Int))) = false → _
        unfold bne
        generalize partOk (l.getD k default) = z1
        generalize (partAt l (l.getD k default).id == (k : Int)) = z2
        revert z1 z2; decide
      have h5 : ((l.getD k default).of_ == 0) = true := hc
      refine ⟨k + 1, ⟨by omega, fun i hi => lt_succ_cases hall (by unfold partX; rw [h4, h5]; rfl) hi⟩, by omega, ⟨rfl, rfl, tI⟩, rfl⟩
    · refine ⟨.inr rfl, Ent.b (Eq.symm (bad _ ?_ rfl))⟩
      rename_i hc1
      have h5 : ((l.getD k default).of_ == 0) = false := hc1
      have h6 : decide (0 ≤ partAt l (l.getD k default).of_) = false := decide_eq_false (by omega)
      unfold partX
      rw [h5, h6]; simp
    · refine ⟨.inr rfl, Ent.b (Eq.symm (bad _ ?_ rfl))⟩
      rename_i hc2 hc3
      have h5 : ((l.getD k default).of_ == 0) = false := hc2
      have h7 : ((l.getD (partAt l (l.getD k default).of_).toNat default).of_ == 0) = false := by
        revert hc; show ((l.getD (partAt l (l.getD k default).of_).toNat default).of_ != 0) = true → _; unfold bne; simp
      unfold partX
      rw [h5, h7]; simp
    · rename_i hc1 hc2 hc3
      have h4 : (partOk (l.getD k default) && (partAt l (l.getD k default).id == (k : Int))) = true := by
        revert hc1
        show ((!partOk (l.getD k default)) || (partAt l (l.getD k default).id != (k : Int))) = false → _
        unfold bne
        generalize partOk (l.getD k default) = z1
        generalize (partAt l (l.getD k default).id == (k : Int)) = z2
        revert z1 z2; decide
      have h6 : decide (0 ≤ partAt l (l.getD k default).of_) = true := decide_eq_true (by omega)
      have h7 : ((l.getD (partAt l (l.getD k default).of_).toNat default).of_ == 0) = true := by
        revert hc; show ((l.getD (partAt l (l.getD k default).of_).toNat default).of_ != 0) = false → _; unfold bne; simp
      refine ⟨k + 1, ⟨by omega, fun i hi => lt_succ_cases hall (by unfold partX; rw [h4, h6, h7]; simp) hi⟩, by omega, ⟨rfl, rfl, tI⟩, rfl⟩
  · repeat' (first | refine aoQ rfl rfl rfl (fun hg => by first | exact std0 | exact std1) (by exact rfl) ?_ | refine sqW ?_ | refine rgK (fun K' hK => ?_) | (refine aoN (hK _ _ ?_); clear hK K') | (refine cdW rfl tI (fun hc => ?_) (fun hc => ?_) <;> (first | (simp only [dEt] at hc) | (simp only [dEf, zA0, zA1] at hc) | skip)) | refine blK ?_ | refine exW ?_ | refine skW ?_ | refine rtW ?_)
    all_goals (first | (exfalso; omega) | skip)
    refine ⟨.inr rfl, Ent.b ?_⟩
    unfold partsX
    rw [hn, allR_yes fun j hj => hall j (by omega)]; rfl
end Go.Proofs.YtekfpcgagoidcaaGreatDoor
