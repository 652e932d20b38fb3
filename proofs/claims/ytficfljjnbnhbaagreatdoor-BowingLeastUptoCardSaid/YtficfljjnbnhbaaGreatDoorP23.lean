/- Bowings in plain words: the comparison of keys, their sort, the place of a kind.  Contracts by content: bowing: the key of a note, the comparison of keys, their sort.  Contracts by content: the reference of bowing: form, alike, before, kinds.  Regions that draw their order, with chains of effects: which pairs may be exchanged. No statement is proved here. -/
import Derived.Test.YtficfljjnbnhbaaGreatDoorP11
import Derived.Test.YtficfljjnbnhbaaGreatDoorP16
import Derived.Test.YtficfljjnbnhbaaGreatDoorP22
set_option linter.unusedVariables false
set_option linter.unusedSimpArgs false
namespace Go.Proofs.YtficfljjnbnhbaaGreatDoor.Bw
open Go.Ab Go.Sort Mk
def sgn (a b : Int) : Int := if a < b then -1 else if a > b then 1 else 0
def cmpIs : List Int → List Int → Int
 | [], [] => 0
 | [], _ :: _ => -1
 | _ :: _, [] => 1
 | a :: l, b :: m => if sgn a b ≠ 0 then sgn a b else cmpIs l m
def listK (k : K3) : List Int := [k.1, k.2.1, k.2.2]
def cmp3 (a b : K3) : Int := cmpIs (listK a) (listK b)
theorem cmp3_self (a : K3) : cmp3 a a = 0 := by
 unfold cmp3 listK cmpIs cmpIs cmpIs cmpIs sgn; simp
theorem cmp3_lt (a b : K3) : cmp3 a b < 0 ↔ lt3 a b = true := by
 rw [lt3_iff]
 unfold cmp3 listK cmpIs cmpIs cmpIs cmpIs sgn
 obtain ⟨a1, a2, a3⟩ := a
 obtain ⟨b1, b2, b3⟩ := b
 dsimp only
 repeat' split
 all_goals omega
theorem ltK3 (x y : K3) : Go.Proofs.ltOf cmp3 x y = lt3 x y := by
 have h : Go.Proofs.ltOf cmp3 x y = true ↔ cmp3 x y < 0 := decide_eq_true_iff
 rw [zAs, h, cmp3_lt]
theorem swoK : SWO (Go.Proofs.ltOf cmp3) where
 irrefl x := by rw [ltK3]; exact lt3_irr x
 trans x y z h1 h2 := by rw [ltK3] at *; exact lt3_trans h1 h2
 ntrans x y z h1 h2 := by
  rw [ltK3] at *
  cases h : lt3 x z with
  | false => rfl
  | true =>
    exfalso
    rw [lt3_iff] at h
    have n1 : ¬ (lt3 x y = true) := by rw [h1]; decide
    have n2 : ¬ (lt3 y z = true) := by rw [h2]; decide
    rw [lt3_iff] at n1 n2
    omega
def sortK (l : List K3) : List K3 := sortL cmp3 l
theorem sortK_len (l : List K3) : (sortK l).length = l.length := by
 have := (sortL_spec _ swoK l).1.1
 simpa [sortK] using this
theorem sortK_perm (l : List K3) : (sortK l).Perm l := by
 have h := (sortL_spec _ swoK l).1.2.2
 have hl := sortK_len l
 rw [← hl] at h
 unfold sortK at h hl ⊢
 simp only [zCq, List.extract_toArray, List.extract_eq_take_drop, Nat.sub_zero, zDf] at h
 rw [zAu (nLr _), hl, zAu (nLr _)] at h
 exact h
theorem lt3_at {a b : K3} {k : Nat} (hk : k < 3) (hall : ∀ j, j < k → (listK a).getD j default = (listK b).getD j default) (hne : (listK a).getD k default ≠ (listK b).getD k default) : lt3 a b = decide ((listK a).getD k default < (listK b).getD k default) := by
 obtain ⟨a1, a2, a3⟩ := a
 obtain ⟨b1, b2, b3⟩ := b
 have h0 := hall 0
 have h1 := hall 1
 unfold listK at *
 rw [zAs, lt3_iff, decide_eq_true_iff]
 match k, hk with
 | 0, _ => simp at hne ⊢; omega
 | 1, _ => simp at hne h0 ⊢; omega
 | 2, _ => simp at hne h0 h1 ⊢; omega
theorem lt3_eq {a b : K3} (hall : ∀ j, j < 3 → (listK a).getD j default = (listK b).getD j default) : lt3 a b = false := by
 obtain ⟨a1, a2, a3⟩ := a
 obtain ⟨b1, b2, b3⟩ := b
 have h0 := hall 0 (by decide)
 have h1 := hall 1 (by decide)
 have h2 := hall 2 (by decide)
 unfold listK at *
 simp at h0 h1 h2
 cases h : lt3 (a1, a2, a3) (b1, b2, b3) with
 | false => rfl
 | true => rw [lt3_iff] at h; dsimp only at h; omega
theorem sortK_keys (key : Note → K3) (bs : List Bow) : sortK ((grpsL key bs).map (·.1)) = keysB key bs := by
 refine grps_keys (sortK_perm _) ?_
 have hs := (sortL_spec _ swoK ((grpsL key bs).map (·.1))).2
 generalize (grpsL key bs).map (·.1) = ks at *
 have hlen := sortK_len ks
 rw [zC1]
 intro i j hi hj hij
 have h1 := hs i j (nZl _) hij (by omega)
 have e : ∀ k (hk : k < (sortK ks).length), (sortL cmp3 ks).toArray[k]! = (sortK ks)[k] := fun k hk => by
  unfold sortK at hk ⊢
  simp [hk]
 rw [e i hi, e j hj, ltK3] at h1
 exact h1
def kAt (key : Note → K3) (n : Note) (out : List Note) : Nat → Nat
 | 0 => out.length
 | m + 1 => if (lt3 (key n) (key (out.getD m default)) && (((kAt key n out m : Nat) : Int) == (out.length : Int))) = true then m else kAt key n out m
theorem kAt_step (key : Note → K3) (n : Note) (out : List Note) : ∀ m, m ≤ out.length → (plK key n out < m → kAt key n out m = plK key n out) ∧ (m ≤ plK key n out → kAt key n out m = out.length)
 | 0, _ => ⟨fun h => by omega, fun _ => rfl⟩
 | m + 1, hm => by
   obtain ⟨h1, h2⟩ := kAt_step key n out m (by omega)
   have hml : m < out.length := by omega
   have hp : ∀ j, j < plK key n out → ∀ (h : j < out.length), lt3 (key n) (key out[j]) = false := fun j hj h => by
    have := List.not_of_lt_findIdx (p := fun x => lt3 (key n) (key x)) (xs := out) (i := j) hj
    simpa using this
   have hq : ∀ h : plK key n out < out.length, lt3 (key n) (key out[plK key n out]) = true := fun h => by
    have := List.findIdx_getElem (p := fun x => lt3 (key n) (key x)) (xs := out) (w := h)
    exact this
   unfold kAt
   rw [getD_lt hml]
   by_cases hlt : plK key n out < m
   · have e := h1 hlt
     rw [e, if_neg]
     · exact ⟨fun _ => rfl, fun h => by omega⟩
     · simp only [zA0, beq_iff_eq, not_and]
       intro _; omega
   · by_cases heq : plK key n out = m
     · have e := h2 (by omega)
       have hl := hq (by omega)
       rw [e, if_pos]
       · exact ⟨fun _ => heq.symm, fun h => by omega⟩
       · have : lt3 (key n) (key out[m]) = true := by
          have h9 := hl
          simp only [heq] at h9
          exact h9
         rw [this]; simp
     · have e := h2 (by omega)
       have hl := hp m (by omega) hml
       rw [hl, Bool.false_and, if_neg (by decide)]
       exact ⟨fun h => by omega, fun _ => e⟩
theorem kAt_all (key : Note → K3) (n : Note) (out : List Note) : kAt key n out out.length = plK key n out := by
 obtain ⟨h1, h2⟩ := kAt_step key n out out.length (nLr _)
 rcases nLg (plK key n out) out.length with g | g
 · exact h1 g
 · rw [h2 g]
   have : plK key n out ≤ out.length := List.findIdx_le_length
   omega
end Go.Proofs.YtficfljjnbnhbaaGreatDoor.Bw
namespace Go.Proofs.YtficfljjnbnhbaaGreatDoor.Bw
open Go.Ab Go.Sort Mk
attribute [local irreducible] AWP AOps EStep AQ PStep PRun PCall TCall VCall DStep TDies AWD DCall
def encK (k : K3) : List AV := [.int k.1, .int k.2.1, .int k.2.2]
theorem flK3 : flatN Tryz.prog 88 = some [.int .i64, .int .i64, .int .i64] := by kernel_rfl
theorem key1_spec (b : Bar) (n : Note) : PCall Tryz.prog 82 [.agg (encB b), .iptr (encN n)] (.b (b.id == n.bar)) := by
 refine PCall.body Tryz.func82 rfl rfl Tryz.ntmps82 rfl rfl ?_
 repeat' (first | refine aoQ rfl rfl rfl (fun hg => by exact std0) (by exact rfl) ?_ | refine sqW ?_ | refine rgK (fun K' hK => ?_) | (refine aoN (hK _ _ ?_); clear hK K') | refine aoE (bxW rfl rfl rfl rfl rfl tI rfl rfl ?_) | refine rtW ?_)
 exact ⟨.inr rfl, Ent.b rfl⟩
theorem key2_spec (r : Rat) (h : durOk r = true) : PCall Tryz.prog 83 [.agg (encR r)] (.int (ticksV r)) := by
 have h1 := durOk_iff.1 h
 have h2 := ratOk_iff.1 h1.1
 have h3 := tdiv1680 h1.1
 have h4 := mul_in (x := r.n) (y := Int.tdiv 1680 r.d) (A := 1000000000) (B := 1680) (by omega) h3
 have h5 : r.d ≠ 0 := by omega
 refine PCall.body Tryz.func83 rfl rfl Tryz.ntmps83 rfl rfl ?_
 repeat' (first | refine aoQ rfl rfl rfl (fun hg => by exact std0) (by exact rfl) ?_ | refine sqW ?_ | refine rgK (fun K' hK => ?_) | (refine aoN (hK _ _ ?_); clear hK K') | refine aoE (bxW rfl rfl rfl rfl rfl tI rfl rfl ?_) | refine rtW ?_ | refine dK2 (by decide +kernel) (by kernel_rfl) (by decide +kernel) rfl (fun K' hK => ?_) | (refine aqN (hK _ ?_); clear hK K') | refine aqQ rfl rfl (fun hg => by exact std0) (by exact rfl) ?_)
 exact ⟨.inr rfl, Ent.int rfl⟩
set_option maxHeartbeats 8000000 in
set_option maxRecDepth 20000 in
theorem key_spec (s : Score) (hb : s.bars.length ≤ 1000000) (l : List Jo.Mark) (sec : Int) (n : Note) (h1 : durOk n.start = true) (h2 : durOk n.len = true) :
 PCall Tryz.prog 38 [.agg (encW s l sec), .agg (encN n)] (.agg (encK (keyT s.bars n))) := by
 have i1 := idxB1_spec 82 (encN n) (fun b => b.id == n.bar) s.bars (by omega) (fun b _ => key1_spec b n)
 have k1 := key2_spec n.start h1
 have k2 := key2_spec n.len h2
 have e : findI (fun b : Bar => b.id == n.bar) s.bars = barAt s.bars n.bar := rfl
 rw [e] at i1
 unfold keyT
 generalize barAt s.bars n.bar = x at *
 generalize ticksV n.start = y at *
 generalize ticksV n.len = z at *
 refine PCall.bodyS tabOk Tryz.func38 rfl rfl Tryz.ntmps38 rfl ?_
 repeat' (first | refine aoQ rfl rfl rfl (fun hg => by first | exact std0 | exact pbW (i1) rfl rfl nd rfl rfl nds) (by exact rfl) ?_ | refine sqW ?_ | refine rgK (fun K' hK => ?_) | (refine aoN (hK _ _ ?_); clear hK K') | refine aoE (bxW rfl rfl rfl rfl rfl tI rfl rfl ?_) | refine aoE (stW tabOk rfl rfl rfl tI rfl rfl tI rfl rfl rfl rfl rfl rfl rfl ?_) | refine aoE (alW tabOk rfl rfl rfl rfl rfl rfl ?_) | refine rtW ?_ | refine dL2 (by kernel_rfl) (by decide +kernel) rfl (fun K' hK => ?_) | refine aqN ?_ | refine aqQ rfl rfl (fun hg => by first | exact std0 | exact pcW (k1) rfl rfl nd rfl nds | exact pcW (k2) rfl rfl nd rfl nds | exact PRun.buildAW tabOk rfl rfl nds) (by exact rfl) ?_)
 exact ⟨.inr rfl, _, rfl, Ent.of rfl⟩
set_option maxHeartbeats 8000000 in
set_option maxRecDepth 20000 in
theorem scompare_spec (l m : List Int) (h : l.length = m.length) (hl : l.length ≤ 1000000) : PCall Tryz.prog 41 [.sl 1 (l.map eI) .no, .sl 1 (m.map eI) .no] (.int (cmpIs l m)) := by
 have hd : ∀ k, k ≤ l.length → (∀ j, j < k → sgn (l.getD j default) (m.getD j default) = 0) → cmpIs l m = cmpIs (l.drop k) (m.drop k) := fun k => by
  induction k with
  | zero => intro _ _; rfl
  | succ k ih =>
    intro hk hall
    rw [ih (by omega) fun j hj => hall j (by omega), zBc (by omega : k < l.length), zBc (by omega : k < m.length)]
    have := hall k (by omega)
    rw [getD_lt (by omega), getD_lt (by omega)] at this
    rw [cmpIs, if_neg (fun g => g this)]
 refine PCall.body Tryz.func41 rfl rfl Tryz.ntmps41 rfl rfl ?_
 repeat' (first | refine aoQ rfl rfl rfl (fun hg => by first | exact std0 | exact std1) (by exact rfl) ?_ | refine sqW ?_ | refine rgK (fun K' hK => ?_) | (refine aoN (hK _ _ ?_); clear hK K') | refine blK ?_)
 refine lpW (ι := Nat) (fun k => [(0, .sl 1 (l.map eI) .no), (1, .sl 1 (m.map eI) .no), (9, .sl 1 (l.map eI) .no), (10, .int l.length), (11, .int k)]) (fun _ => []) (fun k => k ≤ l.length ∧ ∀ j, j < k → sgn (l.getD j default) (m.getD j default) = 0) (fun k => l.length - k) 0 ⟨nZl _, fun j h => absurd h (by omega)⟩ ⟨rfl, rfl, rfl, rfl, rfl, tI⟩ rfl ?_
 rintro k ⟨hk, hall⟩
 have hd1 := hd k hk hall
 by_cases hlt : k < l.length
 · obtain ⟨a, ha⟩ : ∃ a, l.getD k default = a := ⟨_, rfl⟩
   obtain ⟨b, hb⟩ : ∃ b, m.getD k default = b := ⟨_, rfl⟩
   have hc1 := bcmp_spec a b
   have e : cmpIs l m = if sgn a b ≠ 0 then sgn a b else cmpIs (l.drop (k + 1)) (m.drop (k + 1)) := by
    rw [hd1, zBc hlt, zBc (by omega : k < m.length), ← getD_lt hlt, ← getD_lt (by omega : k < m.length), ha, hb]; rfl
   rw [show (if a < b then -1 else if a > b then 1 else 0) = sgn a b from rfl] at hc1
   generalize hs : sgn a b = x at *
   repeat' (first | refine aoQ rfl rfl rfl (fun hg => by first | exact iX eI m ((k : Nat) : Int) hb (hb := by omega) | exact iX eI l ((k : Nat) : Int) ha (hb := by omega) | exact std0 | exact pcW (hc1) rfl rfl nd rfl nds | exact std1) (by exact rfl) ?_ | refine sqW ?_ | refine rgK (fun K' hK => ?_) | (refine aoN (hK _ _ ?_); clear hK K') | refine cdN rfl tI (fun hc => ?_) (fun hc => ?_) | refine blK ?_ | refine exW ?_ | refine skW ?_ | refine rtW ?_)
   all_goals (first | (exfalso; omega) | skip)
   · refine ⟨.inr rfl, Ent.int ?_⟩
     rw [e, if_pos (by simpa using hc)]
   · refine ⟨k + 1, ⟨hlt, fun j hj => ?_⟩, by omega, ⟨rfl, rfl, rfl, rfl, rfl, tI⟩, rfl⟩
     rcases nLg j k with g | g
     · exact hall j g
     · obtain rfl : j = k := by omega
       rw [ha, hb, hs]; rename_i h9 h8; simpa using h9
 · obtain rfl : k = l.length := by omega
   have e : cmpIs l m = 0 := by
    rw [hd1, List.drop_length, h, List.drop_length]; rfl
   repeat' (first | refine aoQ rfl rfl rfl (fun hg => by first | exact std0 | exact std1) (by exact rfl) ?_ | refine sqW ?_ | refine rgK (fun K' hK => ?_) | (refine aoN (hK _ _ ?_); clear hK K') | refine cdN rfl tI (fun hc => ?_) (fun hc => ?_) | refine blK ?_ | refine exW ?_ | refine skW ?_ | refine rtW ?_)
   all_goals (first | (exfalso; omega) | skip)
   exact ⟨.inr rfl, Ent.int e.symm⟩
theorem ckey_spec (a b : K3) : PCall Tryz.prog 40 [.agg (encK a), .agg (encK b)] (.int (cmp3 a b)) := by
 have hc1 := scompare_spec (listK a) (listK b) rfl (show 3 ≤ 1000000 by decide)
 rw [show cmpIs (listK a) (listK b) = cmp3 a b from rfl] at hc1
 by_cases hab : a = b
 · subst hab
   rw [cmp3_self]
   refine PCall.body Tryz.func40 rfl rfl Tryz.ntmps40 rfl rfl ?_
   repeat' (first | refine aoQ rfl rfl rfl (fun hg => by first | exact std0 | exact PRun.eqN flK3 rfl rfl nd rfl nd rfl) (by exact rfl) ?_ | refine sqW ?_ | refine rgK (fun K' hK => ?_) | (refine aoN (hK _ _ ?_); clear hK K') | refine aoE (bxW rfl rfl rfl rfl rfl tI rfl rfl ?_) | refine cdN rfl tI (fun hc => ?_) (fun hc => ?_) | refine skW ?_ | refine rtW ?_)
   · exact ⟨.inr rfl, Ent.int rfl⟩
   · exfalso; simp at hc
 · have hne : (a.1 == b.1 && (a.2.1 == b.2.1 && (a.2.2 == b.2.2 && true))) = false := by
    cases h : (a.1 == b.1 && (a.2.1 == b.2.1 && (a.2.2 == b.2.2 && true))) with
    | false => rfl
    | true =>
      exfalso
      simp only [zA0, beq_iff_eq] at h
      exact hab (Prod.ext h.1 (Prod.ext h.2.1 h.2.2.1))
   refine PCall.body Tryz.func40 rfl rfl Tryz.ntmps40 rfl rfl ?_
   repeat' (first | refine aoQ rfl rfl rfl (fun hg => by first | exact std0 | exact PRun.eqN flK3 rfl rfl nd rfl nd rfl) (by exact rfl) ?_ | refine sqW ?_ | refine rgK (fun K' hK => ?_) | (refine aoN (hK _ _ ?_); clear hK K') | refine aoE (bxW rfl rfl rfl rfl rfl tI rfl rfl ?_) | refine cdN rfl tI (fun hc => ?_) (fun hc => ?_) | refine skW ?_ | refine rtW ?_)
   · exfalso; rw [hne] at hc; cases hc
   refine AWP.freezeV 0 rfl rfl ?_
   refine AWP.freezeV 1 rfl rfl ?_
   repeat' (first | refine rtW ?_ | refine dK2 (by decide +kernel) (by kernel_rfl) (by decide +kernel) rfl (fun K' hK => ?_) | (refine aqN (hK _ ?_); clear hK K') | refine aqQ rfl rfl (fun hg => by first | exact std0 | exact PRun.sliceI tabOk rfl rfl nd rfl rfl rfl rfl (by decide) | exact pcW (hc1) rfl rfl nd rfl nds) (by exact rfl) ?_)
   exact ⟨.inr rfl, Ent.int rfl⟩
def encVK (k : K3) : List Value := [.int .i64 k.1, .int .i64 k.2.1, .int .i64 k.2.2]
theorem fnOk_ckey : FnOk Tryz.prog 40 := ⟨_, Tryz.func40, rfl, rfl⟩
theorem fnOk_sortK : FnOk Tryz.prog 39 := ⟨_, Tryz.func39, rfl, rfl⟩
theorem sortKT (σ : Store) (l ver : Nat) (ks : List K3) (hσ : σ[l]? = some (.arr 3 ver (ks.map encK))) (hl : ks.length ≤ 1000000000) :
 TCall Tryz.prog 39 [.sla l 3 0 ks.length ver, .fn (.func 40) [] []] σ
  (fun r s => r = .tup [] ∧ s = σ.set l (.arr 3 ver ((sortK ks).map encK))) :=
 TCall.sortA (P := Tryz.prog) (ρ := Tryz.sortKey_ren) Tryz.sortKey (sz := 3) Tryz.isAgg88 Tryz.sizeOf88 encVK (fun _ => rfl) (fun x v hv => by
  simp only [encVK, zB7, List.not_mem_nil, or_false] at hv
  rcases hv with rfl | rfl | rfl <;> rfl)
  cmp3 swoK (g := 40) (caps := []) (σ := σ) fnOk_sortK fnOk_ckey
  (fun x y => ckey_spec x y) (l := l) (ver := ver) (xs := ks) hσ (by omega)
end Go.Proofs.YtficfljjnbnhbaaGreatDoor.Bw
namespace Go.Ab
theorem AWP.unown9 {P : Program} {n : Nat} {c : Code} {K : Exit → Env → Store → Prop} {env : Env} {σ : Store} (d : Nat) {sz : Nat} {es : List (List AV)} {t : Tok} (hd : env d = .sl sz es t) (hk : AWP P n c K (env.put d (.sl sz es .no)) σ) : AWP P n c K env σ :=
 AWP.weaken (fun M B i x hx => by
  unfold Env.put
  by_cases hi : i = d
  · subst hi
    rw [hd] at hx
    rw [if_pos rfl]
    cases hx with
    | sl _ _ _ b off cap f hz hm hr hc ht => exact .sl sz es .no b off cap f hz hm hr hc trivial
    | slz _ t ht => exact .slz sz .no trivial
    | slzz sz a cap => exact .slzz sz a cap
  · rw [if_neg hi]; exact hx) hk
end Go.Ab
namespace Go.Proofs.YtficfljjnbnhbaaGreatDoor.Bw
open Go.Ab Go.Sort Mk
attribute [local irreducible] AWP AOps EStep AQ PStep PRun PCall TCall VCall DStep TDies AWD DCall
theorem flRat : flatN Tryz.prog 59 = some [.int .i64, .int .i64] := by kernel_rfl
theorem ralike_spec (a b : Note) : PCall Tryz.prog 26 [.agg (encN a), .agg (encN b)] (.b (alikeB a b)) := by
 have e : alikeB a b = ((a.bar == b.bar && (a.start.n == b.start.n && (a.start.d == b.start.d && true))) && (a.len.n == b.len.n && (a.len.d == b.len.d && true))) := by
  unfold alikeB
  have h : ∀ x y : Rat, (x == y) = (x.n == y.n && (x.d == y.d && true)) := fun x y => by
   obtain ⟨x1, x2⟩ := x
   obtain ⟨y1, y2⟩ := y
   rw [zAs]; simp
  rw [h, h]
 rw [e]
 refine PCall.body Tryz.func26 rfl rfl Tryz.ntmps26 rfl rfl ?_
 repeat' (first | refine aoQ rfl rfl rfl (fun hg => by first | exact std0 | exact PRun.eqN flRat rfl rfl nd rfl nd rfl) (by exact rfl) ?_ | refine sqW ?_ | refine rgK (fun K' hK => ?_) | (refine aoN (hK _ _ ?_); clear hK K') | refine aoE (bxW rfl rfl rfl rfl rfl tI rfl rfl ?_) | refine rtW ?_)
 exact ⟨.inr rfl, Ent.b rfl⟩
theorem exOk_bad {ex : List Int} {k : Nat} (hk : k < ex.length) (h : Jo.isId (ex.getD k default) = false) : exOk ex = false := by
 unfold exOk
 rw [zAp, zBw]
 exact ⟨ex.getD k default, getD_mem hk, by rw [h]; rfl⟩
theorem exOk_good {ex : List Int} (h : ∀ j, j < ex.length → Jo.isId (ex.getD j default) = true) : exOk ex = true := by
 unfold exOk
 rw [zAm, zDc]
 intro x hx
 obtain ⟨j, hj, rfl⟩ := zAq.1 hx
 have := h j hj
 rw [getD_lt hj] at this
 rw [this]; decide
set_option maxHeartbeats 8000000 in
set_option maxRecDepth 20000 in
theorem form20_spec (s : Score) (hs : s.Small) (l : List Jo.Mark) (hl : l.length ≤ 9223372036854775807) (ht : TextsIn l) (sec : Int) (ex : List Int) (hex : ex.length ≤ 9223372036854775807) :
 PCall Tryz.prog 43 [.agg (encS s), .sl 10 (l.map encMk) .no, .int sec, .sl 1 (ex.map eI) .no] (.b (formB s l sec ex)) := by
 have v1 := valid8_spec s hs
 have v2 := marks19_spec l hl ht
 have v3 := r20in_spec sec 0 99
 unfold formB
 generalize scoreOk s = x1 at *
 generalize marksOk l = x2 at *
 generalize Jo.inR sec 0 99 = x3 at *
 refine PCall.body Tryz.func43 rfl rfl Tryz.ntmps43 rfl rfl ?_
 by_cases hb : (((!x1 || !x2) || !x3) || decide ((ex.length : Int) > 20000)) = true
 · repeat' (first | refine aoQ rfl rfl rfl (fun hg => by first | exact std0 | exact pcW (v1) rfl rfl nd rfl nds | exact pcW (v2) rfl rfl nd rfl nds | exact pcW (v3) rfl rfl nd rfl nds | exact std1) (by exact rfl) ?_ | refine sqW ?_ | refine rgK (fun K' hK => ?_) | (refine aoN (hK _ _ ?_); clear hK K') | refine aoE (bxW rfl rfl rfl rfl rfl tI rfl rfl ?_) | refine cdN rfl tI (fun hc => ?_) (fun hc => ?_) | refine blK ?_ | refine skW ?_ | refine rtW ?_)
   · refine ⟨.inr rfl, Ent.b ?_⟩
     revert hb
     cases x1 <;> cases x2 <;> cases x3 <;> cases decide ((ex.length : Int) > 20000) <;> simp
   all_goals (exfalso; first | (rw [hb] at hc; cases hc) | (rename_i h9; rw [hb] at h9; cases h9))
 · have hb2 := zCr _ ▸ hb
   have e : ((x1 && x2) && (x3 && !decide ((ex.length : Int) > 20000))) = true := by
    revert hb2
    cases x1 <;> cases x2 <;> cases x3 <;> cases decide ((ex.length : Int) > 20000) <;> simp
   rw [e, zBl]
   repeat' (first | refine aoQ rfl rfl rfl (fun hg => by first | exact std0 | exact pcW (v1) rfl rfl nd rfl nds | exact pcW (v2) rfl rfl nd rfl nds | exact pcW (v3) rfl rfl nd rfl nds | exact std1) (by exact rfl) ?_ | refine sqW ?_ | refine rgK (fun K' hK => ?_) | (refine aoN (hK _ _ ?_); clear hK K') | refine aoE (bxW rfl rfl rfl rfl rfl tI rfl rfl ?_) | refine cdN rfl tI (fun hc => ?_) (fun hc => ?_) | refine blK ?_ | refine skW ?_ | refine rtW ?_)
   · exfalso; exact hb hc
   refine lpW (ι := Nat) (fun k => [(3, .sl 1 (ex.map eI) .no), (11, .int k)]) (fun _ => [.var (encS s)]) (fun k => k ≤ ex.length ∧ ∀ j, j < k → Jo.isId (ex.getD j default) = true) (fun k => ex.length - k) 0 ⟨nZl _, fun j h => absurd h (by omega)⟩ ⟨rfl, rfl, tI⟩ rfl ?_
   rintro k ⟨hk, hall⟩
   by_cases hlt : k < ex.length
   · obtain ⟨n, hn⟩ : ∃ n, ex.getD k default = n := ⟨_, rfl⟩
     have h1 := r20in_spec n 1 1000000
     rw [show Jo.inR n 1 1000000 = Jo.isId n from rfl] at h1
     repeat' (first | refine aoQ rfl rfl rfl (fun hg => by first | exact iX eI ex ((k : Nat) : Int) hn (hb := by omega) | exact std0 | exact pcW (h1) rfl rfl nd rfl nds | exact std1) (by exact rfl) ?_ | refine sqW ?_ | refine rgK (fun K' hK => ?_) | (refine aoN (hK _ _ ?_); clear hK K') | refine cdN rfl tI (fun hc => ?_) (fun hc => ?_) | refine blK ?_ | refine exW ?_ | refine skW ?_ | refine rtW ?_)
     all_goals (first | (exfalso; omega) | skip)
     · exact ⟨.inr rfl, Ent.b (exOk_bad hlt (by rw [hn]; simpa using hc)).symm⟩
     · exact ⟨k + 1, ⟨hlt, fun j hj => lt_succ_cases hall (by rw [hn]; simpa using hc) hj⟩, by omega, ⟨rfl, rfl, tI⟩, rfl⟩
   · repeat' (first | refine aoQ rfl rfl rfl (fun hg => by first | exact std0 | exact std1) (by exact rfl) ?_ | refine sqW ?_ | refine rgK (fun K' hK => ?_) | (refine aoN (hK _ _ ?_); clear hK K') | refine cdN rfl tI (fun hc => ?_) (fun hc => ?_) | refine blK ?_ | refine exW ?_ | refine skW ?_ | refine rtW ?_)
     all_goals (first | (exfalso; omega) | skip)
     exact ⟨.inr rfl, Ent.b (exOk_good fun j hj => hall j (by omega)).symm⟩
theorem tX {r : Rat} (h : durOk r = true) : ticksX r = ticksV r := by unfold ticksX; rw [if_pos h]
set_option maxHeartbeats 8000000 in
set_option maxRecDepth 20000 in
theorem rbefore_spec (s : Score) (hb : s.bars.length ≤ 1000000) (a b : Note) (a1 : durOk a.start = true) (a2 : durOk a.len = true) (b1 : durOk b.start = true) (b2 : durOk b.len = true) :
 PCall Tryz.prog 90 [.agg (encS s), .agg (encN a), .agg (encN b)] (.b (lt3 (keyT s.bars a) (keyT s.bars b))) := by
 have r1 := r7bar_spec s.bars a.bar (by omega)
 have r2 := r7bar_spec s.bars b.bar (by omega)
 have t1 := ticks6_spec a.start
 have t2 := ticks6_spec a.len
 have t3 := ticks6_spec b.start
 have t4 := ticks6_spec b.len
 rw [tX a1] at t1
 rw [tX a2] at t2
 rw [tX b1] at t3
 rw [tX b2] at t4
 obtain ⟨x, hx⟩ : ∃ x, keyT s.bars a = x := ⟨_, rfl⟩
 obtain ⟨y, hy⟩ : ∃ y, keyT s.bars b = y := ⟨_, rfl⟩
 rw [show barAt s.bars a.bar = x.1 by rw [← hx]; rfl] at r1
 rw [show ticksV a.start = x.2.1 by rw [← hx]; rfl] at t1
 rw [show ticksV a.len = x.2.2 by rw [← hx]; rfl] at t2
 rw [show barAt s.bars b.bar = y.1 by rw [← hy]; rfl] at r2
 rw [show ticksV b.start = y.2.1 by rw [← hy]; rfl] at t3
 rw [show ticksV b.len = y.2.2 by rw [← hy]; rfl] at t4
 rw [hx, hy]
 clear hx hy
 refine PCall.body Tryz.func90 rfl rfl Tryz.ntmps90 rfl rfl ?_
 repeat' (first | refine aoQ rfl rfl rfl (fun hg => by exact std0) (by exact rfl) ?_ | refine sqW ?_ | refine rgK (fun K' hK => ?_) | (refine aoN (hK _ _ ?_); clear hK K') | refine aoE (bxW rfl rfl rfl rfl rfl tI rfl rfl ?_) | refine blK ?_ | refine dK2 (by decide +kernel) (by kernel_rfl) (by decide +kernel) rfl (fun K' hK => ?_) | (refine aqN (hK _ ?_); clear hK K') | refine aqQ rfl rfl (fun hg => by first | exact std0 | exact pcW (r1) rfl rfl nd rfl nds | exact pcW (r2) rfl rfl nd rfl nds | exact pcW (t1) rfl rfl nd rfl nds | exact pcW (t2) rfl rfl nd rfl nds | exact pcW (t3) rfl rfl nd rfl nds | exact pcW (t4) rfl rfl nd rfl nds | exact pbS tabOk rfl rfl nds) (by exact rfl) ?_)
 refine AWP.unown9 (es := (listK x).map eI) 7 rfl ?_
 refine AWP.unown9 (es := (listK y).map eI) 8 rfl ?_
 refine lpW (ι := Nat) (fun k => [(7, .sl 1 ((listK x).map eI) .no), (8, .sl 1 ((listK y).map eI) .no), (9, .int k)]) (fun _ => [.var (encS s), .var (encN a), .var (encN b)]) (fun k => k ≤ 3 ∧ ∀ j, j < k → (listK x).getD j default = (listK y).getD j default) (fun k => 3 - k) 0 ⟨nZl _, fun j h => absurd h (by omega)⟩ ⟨rfl, rfl, rfl, tI⟩ rfl ?_
 rintro k ⟨hk, hall⟩
 have l1 : (listK x).length = 3 := rfl
 have l2 : (listK y).length = 3 := rfl
 have hend : (∀ j, j < 3 → (listK x).getD j default = (listK y).getD j default) → lt3 x y = false := lt3_eq
 have hat := fun (h : k < 3) (hne : (listK x).getD k default ≠ (listK y).getD k default) => lt3_at h hall hne
 generalize listK x = X at *
 generalize listK y = Y at *
 by_cases hlt : k < 3
 · obtain ⟨u, hu⟩ : ∃ u, X.getD k default = u := ⟨_, rfl⟩
   obtain ⟨v, hv⟩ : ∃ v, Y.getD k default = v := ⟨_, rfl⟩
   rw [hu, hv] at hat
   repeat' (first | refine aoQ rfl rfl rfl (fun hg => by first | exact std0 | exact std1) (by exact rfl) ?_ | refine sqW ?_ | refine rgK (fun K' hK => ?_) | (refine aoN (hK _ _ ?_); clear hK K') | refine cdN rfl tI (fun hc => ?_) (fun hc => ?_) | refine blK ?_ | refine exW ?_ | refine skW ?_ | refine rtW ?_ | refine dK2 (by decide +kernel) (by kernel_rfl) (by decide +kernel) rfl (fun K' hK => ?_) | (refine aqN (hK _ ?_); clear hK K') | refine aqQ rfl rfl (fun hg => by first | exact iX eI Y ((k : Nat) : Int) hv (hb := by omega) | exact iX eI X ((k : Nat) : Int) hu (hb := by omega) | exact std0) (by exact rfl) ?_)
   all_goals (first | (exfalso; omega) | skip)
   · exact ⟨.inr rfl, Ent.b (hat hlt (by simpa using hc)).symm⟩
   · exact ⟨k + 1, ⟨hlt, fun j hj => lt_succ_cases hall (by rw [hu, hv]; simpa using hc) hj⟩, by omega, ⟨rfl, rfl, rfl, tI⟩, rfl⟩
 · repeat' (first | refine aoQ rfl rfl rfl (fun hg => by first | exact std0 | exact std1) (by exact rfl) ?_ | refine sqW ?_ | refine rgK (fun K' hK => ?_) | (refine aoN (hK _ _ ?_); clear hK K') | refine cdN rfl tI (fun hc => ?_) (fun hc => ?_) | refine blK ?_ | refine exW ?_ | refine skW ?_ | refine rtW ?_ | refine dK2 (by decide +kernel) (by kernel_rfl) (by decide +kernel) rfl (fun K' hK => ?_) | (refine aqN (hK _ ?_); clear hK K') | refine aqQ rfl rfl (fun hg => by first | exact std0 | exact std1) (by exact rfl) ?_)
   all_goals (first | (exfalso; omega) | skip)
   exact ⟨.inr rfl, Ent.b (hend fun j hj => hall j (by omega)).symm⟩
end Go.Proofs.YtficfljjnbnhbaaGreatDoor.Bw
namespace Go.Ab
section
variable {cls : Oper → Nat} {lo hi rank : Nat → Nat → Nat}
def pairC (cls : Oper → Nat) (lo hi rank : Nat → Nat → Nat) (c i k : Nat) (oi ok : Oper) : Prop :=
 ¬ (cls oi = c ∧ cls ok = c) ∧ (cls oi ≠ c → cls ok = c → rank c k ≤ hi c i) ∧ (cls oi = c → cls ok ≠ c → lo c k < rank c i)
def rngC (cls : Oper → Nat) (lo hi rank : Nat → Nat → Nat) (c i k : Nat) (o o' : Oper) : Bool :=
 !(cls o == c && cls o' == c) && (cls o == c || !(cls o' == c) || decide (rank c k ≤ hi c i)) && (!(cls o == c) || cls o' == c || decide (lo c k < rank c i))
theorem rngC_spec {c i k : Nat} {o o' : Oper} (h : rngC cls lo hi rank c i k o o' = true) : pairC cls lo hi rank c i k o o' := by
 unfold rngC at h
 simp only [zA0, zBe, zAm, zCj, beq_iff_eq, beq_eq_false_iff_ne, dEt, ne_eq] at h
 obtain ⟨⟨h1, h2⟩, h3⟩ := h
 refine ⟨fun ⟨a, b⟩ => ?_, fun a b => ?_, fun a b => ?_⟩
 · rcases h1 with h1 | h1
   · exact h1 a
   · exact h1 b
 · rcases h2 with (h2 | h2) | h2
   · exact absurd h2 a
   · exact absurd b h2
   · exact h2
 · rcases h3 with (h3 | h3) | h3
   · exact absurd a h3
   · exact absurd h3 b
   · exact h3
abbrev cOf (cls : Oper → Nat) (c : Nat) (o : Oper) : Bool := cls o == c
end
end Go.Ab
