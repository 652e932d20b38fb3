/- Contracts by content: the codec of the reference: lists, frames.  Contracts by content: the program's codec: the deferred call; a list of integers is read. No statement is proved here. -/
import Derived.Test.YtbneeinknlddaaaGreatP4
import Derived.Test.YtbneeinknlddaaaGreatP14
set_option linter.unusedVariables false
set_option linter.unusedSimpArgs false
namespace Go.Proofs.YtbneeinknlddaaaGreat
open Go.Ab Go.Jo
attribute [local irreducible] AWP AOps EStep AQ PStep PRun PCall TCall VCall DStep TDies AWD DCall
theorem rdR_cases (b : Bs) : (Jo.rd b = none ∧ rdR b = (0, 0)) ∨ ∃ n r, Jo.rd b = some (n, r) ∧ rdR b = (n, (((num n).length : Nat) : Int)) ∧ b = num n ++ r ∧ InI n := by
 cases h : Jo.rd b with
 | none => exact .inl ⟨rfl, by unfold rdR; rw [h]⟩
 | some p =>
   obtain ⟨n, r⟩ := p
   obtain ⟨h1, h2⟩ := rd_inv h
   refine .inr ⟨n, r, rfl, ?_, h1, h2⟩
   have hl : b.length = (num n).length + r.length := by rw [h1]; simp
   unfold rdR; rw [h]
   simp only
   congr 2; omega
def getR (b : Bs) : List Int × Int := match getL b with
 | some l => (l, 0)
 | none => ([], 7)
theorem getR_none {b : Bs} (h : getL b = none) : getR b = ([], 7) := by unfold getR; rw [h]
theorem getR_some {b : Bs} {l : List Int} (h : getL b = some l) : getR b = (l, 0) := by unfold getR; rw [h]
theorem getL_none {b : Bs} (h : Jo.rd b = none) : getL b = none := by unfold getL; rw [h]
theorem getL_range {b r : Bs} {n : Int} (h : Jo.rd b = some (n, r)) (hn : n < 0 ∨ 4000 < n) : getL b = none := by
 unfold getL; rw [h]
 simp only
 rw [if_pos (by rcases hn with h | h; exact .inl h; exact .inr h)]
theorem getL_in {b r : Bs} {m : Nat} (h : Jo.rd b = some ((m : Int), r)) (hm : m ≤ 4000) : getL b = match rdN m r with | some (l, []) => some l | _ => none := by
 unfold getL; rw [h]
 simp only
 rw [if_neg (by have : maxInts = 4000 := rfl; omega), zAc]
 cases rdN m r with
 | none => rfl
 | some p => obtain ⟨a, b⟩ := p; cases b <;> rfl
abbrev tupLI (l : List Int) (e : Int) : AV := .tup [.sl 1 (l.map encN) .no, .int e]
set_option maxHeartbeats 1600000 in
theorem get05_spec (b : Bs) (hl : b.length ≤ 9223372036854775807) : PCall Tryz.prog 136 [.sl 1 (b.map by8) .no] (tupLI (getR b).1 (getR b).2) := by
 have hv0 := read05_spec b hl
 refine PCall.body Tryz.func136 rfl rfl Tryz.ntmps136 rfl rfl ?_
 rcases rdR_cases b with ⟨h1, h2⟩ | ⟨n, r, h1, h2, h3, h4⟩
 · rw [h2] at hv0
   dsimp only at hv0
   repeat' (first | refine aoQ rfl rfl rfl (fun hg => by first | exact std0 | exact pcW (hv0) rfl rfl nd rfl nds) (by exact rfl) ?_ | refine sqW ?_ | refine rgK (fun K' hK => ?_) | (refine aoN (hK _ _ ?_); clear hK K') | refine cdN rfl tI (fun hc => ?_) (fun hc => ?_) | refine blK ?_ | refine skW ?_ | refine rtW ?_)
   · refine ⟨.inr rfl, ?_⟩
     rw [getR_none (getL_none h1)]
     exact Ent.tup2 Ent.nil (Ent.rfl' _)
   all_goals (exfalso; first | omega | (simp at hc; done) | (simp only [zAc, zAm, zA0, zAf, zAd, dEt, dEf, zAl, zAk, beq_iff_eq, beq_eq_false_iff_ne, bne_iff_ne, bne_eq_false_iff_eq, gt_iff_lt, ge_iff_le, ne_eq] at hc; omega))
 rw [h2] at hv0
 dsimp only at hv0
 have hn1 := num_len n
 repeat' (first | refine aoQ rfl rfl rfl (fun hg => by first | exact std0 | exact pcW (hv0) rfl rfl nd rfl nds) (by exact rfl) ?_ | refine sqW ?_ | refine rgK (fun K' hK => ?_) | (refine aoN (hK _ _ ?_); clear hK K') | refine cdN rfl tI (fun hc => ?_) (fun hc => ?_) | refine blK ?_ | refine skW ?_ | refine rtW ?_)
 · refine ⟨.inr rfl, ?_⟩
   simp only [zAc, zAm, zA0, zAf, zAd, dEt, dEf, zAl, zAk, beq_iff_eq, beq_eq_false_iff_ne, bne_iff_ne, bne_eq_false_iff_eq, gt_iff_lt, ge_iff_le, ne_eq] at hc
   rw [getR_none (getL_range h1 (by omega))]
   exact Ent.tup2 Ent.nil (Ent.rfl' _)
 simp only [zAc, zAm, zA0, zAf, zAd, dEt, dEf, zAl, zAk, beq_iff_eq, beq_eq_false_iff_ne, bne_iff_ne, bne_eq_false_iff_eq, gt_iff_lt, ge_iff_le, ne_eq] at hc
 obtain ⟨m, rfl⟩ := zBk (show 0 ≤ n by omega)
 have hm : m ≤ 4000 := by omega
 have hg := getL_in h1 hm
 have hinit : rdN m r = (rdN (m - 0) (b.drop (num (m : Int)).length)).map fun p => ([] ++ p.1, p.2) := by
  have hd : b.drop (num (m : Int)).length = r := by rw [h3, List.drop_left]
  rw [hd, Nat.sub_zero]
  cases rdN m r <;> rfl
 have hat : (num (m : Int)).length ≤ b.length := by rw [h3]; simp
 refine AWP.ownNil (d := 6) (sz := 1) rfl ?_
 refine lpW (ι := Nat × Nat × List Int) (fun i => [(0, .sl 1 (b.map by8) .no), (4, .int m), (5, .int i.2.1), (6, .sl 1 (i.2.2.map encN) (.own 0)), (7, .int i.1)]) (fun i => [.own 1 (i.2.2.map encN).length]) (fun i => i.1 ≤ m ∧ i.2.1 ≤ b.length ∧ i.2.2.length = i.1 ∧ rdN m r = (rdN (m - i.1) (b.drop i.2.1)).map fun p => (i.2.2 ++ p.1, p.2)) (fun i => m - i.1) (0, (num (m : Int)).length, [])
  ⟨nZl _, hat, rfl, hinit⟩ ⟨rfl, rfl, rfl, rfl, rfl, tI⟩ rfl ?_
 rintro ⟨k, at_, out⟩ ⟨g1, g2, g3, g4⟩
 dsimp only at g1 g2 g3 g4 ⊢
 by_cases hlt : k < m
 · have hv1 := read05_spec (b.drop at_) (by rw [zAe]; omega)
   obtain ⟨j, hj⟩ : ∃ j, m - k = j + 1 := ⟨m - k - 1, by omega⟩
   rw [hj, rdN] at g4
   rcases rdR_cases (b.drop at_) with ⟨q1, q2⟩ | ⟨v, r', q1, q2, q3, q4⟩
   · rw [q2] at hv1
     dsimp only at hv1
     rw [q1] at g4
     repeat' (first | refine aoQ rfl rfl rfl (fun hg => by first | exact std0 | exact pcW (hv1) rfl rfl nd rfl nds | exact PRun.sliceLoM tabOk rfl rfl nd rfl nd rfl (by omega) | exact std1) (by exact rfl) ?_ | refine sqW ?_ | refine rgK (fun K' hK => ?_) | (refine aoN (hK _ _ ?_); clear hK K') | refine cdN rfl tI (fun hc => ?_) (fun hc => ?_) | refine blK ?_ | refine exW ?_ | refine skW ?_ | refine rtW ?_)
     · refine ⟨.inr rfl, ?_⟩
       rw [getR_none (by rw [hg, g4]; rfl)]
       exact Ent.tup2 Ent.nil (Ent.rfl' _)
     all_goals (exfalso; first | omega | (simp at hc; done) | (simp only [zAc, zAm, zA0, zAf, zAd, dEt, dEf, zAl, zAk, beq_iff_eq, beq_eq_false_iff_ne, bne_iff_ne, bne_eq_false_iff_eq, gt_iff_lt, ge_iff_le, ne_eq] at hc; omega))
   · rw [q2] at hv1
     dsimp only at hv1
     rw [q1] at g4
     have hn2 := num_len v
     have hlen : (b.drop at_).length = (num v).length + r'.length := by rw [q3]; simp
     rw [zAe] at hlen
     repeat' (first | refine aoQ rfl rfl rfl (fun hg => by first | exact std0 | exact pcW (hv1) rfl rfl nd rfl nds | exact PRun.sliceLoM tabOk rfl rfl nd rfl nd rfl (by omega) | exact pbS tabOk rfl rfl nds | exact std1) (by exact rfl) ?_ | refine sqW ?_ | refine rgK (fun K' hK => ?_) | (refine aoN (hK _ _ ?_); clear hK K') | refine aoE (EStep.appendOwn tabOk rfl rfl rfl (by decide) (Rd.w rfl tI) rfl (Rd.w rfl tI) (.sl rfl (by first | (intro x hx; rcases zA9.1 hx with rfl; rfl) | exact one_by8 _ | exact one_ints _)) (LOk.of (tabOk.get rfl)) (LOk.of (tabOk.get rfl)) rfl rfl (by simp only [lLm, lLa, zA2, zA5]; omega) (by simp only [lLm, lLa, zA2, zA5]; omega) ?_) | refine cdN rfl tI (fun hc => ?_) (fun hc => ?_) | refine blK ?_ | refine exW ?_ | refine skW ?_ | refine rtW ?_)
     · exfalso; simp only [zAc, zAm, zA0, zAf, zAd, dEt, dEf, zAl, zAk, beq_iff_eq, beq_eq_false_iff_ne, bne_iff_ne, bne_eq_false_iff_eq, gt_iff_lt, ge_iff_le, ne_eq] at hc; omega
     · refine ⟨(k + 1, at_ + (num v).length, out ++ [v]), ⟨by simp only; omega, by simp only; omega, by simp; omega, ?_⟩, by simp only; omega, ⟨rfl, rfl, rfl, slApp (b := [v]) rfl, rfl, tI⟩, ownApp1 (b := [v]) rfl⟩
       have hd : b.drop (at_ + (num v).length) = r' := by rw [← zCf, q3, List.drop_left]
       rw [g4, show m - (k + 1) = j by omega]
       simp only [hd]
       cases rdN j r' with
       | none => rfl
       | some p => simp
     all_goals (exfalso; omega)
 · have hk : k = m := by omega
   subst hk
   rw [Nat.sub_self, rdN] at g4
   have f1 : at_ ≠ b.length → getR b = ([], 7) := fun h => getR_none (by
    have hne : b.drop at_ ≠ [] := by
     intro h
     have := congrArg List.length h
     rw [zAe] at this
     simp at this; omega
    rw [hg, g4]
    simp only [zBo, zBd]
    cases hd : b.drop at_ with
    | nil => exact absurd hd hne
    | cons x y => rfl)
   have f2 : at_ = b.length → getR b = (out, 0) := fun h => getR_some (by rw [hg, g4, h]; simp)
   clear g4 hg hinit hat h1 h2 h3 h4 hv0 hc
   repeat' (first | refine aoQ rfl rfl rfl (fun hg => by first | exact std0 | exact std1) (by exact rfl) ?_ | refine sqW ?_ | refine rgK (fun K' hK => ?_) | (refine aoN (hK _ _ ?_); clear hK K') | refine cdN rfl tI (fun hc => ?_) (fun hc => ?_) | refine blK ?_ | refine exW ?_ | refine skW ?_ | refine rtW ?_)
   · exfalso; omega
   · refine ⟨.inr rfl, ?_⟩
     simp only [zAc, zAm, zA0, zAf, zAd, dEt, dEf, zAl, zAk, beq_iff_eq, beq_eq_false_iff_ne, bne_iff_ne, bne_eq_false_iff_eq, gt_iff_lt, ge_iff_le, ne_eq] at hc
     rw [f1 (by omega)]
     exact Ent.tup2 Ent.nil (Ent.rfl' _)
   · refine ⟨.inr rfl, Ent.of ?_⟩
     simp only [zAc, zAm, zA0, zAf, zAd, dEt, dEf, zAl, zAk, beq_iff_eq, beq_eq_false_iff_ne, bne_iff_ne, bne_eq_false_iff_eq, gt_iff_lt, ge_iff_le, ne_eq] at hc
     rw [f2 (by omega)]
     rfl
def frameR (l : List Int) : Bs × Int := if l.length ≤ 4000 then (frame l, 0) else ([], 2)
theorem pure8 (l : List Int) : ∀ e ∈ l.map (fun n => [AV.prim (.int .u8 n)]), ∀ a ∈ e, ∀ M B x, VRel M B a x → VRel M [] a x := by
 intro e he a ha M B x hx
 obtain ⟨n, _, rfl⟩ := zC3.1 he
 obtain rfl := zA9.1 ha
 rw [VRel.prim_eq hx]; exact .prim _
theorem head3 (n : Nat) (h : n < 16777216) (r : List (List AV)) : [[AV.prim (.int .u8 (IntKind.u8.wrap ((n : Int).tdiv 65536)))], [AV.prim (.int .u8 (IntKind.u8.wrap (((n : Int).tdiv 256).tmod 256)))], [AV.prim (.int .u8 (IntKind.u8.wrap ((n : Int).tmod 256)))]] ++ r = (be3 n).map by8 ++ r := by
 have h1 : (n : Int).tdiv 65536 = ((n / 65536 : Nat) : Int) := tdivN n 65536
 have h2 : (n : Int).tdiv 256 = ((n / 256 : Nat) : Int) := tdivN n 256
 have h3 : (n : Int).tmod 256 = ((n % 256 : Nat) : Int) := tmodN n 256
 have h4 : ((n / 256 : Nat) : Int).tmod 256 = ((n / 256 % 256 : Nat) : Int) := tmodN (n / 256) 256
 rw [h1, h2, h3, h4, wrap8, wrap8, wrap8]
 simp only [be3, zD3, List.map_nil, by8, ofNat_toNat8]
 have q1 : ((n / 65536 : Nat) : Int) % 256 = (n / 65536 : Nat) % 256 := rfl
 have q2 : ((n / 256 % 256 : Nat) : Int) % 256 = ((n / 256 : Nat) : Int) % 256 := by omega
 have q3 : ((n % 256 : Nat) : Int) % 256 = (n : Int) % 256 := by omega
 rw [q2, q3]
set_option maxHeartbeats 1600000 in
theorem frame05_spec (l : List Int) (hi : ∀ n ∈ l, InI n) (hl : l.length ≤ 9223372036854775807) : PCall Tryz.prog 87 [.sl 1 (l.map encN) .no] (.tup [.sl 1 ((frameR l).1.map by8) .no, .int (frameR l).2]) := by
 have hv0 := put05_spec l hi hl
 refine PCall.body Tryz.func87 rfl rfl Tryz.ntmps87 rfl rfl ?_
 by_cases h4 : l.length ≤ 4000
 · have hp := putL_len (l := l) h4
   have hh : (headed l).length = (putL l).length + 3 := by simp [headed, be3]
   have hb3 : (be3 (putL l).length).length = 3 := rfl
   rw [show putR l = (putL l, 0) from if_pos h4] at hv0
   dsimp only at hv0
   have hv1 := sum04_spec (headed l) (by omega)
   have hv2 := bytes05_spec (fnv (headed l)) (fnv_lt _)
   have hb8 : (be8 (fnv (headed l))).length = 8 := by simp [be8]
   have e : (headed l).map by8 = (be3 (putL l).length).map by8 ++ (putL l).map by8 := by unfold headed; rw [zAr]
   rw [e, ← head3 (putL l).length (by omega)] at hv1
   repeat' (first | refine aoQ rfl rfl rfl (fun hg => by first | exact std0 | exact pcW (hv0) rfl rfl nd rfl nds | exact pcW (hv1) rfl rfl nd rfl nds | exact pcW (hv2) rfl rfl nd rfl nds | exact std1) (by exact rfl) ?_ | refine sqW ?_ | refine rgK (fun K' hK => ?_) | (refine aoN (hK _ _ ?_); clear hK K') | refine aoE (apO tabOk rfl rfl rfl (by decide) (Rd.w rfl tI) rfl (Rd.w rfl tI) (.sl rfl (by first | (intro x hx; rcases zA9.1 hx with rfl; rfl) | exact one_by8 _ | exact one_ints _)) (LOk.of (tabOk.get rfl)) (LOk.of (tabOk.get rfl)) rfl rfl (by simp only [lLm, lLa, zA2, zA5]; omega) (by simp only [lLm, lLa, zA2, zA5]; omega) ?_) | refine aoE (EStep.buildOwn tabOk rfl rfl rfl rfl rfl ⟨tI, tI, tI, tI⟩ (pure8 [_, _, _]) ?_) | refine cdN rfl tI (fun hc => ?_) (fun hc => ?_) | refine skW ?_ | refine rtW ?_)
   · exfalso; simp at hc
   · refine ⟨.inr rfl, Ent.of ?_⟩
     rw [show frameR l = (frame l, 0) from if_pos h4]
     show AV.tup [.sl 1 ((_ ++ _) ++ (be8 (fnv (headed l))).map by8) .no, .int 0] = _
     rw [head3 (putL l).length (by omega), ← e, ← zAr]; rfl
 · rw [show putR l = ([], 2) from if_neg h4] at hv0
   repeat' (first | refine aoQ rfl rfl rfl (fun hg => by first | exact std0 | exact pcW (hv0) rfl rfl nd rfl nds | exact std1) (by exact rfl) ?_ | refine sqW ?_ | refine rgK (fun K' hK => ?_) | (refine aoN (hK _ _ ?_); clear hK K') | refine cdN rfl tI (fun hc => ?_) (fun hc => ?_) | refine skW ?_ | refine rtW ?_)
   · refine ⟨.inr rfl, ?_⟩
     rw [show frameR l = ([], 2) from if_neg h4]
     exact Ent.tup2 Ent.nil (Ent.rfl' _)
   all_goals (exfalso; simp at hc; done)
end Go.Proofs.YtbneeinknlddaaaGreat
namespace Go.Ab
theorem PRun.assertZ {P : Program} {o : Oper} {env : Env} {σ : Store} {t t' : TypeId} {x : Operand} (hd : notIface P t' = true) (ho : o.op = .typeAssert x t t' true) (hx : rdv env x = some (.prim (.iface t' (.agg #[])))) (nx : rdn env x) : PRun P o env σ (.tup [.agg [], .b true]) :=
 .of fun G A w hs hv => by
  have h1 := VRel.prim_eq (rd (Rd.w hx nx) (by simp [ho, Op.operands]) hv)
  refine ⟨.tuple #[.agg #[], .bool true], ?_, .tup _ _ rfl fun i c h => ?_⟩
  · unfold notIface at hd
    split at hd <;> simp at hd
    rename_i d hn hd2
    simp only [execOp, ho, Instr.typeAssert, h1]
    rw [Sem.run_bind, Sem.run_bind, run_underlying hd2 w]
    simp only [Result.andThen_ok]
    cases d with
    | interface ms => exact (hn _ rfl).elim
    | _ => simp
  · match i, h with
    | 0, h => simp at h; subst h; exact .agg _ _ rfl fun i c h => by simp at h
    | 1, h => simp at h; subst h; exact .prim _
    | i + 2, h => simp at h
theorem AWP.draw2E {P : Program} {n : Nat} {id : Nat} {l : List Oper} {o0 od : Oper} {v : AV} {K : Exit → Env → Store → Prop} {env : Env} {σ : Store} (h0 : l[0]? = some o0) (h1 : l[1]? = some od)
 (hm : P.follows .mixedOrders = true) (hB : (2 ≤ l.length) ∧ Region.ready .any l.toArray (Array.replicate l.length false) = [0, 1] ∧ Region.ready .any l.toArray ((Array.replicate l.length false).setIfInBounds 0 true) = [1]) (hd : dstOk n o0 = true)
 (hq : PStep P l.toArray o0 env σ v) (hk : ∀ env', (env' = env ∨ env' = env.putO o0.dst v) → DStep P n l.toArray od (fun ch s' => K (.panic ch) env' s') env' σ) : AWP P n (.region id l.toArray true) K env σ := by
 intro G a w hr
 refine wpIn_region_any hm ?_
 have hr0 : ARel n G env σ a { w with drawn := w.drawn + 1 } := ⟨hr.size, hr.defers, hr.vals, hr.st.drew⟩
 have die : ∀ (env' : Env), (env' = env ∨ env' = env.putO o0.dst v) → ∀ (fuel : Nat) (listed : Array Bool) G' a' w', G.Le G' → ARel n G' env' σ a' w' → wpOpIn (FR G.R) 0 P l.toArray (fun x a' w' => ∃ env' σ' G', K x env' σ' ∧ G.Le G' ∧ ARel n G' env' σ' a' w') 1 (wpAnyIn (FR G.R) 0 P .any l.toArray (fun x a' w' => ∃ env' σ' G', K x env' σ' ∧ G.Le G' ∧ ARel n G' env' σ' a' w') fuel listed) a' w' := by
  intro env' he fuel listed G' a' w' hg hr'
  unfold wpOpIn
  have : l.toArray[1]? = some od := by simpa using h1
  simp only [this]
  obtain ⟨k1, k2⟩ := DStep.sound (ro := G.R) (next := wpAnyIn (FR G.R) 0 P .any l.toArray (fun x a' w' => ∃ env' σ' G', K x env' σ' ∧ G.Le G' ∧ ARel n G' env' σ' a' w') fuel listed) (hk env' he) hr' (Q := fun x a' w' => ∃ env' σ' G', K x env' σ' ∧ G.Le G' ∧ ARel n G' env' σ' a' w') fun ch s' G'' w'' g1 g2 g3 => ⟨env', s', G'', g1, hg.trans g2, g3⟩
  rw [if_pos k1]; exact k2
 obtain ⟨hl2, hb1, hb2⟩ := hB
 obtain ⟨f, hf⟩ : ∃ f, l.length = f + 2 := ⟨l.length - 2, by omega⟩
 have hsz : l.toArray.size = f + 1 + 1 := by simp; omega
 have hsz2 : Array.replicate l.toArray.size false = Array.replicate l.length false := by simp
 rw [hsz2, hsz]
 refine ⟨fun h => (by rw [hb1] at h; cases h), fun i hi => ?_⟩
 rw [hb1] at hi
 rcases zB3.1 hi with rfl | hi
 · unfold wpOpIn
   have : l.toArray[0]? = some o0 := by simpa using h0
   simp only [this]
   have hq' := hq G a _ hr0.st (fun x _ => hr0.vals x)
   have go : ∀ (env' : Env) G' a' w', G.Le G' → (env' = env ∨ env' = env.putO o0.dst v) → ARel n G' env' σ a' w' → wpAnyIn (FR G.R) 0 P .any l.toArray (fun x a' w' => ∃ env' σ' G', K x env' σ' ∧ G.Le G' ∧ ARel n G' env' σ' a' w') (f + 1) ((Array.replicate l.length false).setIfInBounds 0 true) a' w' := by
    intro env' G' a' w' hg he hr'
    refine ⟨fun h => (by rw [hb2] at h; cases h), fun i hi => ?_⟩
    rw [hb2] at hi
    simp only [zA9] at hi
    subst hi
    exact die env' he f _ G' a' w' hg hr'
   split
   · rename_i hw
     rw [if_pos hw] at hq'
     refine hq'.toIn ?_
     rintro a' w' ⟨x, G', rfl, g1, g2, g3⟩
     have hr' : ARel n G' env σ a w' := hr0.later g2 g3
     exact go _ G' _ w' g2 (.inr rfl) (hr'.putO (dstOk_spec hd) g1)
   · rename_i hw
     rw [if_neg hw] at hq'
     exact ⟨fun _ _ => trivial, go _ G _ _ (Gh.Le.refl G) (.inr rfl) (hr0.putO (dstOk_spec hd) hq')⟩
 · simp only [zA9] at hi
   subst hi
   exact die env (.inl rfl) _ _ G a _ (Gh.Le.refl G) hr0
theorem AWP.drawYE {P : Program} {n : Nat} (eff : Oper → Bool) {id : Nat} {l : List Oper} {K : Exit → Env → Store → Prop} {env : Env} {σ : Store} (S : Nat → Store) (h0 : S 0 = σ)
 (hm : P.follows .mixedOrders = true) (hB : Region.lexB .any l.toArray = true) (hd : dstsOk n l.toArray = true) (hE : rngB .any l.toArray eff (loOf l eff) (hiOf l eff) (rankOf l eff) l.length 0 (Array.replicate l.length false) = true)
 (h : ∀ K' : Env → Nat → Prop, (∀ e j, K .normal e (S j) → K' e j) → YQ P n l.toArray S eff (loOf l eff) (hiOf l eff) (rankOf l eff) K' l 0 env 0) : AWP P n (.region id l.toArray true) K env σ := by
 subst h0
 intro G a w hr
 simp only [Region.lexB, zA0] at hB
 refine wpIn_region_any hm ?_
 have := yAny_lex (md := .any) l 0 (Array.replicate l.toArray.size false) env 0 (by simp) (by simpa using hE) (by simpa using hB.2) (h (fun e j => K .normal e (S j)) fun _ _ h => h)
 refine wpAny_of_yAny _ hd _ _ env 0 (by simpa using this) G a _ ⟨hr.size, hr.defers, hr.vals, hr.st.drew⟩ _ ?_
 intro G' env' j' a' w' hg hk hr'
 exact ⟨env', S j', G', hk, hg, hr'⟩
def effC (o : Oper) : Bool := match o.op with
 | .call { callee := .value _, .. } => true
 | _ => effOp o
theorem DCall.mono {P : Program} {f : FuncId} {avs : List AV} {σ : Store} {u : FrameMode} {Q Q' : FrameMode → Store → Prop} (h : DCall P f avs σ u Q) (hq : ∀ u s, Q u s → Q' u s) : DCall P f avs σ u Q' :=
 ⟨h.1, fun G w vs hs ha => CallsDIn.mono (h.2 G w vs hs ha) fun _ _ _ ⟨v, s, G', e, q, k⟩ => ⟨v, s, G', e, hq _ _ q, k⟩⟩
end Go.Ab
namespace Go.Proofs.YtbneeinknlddaaaGreat
open Go.Ab Go.Jo
attribute [local irreducible] AWP AOps EStep AQ PStep PRun PCall TCall VCall DStep TDies AWD DCall
set_option maxRecDepth 20000 in
theorem caught_ret (σ : Store) (hok : σ.all (okObj σ.length) = true) : DCall Tryz.prog 140 [.ptr 0 0, .ptr 1 0] σ .returning (fun u s => u = .returning ∧ s = σ) := by
 refine DCall.body Tryz.func140 rfl rfl Tryz.ntmps140 rfl rfl rfl rfl rfl rfl rfl ?_
 repeat' (first | refine aoQ rfl rfl rfl (fun hg => by first | exact PRun.nilIface (ti := 0) (w' := .nilIface) (by exact ⟨_, rfl⟩) rfl rfl nd rfl | exact std0) (by exact rfl) ?_ | refine sqW ?_ | refine rgK (fun K' hK => ?_) | (refine aoN (hK _ _ ?_); clear hK K') | refine cdN rfl tI (fun hc => ?_) (fun hc => ?_) | refine blK ?_)
 · exact ⟨.inl rfl, _, rfl, zAz, nLr _, hok⟩
 all_goals (exfalso; cases hc)
abbrev getN (m : Nat) (e : Int) (b : Bs) : Store := [.var [.nils], .var [.int e], .var [.sl 1 (b.map by8) .no], .own 1 m]
abbrev broke : FrameMode := .panicking [{ v := .iface 178 (.agg #[]), recovered := true }]
set_option maxRecDepth 20000 in
theorem caught_pan (out : List Int) (e : Int) (b : Bs) : DCall Tryz.prog 140 [.ptr 0 0, .ptr 1 0] (getS out e b) (.panicking brk) (fun u s => u = broke ∧ s = getN (out.map encN).length 7 b) := by
 refine DCall.body Tryz.func140 rfl rfl Tryz.ntmps140 rfl rfl rfl rfl rfl rfl rfl ?_
 repeat' (first | refine aoQ rfl rfl rfl (fun hg => by first | exact PRun.nilIface (ti := 0) (w' := .nilIface) (by exact ⟨_, rfl⟩) rfl rfl nd rfl | exact std0) (by exact rfl) ?_ | refine sqW ?_ | refine rgK (fun K' hK => ?_) | (refine aoN (hK _ _ ?_); clear hK K') | refine cdN rfl tI (fun hc => ?_) (fun hc => ?_) | refine blK ?_)
 · exfalso; cases hc
 · have hz : LOk Tryz.prog 178 ⟨.struct [], 0, 0, []⟩ := LOk.of rfl
   refine aoQ rfl rfl rfl (fun hg => PRun.assertZ (by exact rfl) rfl rfl tI) (by exact rfl) ?_
   repeat' (first | refine aoQ rfl rfl rfl (fun hg => by first | exact std0 | exact std1) (by exact rfl) ?_ | refine sqW ?_ | refine rgK (fun K' hK => ?_) | (refine aoN (hK _ _ ?_); clear hK K') | refine aoE (stW tabOk rfl rfl rfl tI rfl rfl tI rfl rfl rfl rfl rfl rfl rfl ?_) | refine aoE (EStep.alloc rfl rfl rfl (by decide) hz ?_) | refine aoE (EStep.store rfl rfl (Rd.w rfl tI) rfl (Rd.w rfl tI) rfl rfl hz rfl (by decide) rfl ?_) | refine cdN rfl tI (fun hc => ?_) (fun hc => ?_))
   · exact ⟨.inl rfl, _, rfl, rfl, nLr _, rfl⟩
   · exfalso; cases hc
theorem retCC {env : Env} {s : Store} {a b : AV} {p q : AV} (h2 : env 2 = p) (h3 : env 3 = q)
 (ha : rvA tab (fun _ => p) s (.cell 2 101) = some a) (hb : rvA tab (fun _ => q) s (.cell 3 37) = some b) :
 retS tab env s [.cell 2 101, .cell 3 37] = some (.tup [a, b]) := by
 subst h2; subst h3
 have e2 : rvA tab env s (.cell 2 101) = some a := ha
 have e3 : rvA tab env s (.cell 3 37) = some b := hb
 simp only [retS, rvsA, e2, e3, Option.map]
theorem rdN_stop {m k : Nat} {out : List Int} {r rest : Bs} (h : rdN m rest = (rdN (m - k) r).map fun p => (out ++ p.1, p.2)) (hk : k < m) (hr : Jo.rd r = none) : rdN m rest = none := by
 rw [h, show m - k = (m - (k + 1)) + 1 by omega, rdN, hr]; rfl
theorem rdN_step {m k : Nat} {out : List Int} {r rest r' : Bs} {v : Int} (h : rdN m rest = (rdN (m - k) r).map fun p => (out ++ p.1, p.2)) (hk : k < m) (hr : Jo.rd r = some (v, r')) : rdN m rest = (rdN (m - (k + 1)) r').map fun p => ((out ++ [v]) ++ p.1, p.2) := by
 rw [h, show m - k = (m - (k + 1)) + 1 by omega, rdN, hr]
 simp only
 cases rdN (m - (k + 1)) r' with
 | none => rfl
 | some p => simp
theorem rd_len {b r : Bs} {n : Int} (h : Jo.rd b = some (n, r)) : r.length ≤ b.length := by
 rw [(rd_inv h).1]; simp
set_option maxHeartbeats 3200000 in
set_option maxRecDepth 20000 in
theorem get_spec (b : Bs) (hl : b.length ≤ 9223372036854775807) : PCall Tryz.prog 129 [.sl 1 (b.map by8) .no] (tupLI (getR b).1 (getR b).2) := by
 refine PCall.bodyD tabOk Tryz.func129 rfl rfl Tryz.ntmps129 rfl ?_
 refine AWD.seq (AWD.awp ?_)
 repeat' (first | refine rgK (fun K' hK => ?_) | (refine aoN (hK _ _ ?_); clear hK K') | refine aoE (alW tabOk rfl rfl rfl rfl rfl rfl ?_))
 refine AWD.seq (AWD.defer 0 rfl (fun K' hK => aoN (hK _ _ ⟨140, [], [], [.ptr 0 0, .ptr 1 0], _, _, _, rfl, rfl, rfl, rfl, tI, rfl, ⟨tI, tI, tI⟩, ?_⟩)))
 refine AWD.seq (AWD.awp ?_)
 clear hK K'
 repeat' (first | refine aoQ rfl rfl rfl (fun hg => by first | exact std0 | exact pbD tabOk rfl rfl nds) (by exact rfl) ?_ | refine rgK (fun K' hK => ?_) | (refine aoN (hK _ _ ?_); clear hK K') | refine aoE (stW tabOk rfl rfl rfl tI rfl rfl tI rfl rfl rfl rfl rfl rfl rfl ?_) | refine aoE (alW tabOk rfl rfl rfl rfl rfl rfl ?_))
 refine AWD.awp ?_
 refine AWP.ownNilV (v := 0) (i := 0) (sz := 1) (cs := [.nils]) rfl rfl ?_
 refine AWP.keep [(2, .ptr 0 0), (3, .ptr 1 0), (4, .ptr 2 0)] ⟨rfl, rfl, rfl, tI⟩ ?_
 have hret : ∀ (out : List Int) (e : Int) (r : Bs) (env : Env), env 2 = .ptr 0 0 → env 3 = .ptr 1 0 → getR b = (out, e) → ∃ u0, modeOf .ret = some u0 ∧ DCall Tryz.prog 140 [.ptr 0 0, .ptr 1 0] (getS out e r) u0 (fun u' s' => settle u' = .returning ∧ ∃ u, retS tab env s' Tryz.f129.results.toList = some u ∧ Ent u (tupLI (getR b).1 (getR b).2)) := fun out e r env h2 h3 hg => by
  refine ⟨.returning, rfl, DCall.mono (caught_ret _ rfl) ?_⟩
  rintro _ _ ⟨rfl, rfl⟩
  refine ⟨rfl, tupLI out e, ?_, ?_⟩
  · exact retCC h2 h3 rfl rfl
  · rw [hg]; exact Ent.rfl' _
 have hnil : ∀ (m : Nat) (r : Bs) (env : Env), env 2 = .ptr 0 0 → env 3 = .ptr 1 0 → getR b = ([], 7) → ∃ u0, modeOf .ret = some u0 ∧ DCall Tryz.prog 140 [.ptr 0 0, .ptr 1 0] (getN m 7 r) u0 (fun u' s' => settle u' = .returning ∧ ∃ u, retS tab env s' Tryz.f129.results.toList = some u ∧ Ent u (tupLI (getR b).1 (getR b).2)) := fun m r env h2 h3 hg => by
  refine ⟨.returning, rfl, DCall.mono (caught_ret _ rfl) ?_⟩
  rintro _ _ ⟨rfl, rfl⟩
  refine ⟨rfl, .tup [.nils, .int 7], ?_, ?_⟩
  · exact retCC h2 h3 rfl rfl
  · rw [hg]; exact Ent.tup2 Ent.nil (Ent.rfl' _)
 have hpan : ∀ (out : List Int) (e : Int) (r : Bs) (env : Env), env 2 = .ptr 0 0 → env 3 = .ptr 1 0 → getR b = ([], 7) → ∃ u0, modeOf (.panic brk) = some u0 ∧ DCall Tryz.prog 140 [.ptr 0 0, .ptr 1 0] (getS out e r) u0 (fun u' s' => settle u' = .returning ∧ ∃ u, retS tab env s' Tryz.f129.results.toList = some u ∧ Ent u (tupLI (getR b).1 (getR b).2)) := fun out e r env h2 h3 hg => by
  refine ⟨.panicking brk, rfl, DCall.mono (caught_pan _ _ _) ?_⟩
  rintro _ _ ⟨rfl, rfl⟩
  refine ⟨rfl, .tup [.nils, .int 7], ?_, ?_⟩
  · exact retCC h2 h3 rfl rfl
  · rw [hg]; exact Ent.tup2 Ent.nil (Ent.rfl' _)
 cases hrd : Jo.rd b with
 | none =>
   have hg := getR_none (getL_none hrd)
   refine sqW (AWP.regionP 0 rfl (fun K' hK => aoN (hK _ _ (DStep.call (first := []) (caps := []) (next_D [] 0 b hl hrd) rfl rfl rfl tI rfl ⟨tI, tI⟩ (fun s hs => ?_)))))
   subst hs
   exact hpan [] 0 b _ (by rfl) (by rfl) hg
 | some p =>
   obtain ⟨n, rest⟩ := p
   have hv := TCall.val (first := []) (caps := []) (avs := [.ptr 2 0]) (next_T [] 0 b rest n hl hrd)
   have hrl := rd_len hrd
   repeat' (first | refine sqW ?_ | refine rgK (fun K' hK => ?_) | refine aoE (scT (hv) rfl rfl rfl rfl rfl nd rfl rfl nds ?_))
   rintro _ _ ⟨rfl, rfl⟩
   repeat' (first | refine aoQ rfl rfl rfl (fun hg => by exact std0) (by exact rfl) ?_ | refine sqW ?_ | refine rgK (fun K' hK => ?_) | (refine aoN (hK _ _ ?_); clear hK K') | refine aoE (stW tabOk rfl rfl rfl tI rfl rfl tI rfl rfl rfl rfl rfl rfl rfl ?_) | refine cdN rfl tI (fun hc => ?_) (fun hc => ?_) | refine blK ?_ | refine skW ?_ | refine rtW ?_)
   · exact hnil 0 rest _ (by rfl) (by rfl) (getR_none (getL_range hrd (by simp only [zAc, zAm, zA0, zAf, zAd, dEt, dEf, zAl, zAk, beq_iff_eq, beq_eq_false_iff_ne, bne_iff_ne, bne_eq_false_iff_eq, gt_iff_lt, ge_iff_le, ne_eq] at hc; omega)))
   simp only [zAc, zAm, zA0, zAf, zAd, dEt, dEf, zAl, zAk, beq_iff_eq, beq_eq_false_iff_ne, bne_iff_ne, bne_eq_false_iff_eq, gt_iff_lt, ge_iff_le, ne_eq] at hc
   obtain ⟨m, rfl⟩ : ∃ m : Nat, n = m := ⟨n.toNat, by omega⟩
   have hg := getL_in hrd (by omega)
   have hm : m ≤ 4000 := by omega
   refine lpW (ι := Nat × List Int × Bs) (fun i => [(2, .ptr 0 0), (3, .ptr 1 0), (4, .ptr 2 0), (15, .int m), (16, .int i.1)]) (fun i => getS i.2.1 0 i.2.2) (fun i => i.1 ≤ m ∧ i.2.1.length = i.1 ∧ i.2.2.length ≤ b.length ∧ rdN m rest = (rdN (m - i.1) i.2.2).map fun p => (i.2.1 ++ p.1, p.2)) (fun i => m - i.1) (0, [], rest) ⟨nZl _, rfl, hrl, by cases rdN m rest <;> simp⟩ ⟨rfl, rfl, rfl, rfl, rfl, tI⟩ rfl ?_
   rintro ⟨k, out, r⟩ ⟨g1, g2, g3, g4⟩
   dsimp only at g1 g2 g3 g4 ⊢
   rcases nLg k m with hk | hk
   · cases hr : Jo.rd r with
     | none =>
       have hgb : getR b = ([], 7) := getR_none (by rw [hg, rdN_stop g4 hk hr])
       clear hret hnil g4 hg hv
       repeat' (first | refine aoQ rfl rfl rfl (fun hg => by first | exact std0 | exact std1) (by exact rfl) ?_ | refine sqW ?_ | refine rgK (fun K' hK => ?_) | (refine aoN (hK _ _ ?_); clear hK K') | refine aoE (stW tabOk rfl rfl rfl tI rfl rfl tI rfl rfl rfl rfl rfl rfl rfl ?_) | refine cdN rfl tI (fun hc => ?_) (fun hc => ?_) | refine blK ?_ | refine exW ?_ | refine skW ?_)
       · refine AWP.draw2E (v := .sl 1 (out.map encN) (.own 3)) rfl rfl rfl ⟨by decide +kernel, by decide +kernel, by decide +kernel⟩ rfl (PStep.plain rfl (PRun.step tabOk rfl tI)) ?_
         intro env' he
         rcases he with rfl | rfl
         · refine DStep.call (first := []) (caps := []) (next_D out 0 r (by omega) hr) rfl rfl rfl tI rfl ⟨tI, tI⟩ (fun s hs => ?_)
           subst hs
           exact hpan out 0 r _ (by rfl) (by rfl) hgb
         · refine DStep.call (first := []) (caps := []) (next_D out 0 r (by omega) hr) rfl rfl rfl tI rfl ⟨tI, tI⟩ (fun s hs => ?_)
           subst hs
           exact hpan out 0 r _ (by rfl) (by rfl) hgb
       all_goals (exfalso; omega)
     | some p =>
       obtain ⟨v, r'⟩ := p
       have hs' := rdN_step g4 hk hr
       have hrl' := rd_len hr
       have hv' := TCall.val (first := []) (caps := []) (avs := [.ptr 2 0]) (next_T out 0 r r' v (by omega) hr)
       clear hret hnil hpan g4 hg hv
       repeat' (first | refine aoQ rfl rfl rfl (fun hg => by first | exact std0 | exact std1) (by exact rfl) ?_ | refine sqW ?_ | refine rgK (fun K' hK => ?_) | (refine aoN (hK _ _ ?_); clear hK K') | refine aoE (stW tabOk rfl rfl rfl tI rfl rfl tI rfl rfl rfl rfl rfl rfl rfl ?_) | refine cdN rfl tI (fun hc => ?_) (fun hc => ?_) | refine blK ?_ | refine exW ?_ | refine skW ?_)
       · refine AWP.drawYE effC (fun j => match j with | 0 => getS out 0 r | 1 => getS out 0 r' | 2 => [.var [.sl 1 (out.map encN) (.own 3)], .var [.int 0], .var [.sl 1 (r'.map by8) .no], .own 1 (out.map encN ++ [encN v]).length] | _ => getS (out ++ [v]) 0 r') rfl (by kernel_rfl) (by decide +kernel) rfl (by decide +kernel) (fun K' hK => ?_)
         repeat' (first
          | refine yqQ (a := 0) (b := 0) rfl (by decide +kernel) (by decide +kernel) rfl rfl rfl (fun k h1 h2 hg => by (have hk : k = 0 := (by omega)); (rcases hk with rfl) <;> (first | exact std0 | exact std1)) (by exact rfl) ?_
          | refine yqQ (a := 0) (b := 1) rfl (by decide +kernel) (by decide +kernel) rfl rfl rfl (fun k h1 h2 hg => by (have hk : k = 0 ∨ k = 1 := (by omega)); (rcases hk with rfl | rfl) <;> (first | exact std0 | exact std1)) (by exact rfl) ?_
          | refine yqQ (a := 1) (b := 1) rfl (by decide +kernel) (by decide +kernel) rfl rfl rfl (fun k h1 h2 hg => by (have hk : k = 1 := (by omega)); (rcases hk with rfl) <;> (first | exact std0 | exact std1)) (by exact rfl) ?_
          | refine yqQ (a := 0) (b := 2) rfl (by decide +kernel) (by decide +kernel) rfl rfl rfl (fun k h1 h2 hg => by (have hk : k = 0 ∨ k = 1 ∨ k = 2 := (by omega)); (rcases hk with rfl | rfl | rfl) <;> (first | exact std0 | exact std1)) (by exact rfl) ?_
          | refine yqQ (a := 1) (b := 2) rfl (by decide +kernel) (by decide +kernel) rfl rfl rfl (fun k h1 h2 hg => by (have hk : k = 1 ∨ k = 2 := (by omega)); (rcases hk with rfl | rfl) <;> (first | exact std0 | exact std1)) (by exact rfl) ?_
          | refine yqQ (a := 2) (b := 2) rfl (by decide +kernel) (by decide +kernel) rfl rfl rfl (fun k h1 h2 hg => by (have hk : k = 2 := (by omega)); (rcases hk with rfl) <;> (first | exact std0 | exact std1)) (by exact rfl) ?_)
         refine YQ.e (v := .int v) (d := some 19) rfl rfl rfl ?_ ?_
         · intro env' he
           refine scT hv' rfl rfl rfl rfl rfl tI rfl (by simp only [rds, rdv_congr (he 4 (by decide +kernel))]; rfl) ⟨by rw [rdn_congr (he 4 (by decide +kernel))]; exact tI, tI⟩ ?_
           rintro _ _ ⟨rfl, rfl⟩
           exact ⟨rfl, rfl⟩
         repeat' (first
          | refine yqQ (a := 0) (b := 0) rfl (by decide +kernel) (by decide +kernel) rfl rfl rfl (fun k h1 h2 hg => by (have hk : k = 0 := (by omega)); (rcases hk with rfl) <;> (first | exact std0 | exact pbS tabOk rfl rfl nds | exact std1)) (by exact rfl) ?_
          | refine yqQ (a := 0) (b := 1) rfl (by decide +kernel) (by decide +kernel) rfl rfl rfl (fun k h1 h2 hg => by (have hk : k = 0 ∨ k = 1 := (by omega)); (rcases hk with rfl | rfl) <;> (first | exact std0 | exact pbS tabOk rfl rfl nds | exact std1)) (by exact rfl) ?_
          | refine yqQ (a := 1) (b := 1) rfl (by decide +kernel) (by decide +kernel) rfl rfl rfl (fun k h1 h2 hg => by (have hk : k = 1 := (by omega)); (rcases hk with rfl) <;> (first | exact std0 | exact pbS tabOk rfl rfl nds | exact std1)) (by exact rfl) ?_
          | refine yqQ (a := 0) (b := 2) rfl (by decide +kernel) (by decide +kernel) rfl rfl rfl (fun k h1 h2 hg => by (have hk : k = 0 ∨ k = 1 ∨ k = 2 := (by omega)); (rcases hk with rfl | rfl | rfl) <;> (first | exact std0 | exact pbS tabOk rfl rfl nds | exact std1)) (by exact rfl) ?_
          | refine yqQ (a := 1) (b := 2) rfl (by decide +kernel) (by decide +kernel) rfl rfl rfl (fun k h1 h2 hg => by (have hk : k = 1 ∨ k = 2 := (by omega)); (rcases hk with rfl | rfl) <;> (first | exact std0 | exact pbS tabOk rfl rfl nds | exact std1)) (by exact rfl) ?_
          | refine yqQ (a := 2) (b := 2) rfl (by decide +kernel) (by decide +kernel) rfl rfl rfl (fun k h1 h2 hg => by (have hk : k = 2 := (by omega)); (rcases hk with rfl) <;> (first | exact std0 | exact pbS tabOk rfl rfl nds | exact std1)) (by exact rfl) ?_)
         refine YQ.e (v := .sl 1 (out.map encN ++ [encN v]) (.own 3)) (d := some 21) rfl rfl rfl ?_ ?_
         · intro env' he
           refine apO tabOk rfl rfl rfl (by decide) (Rd.w ((rdv_congr (he 18 (by decide +kernel))).trans rfl) (by rw [rdn_congr (he 18 (by decide +kernel))]; exact tI)) rfl (Rd.w ((rdv_congr (he 20 (by decide +kernel))).trans rfl) (by rw [rdn_congr (he 20 (by decide +kernel))]; exact tI)) (.sl rfl (by intro x hx; rcases zA9.1 hx with rfl; rfl)) (LOk.of (tabOk.get rfl)) (LOk.of (tabOk.get rfl)) rfl rfl (by simp only [lLm, lLa, zA2, zA5]; omega) (by simp only [lLm, lLa, zA2, zA5]; omega) ⟨rfl, rfl⟩
         repeat' (first
          | refine yqQ (a := 0) (b := 0) rfl (by decide +kernel) (by decide +kernel) rfl rfl rfl (fun k h1 h2 hg => by (have hk : k = 0 := (by omega)); (rcases hk with rfl) <;> (first | exact std0 | exact std1)) (by exact rfl) ?_
          | refine yqQ (a := 0) (b := 1) rfl (by decide +kernel) (by decide +kernel) rfl rfl rfl (fun k h1 h2 hg => by (have hk : k = 0 ∨ k = 1 := (by omega)); (rcases hk with rfl | rfl) <;> (first | exact std0 | exact std1)) (by exact rfl) ?_
          | refine yqQ (a := 1) (b := 1) rfl (by decide +kernel) (by decide +kernel) rfl rfl rfl (fun k h1 h2 hg => by (have hk : k = 1 := (by omega)); (rcases hk with rfl) <;> (first | exact std0 | exact std1)) (by exact rfl) ?_
          | refine yqQ (a := 0) (b := 2) rfl (by decide +kernel) (by decide +kernel) rfl rfl rfl (fun k h1 h2 hg => by (have hk : k = 0 ∨ k = 1 ∨ k = 2 := (by omega)); (rcases hk with rfl | rfl | rfl) <;> (first | exact std0 | exact std1)) (by exact rfl) ?_
          | refine yqQ (a := 1) (b := 2) rfl (by decide +kernel) (by decide +kernel) rfl rfl rfl (fun k h1 h2 hg => by (have hk : k = 1 ∨ k = 2 := (by omega)); (rcases hk with rfl | rfl) <;> (first | exact std0 | exact std1)) (by exact rfl) ?_
          | refine yqQ (a := 2) (b := 2) rfl (by decide +kernel) (by decide +kernel) rfl rfl rfl (fun k h1 h2 hg => by (have hk : k = 2 := (by omega)); (rcases hk with rfl) <;> (first | exact std0 | exact std1)) (by exact rfl) ?_)
         refine YQ.e (v := .any) (d := none) rfl rfl rfl ?_ ?_
         · intro env' he
           refine stW tabOk rfl rfl ((rdv_congr (he 2 (by decide +kernel))).trans rfl) (by rw [rdn_congr (he 2 (by decide +kernel))]; exact tI) rfl ((rdv_congr (he 21 (by decide +kernel))).trans rfl) (by rw [rdn_congr (he 21 (by decide +kernel))]; exact tI) rfl rfl rfl rfl rfl rfl rfl ⟨rfl, ?_⟩
           show [AObj.var [.sl 1 (out.map encN ++ [encN v]) (.own 3)], AObj.var [.int 0], AObj.var [.sl 1 (r'.map by8) .no], AObj.own 1 (out.map encN ++ [encN v]).length] = getS (out ++ [v]) 0 r'
           unfold getS; rw [zAr]; rfl
         refine YQ.nil (hK _ _ ?_)
         clear hK K'
         show AWP _ _ _ _ _ (getS (out ++ [v]) 0 r')
         repeat' (first | refine aoQ rfl rfl rfl (fun hg => by exact std0) (by exact rfl) ?_ | refine rgK (fun K' hK => ?_) | (refine aoN (hK _ _ ?_); clear hK K'))
         exact ⟨(k + 1, out ++ [v], r'), ⟨by dsimp only; omega, by simp [g2], by dsimp only; omega, hs'⟩, by dsimp only; omega, ⟨rfl, rfl, rfl, rfl, rfl, tI⟩, rfl⟩
       all_goals (exfalso; omega)
   · have hkm : k = m := by omega
     subst hkm
     have h2 : rdN k rest = some (out, r) := by rw [g4, Nat.sub_self]; simp [rdN]
     rw [h2] at hg
     clear g4
     repeat' (first | refine aoQ rfl rfl rfl (fun hg => by first | exact std0 | exact std1) (by exact rfl) ?_ | refine sqW ?_ | refine rgK (fun K' hK => ?_) | (refine aoN (hK _ _ ?_); clear hK K') | refine aoE (stW tabOk rfl rfl rfl tI rfl rfl tI rfl rfl rfl rfl rfl rfl rfl ?_) | refine cdN rfl tI (fun hc => ?_) (fun hc => ?_) | refine blK ?_ | refine exW ?_ | refine skW ?_ | refine rtW ?_ | refine dL2 (by kernel_rfl) (by decide +kernel) rfl (fun K' hK => ?_) | refine aqQ rfl rfl (fun hg => by exact std0) (by exact rfl) ?_)
     · exfalso; omega
     · refine hnil _ r _ (by rfl) (by rfl) (getR_none ?_)
       rw [hg]
       cases r with
       | nil => simp at hc
       | cons x xs => rfl
     · refine hret out 0 r _ (by rfl) (by rfl) (getR_some ?_)
       rw [hg]
       cases r with
       | nil => rfl
       | cons x xs => simp at hc; omega
end Go.Proofs.YtbneeinknlddaaaGreat
