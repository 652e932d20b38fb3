/- Contracts by content: the program's codec: the deferred call; a list of integers is read.  Contracts by content: the program's digest. No statement is proved here. -/
import Derived.Test.YtbneeinknlddaaaGreatQ4
import Derived.Test.YtbneeinknlddaaaGreatQ8
import Derived.Test.YtbneeinknlddaaaGreatQ13
set_option linter.unusedVariables false
set_option linter.unusedSimpArgs false
namespace Go.Ab
theorem PRun.assertZ {P : Program} {o : Oper} {env : Env} {σ : Store} {t t' : TypeId} {x : Operand} (hd : notIface P t' = true) (ho : o.op = .typeAssert x t t' true) (hx : rdv env x = some (.prim (.iface t' (.agg #[])))) (nx : rdn env x) : PRun P o env σ (.tup [.agg [], .b true]) :=
 .of fun G A w hs hv => by
  have h1 := VRel.prim_eq (rd (Rd.w hx nx) (by simp [ho, Op.operands]) hv)
  refine ⟨.tuple #[.agg #[], .bool true], ?_, .tup _ _ rfl fun i c h => ?_⟩
  · unfold notIface at hd
    split at hd <;> simp at hd
    rename_i d hn hd2
    simp only [execOp, ho, Instr.typeAssert, h1]
    rw [Sem.run_bind, Sem.run_bind, run_underlying hd2 w]
    simp only [Result.andThen_ok]
    cases d with
    | interface ms => exact (hn _ rfl).elim
    | _ => simp
  · match i, h with
    | 0, h => simp at h; subst h; exact .agg _ _ rfl fun i c h => by simp at h
    | 1, h => simp at h; subst h; exact .prim _
    | i + 2, h => simp at h
theorem AWP.draw2E {P : Program} {n : Nat} {id : Nat} {l : List Oper} {o0 od : Oper} {v : AV} {K : Exit → Env → Store → Prop} {env : Env} {σ : Store} (h0 : l[0]? = some o0) (h1 : l[1]? = some od)
 (hm : P.follows .mixedOrders = true) (hB : (2 ≤ l.length) ∧ Region.ready .any l.toArray (Array.replicate l.length false) = [0, 1] ∧ Region.ready .any l.toArray ((Array.replicate l.length false).setIfInBounds 0 true) = [1]) (hd : dstOk n o0 = true)
 (hq : PStep P l.toArray o0 env σ v) (hk : ∀ env', (env' = env ∨ env' = env.putO o0.dst v) → DStep P n l.toArray od (fun ch s' => K (.panic ch) env' s') env' σ) : AWP P n (.region id l.toArray true) K env σ := by
 intro G a w hr
 refine wpIn_region_any hm ?_
 have hr0 : ARel n G env σ a { w with drawn := w.drawn + 1 } := ⟨hr.size, hr.defers, hr.vals, hr.st.drew⟩
 have die : ∀ (env' : Env), (env' = env ∨ env' = env.putO o0.dst v) → ∀ (fuel : Nat) (listed : Array Bool) G' a' w', G.Le G' → ARel n G' env' σ a' w' → wpOpIn (FR G.R) 0 P l.toArray (fun x a' w' => ∃ env' σ' G', K x env' σ' ∧ G.Le G' ∧ ARel n G' env' σ' a' w') 1 (wpAnyIn (FR G.R) 0 P .any l.toArray (fun x a' w' => ∃ env' σ' G', K x env' σ' ∧ G.Le G' ∧ ARel n G' env' σ' a' w') fuel listed) a' w' := by
  intro env' he fuel listed G' a' w' hg hr'
  unfold wpOpIn
  have : l.toArray[1]? = some od := by simpa using h1
  simp only [this]
  obtain ⟨k1, k2⟩ := DStep.sound (ro := G.R) (next := wpAnyIn (FR G.R) 0 P .any l.toArray (fun x a' w' => ∃ env' σ' G', K x env' σ' ∧ G.Le G' ∧ ARel n G' env' σ' a' w') fuel listed) (hk env' he) hr' (Q := fun x a' w' => ∃ env' σ' G', K x env' σ' ∧ G.Le G' ∧ ARel n G' env' σ' a' w') fun ch s' G'' w'' g1 g2 g3 => ⟨env', s', G'', g1, hg.trans g2, g3⟩
  rw [if_pos k1]; exact k2
 obtain ⟨hl2, hb1, hb2⟩ := hB
 obtain ⟨f, hf⟩ : ∃ f, l.length = f + 2 := ⟨l.length - 2, by omega⟩
 have hsz : l.toArray.size = f + 1 + 1 := by simp; omega
 have hsz2 : Array.replicate l.toArray.size false = Array.replicate l.length false := by simp
 rw [hsz2, hsz]
 refine ⟨fun h => (by rw [hb1] at h; cases h), fun i hi => ?_⟩
 rw [hb1] at hi
 rcases zB5.1 hi with rfl | hi
 · unfold wpOpIn
   have : l.toArray[0]? = some o0 := by simpa using h0
   simp only [this]
   have hq' := hq G a _ hr0.st (fun x _ => hr0.vals x)
   have go : ∀ (env' : Env) G' a' w', G.Le G' → (env' = env ∨ env' = env.putO o0.dst v) → ARel n G' env' σ a' w' → wpAnyIn (FR G.R) 0 P .any l.toArray (fun x a' w' => ∃ env' σ' G', K x env' σ' ∧ G.Le G' ∧ ARel n G' env' σ' a' w') (f + 1) ((Array.replicate l.length false).setIfInBounds 0 true) a' w' := by
    intro env' G' a' w' hg he hr'
    refine ⟨fun h => (by rw [hb2] at h; cases h), fun i hi => ?_⟩
    rw [hb2] at hi
    simp only [zAa] at hi
    subst hi
    exact die env' he f _ G' a' w' hg hr'
   split
   · rename_i hw
     rw [if_pos hw] at hq'
     refine hq'.toIn ?_
     rintro a' w' ⟨x, G', rfl, g1, g2, g3⟩
     have hr' : ARel n G' env σ a w' := hr0.later g2 g3
     exact go _ G' _ w' g2 (.inr rfl) (hr'.putO (dstOk_spec hd) g1)
   · rename_i hw
     rw [if_neg hw] at hq'
     exact ⟨fun _ _ => trivial, go _ G _ _ (Gh.Le.refl G) (.inr rfl) (hr0.putO (dstOk_spec hd) hq')⟩
 · simp only [zAa] at hi
   subst hi
   exact die env (.inl rfl) _ _ G a _ (Gh.Le.refl G) hr0
theorem AWP.drawYE {P : Program} {n : Nat} (eff : Oper → Bool) {id : Nat} {l : List Oper} {K : Exit → Env → Store → Prop} {env : Env} {σ : Store} (S : Nat → Store) (h0 : S 0 = σ)
 (hm : P.follows .mixedOrders = true) (hB : Region.lexB .any l.toArray = true) (hd : dstsOk n l.toArray = true) (hE : rngB .any l.toArray eff (loOf l eff) (hiOf l eff) (rankOf l eff) l.length 0 (Array.replicate l.length false) = true)
 (h : ∀ K' : Env → Nat → Prop, (∀ e j, K .normal e (S j) → K' e j) → YQ P n l.toArray S eff (loOf l eff) (hiOf l eff) (rankOf l eff) K' l 0 env 0) : AWP P n (.region id l.toArray true) K env σ := by
 subst h0
 intro G a w hr
 simp only [Region.lexB, zA2] at hB
 refine wpIn_region_any hm ?_
 have := yAny_lex (md := .any) l 0 (Array.replicate l.toArray.size false) env 0 (by simp) (by simpa using hE) (by simpa using hB.2) (h (fun e j => K .normal e (S j)) fun _ _ h => h)
 refine wpAny_of_yAny _ hd _ _ env 0 (by simpa using this) G a _ ⟨hr.size, hr.defers, hr.vals, hr.st.drew⟩ _ ?_
 intro G' env' j' a' w' hg hk hr'
 exact ⟨env', S j', G', hk, hg, hr'⟩
def effC (o : Oper) : Bool := match o.op with
 | .call { callee := .value _, .. } => true
 | _ => effOp o
theorem DCall.mono {P : Program} {f : FuncId} {avs : List AV} {σ : Store} {u : FrameMode} {Q Q' : FrameMode → Store → Prop} (h : DCall P f avs σ u Q) (hq : ∀ u s, Q u s → Q' u s) : DCall P f avs σ u Q' :=
 ⟨h.1, fun G w vs hs ha => CallsDIn.mono (h.2 G w vs hs ha) fun _ _ _ ⟨v, s, G', e, q, k⟩ => ⟨v, s, G', e, hq _ _ q, k⟩⟩
end Go.Ab
namespace Go.Proofs.YtbneeinknlddaaaGreat
open Go.Ab Go.Jo
attribute [local irreducible] AWP AOps EStep AQ PStep PRun PCall TCall VCall DStep TDies AWD DCall
set_option maxRecDepth 20000 in
theorem caught_ret (σ : Store) (hok : σ.all (okObj σ.length) = true) : DCall Tryz.prog 140 [.ptr 0 0, .ptr 1 0] σ .returning (fun u s => u = .returning ∧ s = σ) := by
 refine DCall.body Tryz.func140 rfl rfl Tryz.ntmps140 rfl rfl rfl rfl rfl rfl rfl ?_
 repeat' (first | refine aoQ rfl rfl rfl (fun hg => by first | exact PRun.nilIface (ti := 0) (w' := .nilIface) (by exact ⟨_, rfl⟩) rfl rfl nd rfl | exact std0) (by exact rfl) ?_ | refine sqW ?_ | refine rgK (fun K' hK => ?_) | (refine aoN (hK _ _ ?_); clear hK K') | refine cdN rfl tI (fun hc => ?_) (fun hc => ?_) | refine blK ?_)
 · exact ⟨.inl rfl, _, rfl, zB1, nLr _, hok⟩
 all_goals (exfalso; cases hc)
abbrev getN (m : Nat) (e : Int) (b : Bs) : Store := [.var [.nils], .var [.int e], .var [.sl 1 (b.map by8) .no], .own 1 m]
abbrev broke : FrameMode := .panicking [{ v := .iface 178 (.agg #[]), recovered := true }]
set_option maxRecDepth 20000 in
theorem caught_pan (out : List Int) (e : Int) (b : Bs) : DCall Tryz.prog 140 [.ptr 0 0, .ptr 1 0] (getS out e b) (.panicking brk) (fun u s => u = broke ∧ s = getN (out.map encN).length 7 b) := by
 refine DCall.body Tryz.func140 rfl rfl Tryz.ntmps140 rfl rfl rfl rfl rfl rfl rfl ?_
 repeat' (first | refine aoQ rfl rfl rfl (fun hg => by first | exact PRun.nilIface (ti := 0) (w' := .nilIface) (by exact ⟨_, rfl⟩) rfl rfl nd rfl | exact std0) (by exact rfl) ?_ | refine sqW ?_ | refine rgK (fun K' hK => ?_) | (refine aoN (hK _ _ ?_); clear hK K') | refine cdN rfl tI (fun hc => ?_) (fun hc => ?_) | refine blK ?_)
 · exfalso; cases hc
 · have hz : LOk Tryz.prog 178 ⟨.struct [], 0, 0, []⟩ := LOk.of rfl
   refine aoQ rfl rfl rfl (fun hg => PRun.assertZ (by exact rfl) rfl rfl tI) (by exact rfl) ?_
   repeat' (first | refine aoQ rfl rfl rfl (fun hg => by first | exact std0 | exact std1) (by exact rfl) ?_ | refine sqW ?_ | refine rgK (fun K' hK => ?_) | (refine aoN (hK _ _ ?_); clear hK K') | refine aoE (stW tabOk rfl rfl rfl tI rfl rfl tI rfl rfl rfl rfl rfl rfl rfl ?_) | refine aoE (EStep.alloc rfl rfl rfl (by decide) hz ?_) | refine aoE (EStep.store rfl rfl (Rd.w rfl tI) rfl (Rd.w rfl tI) rfl rfl hz rfl (by decide) rfl ?_) | refine cdN rfl tI (fun hc => ?_) (fun hc => ?_))
   · exact ⟨.inl rfl, _, rfl, rfl, nLr _, rfl⟩
   · exfalso; cases hc
theorem retCC {env : Env} {s : Store} {a b : AV} {p q : AV} (h2 : env 2 = p) (h3 : env 3 = q)
 (ha : rvA tab (fun _ => p) s (.cell 2 101) = some a) (hb : rvA tab (fun _ => q) s (.cell 3 37) = some b) :
 retS tab env s [.cell 2 101, .cell 3 37] = some (.tup [a, b]) := by
 subst h2; subst h3
 have e2 : rvA tab env s (.cell 2 101) = some a := ha
 have e3 : rvA tab env s (.cell 3 37) = some b := hb
 simp only [retS, rvsA, e2, e3, Option.map]
theorem rdN_stop {m k : Nat} {out : List Int} {r rest : Bs} (h : rdN m rest = (rdN (m - k) r).map fun p => (out ++ p.1, p.2)) (hk : k < m) (hr : Jo.rd r = none) : rdN m rest = none := by
 rw [h, show m - k = (m - (k + 1)) + 1 by omega, rdN, hr]; rfl
theorem rdN_step {m k : Nat} {out : List Int} {r rest r' : Bs} {v : Int} (h : rdN m rest = (rdN (m - k) r).map fun p => (out ++ p.1, p.2)) (hk : k < m) (hr : Jo.rd r = some (v, r')) : rdN m rest = (rdN (m - (k + 1)) r').map fun p => ((out ++ [v]) ++ p.1, p.2) := by
 rw [h, show m - k = (m - (k + 1)) + 1 by omega, rdN, hr]
 simp only
 cases rdN (m - (k + 1)) r' with
 | none => rfl
 | some p => simp
theorem rd_len {b r : Bs} {n : Int} (h : Jo.rd b = some (n, r)) : r.length ≤ b.length := by
 rw [(rd_inv h).1]; simp
set_option maxHeartbeats 3200000 in
set_option maxRecDepth 20000 in
theorem get_spec (b : Bs) (hl : b.length ≤ 9223372036854775807) : PCall Tryz.prog 129 [.sl 1 (b.map by8) .no] (tupLI (getR b).1 (getR b).2) := by
 refine PCall.bodyD tabOk Tryz.func129 rfl rfl Tryz.ntmps129 rfl ?_
 refine AWD.seq (AWD.awp ?_)
 repeat' (first | refine rgK (fun K' hK => ?_) | (refine aoN (hK _ _ ?_); clear hK K') | refine aoE (alW tabOk rfl rfl rfl rfl rfl rfl ?_))
 refine AWD.seq (AWD.defer 0 rfl (fun K' hK => aoN (hK _ _ ⟨140, [], [], [.ptr 0 0, .ptr 1 0], _, _, _, rfl, rfl, rfl, rfl, tI, rfl, ⟨tI, tI, tI⟩, ?_⟩)))
 refine AWD.seq (AWD.awp ?_)
 clear hK K'
 repeat' (first | refine aoQ rfl rfl rfl (fun hg => by first | exact std0 | exact pbD tabOk rfl rfl nds) (by exact rfl) ?_ | refine rgK (fun K' hK => ?_) | (refine aoN (hK _ _ ?_); clear hK K') | refine aoE (stW tabOk rfl rfl rfl tI rfl rfl tI rfl rfl rfl rfl rfl rfl rfl ?_) | refine aoE (alW tabOk rfl rfl rfl rfl rfl rfl ?_))
 refine AWD.awp ?_
 refine AWP.ownNilV (v := 0) (i := 0) (sz := 1) (cs := [.nils]) rfl rfl ?_
 refine AWP.keep [(2, .ptr 0 0), (3, .ptr 1 0), (4, .ptr 2 0)] ⟨rfl, rfl, rfl, tI⟩ ?_
 have hret : ∀ (out : List Int) (e : Int) (r : Bs) (env : Env), env 2 = .ptr 0 0 → env 3 = .ptr 1 0 → getR b = (out, e) → ∃ u0, modeOf .ret = some u0 ∧ DCall Tryz.prog 140 [.ptr 0 0, .ptr 1 0] (getS out e r) u0 (fun u' s' => settle u' = .returning ∧ ∃ u, retS tab env s' Tryz.f129.results.toList = some u ∧ Ent u (tupLI (getR b).1 (getR b).2)) := fun out e r env h2 h3 hg => by
  refine ⟨.returning, rfl, DCall.mono (caught_ret _ rfl) ?_⟩
  rintro _ _ ⟨rfl, rfl⟩
  refine ⟨rfl, tupLI out e, ?_, ?_⟩
  · exact retCC h2 h3 rfl rfl
  · rw [hg]; exact Ent.rfl' _
 have hnil : ∀ (m : Nat) (r : Bs) (env : Env), env 2 = .ptr 0 0 → env 3 = .ptr 1 0 → getR b = ([], 7) → ∃ u0, modeOf .ret = some u0 ∧ DCall Tryz.prog 140 [.ptr 0 0, .ptr 1 0] (getN m 7 r) u0 (fun u' s' => settle u' = .returning ∧ ∃ u, retS tab env s' Tryz.f129.results.toList = some u ∧ Ent u (tupLI (getR b).1 (getR b).2)) := fun m r env h2 h3 hg => by
  refine ⟨.returning, rfl, DCall.mono (caught_ret _ rfl) ?_⟩
  rintro _ _ ⟨rfl, rfl⟩
  refine ⟨rfl, .tup [.nils, .int 7], ?_, ?_⟩
  · exact retCC h2 h3 rfl rfl
  · rw [hg]; exact Ent.tup2 Ent.nil (Ent.rfl' _)
 have hpan : ∀ (out : List Int) (e : Int) (r : Bs) (env : Env), env 2 = .ptr 0 0 → env 3 = .ptr 1 0 → getR b = ([], 7) → ∃ u0, modeOf (.panic brk) = some u0 ∧ DCall Tryz.prog 140 [.ptr 0 0, .ptr 1 0] (getS out e r) u0 (fun u' s' => settle u' = .returning ∧ ∃ u, retS tab env s' Tryz.f129.results.toList = some u ∧ Ent u (tupLI (getR b).1 (getR b).2)) := fun out e r env h2 h3 hg => by
  refine ⟨.panicking brk, rfl, DCall.mono (caught_pan _ _ _) ?_⟩
  rintro _ _ ⟨rfl, rfl⟩
  refine ⟨rfl, .tup [.nils, .int 7], ?_, ?_⟩
  · exact retCC h2 h3 rfl rfl
  · rw [hg]; exact Ent.tup2 Ent.nil (Ent.rfl' _)
 cases hrd : Jo.rd b with
 | none =>
   have hg := getR_none (getL_none hrd)
   refine sqW (AWP.regionP 0 rfl (fun K' hK => aoN (hK _ _ (DStep.call (first := []) (caps := []) (next_D [] 0 b hl hrd) rfl rfl rfl tI rfl ⟨tI, tI⟩ (fun s hs => ?_)))))
   subst hs
   exact hpan [] 0 b _ (by rfl) (by rfl) hg
 | some p =>
   obtain ⟨n, rest⟩ := p
   have hv := TCall.val (first := []) (caps := []) (avs := [.ptr 2 0]) (next_T [] 0 b rest n hl hrd)
   have hrl := rd_len hrd
   repeat' (first | refine sqW ?_ | refine rgK (fun K' hK => ?_) | refine aoE (scT (hv) rfl rfl rfl rfl rfl nd rfl rfl nds ?_))
   rintro _ _ ⟨rfl, rfl⟩
   repeat' (first | refine aoQ rfl rfl rfl (fun hg => by exact std0) (by exact rfl) ?_ | refine sqW ?_ | refine rgK (fun K' hK => ?_) | (refine aoN (hK _ _ ?_); clear hK K') | refine aoE (stW tabOk rfl rfl rfl tI rfl rfl tI rfl rfl rfl rfl rfl rfl rfl ?_) | refine cdN rfl tI (fun hc => ?_) (fun hc => ?_) | refine blK ?_ | refine skW ?_ | refine rtW ?_)
   · exact hnil 0 rest _ (by rfl) (by rfl) (getR_none (getL_range hrd (by simp only [zAh, zAx, zA2, zAo, zAs, dEt, dEf, zAz, zAv, beq_iff_eq, beq_eq_false_iff_ne, bne_iff_ne, bne_eq_false_iff_eq, gt_iff_lt, ge_iff_le, ne_eq] at hc; omega)))
   simp only [zAh, zAx, zA2, zAo, zAs, dEt, dEf, zAz, zAv, beq_iff_eq, beq_eq_false_iff_ne, bne_iff_ne, bne_eq_false_iff_eq, gt_iff_lt, ge_iff_le, ne_eq] at hc
   obtain ⟨m, rfl⟩ : ∃ m : Nat, n = m := ⟨n.toNat, by omega⟩
   have hg := getL_in hrd (by omega)
   have hm : m ≤ 4000 := by omega
   refine lpW (ι := Nat × List Int × Bs) (fun i => [(2, .ptr 0 0), (3, .ptr 1 0), (4, .ptr 2 0), (15, .int m), (16, .int i.1)]) (fun i => getS i.2.1 0 i.2.2) (fun i => i.1 ≤ m ∧ i.2.1.length = i.1 ∧ i.2.2.length ≤ b.length ∧ rdN m rest = (rdN (m - i.1) i.2.2).map fun p => (i.2.1 ++ p.1, p.2)) (fun i => m - i.1) (0, [], rest) ⟨nZl _, rfl, hrl, by cases rdN m rest <;> simp⟩ ⟨rfl, rfl, rfl, rfl, rfl, tI⟩ rfl ?_
   rintro ⟨k, out, r⟩ ⟨g1, g2, g3, g4⟩
   dsimp only at g1 g2 g3 g4 ⊢
   rcases nLg k m with hk | hk
   · cases hr : Jo.rd r with
     | none =>
       have hgb : getR b = ([], 7) := getR_none (by rw [hg, rdN_stop g4 hk hr])
       clear hret hnil g4 hg hv
       repeat' (first | refine aoQ rfl rfl rfl (fun hg => by first | exact std0 | exact std1) (by exact rfl) ?_ | refine sqW ?_ | refine rgK (fun K' hK => ?_) | (refine aoN (hK _ _ ?_); clear hK K') | refine aoE (stW tabOk rfl rfl rfl tI rfl rfl tI rfl rfl rfl rfl rfl rfl rfl ?_) | refine cdN rfl tI (fun hc => ?_) (fun hc => ?_) | refine blK ?_ | refine exW ?_ | refine skW ?_)
       · refine AWP.draw2E (v := .sl 1 (out.map encN) (.own 3)) rfl rfl rfl ⟨by decide +kernel, by decide +kernel, by decide +kernel⟩ rfl (PStep.plain rfl (PRun.step tabOk rfl tI)) ?_
         intro env' he
         rcases he with rfl | rfl
         · refine DStep.call (first := []) (caps := []) (next_D out 0 r (by omega) hr) rfl rfl rfl tI rfl ⟨tI, tI⟩ (fun s hs => ?_)
           subst hs
           exact hpan out 0 r _ (by rfl) (by rfl) hgb
         · refine DStep.call (first := []) (caps := []) (next_D out 0 r (by omega) hr) rfl rfl rfl tI rfl ⟨tI, tI⟩ (fun s hs => ?_)
           subst hs
           exact hpan out 0 r _ (by rfl) (by rfl) hgb
       all_goals (exfalso; omega)
     | some p =>
       obtain ⟨v, r'⟩ := p
       have hs' := rdN_step g4 hk hr
       have hrl' := rd_len hr
       have hv' := TCall.val (first := []) (caps := []) (avs := [.ptr 2 0]) (next_T out 0 r r' v (by omega) hr)
       clear hret hnil hpan g4 hg hv
       repeat' (first | refine aoQ rfl rfl rfl (fun hg => by first | exact std0 | exact std1) (by exact rfl) ?_ | refine sqW ?_ | refine rgK (fun K' hK => ?_) | (refine aoN (hK _ _ ?_); clear hK K') | refine aoE (stW tabOk rfl rfl rfl tI rfl rfl tI rfl rfl rfl rfl rfl rfl rfl ?_) | refine cdN rfl tI (fun hc => ?_) (fun hc => ?_) | refine blK ?_ | refine exW ?_ | refine skW ?_)
       · refine AWP.drawYE effC (fun j => match j with | 0 => getS out 0 r | 1 => getS out 0 r' | 2 => [.var [.sl 1 (out.map encN) (.own 3)], .var [.int 0], .var [.sl 1 (r'.map by8) .no], .own 1 (out.map encN ++ [encN v]).length] | _ => getS (out ++ [v]) 0 r') rfl (by kernel_rfl) (by decide +kernel) rfl (by decide +kernel) (fun K' hK => ?_)
         repeat' (first
          | refine yqQ (a := 0) (b := 0) rfl (by decide +kernel) (by decide +kernel) rfl rfl rfl (fun k h1 h2 hg => by (have hk : k = 0 := (by omega)); (rcases hk with rfl) <;> (first | exact std0 | exact std1)) (by exact rfl) ?_
          | refine yqQ (a := 0) (b := 1) rfl (by decide +kernel) (by decide +kernel) rfl rfl rfl (fun k h1 h2 hg => by (have hk : k = 0 ∨ k = 1 := (by omega)); (rcases hk with rfl | rfl) <;> (first | exact std0 | exact std1)) (by exact rfl) ?_
          | refine yqQ (a := 1) (b := 1) rfl (by decide +kernel) (by decide +kernel) rfl rfl rfl (fun k h1 h2 hg => by (have hk : k = 1 := (by omega)); (rcases hk with rfl) <;> (first | exact std0 | exact std1)) (by exact rfl) ?_
          | refine yqQ (a := 0) (b := 2) rfl (by decide +kernel) (by decide +kernel) rfl rfl rfl (fun k h1 h2 hg => by (have hk : k = 0 ∨ k = 1 ∨ k = 2 := (by omega)); (rcases hk with rfl | rfl | rfl) <;> (first | exact std0 | exact std1)) (by exact rfl) ?_
          | refine yqQ (a := 1) (b := 2) rfl (by decide +kernel) (by decide +kernel) rfl rfl rfl (fun k h1 h2 hg => by (have hk : k = 1 ∨ k = 2 := (by omega)); (rcases hk with rfl | rfl) <;> (first | exact std0 | exact std1)) (by exact rfl) ?_
          | refine yqQ (a := 2) (b := 2) rfl (by decide +kernel) (by decide +kernel) rfl rfl rfl (fun k h1 h2 hg => by (have hk : k = 2 := (by omega)); (rcases hk with rfl) <;> (first | exact std0 | exact std1)) (by exact rfl) ?_)
         refine YQ.e (v := .int v) (d := some 19) rfl rfl rfl ?_ ?_
         · intro env' he
           refine scT hv' rfl rfl rfl rfl rfl tI rfl (by simp only [rds, rdv_congr (he 4 (by decide +kernel))]; rfl) ⟨by rw [rdn_congr (he 4 (by decide +kernel))]; exact tI, tI⟩ ?_
           rintro _ _ ⟨rfl, rfl⟩
           exact ⟨rfl, rfl⟩
         repeat' (first
          | refine yqQ (a := 0) (b := 0) rfl (by decide +kernel) (by decide +kernel) rfl rfl rfl (fun k h1 h2 hg => by (have hk : k = 0 := (by omega)); (rcases hk with rfl) <;> (first | exact std0 | exact pbS tabOk rfl rfl nds | exact std1)) (by exact rfl) ?_
          | refine yqQ (a := 0) (b := 1) rfl (by decide +kernel) (by decide +kernel) rfl rfl rfl (fun k h1 h2 hg => by (have hk : k = 0 ∨ k = 1 := (by omega)); (rcases hk with rfl | rfl) <;> (first | exact std0 | exact pbS tabOk rfl rfl nds | exact std1)) (by exact rfl) ?_
          | refine yqQ (a := 1) (b := 1) rfl (by decide +kernel) (by decide +kernel) rfl rfl rfl (fun k h1 h2 hg => by (have hk : k = 1 := (by omega)); (rcases hk with rfl) <;> (first | exact std0 | exact pbS tabOk rfl rfl nds | exact std1)) (by exact rfl) ?_
          | refine yqQ (a := 0) (b := 2) rfl (by decide +kernel) (by decide +kernel) rfl rfl rfl (fun k h1 h2 hg => by (have hk : k = 0 ∨ k = 1 ∨ k = 2 := (by omega)); (rcases hk with rfl | rfl | rfl) <;> (first | exact std0 | exact pbS tabOk rfl rfl nds | exact std1)) (by exact rfl) ?_
          | refine yqQ (a := 1) (b := 2) rfl (by decide +kernel) (by decide +kernel) rfl rfl rfl (fun k h1 h2 hg => by (have hk : k = 1 ∨ k = 2 := (by omega)); (rcases hk with rfl | rfl) <;> (first | exact std0 | exact pbS tabOk rfl rfl nds | exact std1)) (by exact rfl) ?_
          | refine yqQ (a := 2) (b := 2) rfl (by decide +kernel) (by decide +kernel) rfl rfl rfl (fun k h1 h2 hg => by (have hk : k = 2 := (by omega)); (rcases hk with rfl) <;> (first | exact std0 | exact pbS tabOk rfl rfl nds | exact std1)) (by exact rfl) ?_)
         refine YQ.e (v := .sl 1 (out.map encN ++ [encN v]) (.own 3)) (d := some 21) rfl rfl rfl ?_ ?_
         · intro env' he
           refine apO tabOk rfl rfl rfl (by decide) (Rd.w ((rdv_congr (he 18 (by decide +kernel))).trans rfl) (by rw [rdn_congr (he 18 (by decide +kernel))]; exact tI)) rfl (Rd.w ((rdv_congr (he 20 (by decide +kernel))).trans rfl) (by rw [rdn_congr (he 20 (by decide +kernel))]; exact tI)) (.sl rfl (by intro x hx; rcases zAa.1 hx with rfl; rfl)) (LOk.of (tabOk.get rfl)) (LOk.of (tabOk.get rfl)) rfl rfl (by simp only [lLm, lLa, zA1, zA9]; omega) (by simp only [lLm, lLa, zA1, zA9]; omega) ⟨rfl, rfl⟩
         repeat' (first
          | refine yqQ (a := 0) (b := 0) rfl (by decide +kernel) (by decide +kernel) rfl rfl rfl (fun k h1 h2 hg => by (have hk : k = 0 := (by omega)); (rcases hk with rfl) <;> (first | exact std0 | exact std1)) (by exact rfl) ?_
          | refine yqQ (a := 0) (b := 1) rfl (by decide +kernel) (by decide +kernel) rfl rfl rfl (fun k h1 h2 hg => by (have hk : k = 0 ∨ k = 1 := (by omega)); (rcases hk with rfl | rfl) <;> (first | exact std0 | exact std1)) (by exact rfl) ?_
          | refine yqQ (a := 1) (b := 1) rfl (by decide +kernel) (by decide +kernel) rfl rfl rfl (fun k h1 h2 hg => by (have hk : k = 1 := (by omega)); (rcases hk with rfl) <;> (first | exact std0 | exact std1)) (by exact rfl) ?_
          | refine yqQ (a := 0) (b := 2) rfl (by decide +kernel) (by decide +kernel) rfl rfl rfl (fun k h1 h2 hg => by (have hk : k = 0 ∨ k = 1 ∨ k = 2 := (by omega)); (rcases hk with rfl | rfl | rfl) <;> (first | exact std0 | exact std1)) (by exact rfl) ?_
          | refine yqQ (a := 1) (b := 2) rfl (by decide +kernel) (by decide +kernel) rfl rfl rfl (fun k h1 h2 hg => by (have hk : k = 1 ∨ k = 2 := (by omega)); (rcases hk with rfl | rfl) <;> (first | exact std0 | exact std1)) (by exact rfl) ?_
          | refine yqQ (a := 2) (b := 2) rfl (by decide +kernel) (by decide +kernel) rfl rfl rfl (fun k h1 h2 hg => by (have hk : k = 2 := (by omega)); (rcases hk with rfl) <;> (first | exact std0 | exact std1)) (by exact rfl) ?_)
         refine YQ.e (v := .any) (d := none) rfl rfl rfl ?_ ?_
         · intro env' he
           refine stW tabOk rfl rfl ((rdv_congr (he 2 (by decide +kernel))).trans rfl) (by rw [rdn_congr (he 2 (by decide +kernel))]; exact tI) rfl ((rdv_congr (he 21 (by decide +kernel))).trans rfl) (by rw [rdn_congr (he 21 (by decide +kernel))]; exact tI) rfl rfl rfl rfl rfl rfl rfl ⟨rfl, ?_⟩
           show [AObj.var [.sl 1 (out.map encN ++ [encN v]) (.own 3)], AObj.var [.int 0], AObj.var [.sl 1 (r'.map by8) .no], AObj.own 1 (out.map encN ++ [encN v]).length] = getS (out ++ [v]) 0 r'
           unfold getS; rw [zB3]; rfl
         refine YQ.nil (hK _ _ ?_)
         clear hK K'
         show AWP _ _ _ _ _ (getS (out ++ [v]) 0 r')
         repeat' (first | refine aoQ rfl rfl rfl (fun hg => by exact std0) (by exact rfl) ?_ | refine rgK (fun K' hK => ?_) | (refine aoN (hK _ _ ?_); clear hK K'))
         exact ⟨(k + 1, out ++ [v], r'), ⟨by dsimp only; omega, by simp [g2], by dsimp only; omega, hs'⟩, by dsimp only; omega, ⟨rfl, rfl, rfl, rfl, rfl, tI⟩, rfl⟩
       all_goals (exfalso; omega)
   · have hkm : k = m := by omega
     subst hkm
     have h2 : rdN k rest = some (out, r) := by rw [g4, Nat.sub_self]; simp [rdN]
     rw [h2] at hg
     clear g4
     repeat' (first | refine aoQ rfl rfl rfl (fun hg => by first | exact std0 | exact std1) (by exact rfl) ?_ | refine sqW ?_ | refine rgK (fun K' hK => ?_) | (refine aoN (hK _ _ ?_); clear hK K') | refine aoE (stW tabOk rfl rfl rfl tI rfl rfl tI rfl rfl rfl rfl rfl rfl rfl ?_) | refine cdN rfl tI (fun hc => ?_) (fun hc => ?_) | refine blK ?_ | refine exW ?_ | refine skW ?_ | refine rtW ?_ | refine dL2 (by kernel_rfl) (by decide +kernel) rfl (fun K' hK => ?_) | refine aqQ rfl rfl (fun hg => by exact std0) (by exact rfl) ?_)
     · exfalso; omega
     · refine hnil _ r _ (by rfl) (by rfl) (getR_none ?_)
       rw [hg]
       cases r with
       | nil => simp at hc
       | cons x xs => rfl
     · refine hret out 0 r _ (by rfl) (by rfl) (getR_some ?_)
       rw [hg]
       cases r with
       | nil => rfl
       | cons x xs => simp at hc; omega
abbrev digS (d : Nat) : Store := [.var [.prim (.int .u64 (d : Nat))]]
theorem run_T : TCall Tryz.prog 139 [] [] (fun r s => r = .tup [.fn (.func 144) [] [.ptr 0 0], .fn (.func 145) [] [.ptr 0 0]] ∧ s = digS 14695981039346656037) := by
 refine TCall.body Tryz.func139 rfl rfl Tryz.ntmps139 rfl rfl ?_
 repeat' (first | refine aoQ rfl rfl rfl (fun hg => by first | exact std0 | exact std1) (by exact rfl) ?_ | refine sqW ?_ | refine rgK (fun K' hK => ?_) | (refine aoN (hK _ _ ?_); clear hK K') | refine aoE (bxW rfl rfl rfl rfl rfl tI rfl rfl ?_) | refine aoE (stW tabOk rfl rfl rfl tI rfl rfl tI rfl rfl rfl rfl rfl rfl rfl ?_) | refine aoE (alW tabOk rfl rfl rfl rfl rfl rfl ?_) | refine cdN rfl tI (fun hc => ?_) (fun hc => ?_) | refine blK ?_ | refine exW ?_ | refine skW ?_ | refine rtW ?_ | refine dK2 (by decide +kernel) (by kernel_rfl) (by decide +kernel) rfl (fun K' hK => ?_) | refine dL2 (by kernel_rfl) (by decide +kernel) rfl (fun K' hK => ?_) | (refine aqN (hK _ ?_); clear hK K') | refine aqN ?_ | refine aqQ rfl rfl (fun hg => by first | exact std0 | exact std1) (by exact rfl) ?_)
 exact ⟨.inr rfl, _, _, ⟨rfl, rfl⟩, rfl, by decide, rfl, rfl, rfl⟩
theorem add_T (d : Nat) (hd : d < 18446744073709551616) (b : Bs) (hl : b.length ≤ 9223372036854775807) : TCall Tryz.prog 144 [.sl 1 (b.map by8) .no, .ptr 0 0] (digS d) (fun _ s => s = digS (fnvF d b)) := by
 refine TCall.body Tryz.func144 rfl rfl Tryz.ntmps144 rfl rfl ?_
 repeat' (first | refine aoQ rfl rfl rfl (fun hg => by first | exact std0 | exact std1) (by exact rfl) ?_ | refine sqW ?_ | refine rgK (fun K' hK => ?_) | (refine aoN (hK _ _ ?_); clear hK K') | refine aoE (bxW rfl rfl rfl rfl rfl tI rfl rfl ?_) | refine aoE (stW tabOk rfl rfl rfl tI rfl rfl tI rfl rfl rfl rfl rfl rfl rfl ?_) | refine aoE (alW tabOk rfl rfl rfl rfl rfl rfl ?_) | refine cdN rfl tI (fun hc => ?_) (fun hc => ?_) | refine blK ?_ | refine exW ?_ | refine skW ?_ | refine rtW ?_ | refine dK2 (by decide +kernel) (by kernel_rfl) (by decide +kernel) rfl (fun K' hK => ?_) | refine dL2 (by kernel_rfl) (by decide +kernel) rfl (fun K' hK => ?_) | (refine aqN (hK _ ?_); clear hK K') | refine aqN ?_ | refine aqQ rfl rfl (fun hg => by first | exact std0 | exact std1) (by exact rfl) ?_)
 refine lpW (ι := Nat) (fun k => [(1, .ptr 0 0), (5, .sl 1 (b.map by8) .no), (6, .int b.length), (7, .int k)]) (fun k => digS (fnvF d (b.take k))) (fun k => k ≤ b.length) (fun k => b.length - k) 0 (nZl _) ⟨rfl, rfl, rfl, rfl, tI⟩ rfl ?_
 intro k hk
 by_cases hlt : k < b.length
 · have hr := fnv_round (fnvF d (b.take k)) (b.getD k default) (fnvF_lt _ _ hd)
   have hs : fnvF d (b.take (k + 1)) = fstep (fnvF d (b.take k)) (b.getD k default) := by
    rw [zB0 hlt, fnvF_append, getD_lt hlt, fnvF_one]
   repeat' (first | refine aoQ rfl rfl rfl (fun hg => by first | exact std0 | exact PRun.bitsW rfl rfl nd rfl nd rfl | exact PRun.shlW rfl rfl nd rfl nd (by omega) | exact PRun.shrW rfl rfl nd rfl nd (by omega) | exact std1) (by exact rfl) ?_ | refine sqW ?_ | refine rgK (fun K' hK => ?_) | (refine aoN (hK _ _ ?_); clear hK K') | refine aoE (bxW rfl rfl rfl rfl rfl tI rfl rfl ?_) | refine aoE (stW tabOk rfl rfl rfl tI rfl rfl tI rfl rfl rfl rfl rfl rfl rfl ?_) | refine aoE (alW tabOk rfl rfl rfl rfl rfl rfl ?_) | refine cdN rfl tI (fun hc => ?_) (fun hc => ?_) | refine blK ?_ | refine exW ?_ | refine skW ?_ | refine rtW ?_ | refine dK2 (by decide +kernel) (by kernel_rfl) (by decide +kernel) rfl (fun K' hK => ?_) | refine dL2 (by kernel_rfl) (by decide +kernel) rfl (fun K' hK => ?_) | (refine aqN (hK _ ?_); clear hK K') | refine aqN ?_ | refine aqQ rfl rfl (fun hg => by first | exact std0 | exact PRun.bitsW rfl rfl nd rfl nd rfl | exact PRun.shlW rfl rfl nd rfl nd (by omega) | exact PRun.shrW rfl rfl nd rfl nd (by omega) | exact std1) (by exact rfl) ?_)
   · refine ⟨k + 1, by omega, by omega, ⟨rfl, rfl, rfl, rfl, tI⟩, ?_⟩
     rw [hs]
     exact congrArg (fun z => [AObj.var [AV.prim (.int .u64 z)]]) hr
   · exfalso; omega
 · repeat' (first | refine aoQ rfl rfl rfl (fun hg => by first | exact std0 | exact std1) (by exact rfl) ?_ | refine sqW ?_ | refine rgK (fun K' hK => ?_) | (refine aoN (hK _ _ ?_); clear hK K') | refine aoE (bxW rfl rfl rfl rfl rfl tI rfl rfl ?_) | refine aoE (stW tabOk rfl rfl rfl tI rfl rfl tI rfl rfl rfl rfl rfl rfl rfl ?_) | refine aoE (alW tabOk rfl rfl rfl rfl rfl rfl ?_) | refine cdN rfl tI (fun hc => ?_) (fun hc => ?_) | refine blK ?_ | refine exW ?_ | refine skW ?_ | refine rtW ?_ | refine dK2 (by decide +kernel) (by kernel_rfl) (by decide +kernel) rfl (fun K' hK => ?_) | refine dL2 (by kernel_rfl) (by decide +kernel) rfl (fun K' hK => ?_) | (refine aqN (hK _ ?_); clear hK K') | refine aqN ?_ | refine aqQ rfl rfl (fun hg => by first | exact std0 | exact std1) (by exact rfl) ?_)
   · exfalso; omega
   · have e : b.take k = b := zBd (by omega)
     rw [e]
     exact ⟨.inl rfl, .tup [], _, rfl, rfl, nLr _, rfl, rfl, rfl⟩
theorem get_T (d : Nat) : TCall Tryz.prog 145 [.ptr 0 0] (digS d) (fun r s => r = .prim (.int .u64 (d : Nat)) ∧ s = digS d) := by
 refine TCall.body Tryz.func145 rfl rfl Tryz.ntmps145 rfl rfl ?_
 repeat' (first | refine aoQ rfl rfl rfl (fun hg => by first | exact std0 | exact std1) (by exact rfl) ?_ | refine sqW ?_ | refine rgK (fun K' hK => ?_) | (refine aoN (hK _ _ ?_); clear hK K') | refine aoE (bxW rfl rfl rfl rfl rfl tI rfl rfl ?_) | refine aoE (stW tabOk rfl rfl rfl tI rfl rfl tI rfl rfl rfl rfl rfl rfl rfl ?_) | refine aoE (alW tabOk rfl rfl rfl rfl rfl rfl ?_) | refine cdN rfl tI (fun hc => ?_) (fun hc => ?_) | refine blK ?_ | refine exW ?_ | refine skW ?_ | refine rtW ?_ | refine dK2 (by decide +kernel) (by kernel_rfl) (by decide +kernel) rfl (fun K' hK => ?_) | refine dL2 (by kernel_rfl) (by decide +kernel) rfl (fun K' hK => ?_) | (refine aqN (hK _ ?_); clear hK K') | refine aqN ?_ | refine aqQ rfl rfl (fun hg => by first | exact std0 | exact std1) (by exact rfl) ?_)
 exact ⟨.inr rfl, _, _, ⟨rfl, rfl⟩, rfl, nLr _, rfl, rfl, rfl⟩
theorem digest_spec (b : Bs) (hl : b.length ≤ 9223372036854775807) : PCall Tryz.prog 128 [.sl 1 (b.map by8) .no] (.prim (.int .u64 (fnv b : Nat))) := by
 have h1 := TCall.val (first := []) (caps := []) (avs := []) run_T
 have h2 := TCall.val (first := []) (caps := [.ptr 0 0]) (avs := [.sl 1 (b.map by8) .no]) (add_T 14695981039346656037 (by omega) b hl)
 have h3 := TCall.val (first := []) (caps := [.ptr 0 0]) (avs := []) (get_T (fnvF 14695981039346656037 b))
 refine PCall.body Tryz.func128 rfl rfl Tryz.ntmps128 rfl rfl ?_
 repeat' (first | refine aoQ rfl rfl rfl (fun hg => by first | exact std0 | exact std1) (by exact rfl) ?_ | refine sqW ?_ | refine rgK (fun K' hK => ?_) | (refine aoN (hK _ _ ?_); clear hK K') | refine aoE (bxW rfl rfl rfl rfl rfl tI rfl rfl ?_) | refine aoE (stW tabOk rfl rfl rfl tI rfl rfl tI rfl rfl rfl rfl rfl rfl rfl ?_) | refine aoE (alW tabOk rfl rfl rfl rfl rfl rfl ?_) | refine aoE (scT (h1) rfl rfl rfl rfl rfl nd rfl rfl nds ?_) | refine cdN rfl tI (fun hc => ?_) (fun hc => ?_) | refine blK ?_ | refine exW ?_ | refine skW ?_ | refine rtW ?_ | refine dK2 (by decide +kernel) (by kernel_rfl) (by decide +kernel) rfl (fun K' hK => ?_) | refine dL2 (by kernel_rfl) (by decide +kernel) rfl (fun K' hK => ?_) | (refine aqN (hK _ ?_); clear hK K') | refine aqN ?_ | refine aqQ rfl rfl (fun hg => by first | exact std0 | exact std1) (by exact rfl) ?_)
 rintro _ _ ⟨rfl, rfl⟩
 repeat' (first | refine aoQ rfl rfl rfl (fun hg => by first | exact std0 | exact std1) (by exact rfl) ?_ | refine sqW ?_ | refine rgK (fun K' hK => ?_) | (refine aoN (hK _ _ ?_); clear hK K') | refine aoE (bxW rfl rfl rfl rfl rfl tI rfl rfl ?_) | refine aoE (stW tabOk rfl rfl rfl tI rfl rfl tI rfl rfl rfl rfl rfl rfl rfl ?_) | refine aoE (alW tabOk rfl rfl rfl rfl rfl rfl ?_) | refine aoE (scT (h2) rfl rfl rfl rfl rfl nd rfl rfl nds ?_) | refine cdN rfl tI (fun hc => ?_) (fun hc => ?_) | refine blK ?_ | refine exW ?_ | refine skW ?_ | refine rtW ?_ | refine dK2 (by decide +kernel) (by kernel_rfl) (by decide +kernel) rfl (fun K' hK => ?_) | refine dL2 (by kernel_rfl) (by decide +kernel) rfl (fun K' hK => ?_) | (refine aqN (hK _ ?_); clear hK K') | refine aqN ?_ | refine aqQ rfl rfl (fun hg => by first | exact std0 | exact std1) (by exact rfl) ?_)
 rintro rv _ rfl
 repeat' (first | refine aoQ rfl rfl rfl (fun hg => by first | exact std0 | exact std1) (by exact rfl) ?_ | refine sqW ?_ | refine rgK (fun K' hK => ?_) | (refine aoN (hK _ _ ?_); clear hK K') | refine aoE (bxW rfl rfl rfl rfl rfl tI rfl rfl ?_) | refine aoE (stW tabOk rfl rfl rfl tI rfl rfl tI rfl rfl rfl rfl rfl rfl rfl ?_) | refine aoE (alW tabOk rfl rfl rfl rfl rfl rfl ?_) | refine aoE (scT (h3) rfl rfl rfl rfl rfl nd rfl rfl nds ?_) | refine cdN rfl tI (fun hc => ?_) (fun hc => ?_) | refine blK ?_ | refine exW ?_ | refine skW ?_ | refine rtW ?_ | refine dK2 (by decide +kernel) (by kernel_rfl) (by decide +kernel) rfl (fun K' hK => ?_) | refine dL2 (by kernel_rfl) (by decide +kernel) rfl (fun K' hK => ?_) | (refine aqN (hK _ ?_); clear hK K') | refine aqN ?_ | refine aqQ rfl rfl (fun hg => by first | exact std0 | exact std1) (by exact rfl) ?_)
 rintro _ _ ⟨rfl, rfl⟩
 repeat' (first | refine aoQ rfl rfl rfl (fun hg => by first | exact std0 | exact std1) (by exact rfl) ?_ | refine sqW ?_ | refine rgK (fun K' hK => ?_) | (refine aoN (hK _ _ ?_); clear hK K') | refine aoE (bxW rfl rfl rfl rfl rfl tI rfl rfl ?_) | refine aoE (stW tabOk rfl rfl rfl tI rfl rfl tI rfl rfl rfl rfl rfl rfl rfl ?_) | refine aoE (alW tabOk rfl rfl rfl rfl rfl rfl ?_) | refine cdN rfl tI (fun hc => ?_) (fun hc => ?_) | refine blK ?_ | refine exW ?_ | refine skW ?_ | refine rtW ?_ | refine dK2 (by decide +kernel) (by kernel_rfl) (by decide +kernel) rfl (fun K' hK => ?_) | refine dL2 (by kernel_rfl) (by decide +kernel) rfl (fun K' hK => ?_) | (refine aqN (hK _ ?_); clear hK K') | refine aqN ?_ | refine aqQ rfl rfl (fun hg => by first | exact std0 | exact std1) (by exact rfl) ?_)
 exact ⟨.inr rfl, Ent.of rfl⟩
def byU (d i : Nat) : AV := .prim (.int .u8 ((UInt8.ofNat (d / 256 ^ (7 - i))).toNat : Nat))
def sumC (d k : Nat) : List AV := (List.range 8).map fun i => if i < k then byU d i else .prim (.int .u8 0)
theorem sumC_set (d : Nat) {k : Nat} (hk : k < 8) : (sumC d k).set k (byU d k) = sumC d (k + 1) := by
 have h : k = 0 ∨ k = 1 ∨ k = 2 ∨ k = 3 ∨ k = 4 ∨ k = 5 ∨ k = 6 ∨ k = 7 := by omega
 rcases h with rfl | rfl | rfl | rfl | rfl | rfl | rfl | rfl <;> rfl
theorem splice_one {cs : List AV} {k : Nat} {u : AV} (h : k < cs.length) : splice cs k [u] = cs.set k u := by
 rw [List.set_eq_take_append_cons_drop, if_pos h]; simp [splice]
set_option maxHeartbeats 1600000 in
theorem sum_spec (b : Bs) (hl : b.length ≤ 9223372036854775807) : PCall Tryz.prog 97 [.sl 1 (b.map by8) .no] (.agg ((sumB b).map fun c => .prim (.int .u8 c.toNat))) := by
 refine PCall.bodyS tabOk Tryz.func97 rfl rfl Tryz.ntmps97 rfl ?_
 repeat' (first | refine aoQ rfl rfl rfl (fun hg => by first | exact std0 | exact pcW (digest_spec b hl) rfl rfl nd rfl nds | exact std1) (by exact rfl) ?_ | refine sqW ?_ | refine rgK (fun K' hK => ?_) | (refine aoN (hK _ _ ?_); clear hK K') | refine aoE (bxW rfl rfl rfl rfl rfl tI rfl rfl ?_) | refine aoE (stW tabOk rfl rfl rfl tI rfl rfl tI rfl rfl rfl rfl rfl rfl rfl ?_) | refine aoE (alW tabOk rfl rfl rfl rfl rfl rfl ?_) | refine cdN rfl tI (fun hc => ?_) (fun hc => ?_) | refine blK ?_ | refine exW ?_ | refine skW ?_ | refine rtW ?_ | refine dK2 (by decide +kernel) (by kernel_rfl) (by decide +kernel) rfl (fun K' hK => ?_) | refine dL2 (by kernel_rfl) (by decide +kernel) rfl (fun K' hK => ?_) | (refine aqN (hK _ ?_); clear hK K') | refine aqN ?_ | refine aqQ rfl rfl (fun hg => by first | exact std0 | exact pcW (digest_spec b hl) rfl rfl nd rfl nds | exact std1) (by exact rfl) ?_)
 have hd := fnv_lt b
 have hsh : ∀ k : Nat, k < 8 → IntKind.u8.wrap ((fnv b : Int).fdiv (2 ^ (Min.min (8 * ((7 : Int) - (k : Int))).toNat 64))) = ((UInt8.ofNat (fnv b / 256 ^ (7 - k))).toNat : Int) := fun k hk => by
  rw [← shr8 _ k hk, show (56 : Int) - 8 * k = 8 * (7 - (k : Int)) by omega]
 have hS : ∀ k, k < 8 → (sumC (fnv b) k).set k (byU (fnv b) k) = sumC (fnv b) (k + 1) := fun k hk => sumC_set (fnv b) hk
 refine lpW (ι := Nat) (fun k => [(2, .ptr 0 0), (3, .prim (.int .u64 (fnv b : Nat))), (4, .ptr 1 0), (8, .int k)]) (fun k => [.var (sumC (fnv b) 0), .var (sumC (fnv b) k)]) (fun k => k ≤ 8) (fun k => 8 - k) 0 (nZl _) ⟨rfl, rfl, rfl, rfl, tI⟩ rfl ?_
 intro k hk
 by_cases hlt : k < 8
 · repeat' (first | refine aoQ rfl rfl rfl (fun hg => by first | exact std0 | exact PRun.bitsW rfl rfl nd rfl nd rfl | exact PRun.shlW rfl rfl nd rfl nd (by omega) | exact PRun.shrW rfl rfl nd rfl nd (by omega) | exact PRun.indexPA tabOk rfl rfl nd rfl nd rfl rfl ⟨by omega, by omega⟩ | exact std1) (by exact rfl) ?_ | refine sqW ?_ | refine rgK (fun K' hK => ?_) | (refine aoN (hK _ _ ?_); clear hK K') | refine aoE (bxW rfl rfl rfl rfl rfl tI rfl rfl ?_) | refine aoE (stW tabOk rfl rfl rfl tI rfl rfl tI rfl rfl rfl rfl rfl rfl rfl ?_) | refine aoE (alW tabOk rfl rfl rfl rfl rfl rfl ?_) | refine aoE (EStep.store rfl rfl (Rd.w rfl tI) rfl (Rd.w rfl tI) rfl rfl (LOk.of (tabOk.get rfl)) rfl (by simp only [sumC, lLm, zCq, zAh, zA1, zA9]; omega) rfl ?_) | refine cdN rfl tI (fun hc => ?_) (fun hc => ?_) | refine blK ?_ | refine exW ?_ | refine skW ?_ | refine rtW ?_ | refine dK2 (by decide +kernel) (by kernel_rfl) (by decide +kernel) rfl (fun K' hK => ?_) | refine dL2 (by kernel_rfl) (by decide +kernel) rfl (fun K' hK => ?_) | (refine aqN (hK _ ?_); clear hK K') | refine aqN ?_ | refine aqQ rfl rfl (fun hg => by first | exact std0 | exact PRun.bitsW rfl rfl nd rfl nd rfl | exact PRun.shlW rfl rfl nd rfl nd (by omega) | exact PRun.shrW rfl rfl nd rfl nd (by omega) | exact PRun.indexPA tabOk rfl rfl nd rfl nd rfl rfl ⟨by omega, by omega⟩ | exact std1) (by exact rfl) ?_)
   · refine ⟨k + 1, by omega, by omega, ⟨rfl, rfl, rfl, rfl, tI⟩, ?_⟩
     refine Eq.trans (b := [AObj.var (sumC (fnv b) 0), AObj.var (splice (sumC (fnv b) k) (0 + (k : Int).toNat * 1) [.prim (.int .u8 (IntKind.u8.wrap ((fnv b : Int).fdiv (2 ^ (Min.min (8 * ((7 : Int) - (k : Int))).toNat 64)))))])]) rfl ?_
     rw [hsh k hlt, ← hS k hlt, zAh, zBs, Nat.mul_one, splice_one (by simp [sumC]; omega)]
     rfl
   · exfalso; omega
 · have : k = 8 := by omega
   subst this
   repeat' (first | refine aoQ rfl rfl rfl (fun hg => by first | exact std0 | exact std1) (by exact rfl) ?_ | refine sqW ?_ | refine rgK (fun K' hK => ?_) | (refine aoN (hK _ _ ?_); clear hK K') | refine aoE (bxW rfl rfl rfl rfl rfl tI rfl rfl ?_) | refine aoE (stW tabOk rfl rfl rfl tI rfl rfl tI rfl rfl rfl rfl rfl rfl rfl ?_) | refine aoE (alW tabOk rfl rfl rfl rfl rfl rfl ?_) | refine cdN rfl tI (fun hc => ?_) (fun hc => ?_) | refine blK ?_ | refine exW ?_ | refine skW ?_ | refine rtW ?_ | refine dK2 (by decide +kernel) (by kernel_rfl) (by decide +kernel) rfl (fun K' hK => ?_) | refine dL2 (by kernel_rfl) (by decide +kernel) rfl (fun K' hK => ?_) | (refine aqN (hK _ ?_); clear hK K') | refine aqN ?_ | refine aqQ rfl rfl (fun hg => by first | exact std0 | exact std1) (by exact rfl) ?_)
   · exfalso; omega
   · exact ⟨.inr rfl, _, rfl, Ent.of rfl⟩
end Go.Proofs.YtbneeinknlddaaaGreat
