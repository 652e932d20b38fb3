/- Contracts by content: the law's example. No statement is proved here. -/
import Derived.Test.YtnmdmmfdnnmdfaaDoorNG
import Derived.Test.YtnmdmmfdnnmdfaaDoorNH
import Derived.Test.YtnmdmmfdnnmdfaaDoorSH
set_option linter.unusedVariables false
set_option linter.unusedSimpArgs false
namespace Go.Ab
theorem envOp_congr' {o : Oper} {ops : Array Oper} {env env' : Env} (he : ∀ x ∈ o.looksAt ops, env' x = env x) {x : Operand} (hx : x ∈ o.op.operands) : envOp env' x = envOp env x := by
  cases x with
  | tmp t =>
    refine he t ?_
    unfold Oper.looksAt
    refine List.mem_append_left _ (List.mem_filterMap.2 ⟨.tmp t, by simpa using hx, rfl⟩)
  | _ => rfl
theorem partsF_congr' {env env' : Env} : ∀ {l : List (Nat × Operand)}, (∀ p ∈ l, envOp env' p.2 = envOp env p.2) → partsF env' l = partsF env l ∧ (rdns env (l.map (·.2)) → rdns env' (l.map (·.2)))
  | [], _ => ⟨rfl, fun h => h⟩
  | (i, x) :: r, h => by
    obtain ⟨h1, h2⟩ := partsF_congr' (l := r) fun p hp => h p (List.mem_cons_of_mem _ hp)
    have h0 := h (i, x) (List.mem_cons_self ..)
    dsimp only at h0
    refine ⟨?_, fun hn => ⟨?_, h2 hn.2⟩⟩
    · simp only [partsF, h1, rdv, h0]
    · have := hn.1
      unfold rdn at this ⊢
      dsimp only at this ⊢
      rw [h0]; exact this
/-- A slice that is written out, told as a growing array, in a drawn region. -/
theorem EStep.buildOwnC {P : Program} {n : Nat} {ops : Array Oper} {o : Oper} {env env' : Env} {σ : Store} {T : Tab} {k : Env → Store → Prop} (hT : T.Ok P) (he : ∀ x ∈ o.looksAt ops, env' x = env x) {t m d sz : Nat} {parts : Array (Nat × Operand)} {es : List (List AV)} (ho : o.op = .buildSlice t m parts) (hg : o.guard = none) (hd : o.dst = some d) (hdn : decide (d < n) = true)
    (h : rowF T env t m parts.toList = some (sz, es)) (hn : rdns env (parts.toList.map (·.2))) (hpure : ∀ e ∈ es, ∀ a ∈ e, ∀ M B x, VRel M B a x → VRel M [] a x) (hk : k (env'.put d (.sl sz es (.own σ.length))) (σ ++ [.own sz m])) : EStep P n ops o k env' σ := by
  have hp : ∀ p ∈ parts.toList, envOp env' p.2 = envOp env p.2 := fun p hp => envOp_congr' he (by simp [ho, Op.operands]; exact ⟨p.1, by simpa using hp⟩)
  obtain ⟨h1, h2⟩ := partsF_congr' hp
  refine EStep.buildOwn hT ho hg hd hdn ?_ (h2 hn) hpure hk
  unfold rowF at h ⊢
  rw [h1]; exact h
/-- Slices that are written out count as effects. -/
def effBs (o : Oper) : Bool := match o.op with
  | .buildSlice _ _ _ => true
  | _ => effOp o
theorem AWP.drawYB {P : Program} {n : Nat} (eff : Oper → Bool) {id : Nat} {l : List Oper} {K : Exit → Env → Store → Prop} {env : Env} {σ : Store} (S : Nat → Store) (h0 : S 0 = σ)
    (hm : P.follows .mixedOrders = true) (hB : Region.lexB .any l.toArray = true) (hd : dstsOk n l.toArray = true) (hE : rngB .any l.toArray eff (loOf l eff) (hiOf l eff) (rankOf l eff) l.length 0 (Array.replicate l.length false) = true)
    (h : ∀ K' : Env → Nat → Prop, (∀ e j, K .normal e (S j) → K' e j) → YQ P n l.toArray S eff (loOf l eff) (hiOf l eff) (rankOf l eff) K' l 0 env 0) : AWP P n (.region id l.toArray true) K env σ := by
  subst h0
  intro G a w hr
  simp only [Region.lexB, Bool.and_eq_true] at hB
  refine wpIn_region_any hm ?_
  have := yAny_lex (md := .any) l 0 (Array.replicate l.toArray.size false) env 0 (by simp) (by simpa using hE) (by simpa using hB.2) (h (fun e j => K .normal e (S j)) fun _ _ h => h)
  refine wpAny_of_yAny _ hd _ _ env 0 (by simpa using this) G a _ ⟨hr.size, hr.defers, hr.vals, hr.st.drew⟩ _ ?_
  intro G' env' j' a' w' hg hk hr'
  exact ⟨env', S j', G', hk, hg, hr'⟩
def isPr : AV → Bool
  | .prim _ => true
  | _ => false
theorem pureP {es : List (List AV)} (h : es.all (fun x => x.all isPr) = true) : ∀ e ∈ es, ∀ a ∈ e, ∀ M B x, VRel M B a x → VRel M [] a x := fun e he a ha M B x hx => by
  have h1 := List.all_eq_true.1 (List.all_eq_true.1 h e he) a ha
  cases a <;> simp [isPr] at h1
  rw [VRel.prim_eq hx]; exact .prim _
end Go.Ab
namespace Go.Proofs.YtnmdmmfdnnmdfaaDoor.Nt
open Go.Ab
attribute [local irreducible] AWP AOps EStep AQ PStep PRun PCall TCall VCall

theorem lrat_spec (n d : Int) : PCall Tryd.prog 47 [.int n, .int d] (.agg [.int n, .int d]) := by
  refine PCall.bodyS tabOk Tryd.func47 rfl rfl Tryd.ntmps47 rfl ?_
  repeat' (first | refine AOps.q rfl rfl rfl (fun hg => by first | exact std0 | exact PRun.buildW tabOk rfl rfl nds | exact std1) (by exact rfl) ?_ | refine AWP.seq ?_ | refine AWP.regionK (fun K' hK => ?_) | (refine AOps.nil (hK _ _ ?_); clear hK K') | refine AOps.e (EStep.boxW rfl rfl rfl rfl rfl True.intro rfl rfl ?_) | refine AOps.e (EStep.storeW tabOk rfl rfl rfl True.intro rfl rfl True.intro rfl rfl rfl rfl rfl rfl rfl ?_) | refine AOps.e (EStep.allocW tabOk rfl rfl rfl rfl rfl rfl ?_) | (refine AWP.condW rfl True.intro (fun hc => ?_) (fun hc => ?_) <;> (first | (simp only [decide_eq_true_eq] at hc) | (simp only [decide_eq_false_iff_not, Int.not_lt, Int.not_le] at hc) | skip)) | refine AWP.block ?_ | refine AWP.exit ?_ | refine AWP.skip ?_ | refine AWP.ret ?_ | refine AWP.drawK2 (by decide +kernel) (by kernel_rfl) (by decide +kernel) rfl (fun K' hK => ?_) | refine AWP.drawL2 (by kernel_rfl) (by decide +kernel) rfl (fun K' hK => ?_) | (refine AQ.nil (hK _ ?_); clear hK K') | refine AQ.nil ?_ | refine AQ.q rfl rfl (fun hg => by first | exact std0 | exact PRun.buildW tabOk rfl rfl nds | exact std1) (by exact rfl) ?_)
  exact ⟨.inr rfl, _, rfl, Ent.of rfl⟩
/-- A note of the example. -/
def exN (id bar : Int) (s l : Rat) : Note := ⟨id, 2, bar, 0, 0, s, l, ⟨0, 0, 4⟩⟩
theorem lnote_spec (id a b c d : Int) : PCall Tryd.prog 48 [.int id, .agg [.int a, .int b], .agg [.int c, .int d]] (.agg (encN (exN id 5 ⟨a, b⟩ ⟨c, d⟩))) := by
  refine PCall.bodyS tabOk Tryd.func48 rfl rfl Tryd.ntmps48 rfl ?_
  repeat' (first | refine AOps.q rfl rfl rfl (fun hg => by first | exact std0 | exact PRun.buildW tabOk rfl rfl nds | exact std1) (by exact rfl) ?_ | refine AWP.seq ?_ | refine AWP.regionK (fun K' hK => ?_) | (refine AOps.nil (hK _ _ ?_); clear hK K') | refine AOps.e (EStep.boxW rfl rfl rfl rfl rfl True.intro rfl rfl ?_) | refine AOps.e (EStep.storeW tabOk rfl rfl rfl True.intro rfl rfl True.intro rfl rfl rfl rfl rfl rfl rfl ?_) | refine AOps.e (EStep.allocW tabOk rfl rfl rfl rfl rfl rfl ?_) | (refine AWP.condW rfl True.intro (fun hc => ?_) (fun hc => ?_) <;> (first | (simp only [decide_eq_true_eq] at hc) | (simp only [decide_eq_false_iff_not, Int.not_lt, Int.not_le] at hc) | skip)) | refine AWP.block ?_ | refine AWP.exit ?_ | refine AWP.skip ?_ | refine AWP.ret ?_ | refine AWP.drawK2 (by decide +kernel) (by kernel_rfl) (by decide +kernel) rfl (fun K' hK => ?_) | refine AWP.drawL2 (by kernel_rfl) (by decide +kernel) rfl (fun K' hK => ?_) | (refine AQ.nil (hK _ ?_); clear hK K') | refine AQ.nil ?_ | refine AQ.q rfl rfl (fun hg => by first | exact std0 | exact PRun.buildW tabOk rfl rfl nds | exact std1) (by exact rfl) ?_)
  exact ⟨.inr rfl, _, rfl, Ent.of rfl⟩
def exB : List Bar := [⟨7, ⟨3, 1⟩, 0⟩, ⟨5, ⟨4, 1⟩, 0⟩]
def exL : List Note := [exN 9 5 ⟨3, 1⟩ ⟨1, 2⟩, exN 2 5 ⟨0, 1⟩ ⟨1, 1⟩, exN 4 5 ⟨1, 2⟩ ⟨3, 2⟩]
def exO : Note := exN 8 7 ⟨0, 1⟩ ⟨3, 1⟩
theorem ofR_puts {bars : List Bar} {l : List Note} {p b : Int} (h : notesOk bars l = true) (hp : inB p 1 1000000 = true) (hb : inB b 1 1000000 = true) (hk : (lk (idxAL bars) b).isSome = true) : ofR bars l p b = (putsL (idxAL bars) (l.filter (isOf p b)), 0) := by
  unfold ofR
  rw [if_pos (by rw [h, hp, hb]; rfl), if_pos hk, sortN_puts (fun n hn' => notesOk_in h n (List.mem_filter.1 hn').1) (nodup_filter (notesOk_nodup h) _)]
theorem ex_ok : notesOk exB exL = true := by decide +kernel
theorem ex_of5 : ofR exB exL 2 5 = ([exN 2 5 ⟨0, 1⟩ ⟨1, 1⟩, exN 4 5 ⟨1, 2⟩ ⟨3, 2⟩, exN 9 5 ⟨3, 1⟩ ⟨1, 2⟩], 0) := by
  rw [ofR_puts ex_ok (by decide) (by decide) (by decide +kernel)]; decide +kernel
theorem ex_of7 : ofR exB exL 2 7 = ([], 0) := by
  rw [ofR_puts ex_ok (by decide) (by decide) (by decide +kernel)]; decide +kernel
theorem ex_busy : busyR exB exL 2 5 = ([(0, 3360), (5040, 5880)], 0) := by
  unfold busyR; rw [ex_of5]; decide +kernel
theorem ex_rests : restsR exB exL 2 5 = ([(3360, 5040), (5880, 6720)], 0) := by
  unfold restsR; rw [ex_of5]; decide +kernel
theorem ex_rests7 : restsR exB exL 2 7 = ([(0, 5040)], 0) := by
  unfold restsR; rw [ex_of7]; decide +kernel
theorem ex_of6 : ofR exB exL 2 6 = ([], 21) := by
  unfold ofR; rw [if_pos (by rw [ex_ok]; decide), if_neg (by decide +kernel)]
theorem ex_dup : ofR exB (exL ++ [exN 9 5 ⟨3, 1⟩ ⟨1, 2⟩]) 2 5 = ([], 1) := by
  unfold ofR; rw [if_neg (by decide +kernel)]
theorem ex_sort : sortR exB [exN 9 5 ⟨3, 1⟩ ⟨1, 2⟩, exO, exN 2 5 ⟨0, 1⟩ ⟨1, 1⟩, exN 4 5 ⟨1, 2⟩ ⟨3, 2⟩] = ([exO, exN 2 5 ⟨0, 1⟩ ⟨1, 1⟩, exN 4 5 ⟨1, 2⟩ ⟨3, 2⟩, exN 9 5 ⟨3, 1⟩ ⟨1, 2⟩], 0) := by
  have h : notesOk exB [exN 9 5 ⟨3, 1⟩ ⟨1, 2⟩, exO, exN 2 5 ⟨0, 1⟩ ⟨1, 1⟩, exN 4 5 ⟨1, 2⟩ ⟨3, 2⟩] = true := by decide +kernel
  unfold sortR
  rw [if_pos h, sortN_puts (notesOk_in h) (notesOk_nodup h)]
  decide +kernel
theorem encX1 : ([(0, 3360), (5040, 5880)] : List Iv).map encQ = [[.int 0, .int 1, .int 2, .int 1], [.int 3, .int 1, .int 7, .int 2]] := by kernel_rfl
theorem encX2 : ([(3360, 5040), (5880, 6720)] : List Iv).map encQ = [[.int 2, .int 1, .int 3, .int 1], [.int 7, .int 2, .int 4, .int 1]] := by kernel_rfl
theorem encX3 : ([(0, 5040)] : List Iv).map encQ = [[.int 0, .int 1, .int 3, .int 1]] := by kernel_rfl
theorem sameX (a : List Iv) (h : a.length ≤ 1000000) : PCall Tryd.prog 26 [.sl 4 (a.map encQ) .no, .sl 4 (a.map encQ) .no] (.b true) := by
  have := sameS_spec a a h h
  rwa [show (decide (a.length = a.length) && (List.range a.length).all fun i => eqQ (a.getD i default) (a.getD i default)) = true from by
    rw [decide_eq_true rfl, Bool.true_and, List.all_eq_true]; intro i _; simp [eqQ]] at this
set_option maxHeartbeats 8000000 in
set_option maxRecDepth 20000 in
theorem head_spec : PCall Tryd.prog 15 [] (.b true) := by
  have b1 := busy_spec exB exL (by decide) (by decide) 2 5
  rw [ex_busy] at b1
  have b2 := rests_spec exB exL (by decide) (by decide) 2 5
  rw [ex_rests] at b2
  have b3 := rests_spec exB exL (by decide) (by decide) 2 7
  rw [ex_rests7] at b3
  have b4 := of_spec exB exL (by decide) (by decide) 2 6
  rw [ex_of6] at b4
  have b5 := of_spec exB (exL ++ [exN 9 5 ⟨3, 1⟩ ⟨1, 2⟩]) (by decide) (by decide) 2 5
  rw [ex_dup] at b5
  have b6 := Sort_spec exB [exN 9 5 ⟨3, 1⟩ ⟨1, 2⟩, exO, exN 2 5 ⟨0, 1⟩ ⟨1, 1⟩, exN 4 5 ⟨1, 2⟩ ⟨3, 2⟩] (by decide) (by decide)
  rw [ex_sort] at b6
  have b7 := nvalid_spec exB exL (by decide) (by decide)
  rw [ex_ok] at b7
  have b8 := nvalid_spec (exB.take 1) exL (by decide) (by decide)
  rw [show notesOk (exB.take 1) exL = false from by decide +kernel] at b8
  have b9 := sameN_spec [exO, exN 2 5 ⟨0, 1⟩ ⟨1, 1⟩, exN 4 5 ⟨1, 2⟩ ⟨3, 2⟩, exN 9 5 ⟨3, 1⟩ ⟨1, 2⟩] [exO, exN 2 5 ⟨0, 1⟩ ⟨1, 1⟩, exN 4 5 ⟨1, 2⟩ ⟨3, 2⟩, exN 9 5 ⟨3, 1⟩ ⟨1, 2⟩] (by decide) (by decide)
  rw [beq_self_eq_true] at b9
  have x1 := sameX [(0, 3360), (5040, 5880)] (by decide)
  have x2 := sameX [(3360, 5040), (5880, 6720)] (by decide)
  have x3 := sameX [(0, 5040)] (by decide)
  dsimp only at b1 b2 b3 b4 b5 b6
  rw [encX1] at b1 x1
  rw [encX2] at b2 x2
  rw [encX3] at b3 x3
  refine PCall.body Tryd.func15 rfl rfl Tryd.ntmps15 rfl rfl ?_
  repeat' (first | refine AOps.q rfl rfl rfl (fun hg => by first | exact std0 | exact PRun.callW (lrat_spec _ _) rfl rfl nd rfl nds | exact PRun.callW (lnote_spec _ _ _ _ _) rfl rfl nd rfl nds | exact PRun.callW (b1) rfl rfl nd rfl nds | exact PRun.callW (b2) rfl rfl nd rfl nds | exact PRun.buildW tabOk rfl rfl nds | exact std1) (by exact rfl) ?_ | refine AWP.seq ?_ | refine AWP.regionK (fun K' hK => ?_) | (refine AOps.nil (hK _ _ ?_); clear hK K') | refine AOps.e (EStep.boxW rfl rfl rfl rfl rfl True.intro rfl rfl ?_) | refine AOps.e (EStep.storeW tabOk rfl rfl rfl True.intro rfl rfl True.intro rfl rfl rfl rfl rfl rfl rfl ?_) | refine AOps.e (EStep.allocW tabOk rfl rfl rfl rfl rfl rfl ?_) | refine AOps.e (EStep.buildOwn tabOk rfl rfl rfl rfl rfl nds (pureP rfl) ?_) | (refine AWP.condW rfl True.intro (fun hc => ?_) (fun hc => ?_) <;> (first | (simp only [decide_eq_true_eq] at hc) | (simp only [decide_eq_false_iff_not, Int.not_lt, Int.not_le] at hc) | skip)) | refine AWP.block ?_ | refine AWP.exit ?_ | refine AWP.skip ?_ | refine AWP.ret ?_ | (refine AQ.nil (hK _ ?_); clear hK K') | refine AQ.nil ?_ | refine AQ.q rfl rfl (fun hg => by first | exact std0 | exact PRun.callW (lrat_spec _ _) rfl rfl nd rfl nds | exact PRun.callW (lnote_spec _ _ _ _ _) rfl rfl nd rfl nds | exact PRun.callW (b1) rfl rfl nd rfl nds | exact PRun.callW (b2) rfl rfl nd rfl nds | exact PRun.buildW tabOk rfl rfl nds | exact std1) (by exact rfl) ?_)
  refine AWP.drawYB effBs (fun j => match j with | 0 => [.own 4 2, .own 12 3, .var (encN exO)] | 1 => [.own 4 2, .own 12 3, .var (encN exO), .own 12 2] | _ => [.own 4 2, .own 12 3, .var (encN exO), .own 12 4]) rfl (by kernel_rfl) (by decide +kernel) rfl (by decide +kernel) (fun K' hK => ?_)
  repeat' (first
    | refine YQ.q (a := 0) (b := 0) rfl (by decide +kernel) (by decide +kernel) rfl rfl rfl (fun k h1 h2 hg => by (have hk : k = 0 := (by omega)); (rcases hk with rfl) <;> (first | exact std0 | exact PRun.indexMW (l := exL) (f := encN) tabOk rfl rfl nd rfl nd rfl rfl ⟨by decide, by decide⟩ | exact PRun.sliceLoM (al := exL) (f := encN) tabOk rfl rfl nd rfl nd rfl ⟨by decide, by decide⟩ | exact PRun.callW (b6) rfl rfl nd rfl nds | exact std1)) (by exact rfl) ?_
    | refine YQ.q (a := 0) (b := 1) rfl (by decide +kernel) (by decide +kernel) rfl rfl rfl (fun k h1 h2 hg => by (have hk : k = 0 ∨ k = 1 := (by omega)); (rcases hk with rfl | rfl) <;> (first | exact std0 | exact PRun.indexMW (l := exL) (f := encN) tabOk rfl rfl nd rfl nd rfl rfl ⟨by decide, by decide⟩ | exact PRun.sliceLoM (al := exL) (f := encN) tabOk rfl rfl nd rfl nd rfl ⟨by decide, by decide⟩ | exact PRun.callW (b6) rfl rfl nd rfl nds | exact std1)) (by exact rfl) ?_
    | refine YQ.q (a := 1) (b := 1) rfl (by decide +kernel) (by decide +kernel) rfl rfl rfl (fun k h1 h2 hg => by (have hk : k = 1 := (by omega)); (rcases hk with rfl) <;> (first | exact std0 | exact PRun.indexMW (l := exL) (f := encN) tabOk rfl rfl nd rfl nd rfl rfl ⟨by decide, by decide⟩ | exact PRun.sliceLoM (al := exL) (f := encN) tabOk rfl rfl nd rfl nd rfl ⟨by decide, by decide⟩ | exact PRun.callW (b6) rfl rfl nd rfl nds | exact std1)) (by exact rfl) ?_
    | refine YQ.q (a := 0) (b := 2) rfl (by decide +kernel) (by decide +kernel) rfl rfl rfl (fun k h1 h2 hg => by (have hk : k = 0 ∨ k = 1 ∨ k = 2 := (by omega)); (rcases hk with rfl | rfl | rfl) <;> (first | exact std0 | exact PRun.indexMW (l := exL) (f := encN) tabOk rfl rfl nd rfl nd rfl rfl ⟨by decide, by decide⟩ | exact PRun.sliceLoM (al := exL) (f := encN) tabOk rfl rfl nd rfl nd rfl ⟨by decide, by decide⟩ | exact PRun.callW (b6) rfl rfl nd rfl nds | exact std1)) (by exact rfl) ?_
    | refine YQ.q (a := 1) (b := 2) rfl (by decide +kernel) (by decide +kernel) rfl rfl rfl (fun k h1 h2 hg => by (have hk : k = 1 ∨ k = 2 := (by omega)); (rcases hk with rfl | rfl) <;> (first | exact std0 | exact PRun.indexMW (l := exL) (f := encN) tabOk rfl rfl nd rfl nd rfl rfl ⟨by decide, by decide⟩ | exact PRun.sliceLoM (al := exL) (f := encN) tabOk rfl rfl nd rfl nd rfl ⟨by decide, by decide⟩ | exact PRun.callW (b6) rfl rfl nd rfl nds | exact std1)) (by exact rfl) ?_
    | refine YQ.q (a := 2) (b := 2) rfl (by decide +kernel) (by decide +kernel) rfl rfl rfl (fun k h1 h2 hg => by (have hk : k = 2 := (by omega)); (rcases hk with rfl) <;> (first | exact std0 | exact PRun.indexMW (l := exL) (f := encN) tabOk rfl rfl nd rfl nd rfl rfl ⟨by decide, by decide⟩ | exact PRun.sliceLoM (al := exL) (f := encN) tabOk rfl rfl nd rfl nd rfl ⟨by decide, by decide⟩ | exact PRun.callW (b6) rfl rfl nd rfl nds | exact std1)) (by exact rfl) ?_)
  refine YQ.e (v := .sl 12 [encN (exN 9 5 ⟨3, 1⟩ ⟨1, 2⟩), encN exO] (.own 3)) (d := some 54) rfl rfl rfl ?_ ?_
  · intro env' he
    exact EStep.buildOwnC (sz := 12) (es := [encN (exN 9 5 ⟨3, 1⟩ ⟨1, 2⟩), encN exO]) tabOk he rfl rfl rfl rfl rfl ⟨True.intro, True.intro, True.intro⟩ (pureP rfl) ⟨rfl, rfl⟩
  repeat' (first
    | refine YQ.q (a := 0) (b := 0) rfl (by decide +kernel) (by decide +kernel) rfl rfl rfl (fun k h1 h2 hg => by (have hk : k = 0 := (by omega)); (rcases hk with rfl) <;> (first | exact std0 | exact PRun.indexMW (l := exL) (f := encN) tabOk rfl rfl nd rfl nd rfl rfl ⟨by decide, by decide⟩ | exact PRun.sliceLoM (al := exL) (f := encN) tabOk rfl rfl nd rfl nd rfl ⟨by decide, by decide⟩ | exact PRun.callW (b6) rfl rfl nd rfl nds | exact std1)) (by exact rfl) ?_
    | refine YQ.q (a := 0) (b := 1) rfl (by decide +kernel) (by decide +kernel) rfl rfl rfl (fun k h1 h2 hg => by (have hk : k = 0 ∨ k = 1 := (by omega)); (rcases hk with rfl | rfl) <;> (first | exact std0 | exact PRun.indexMW (l := exL) (f := encN) tabOk rfl rfl nd rfl nd rfl rfl ⟨by decide, by decide⟩ | exact PRun.sliceLoM (al := exL) (f := encN) tabOk rfl rfl nd rfl nd rfl ⟨by decide, by decide⟩ | exact PRun.callW (b6) rfl rfl nd rfl nds | exact std1)) (by exact rfl) ?_
    | refine YQ.q (a := 1) (b := 1) rfl (by decide +kernel) (by decide +kernel) rfl rfl rfl (fun k h1 h2 hg => by (have hk : k = 1 := (by omega)); (rcases hk with rfl) <;> (first | exact std0 | exact PRun.indexMW (l := exL) (f := encN) tabOk rfl rfl nd rfl nd rfl rfl ⟨by decide, by decide⟩ | exact PRun.sliceLoM (al := exL) (f := encN) tabOk rfl rfl nd rfl nd rfl ⟨by decide, by decide⟩ | exact PRun.callW (b6) rfl rfl nd rfl nds | exact std1)) (by exact rfl) ?_
    | refine YQ.q (a := 0) (b := 2) rfl (by decide +kernel) (by decide +kernel) rfl rfl rfl (fun k h1 h2 hg => by (have hk : k = 0 ∨ k = 1 ∨ k = 2 := (by omega)); (rcases hk with rfl | rfl | rfl) <;> (first | exact std0 | exact PRun.indexMW (l := exL) (f := encN) tabOk rfl rfl nd rfl nd rfl rfl ⟨by decide, by decide⟩ | exact PRun.sliceLoM (al := exL) (f := encN) tabOk rfl rfl nd rfl nd rfl ⟨by decide, by decide⟩ | exact PRun.callW (b6) rfl rfl nd rfl nds | exact std1)) (by exact rfl) ?_
    | refine YQ.q (a := 1) (b := 2) rfl (by decide +kernel) (by decide +kernel) rfl rfl rfl (fun k h1 h2 hg => by (have hk : k = 1 ∨ k = 2 := (by omega)); (rcases hk with rfl | rfl) <;> (first | exact std0 | exact PRun.indexMW (l := exL) (f := encN) tabOk rfl rfl nd rfl nd rfl rfl ⟨by decide, by decide⟩ | exact PRun.sliceLoM (al := exL) (f := encN) tabOk rfl rfl nd rfl nd rfl ⟨by decide, by decide⟩ | exact PRun.callW (b6) rfl rfl nd rfl nds | exact std1)) (by exact rfl) ?_
    | refine YQ.q (a := 2) (b := 2) rfl (by decide +kernel) (by decide +kernel) rfl rfl rfl (fun k h1 h2 hg => by (have hk : k = 2 := (by omega)); (rcases hk with rfl) <;> (first | exact std0 | exact PRun.indexMW (l := exL) (f := encN) tabOk rfl rfl nd rfl nd rfl rfl ⟨by decide, by decide⟩ | exact PRun.sliceLoM (al := exL) (f := encN) tabOk rfl rfl nd rfl nd rfl ⟨by decide, by decide⟩ | exact PRun.callW (b6) rfl rfl nd rfl nds | exact std1)) (by exact rfl) ?_)
  refine YQ.e (v := .sl 12 [encN (exN 9 5 ⟨3, 1⟩ ⟨1, 2⟩), encN exO, encN (exN 2 5 ⟨0, 1⟩ ⟨1, 1⟩), encN (exN 4 5 ⟨1, 2⟩ ⟨3, 2⟩)] (.own 3)) (d := some 57) rfl rfl rfl ?_ ?_
  · intro env' he
    exact EStep.appendOwn' (l := 3) tabOk rfl rfl rfl (by decide) (Rd.w ((rdv_congr (he 54 (by decide +kernel))).trans rfl) (by rw [rdn_congr (he 54 (by decide +kernel))]; first | exact True.intro | exact rfl)) rfl (Rd.w ((rdv_congr (he 56 (by decide +kernel))).trans rfl) (by rw [rdn_congr (he 56 (by decide +kernel))]; first | exact True.intro | exact rfl)) (.sl rfl (one_encN [exN 2 5 ⟨0, 1⟩ ⟨1, 1⟩, exN 4 5 ⟨1, 2⟩ ⟨3, 2⟩])) (LOk.of (tabOk.get rfl)) (LOk.of (tabOk.get rfl)) rfl rfl (by decide) (by decide) ⟨rfl, rfl⟩
  repeat' (first
    | refine YQ.q (a := 0) (b := 0) rfl (by decide +kernel) (by decide +kernel) rfl rfl rfl (fun k h1 h2 hg => by (have hk : k = 0 := (by omega)); (rcases hk with rfl) <;> (first | exact std0 | exact PRun.callW (b6) rfl rfl nd rfl nds | exact std1)) (by exact rfl) ?_
    | refine YQ.q (a := 0) (b := 1) rfl (by decide +kernel) (by decide +kernel) rfl rfl rfl (fun k h1 h2 hg => by (have hk : k = 0 ∨ k = 1 := (by omega)); (rcases hk with rfl | rfl) <;> (first | exact std0 | exact PRun.callW (b6) rfl rfl nd rfl nds | exact std1)) (by exact rfl) ?_
    | refine YQ.q (a := 1) (b := 1) rfl (by decide +kernel) (by decide +kernel) rfl rfl rfl (fun k h1 h2 hg => by (have hk : k = 1 := (by omega)); (rcases hk with rfl) <;> (first | exact std0 | exact PRun.callW (b6) rfl rfl nd rfl nds | exact std1)) (by exact rfl) ?_
    | refine YQ.q (a := 0) (b := 2) rfl (by decide +kernel) (by decide +kernel) rfl rfl rfl (fun k h1 h2 hg => by (have hk : k = 0 ∨ k = 1 ∨ k = 2 := (by omega)); (rcases hk with rfl | rfl | rfl) <;> (first | exact std0 | exact PRun.callW (b6) rfl rfl nd rfl nds | exact std1)) (by exact rfl) ?_
    | refine YQ.q (a := 1) (b := 2) rfl (by decide +kernel) (by decide +kernel) rfl rfl rfl (fun k h1 h2 hg => by (have hk : k = 1 ∨ k = 2 := (by omega)); (rcases hk with rfl | rfl) <;> (first | exact std0 | exact PRun.callW (b6) rfl rfl nd rfl nds | exact std1)) (by exact rfl) ?_
    | refine YQ.q (a := 2) (b := 2) rfl (by decide +kernel) (by decide +kernel) rfl rfl rfl (fun k h1 h2 hg => by (have hk : k = 2 := (by omega)); (rcases hk with rfl) <;> (first | exact std0 | exact PRun.callW (b6) rfl rfl nd rfl nds | exact std1)) (by exact rfl) ?_)
  refine YQ.nil (hK _ _ ?_)
  clear hK K'
  show AWP _ _ _ _ _ _
  refine AWP.keep [(1, .sl 4 (exB.map encB) (.own 0)), (2, .sl 12 (exL.map encN) (.own 1)), (3, .ptr 2 0), (4, .sl 4 [[.int 0, .int 1, .int 2, .int 1], [.int 3, .int 1, .int 7, .int 2]] .no), (5, .int 0), (6, .sl 4 [[.int 2, .int 1, .int 3, .int 1], [.int 7, .int 2, .int 4, .int 1]] .no), (7, .int 0), (8, .sl 12 ([exO, exN 2 5 ⟨0, 1⟩ ⟨1, 1⟩, exN 4 5 ⟨1, 2⟩ ⟨3, 2⟩, exN 9 5 ⟨3, 1⟩ ⟨1, 2⟩].map encN) .no), (9, .int 0)] ⟨rfl, rfl, rfl, rfl, rfl, rfl, rfl, rfl, rfl, True.intro⟩ ?_
  repeat' (first | refine AOps.q rfl rfl rfl (fun hg => by first | exact std0 | exact PRun.callW (lrat_spec _ _) rfl rfl nd rfl nds | exact PRun.callW (b3) rfl rfl nd rfl nds | exact PRun.callW (b4) rfl rfl nd rfl nds | exact PRun.callW (b5) rfl rfl nd rfl nds | exact PRun.callW (b7) rfl rfl nd rfl nds | exact PRun.callW (b8) rfl rfl nd rfl nds | exact PRun.callW (b9) rfl rfl nd rfl nds | exact PRun.callW (x1) rfl rfl nd rfl nds | exact PRun.callW (x2) rfl rfl nd rfl nds | exact PRun.callW (x3) rfl rfl nd rfl nds | exact PRun.indexMW (l := exL) (f := encN) tabOk rfl rfl nd rfl nd rfl rfl ⟨by decide, by decide⟩ | exact PRun.sliceHiM (al := exB) (f := encB) tabOk rfl rfl nd rfl nd rfl ⟨by decide, by decide⟩ | exact PRun.buildAW tabOk rfl rfl nds | exact PRun.buildSlW tabOk rfl rfl nds | exact std1) (by exact rfl) ?_ | refine AWP.seq ?_ | refine AWP.regionK (fun K' hK => ?_) | (refine AOps.nil (hK _ _ ?_); clear hK K') | refine AOps.e (EStep.boxW rfl rfl rfl rfl rfl True.intro rfl rfl ?_) | refine AOps.e (EStep.storeW tabOk rfl rfl rfl True.intro rfl rfl True.intro rfl rfl rfl rfl rfl rfl rfl ?_) | refine AOps.e (EStep.allocW tabOk rfl rfl rfl rfl rfl rfl ?_) | refine AOps.e (EStep.appendOwn' tabOk rfl rfl rfl (by decide) (Rd.w rfl True.intro) rfl (Rd.w rfl True.intro) (.sl rfl (by intro x hx; rcases List.mem_singleton.1 hx with rfl; rfl)) (LOk.of (tabOk.get rfl)) (LOk.of (tabOk.get rfl)) rfl rfl (by decide) (by decide) ?_) | (refine AWP.condW rfl True.intro (fun hc => ?_) (fun hc => ?_) <;> (first | (simp only [decide_eq_true_eq] at hc) | (simp only [decide_eq_false_iff_not, Int.not_lt, Int.not_le] at hc) | skip)) | refine AWP.block ?_ | refine AWP.exit ?_ | refine AWP.skip ?_ | refine AWP.ret ?_ | refine AWP.drawK2 (by decide +kernel) (by kernel_rfl) (by decide +kernel) rfl (fun K' hK => ?_) | refine AWP.drawL2 (by kernel_rfl) (by decide +kernel) rfl (fun K' hK => ?_) | (refine AQ.nil (hK _ ?_); clear hK K') | refine AQ.nil ?_ | refine AQ.q rfl rfl (fun hg => by first | exact std0 | exact PRun.callW (lrat_spec _ _) rfl rfl nd rfl nds | exact PRun.callW (b3) rfl rfl nd rfl nds | exact PRun.callW (b4) rfl rfl nd rfl nds | exact PRun.callW (b5) rfl rfl nd rfl nds | exact PRun.callW (b7) rfl rfl nd rfl nds | exact PRun.callW (b8) rfl rfl nd rfl nds | exact PRun.callW (b9) rfl rfl nd rfl nds | exact PRun.callW (x1) rfl rfl nd rfl nds | exact PRun.callW (x2) rfl rfl nd rfl nds | exact PRun.callW (x3) rfl rfl nd rfl nds | exact PRun.indexMW (l := exL) (f := encN) tabOk rfl rfl nd rfl nd rfl rfl ⟨by decide, by decide⟩ | exact PRun.sliceHiM (al := exB) (f := encB) tabOk rfl rfl nd rfl nd rfl ⟨by decide, by decide⟩ | exact PRun.buildAW tabOk rfl rfl nds | exact PRun.buildSlW tabOk rfl rfl nds | exact std1) (by exact rfl) ?_)
  exact ⟨.inr rfl, Ent.b rfl⟩
end Go.Proofs.YtnmdmmfdnnmdfaaDoor.Nt
