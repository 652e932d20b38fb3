/- Contracts by content: the reader of the journal reads a mark. No statement is proved here. -/
import Derived.Test.YtpkolkfglgalpaaK3
import Derived.Test.YtpkolkfglgalpaaJS
set_option linter.unusedVariables false
set_option linter.unusedSimpArgs false
namespace Go.Ab
theorem envOp_congr {o : Oper} {ops : Array Oper} {env env' : Env} (he : ∀ x ∈ o.looksAt ops, env' x = env x) {x : Operand} (hx : x ∈ o.op.operands) : envOp env' x = envOp env x := by
  cases x with
  | tmp t =>
    refine he t ?_
    unfold Oper.looksAt
    refine List.mem_append_left _ (List.mem_filterMap.2 ⟨.tmp t, by simpa using hx, rfl⟩)
  | _ => rfl
theorem partsF_congr {env env' : Env} : ∀ {l : List (Nat × Operand)}, (∀ p ∈ l, envOp env' p.2 = envOp env p.2) → partsF env' l = partsF env l ∧ (rdns env (l.map (·.2)) → rdns env' (l.map (·.2)))
  | [], _ => ⟨rfl, fun h => h⟩
  | (i, x) :: r, h => by
    obtain ⟨h1, h2⟩ := partsF_congr (l := r) fun p hp => h p (List.mem_cons_of_mem _ hp)
    have h0 := h (i, x) (List.mem_cons_self ..)
    dsimp only at h0
    refine ⟨?_, fun hn => ⟨?_, h2 hn.2⟩⟩
    · simp only [partsF, h1, rdv, h0]
    · have := hn.1
      unfold rdn at this ⊢
      dsimp only at this ⊢
      rw [h0]; exact this
theorem EStep.buildArrC {P : Program} {n : Nat} {ops : Array Oper} {o : Oper} {env env' : Env} {σ : Store} {T : Tab} {k : Env → Store → Prop} (hT : T.Ok P) (he : ∀ x ∈ o.looksAt ops, env' x = env x) {t m d sz : Nat} {parts : Array (Nat × Operand)} {es : List (List AV)} (ho : o.op = .buildSlice t m parts) (hg : o.guard = none) (hd : o.dst = some d) (hdn : decide (d < n) = true)
    (h : rowF T env t m parts.toList = some (sz, es)) (hn : rdns env (parts.toList.map (·.2))) (hk : k (env'.put d (.sla σ.length sz 0 m 0)) (σ ++ [.arr sz 0 es])) : EStep P n ops o k env' σ := by
  have hp : ∀ p ∈ parts.toList, envOp env' p.2 = envOp env p.2 := fun p hp => envOp_congr he (by simp [ho, Op.operands]; exact ⟨p.1, by simpa using hp⟩)
  obtain ⟨h1, h2⟩ := partsF_congr hp
  refine EStep.buildArr hT ho hg hd hdn ?_ (h2 hn) hk
  unfold rowF at h ⊢
  rw [h1]; exact h
/-- Slices that are written out, and calls, count as effects. -/
def effD (o : Oper) : Bool := match o.op with
  | .buildSlice _ _ _ => true
  | .call { callee := .value _, .. } => true
  | _ => effOp o
end Go.Ab
namespace Go.Proofs.Ytpkolkfglgalpaa
open Go.Ab Go.Jo
attribute [local irreducible] AWP AOps EStep AQ PStep PRun PCall TCall VCall DStep TDies AWD DCall

theorem byteB {n : Int} (h : inR n 0 255 = true) : IntKind.u8.wrap n = ((UInt8.ofNat n.toNat).toNat : Int) := by
  unfold inR at h
  simp only [Bool.and_eq_true, decide_eq_true_eq] at h
  rw [ofNat_toNat8, IntKind.wrap_u8]; omega
def mkT (l : List Int) : Jo.Mark := ⟨l.getD 0 0, l.getD 1 0, l.getD 2 0, ⟨l.getD 3 0, l.getD 4 0, l.getD 5 0⟩, l.getD 6 0, l.getD 7 0, l.getD 8 0, untxt (l.drop 9)⟩
abbrev rdS (e : Ev) (m : Jo.Mark) (r : List Int) : Store := [.var (encE e), .var [.int 0], .var (encR m r), .arr 1 0 ps3]
set_option maxHeartbeats 1600000 in
set_option maxRecDepth 20000 in
theorem read_T (e : Ev) (l : List Int) (hl : 9 ≤ l.length) (hb : l.length ≤ 1000000) (hall : (l.drop 9).all (fun n => inR n 0 255) = true) : TCall Try.prog 31 [.ptr 2 0] (rdS e noMark l)
    (fun r s => r = .tup [] ∧ s = [.var (encE e), .var [.int 0], .var (Go.Proofs.Ytpkolkfglgalpaa.encM (mkT l) ++ [.nils]), .arr 1 0 ps3]) := by
  have hv := TCall.val (first := []) (caps := []) (avs := [.ptr 2 0, .sla 4 1 0 9 0]) (take9_T e l hl hb)
  refine TCall.body Try.func31 rfl rfl Try.ntmps31 rfl rfl ?_
  refine AWP.seq (AWP.drawYE effD (fun j => match j with | 0 => rdS e noMark l | 1 => rdS e noMark l ++ [.arr 1 0 ps9] | _ => rdS e (mk9 l 9) (l.drop 9) ++ [.arr 1 0 ps9]) rfl (by kernel_rfl) (by decide +kernel) rfl (by decide +kernel) (fun K' hK => ?_))
  repeat' (first
    | refine YQ.q (a := 0) (b := 0) rfl (by decide +kernel) (by decide +kernel) rfl rfl rfl (fun k h1 h2 hg => by (have hk : k = 0 := (by omega)); (rcases hk with rfl) <;> (first | exact std0 | exact std1)) (by exact rfl) ?_
    | refine YQ.q (a := 0) (b := 1) rfl (by decide +kernel) (by decide +kernel) rfl rfl rfl (fun k h1 h2 hg => by (have hk : k = 0 ∨ k = 1 := (by omega)); (rcases hk with rfl | rfl) <;> (first | exact std0 | exact std1)) (by exact rfl) ?_
    | refine YQ.q (a := 1) (b := 1) rfl (by decide +kernel) (by decide +kernel) rfl rfl rfl (fun k h1 h2 hg => by (have hk : k = 1 := (by omega)); (rcases hk with rfl) <;> (first | exact std0 | exact std1)) (by exact rfl) ?_
    | refine YQ.q (a := 0) (b := 2) rfl (by decide +kernel) (by decide +kernel) rfl rfl rfl (fun k h1 h2 hg => by (have hk : k = 0 ∨ k = 1 ∨ k = 2 := (by omega)); (rcases hk with rfl | rfl | rfl) <;> (first | exact std0 | exact std1)) (by exact rfl) ?_
    | refine YQ.q (a := 1) (b := 2) rfl (by decide +kernel) (by decide +kernel) rfl rfl rfl (fun k h1 h2 hg => by (have hk : k = 1 ∨ k = 2 := (by omega)); (rcases hk with rfl | rfl) <;> (first | exact std0 | exact std1)) (by exact rfl) ?_
    | refine YQ.q (a := 2) (b := 2) rfl (by decide +kernel) (by decide +kernel) rfl rfl rfl (fun k h1 h2 hg => by (have hk : k = 2 := (by omega)); (rcases hk with rfl) <;> (first | exact std0 | exact std1)) (by exact rfl) ?_)
  refine YQ.e (v := .sla 4 1 0 9 0) (d := some 45) rfl rfl rfl ?_ ?_
  · intro env' he
    exact EStep.buildArrC (sz := 1) (es := ps9) tabOk he rfl rfl rfl rfl (by kernel_rfl) T10 ⟨rfl, rfl⟩
  refine YQ.e (v := .tup []) (d := some 46) rfl rfl rfl ?_ ?_
  · intro env' he
    refine EStep.callT hv rfl rfl rfl rfl rfl True.intro rfl (by simp only [rds, rdv_congr (he 5 (by decide +kernel)), rdv_congr (he 45 (by decide +kernel))]; rfl) ⟨by rw [rdn_congr (he 5 (by decide +kernel))]; exact True.intro, by rw [rdn_congr (he 45 (by decide +kernel))]; exact True.intro, True.intro⟩ ?_
    rintro _ _ ⟨rfl, rfl⟩
    exact ⟨rfl, rfl⟩
  refine YQ.nil (hK _ _ ?_)
  clear hK K'
  show AWP _ _ _ _ _ (rdS e (mk9 l 9) (l.drop 9) ++ [.arr 1 0 ps9])
  refine AWP.keep [(0, .ptr 2 0)] ⟨rfl, True.intro⟩ ?_
  repeat' (first
    | refine AOps.q rfl rfl rfl (fun hg => by first | exact std0 | exact std1) (by exact rfl) ?_
    | refine AWP.seq ?_
    | refine AWP.regionK (fun K' hK => ?_)
    | (refine AOps.nil (hK _ _ ?_); clear hK K')
    | refine AOps.e (EStep.boxW rfl rfl rfl rfl rfl True.intro rfl rfl ?_)
    | refine AOps.e (EStep.storeW tabOk rfl rfl rfl True.intro rfl rfl True.intro rfl rfl rfl rfl rfl rfl rfl ?_)
    | refine AOps.e (EStep.allocW tabOk rfl rfl rfl rfl rfl rfl ?_)
    | (refine AWP.condW rfl True.intro (fun hc => ?_) (fun hc => ?_) <;> (first | (simp only [decide_eq_true_eq] at hc) | (simp only [decide_eq_false_iff_not, Int.not_lt, Int.not_le] at hc) | skip))
    | refine AWP.block ?_
    | refine AWP.exit ?_
    | refine AWP.skip ?_
    | refine AWP.ret ?_
    | refine AWP.drawK2 (by decide +kernel) (by kernel_rfl) (by decide +kernel) rfl (fun K' hK => ?_)
    | refine AWP.drawL2 (by kernel_rfl) (by decide +kernel) rfl (fun K' hK => ?_)
    | (refine AQ.nil (hK _ ?_); clear hK K')
    | refine AQ.nil ?_
    | refine AQ.q rfl rfl (fun hg => by first | exact std0 | exact std1) (by exact rfl) ?_)
  refine AWP.ownNil (d := 2) (sz := 1) rfl ?_
  generalize hr : l.drop 9 = r at hall
  have hrl : r.length ≤ 1000000 := by rw [← hr, List.length_drop]; omega
  repeat' (first
    | refine AOps.q rfl rfl rfl (fun hg => by first | exact std0 | exact std1) (by exact rfl) ?_
    | refine AWP.seq ?_
    | refine AWP.regionK (fun K' hK => ?_)
    | (refine AOps.nil (hK _ _ ?_); clear hK K')
    | refine AOps.e (EStep.boxW rfl rfl rfl rfl rfl True.intro rfl rfl ?_)
    | refine AOps.e (EStep.storeW tabOk rfl rfl rfl True.intro rfl rfl True.intro rfl rfl rfl rfl rfl rfl rfl ?_)
    | refine AOps.e (EStep.allocW tabOk rfl rfl rfl rfl rfl rfl ?_)
    | (refine AWP.condW rfl True.intro (fun hc => ?_) (fun hc => ?_) <;> (first | (simp only [decide_eq_true_eq] at hc) | (simp only [decide_eq_false_iff_not, Int.not_lt, Int.not_le] at hc) | skip))
    | refine AWP.block ?_
    | refine AWP.exit ?_
    | refine AWP.skip ?_
    | refine AWP.ret ?_
    | refine AWP.drawK2 (by decide +kernel) (by kernel_rfl) (by decide +kernel) rfl (fun K' hK => ?_)
    | refine AWP.drawL2 (by kernel_rfl) (by decide +kernel) rfl (fun K' hK => ?_)
    | (refine AQ.nil (hK _ ?_); clear hK K')
    | refine AQ.nil ?_
    | refine AQ.q rfl rfl (fun hg => by first | exact std0 | exact std1) (by exact rfl) ?_)
  refine AWP.loopW (ι := Nat) (fun k => [(0, .ptr 2 0), (2, .sl 1 ((untxt (r.take k)).map by8) (.own 5)), (50, .sl 1 (r.map encN) .no), (51, .int r.length), (52, .int k)]) (fun k => rdS e (mk9 l 9) r ++ [.arr 1 0 ps9, .own 1 ((untxt (r.take k)).map by8).length]) (fun k => k ≤ r.length) (fun k => r.length - k) 0 (Nat.zero_le _) ⟨rfl, rfl, rfl, rfl, rfl, True.intro⟩ rfl ?_
  intro k hk
  have hlen : ((untxt (r.take k)).map by8).length = k := by simp [untxt]; omega
  by_cases hlt : k < r.length
  · have hin : inR (r.getD k default) 0 255 = true := by
      have := List.all_eq_true.1 hall (r.getD k default) (by simp [List.getD, hlt])
      exact this
    have hin2 := inR_iff.1 hin
    have e1 : (untxt (r.take (k + 1))).map by8 = (untxt (r.take k)).map by8 ++ [by8 (UInt8.ofNat (r.getD k default).toNat)] := by
      rw [List.take_succ_eq_append_getElem hlt, getD_lt hlt]; unfold untxt; rw [List.map_append, List.map_append]; rfl
    repeat' (first
      | refine AWP.regionPan rfl rfl (fun K' hK => ?_)
      | refine AOps.q rfl rfl rfl (fun hg => by first | exact std0 | exact PRun.buildSlW tabOk rfl rfl nds | exact PRun.buildZ (by exact ⟨rfl, rfl⟩) rfl | exact PRun.ifaceW (by kernel_rfl) rfl rfl nd rfl | exact std1) (by exact rfl) ?_
      | refine AWP.seq ?_
      | refine AWP.regionK (fun K' hK => ?_)
      | (refine AOps.nil (hK _ _ ?_); clear hK K')
      | refine AOps.e (EStep.boxW rfl rfl rfl rfl rfl True.intro rfl rfl ?_)
      | refine AOps.e (EStep.storeW tabOk rfl rfl rfl True.intro rfl rfl True.intro rfl rfl rfl rfl rfl rfl rfl ?_)
      | refine AOps.e (EStep.allocW tabOk rfl rfl rfl rfl rfl rfl ?_)
      | refine DStep.panic rfl rfl rfl True.intro ?_
      | refine AOps.e (EStep.appendOwn' tabOk rfl rfl rfl (by decide) (Rd.w rfl True.intro) rfl (Rd.w rfl True.intro) (.sl rfl (by intro x hx; rcases List.mem_singleton.1 hx with rfl; rfl)) (LOk.of (tabOk.get rfl)) (LOk.of (tabOk.get rfl)) rfl rfl (by simp only [List.length_cons, List.length_nil]; omega) (by simp only [List.length_cons, List.length_nil]; omega) ?_)
      | (refine AWP.condW rfl True.intro (fun hc => ?_) (fun hc => ?_) <;> (first | (simp only [decide_eq_true_eq] at hc) | (simp only [decide_eq_false_iff_not, Int.not_lt, Int.not_le] at hc) | skip))
      | refine AWP.block ?_
      | refine AWP.exit ?_
      | refine AWP.skip ?_
      | refine AWP.ret ?_
      | refine AWP.drawK2 (by decide +kernel) (by kernel_rfl) (by decide +kernel) rfl (fun K' hK => ?_)
      | refine AWP.drawL2 (by kernel_rfl) (by decide +kernel) rfl (fun K' hK => ?_)
      | (refine AQ.nil (hK _ ?_); clear hK K')
      | refine AQ.nil ?_
      | refine AQ.q rfl rfl (fun hg => by first | exact std0 | exact PRun.buildSlW tabOk rfl rfl nds | exact PRun.buildZ (by exact ⟨rfl, rfl⟩) rfl | exact PRun.ifaceW (by kernel_rfl) rfl rfl nd rfl | exact std1) (by exact rfl) ?_)
    · exfalso; simp only [Int.toNat_natCast, Bool.or_eq_true, Bool.and_eq_true, Bool.or_eq_false_iff, Bool.and_eq_false_iff, decide_eq_true_eq, decide_eq_false_iff_not, Bool.not_eq_true', Bool.not_eq_false', beq_iff_eq, beq_eq_false_iff_ne, bne_iff_ne, bne_eq_false_iff_eq, gt_iff_lt, ge_iff_le, ne_eq] at hc; omega
    · refine ⟨k + 1, by omega, by omega, ⟨rfl, ?_, rfl, rfl, rfl, True.intro⟩, ?_⟩
      · rw [e1]
        show AV.sl 1 (_ ++ [[AV.prim (.int .u8 (IntKind.u8.wrap (r.getD k default)))]]) _ = _
        rw [byteB hin]
      · rw [e1]
        show rdS e (mk9 l 9) r ++ [.arr 1 0 ps9, .own 1 (List.map by8 (untxt (List.take k r)) ++ [[AV.prim (.int .u8 (IntKind.u8.wrap (r.getD k default)))]]).length] = _
        rw [List.length_append, List.length_append]; rfl
    all_goals (exfalso; omega)
  · repeat' (first
      | refine AOps.q rfl rfl rfl (fun hg => by first | exact std0 | exact PRun.bytesStr tabOk rfl rfl nd rfl rfl rfl | exact std1) (by exact rfl) ?_
      | refine AWP.seq ?_
      | refine AWP.regionK (fun K' hK => ?_)
      | (refine AOps.nil (hK _ _ ?_); clear hK K')
      | refine AOps.e (EStep.boxW rfl rfl rfl rfl rfl True.intro rfl rfl ?_)
      | refine AOps.e (EStep.storeW tabOk rfl rfl rfl True.intro rfl rfl True.intro rfl rfl rfl rfl rfl rfl rfl ?_)
      | refine AOps.e (EStep.allocW tabOk rfl rfl rfl rfl rfl rfl ?_)
      | (refine AWP.condW rfl True.intro (fun hc => ?_) (fun hc => ?_) <;> (first | (simp only [decide_eq_true_eq] at hc) | (simp only [decide_eq_false_iff_not, Int.not_lt, Int.not_le] at hc) | skip))
      | refine AWP.block ?_
      | refine AWP.exit ?_
      | refine AWP.skip ?_
      | refine AWP.ret ?_
      | refine AWP.drawK2 (by decide +kernel) (by kernel_rfl) (by decide +kernel) rfl (fun K' hK => ?_)
      | refine AWP.drawL2 (by kernel_rfl) (by decide +kernel) rfl (fun K' hK => ?_)
      | (refine AQ.nil (hK _ ?_); clear hK K')
      | refine AQ.nil ?_
      | refine AQ.q rfl rfl (fun hg => by first | exact std0 | exact PRun.bytesStr tabOk rfl rfl nd rfl rfl rfl | exact std1) (by exact rfl) ?_)
    all_goals (first | (exfalso; omega) | skip)
    have hkl : r.take k = r := List.take_of_length_le (by omega)
    rw [hkl]
    subst hr
    exact ⟨.inl rfl, _, _, ⟨rfl, rfl⟩, rfl, Nat.le_refl _, rfl, rfl, rfl⟩
set_option maxHeartbeats 1600000 in
set_option maxRecDepth 20000 in
theorem read_D0 (e : Ev) (l : List Int) (hl : l.length < 9) : TDies Try.prog 31 [.ptr 2 0] (rdS e noMark l) brkJ (fun s => ∃ m r, s = rdS e m r) := by
  have hv := take9_D e l hl
  refine TDies.body Try.func31 rfl rfl Try.ntmps31 rfl ?_
  refine AWP.seq (AWP.drawZ effD (fun j => match j with | 0 => rdS e noMark l | _ => rdS e noMark l ++ [.arr 1 0 ps9]) 2 rfl (by decide) (fun _ _ _ _ h => h) (by kernel_rfl) (by decide +kernel) rfl (by decide +kernel) ?_)
  repeat' (first
    | refine ZQ.q (a := 0) (b := 0) rfl (by decide +kernel) (by decide +kernel) rfl rfl rfl (fun k h1 h2 hg => by (have hk : k = 0 := (by omega)); (rcases hk with rfl) <;> (first | exact std0 | exact std1)) (by exact rfl) ?_
    | refine ZQ.q (a := 0) (b := 1) rfl (by decide +kernel) (by decide +kernel) rfl rfl rfl (fun k h1 h2 hg => by (have hk : k = 0 ∨ k = 1 := (by omega)); (rcases hk with rfl | rfl) <;> (first | exact std0 | exact std1)) (by exact rfl) ?_
    | refine ZQ.q (a := 1) (b := 1) rfl (by decide +kernel) (by decide +kernel) rfl rfl rfl (fun k h1 h2 hg => by (have hk : k = 1 := (by omega)); (rcases hk with rfl) <;> (first | exact std0 | exact std1)) (by exact rfl) ?_
    | refine ZQ.q (a := 0) (b := 2) rfl (by decide +kernel) (by decide +kernel) rfl rfl rfl (fun k h1 h2 hg => by (have hk : k = 0 ∨ k = 1 ∨ k = 2 := (by omega)); (rcases hk with rfl | rfl | rfl) <;> (first | exact std0 | exact std1)) (by exact rfl) ?_
    | refine ZQ.q (a := 1) (b := 2) rfl (by decide +kernel) (by decide +kernel) rfl rfl rfl (fun k h1 h2 hg => by (have hk : k = 1 ∨ k = 2 := (by omega)); (rcases hk with rfl | rfl) <;> (first | exact std0 | exact std1)) (by exact rfl) ?_
    | refine ZQ.q (a := 2) (b := 2) rfl (by decide +kernel) (by decide +kernel) rfl rfl rfl (fun k h1 h2 hg => by (have hk : k = 2 := (by omega)); (rcases hk with rfl) <;> (first | exact std0 | exact std1)) (by exact rfl) ?_)
  refine ZQ.e (v := .sla 4 1 0 9 0) (d := some 45) rfl rfl (by decide) rfl ?_ ?_
  · intro env' he
    exact EStep.buildArrC (sz := 1) (es := ps9) tabOk he rfl rfl rfl rfl (by kernel_rfl) T10 ⟨rfl, rfl⟩
  refine ZQ.d (d := some 46) rfl rfl rfl ?_ ?_
  · intro env' he
    refine DStep.call (first := []) (caps := []) (avs := [.ptr 2 0, .sla 4 1 0 9 0]) hv rfl rfl rfl True.intro (by simp only [rds, rdv_congr (he 5 (by decide +kernel)), rdv_congr (he 45 (by decide +kernel))]; rfl) ⟨by rw [rdn_congr (he 5 (by decide +kernel))]; exact True.intro, by rw [rdn_congr (he 45 (by decide +kernel))]; exact True.intro, True.intro⟩ ?_
    rintro _ rfl
    exact ⟨rfl, rdS e noMark l, ⟨_, _, rfl⟩, rfl, Nat.le_refl _, rfl⟩
  exact ZQ.nil rfl
set_option maxHeartbeats 1600000 in
set_option maxRecDepth 20000 in
theorem read_D1 (e : Ev) (l : List Int) (hl : 9 ≤ l.length) (hb : l.length ≤ 1000000) (hall : (l.drop 9).all (fun n => inR n 0 255) = false) : TDies Try.prog 31 [.ptr 2 0] (rdS e noMark l) brkJ (fun s => ∃ m r, s = rdS e m r) := by
  have hv := TCall.val (first := []) (caps := []) (avs := [.ptr 2 0, .sla 4 1 0 9 0]) (take9_T e l hl hb)
  refine TDies.body Try.func31 rfl rfl Try.ntmps31 rfl ?_
  refine AWP.seq (AWP.drawYE effD (fun j => match j with | 0 => rdS e noMark l | 1 => rdS e noMark l ++ [.arr 1 0 ps9] | _ => rdS e (mk9 l 9) (l.drop 9) ++ [.arr 1 0 ps9]) rfl (by kernel_rfl) (by decide +kernel) rfl (by decide +kernel) (fun K' hK => ?_))
  repeat' (first
    | refine YQ.q (a := 0) (b := 0) rfl (by decide +kernel) (by decide +kernel) rfl rfl rfl (fun k h1 h2 hg => by (have hk : k = 0 := (by omega)); (rcases hk with rfl) <;> (first | exact std0 | exact std1)) (by exact rfl) ?_
    | refine YQ.q (a := 0) (b := 1) rfl (by decide +kernel) (by decide +kernel) rfl rfl rfl (fun k h1 h2 hg => by (have hk : k = 0 ∨ k = 1 := (by omega)); (rcases hk with rfl | rfl) <;> (first | exact std0 | exact std1)) (by exact rfl) ?_
    | refine YQ.q (a := 1) (b := 1) rfl (by decide +kernel) (by decide +kernel) rfl rfl rfl (fun k h1 h2 hg => by (have hk : k = 1 := (by omega)); (rcases hk with rfl) <;> (first | exact std0 | exact std1)) (by exact rfl) ?_
    | refine YQ.q (a := 0) (b := 2) rfl (by decide +kernel) (by decide +kernel) rfl rfl rfl (fun k h1 h2 hg => by (have hk : k = 0 ∨ k = 1 ∨ k = 2 := (by omega)); (rcases hk with rfl | rfl | rfl) <;> (first | exact std0 | exact std1)) (by exact rfl) ?_
    | refine YQ.q (a := 1) (b := 2) rfl (by decide +kernel) (by decide +kernel) rfl rfl rfl (fun k h1 h2 hg => by (have hk : k = 1 ∨ k = 2 := (by omega)); (rcases hk with rfl | rfl) <;> (first | exact std0 | exact std1)) (by exact rfl) ?_
    | refine YQ.q (a := 2) (b := 2) rfl (by decide +kernel) (by decide +kernel) rfl rfl rfl (fun k h1 h2 hg => by (have hk : k = 2 := (by omega)); (rcases hk with rfl) <;> (first | exact std0 | exact std1)) (by exact rfl) ?_)
  refine YQ.e (v := .sla 4 1 0 9 0) (d := some 45) rfl rfl rfl ?_ ?_
  · intro env' he
    exact EStep.buildArrC (sz := 1) (es := ps9) tabOk he rfl rfl rfl rfl (by kernel_rfl) T10 ⟨rfl, rfl⟩
  refine YQ.e (v := .tup []) (d := some 46) rfl rfl rfl ?_ ?_
  · intro env' he
    refine EStep.callT hv rfl rfl rfl rfl rfl True.intro rfl (by simp only [rds, rdv_congr (he 5 (by decide +kernel)), rdv_congr (he 45 (by decide +kernel))]; rfl) ⟨by rw [rdn_congr (he 5 (by decide +kernel))]; exact True.intro, by rw [rdn_congr (he 45 (by decide +kernel))]; exact True.intro, True.intro⟩ ?_
    rintro _ _ ⟨rfl, rfl⟩
    exact ⟨rfl, rfl⟩
  refine YQ.nil (hK _ _ ?_)
  clear hK K'
  show AWP _ _ _ _ _ (rdS e (mk9 l 9) (l.drop 9) ++ [.arr 1 0 ps9])
  refine AWP.keep [(0, .ptr 2 0)] ⟨rfl, True.intro⟩ ?_
  repeat' (first
    | refine AOps.q rfl rfl rfl (fun hg => by first | exact std0 | exact std1) (by exact rfl) ?_
    | refine AWP.seq ?_
    | refine AWP.regionK (fun K' hK => ?_)
    | (refine AOps.nil (hK _ _ ?_); clear hK K')
    | refine AOps.e (EStep.boxW rfl rfl rfl rfl rfl True.intro rfl rfl ?_)
    | refine AOps.e (EStep.storeW tabOk rfl rfl rfl True.intro rfl rfl True.intro rfl rfl rfl rfl rfl rfl rfl ?_)
    | refine AOps.e (EStep.allocW tabOk rfl rfl rfl rfl rfl rfl ?_)
    | (refine AWP.condW rfl True.intro (fun hc => ?_) (fun hc => ?_) <;> (first | (simp only [decide_eq_true_eq] at hc) | (simp only [decide_eq_false_iff_not, Int.not_lt, Int.not_le] at hc) | skip))
    | refine AWP.block ?_
    | refine AWP.exit ?_
    | refine AWP.skip ?_
    | refine AWP.ret ?_
    | refine AWP.drawK2 (by decide +kernel) (by kernel_rfl) (by decide +kernel) rfl (fun K' hK => ?_)
    | refine AWP.drawL2 (by kernel_rfl) (by decide +kernel) rfl (fun K' hK => ?_)
    | (refine AQ.nil (hK _ ?_); clear hK K')
    | refine AQ.nil ?_
    | refine AQ.q rfl rfl (fun hg => by first | exact std0 | exact std1) (by exact rfl) ?_)
  refine AWP.ownNil (d := 2) (sz := 1) rfl ?_
  generalize hr : l.drop 9 = r at hall
  have hrl : r.length ≤ 1000000 := by rw [← hr, List.length_drop]; omega
  repeat' (first
    | refine AOps.q rfl rfl rfl (fun hg => by first | exact std0 | exact std1) (by exact rfl) ?_
    | refine AWP.seq ?_
    | refine AWP.regionK (fun K' hK => ?_)
    | (refine AOps.nil (hK _ _ ?_); clear hK K')
    | refine AOps.e (EStep.boxW rfl rfl rfl rfl rfl True.intro rfl rfl ?_)
    | refine AOps.e (EStep.storeW tabOk rfl rfl rfl True.intro rfl rfl True.intro rfl rfl rfl rfl rfl rfl rfl ?_)
    | refine AOps.e (EStep.allocW tabOk rfl rfl rfl rfl rfl rfl ?_)
    | (refine AWP.condW rfl True.intro (fun hc => ?_) (fun hc => ?_) <;> (first | (simp only [decide_eq_true_eq] at hc) | (simp only [decide_eq_false_iff_not, Int.not_lt, Int.not_le] at hc) | skip))
    | refine AWP.block ?_
    | refine AWP.exit ?_
    | refine AWP.skip ?_
    | refine AWP.ret ?_
    | refine AWP.drawK2 (by decide +kernel) (by kernel_rfl) (by decide +kernel) rfl (fun K' hK => ?_)
    | refine AWP.drawL2 (by kernel_rfl) (by decide +kernel) rfl (fun K' hK => ?_)
    | (refine AQ.nil (hK _ ?_); clear hK K')
    | refine AQ.nil ?_
    | refine AQ.q rfl rfl (fun hg => by first | exact std0 | exact std1) (by exact rfl) ?_)
  refine AWP.loopW (ι := Nat) (fun k => [(0, .ptr 2 0), (2, .sl 1 ((untxt (r.take k)).map by8) (.own 5)), (50, .sl 1 (r.map encN) .no), (51, .int r.length), (52, .int k)]) (fun k => rdS e (mk9 l 9) r ++ [.arr 1 0 ps9, .own 1 ((untxt (r.take k)).map by8).length]) (fun k => k ≤ r.length ∧ (r.take k).all (fun n => inR n 0 255) = true) (fun k => r.length - k) 0 ⟨Nat.zero_le _, rfl⟩ ⟨rfl, rfl, rfl, rfl, rfl, True.intro⟩ rfl ?_
  rintro k ⟨hk, hak⟩
  have hlen : ((untxt (r.take k)).map by8).length = k := by simp [untxt]; omega
  by_cases hlt : k < r.length
  · cases hin : inR (r.getD k default) 0 255 with
    | false =>
      have hnot : r.getD k default < 0 ∨ 255 < r.getD k default := by
        unfold inR at hin
        simp only [Bool.and_eq_false_iff, decide_eq_false_iff_not] at hin; omega
      repeat' (first
        | refine AWP.regionPan rfl rfl (fun K' hK => ?_)
        | refine AOps.q rfl rfl rfl (fun hg => by first | exact std0 | exact PRun.buildSlW tabOk rfl rfl nds | exact PRun.buildZ (by exact ⟨rfl, rfl⟩) rfl | exact PRun.ifaceW (by kernel_rfl) rfl rfl nd rfl | exact PRun.buildW tabOk rfl rfl nds | exact std1) (by exact rfl) ?_
        | refine AWP.seq ?_
        | refine AWP.regionK (fun K' hK => ?_)
        | (refine AOps.nil (hK _ _ ?_); clear hK K')
        | refine AOps.e (EStep.boxW rfl rfl rfl rfl rfl True.intro rfl rfl ?_)
        | refine AOps.e (EStep.storeW tabOk rfl rfl rfl True.intro rfl rfl True.intro rfl rfl rfl rfl rfl rfl rfl ?_)
        | refine AOps.e (EStep.allocW tabOk rfl rfl rfl rfl rfl rfl ?_)
        | refine DStep.panic rfl rfl rfl True.intro ?_
        | (refine AWP.condW rfl True.intro (fun hc => ?_) (fun hc => ?_) <;> (first | (simp only [decide_eq_true_eq] at hc) | (simp only [decide_eq_false_iff_not, Int.not_lt, Int.not_le] at hc) | skip))
        | refine AWP.block ?_
        | refine AWP.exit ?_
        | refine AWP.skip ?_
        | refine AWP.ret ?_
        | refine AWP.drawK2 (by decide +kernel) (by kernel_rfl) (by decide +kernel) rfl (fun K' hK => ?_)
        | refine AWP.drawL2 (by kernel_rfl) (by decide +kernel) rfl (fun K' hK => ?_)
        | (refine AQ.nil (hK _ ?_); clear hK K')
        | refine AQ.nil ?_
        | refine AQ.q rfl rfl (fun hg => by first | exact std0 | exact PRun.buildSlW tabOk rfl rfl nds | exact PRun.buildZ (by exact ⟨rfl, rfl⟩) rfl | exact PRun.ifaceW (by kernel_rfl) rfl rfl nd rfl | exact PRun.buildW tabOk rfl rfl nds | exact std1) (by exact rfl) ?_)
      · exact ⟨rfl, rdS e (mk9 l 9) r, ⟨_, _, rfl⟩, rfl, Nat.le_refl _, rfl⟩
      · exfalso; simp only [Int.toNat_natCast, Bool.or_eq_true, Bool.and_eq_true, Bool.or_eq_false_iff, Bool.and_eq_false_iff, decide_eq_true_eq, decide_eq_false_iff_not, Bool.not_eq_true', Bool.not_eq_false', beq_iff_eq, beq_eq_false_iff_ne, bne_iff_ne, bne_eq_false_iff_eq, gt_iff_lt, ge_iff_le, ne_eq] at hc; omega
      all_goals (exfalso; omega)
    | true =>
      have hin2 := inR_iff.1 hin
      have hak' : (r.take (k + 1)).all (fun n => inR n 0 255) = true := by
        rw [List.take_succ_eq_append_getElem hlt, List.all_append, hak, ← getD_lt hlt]; simp only [List.all_cons, List.all_nil, hin]; rfl
      have e1 : (untxt (r.take (k + 1))).map by8 = (untxt (r.take k)).map by8 ++ [by8 (UInt8.ofNat (r.getD k default).toNat)] := by
        rw [List.take_succ_eq_append_getElem hlt, getD_lt hlt]; unfold untxt; rw [List.map_append, List.map_append]; rfl
      repeat' (first
        | refine AWP.regionPan rfl rfl (fun K' hK => ?_)
        | refine AOps.q rfl rfl rfl (fun hg => by first | exact std0 | exact PRun.buildSlW tabOk rfl rfl nds | exact PRun.buildZ (by exact ⟨rfl, rfl⟩) rfl | exact PRun.ifaceW (by kernel_rfl) rfl rfl nd rfl | exact std1) (by exact rfl) ?_
        | refine AWP.seq ?_
        | refine AWP.regionK (fun K' hK => ?_)
        | (refine AOps.nil (hK _ _ ?_); clear hK K')
        | refine AOps.e (EStep.boxW rfl rfl rfl rfl rfl True.intro rfl rfl ?_)
        | refine AOps.e (EStep.storeW tabOk rfl rfl rfl True.intro rfl rfl True.intro rfl rfl rfl rfl rfl rfl rfl ?_)
        | refine AOps.e (EStep.allocW tabOk rfl rfl rfl rfl rfl rfl ?_)
        | refine DStep.panic rfl rfl rfl True.intro ?_
        | refine AOps.e (EStep.appendOwn' tabOk rfl rfl rfl (by decide) (Rd.w rfl True.intro) rfl (Rd.w rfl True.intro) (.sl rfl (by intro x hx; rcases List.mem_singleton.1 hx with rfl; rfl)) (LOk.of (tabOk.get rfl)) (LOk.of (tabOk.get rfl)) rfl rfl (by simp only [List.length_cons, List.length_nil]; omega) (by simp only [List.length_cons, List.length_nil]; omega) ?_)
        | (refine AWP.condW rfl True.intro (fun hc => ?_) (fun hc => ?_) <;> (first | (simp only [decide_eq_true_eq] at hc) | (simp only [decide_eq_false_iff_not, Int.not_lt, Int.not_le] at hc) | skip))
        | refine AWP.block ?_
        | refine AWP.exit ?_
        | refine AWP.skip ?_
        | refine AWP.ret ?_
        | refine AWP.drawK2 (by decide +kernel) (by kernel_rfl) (by decide +kernel) rfl (fun K' hK => ?_)
        | refine AWP.drawL2 (by kernel_rfl) (by decide +kernel) rfl (fun K' hK => ?_)
        | (refine AQ.nil (hK _ ?_); clear hK K')
        | refine AQ.nil ?_
        | refine AQ.q rfl rfl (fun hg => by first | exact std0 | exact PRun.buildSlW tabOk rfl rfl nds | exact PRun.buildZ (by exact ⟨rfl, rfl⟩) rfl | exact PRun.ifaceW (by kernel_rfl) rfl rfl nd rfl | exact std1) (by exact rfl) ?_)
      · exfalso; simp only [Int.toNat_natCast, Bool.or_eq_true, Bool.and_eq_true, Bool.or_eq_false_iff, Bool.and_eq_false_iff, decide_eq_true_eq, decide_eq_false_iff_not, Bool.not_eq_true', Bool.not_eq_false', beq_iff_eq, beq_eq_false_iff_ne, bne_iff_ne, bne_eq_false_iff_eq, gt_iff_lt, ge_iff_le, ne_eq] at hc; omega
      · refine ⟨k + 1, ⟨by omega, hak'⟩, by omega, ⟨rfl, ?_, rfl, rfl, rfl, True.intro⟩, ?_⟩
        · rw [e1]
          show AV.sl 1 (_ ++ [[AV.prim (.int .u8 (IntKind.u8.wrap (r.getD k default)))]]) _ = _
          rw [byteB hin]
        · rw [e1]
          show rdS e (mk9 l 9) r ++ [.arr 1 0 ps9, .own 1 (List.map by8 (untxt (List.take k r)) ++ [[AV.prim (.int .u8 (IntKind.u8.wrap (r.getD k default)))]]).length] = _
          rw [List.length_append, List.length_append]; rfl
      all_goals (exfalso; omega)
  · exfalso
    have hkl : r.take k = r := List.take_of_length_le (by omega)
    rw [hkl, hall] at hak; cases hak
end Go.Proofs.Ytpkolkfglgalpaa
