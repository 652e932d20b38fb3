/- Contracts by content: the reader of the journal takes integers.  Contracts by content: the reader of the journal reads a mark.  Contracts by content: the deferred call of the program's Event. No statement is proved here. -/
import Derived.Test.YtbneeinknlddaaaGreatQ6
import Derived.Test.YtbneeinknlddaaaGreatQ8
import Derived.Test.YtbneeinknlddaaaGreatQ15
import Derived.Test.YtbneeinknlddaaaGreatQ19
set_option linter.unusedVariables false
set_option linter.unusedSimpArgs false
namespace Go.Proofs.YtbneeinknlddaaaGreat
open Go.Ab Go.Jo
attribute [local irreducible] AWP AOps EStep AQ PStep PRun PCall TCall VCall DStep TDies AWD DCall
abbrev encR (m : Jo.Mark) (rest : List Int) : List AV := Go.Proofs.YtbneeinknlddaaaGreat.encM m ++ [.sl 1 (rest.map encN) .no]
abbrev ps3 : List (List AV) := [[.ptr 0 0], [.ptr 0 1], [.ptr 0 2]]
abbrev ps1 : List (List AV) := [[.ptr 0 3]]
abbrev ps9 : List (List AV) := [[.ptr 2 0], [.ptr 2 1], [.ptr 2 2], [.ptr 2 3], [.ptr 2 4], [.ptr 2 5], [.ptr 2 6], [.ptr 2 7], [.ptr 2 8]]
def ev3 (l : List Int) : Nat → Ev
 | 0 => noEv
 | 1 => ⟨l.getD 0 0, 0, 0, 0, noMark⟩
 | 2 => ⟨l.getD 0 0, l.getD 1 0, 0, 0, noMark⟩
 | _ => ⟨l.getD 0 0, l.getD 1 0, l.getD 2 0, 0, noMark⟩
def evN (e : Ev) (l : List Int) : Nat → Ev
 | 0 => e
 | _ => ⟨e.clock, e.stand, e.kind, l.getD 0 0, e.mark⟩
def mk9 (l : List Int) (k : Nat) : Jo.Mark :=
 ⟨if 0 < k then l.getD 0 0 else 0, if 1 < k then l.getD 1 0 else 0, if 2 < k then l.getD 2 0 else 0, ⟨if 3 < k then l.getD 3 0 else 0, if 4 < k then l.getD 4 0 else 0, if 5 < k then l.getD 5 0 else 0⟩, if 6 < k then l.getD 6 0 else 0, if 7 < k then l.getD 7 0 else 0, if 8 < k then l.getD 8 0 else 0, []⟩
abbrev brkJ : List PanicEntry := [{ v := .iface 132 (.agg #[]), recovered := false }]
set_option maxHeartbeats 1600000 in
set_option maxRecDepth 20000 in
theorem take3_T (l : List Int) (hl : 3 ≤ l.length) (hb : l.length ≤ 1000000) : TCall Tryz.prog 101 [.ptr 2 0, .sla 3 1 0 3 0] [.var (encE noEv), .var [.int 0], .var (encR noMark l), .arr 1 0 ps3]
 (fun r s => r = .tup [] ∧ s = [.var (encE (ev3 l 3)), .var [.int 0], .var (encR noMark (l.drop 3)), .arr 1 0 ps3]) := by
 refine TCall.body Tryz.func101 rfl rfl Tryz.ntmps101 rfl rfl ?_
 repeat' (first | refine AWP.regionPan rfl rfl (fun K' hK => ?_) | refine aoQ rfl rfl rfl (fun hg => by first | exact std0 | exact PRun.lenA tabOk rfl rfl nd rfl | exact PRun.buildZ (by exact ⟨rfl, rfl⟩) rfl | exact PRun.ifaceW (by kernel_rfl) rfl rfl nd rfl | exact std1) (by exact rfl) ?_ | refine sqW ?_ | refine rgK (fun K' hK => ?_) | (refine aoN (hK _ _ ?_); clear hK K') | refine DStep.panic rfl rfl rfl tI ?_ | refine cdN rfl tI (fun hc => ?_) (fun hc => ?_) | refine blK ?_ | refine skW ?_)
 · exfalso; omega
 clear hc
 refine lpW (ι := Nat) (fun k => [(0, .ptr 2 0), (1, .sla 3 1 0 3 0), (16, .sla 3 1 0 3 0), (17, .int 3), (18, .int k)]) (fun k => [.var (encE (ev3 l k)), .var [.int 0], .var (encR noMark l), .arr 1 0 ps3]) (fun k => k ≤ 3) (fun k => 3 - k) 0 (nZl _) ⟨rfl, rfl, rfl, rfl, rfl, tI⟩ rfl ?_
 intro k hk
 have hk4 : k = 0 ∨ k = 1 ∨ k = 2 ∨ k = 3 := by omega
 rcases hk4 with rfl | rfl | rfl | rfl
 all_goals repeat' (first | refine aoQ rfl rfl rfl (fun hg => by first | exact std0 | exact PRun.lenA tabOk rfl rfl nd rfl | exact PRun.indexA0 (es := ps3) tabOk rfl rfl nd rfl nd rfl (by decide) rfl ⟨by decide, by decide⟩ | exact PRun.loadE (es := ps3) tabOk rfl rfl nd rfl (by decide) rfl rfl rfl | exact PRun.sliceLoM tabOk rfl rfl nd rfl nd rfl (by omega) | exact std1) (by exact rfl) ?_ | refine sqW ?_ | refine rgK (fun K' hK => ?_) | (refine aoN (hK _ _ ?_); clear hK K') | refine aoE (stW tabOk rfl rfl rfl tI rfl rfl tI rfl rfl rfl rfl rfl rfl rfl ?_) | refine cdN rfl tI (fun hc => ?_) (fun hc => ?_) | refine blK ?_ | refine exW ?_ | refine skW ?_)
 all_goals first
  | (exfalso; omega)
  | exact ⟨_ + 1, by omega, by omega, ⟨rfl, rfl, rfl, rfl, rfl, tI⟩, rfl⟩
  | exact ⟨.inl rfl, _, _, ⟨rfl, rfl⟩, rfl, nLr _, rfl, rfl, rfl⟩
set_option maxRecDepth 20000 in
theorem take3_D (l : List Int) (hl : l.length < 3) : TDies Tryz.prog 101 [.ptr 2 0, .sla 3 1 0 3 0] [.var (encE noEv), .var [.int 0], .var (encR noMark l), .arr 1 0 ps3] brkJ (fun s => s = [.var (encE noEv), .var [.int 0], .var (encR noMark l), .arr 1 0 ps3]) := by
 refine TDies.body Tryz.func101 rfl rfl Tryz.ntmps101 rfl ?_
 repeat' (first | refine AWP.regionPan rfl rfl (fun K' hK => ?_) | refine aoQ rfl rfl rfl (fun hg => by first | exact std0 | exact PRun.lenA tabOk rfl rfl nd rfl | exact PRun.buildZ (by exact ⟨rfl, rfl⟩) rfl | exact PRun.ifaceW (by kernel_rfl) rfl rfl nd rfl | exact std1) (by exact rfl) ?_ | refine sqW ?_ | refine rgK (fun K' hK => ?_) | (refine aoN (hK _ _ ?_); clear hK K') | refine DStep.panic rfl rfl rfl tI ?_ | refine cdN rfl tI (fun hc => ?_) (fun hc => ?_) | refine blK ?_ | refine skW ?_)
 · exact ⟨rfl, _, rfl, rfl, nLr _, rfl⟩
 all_goals (exfalso; omega)
set_option maxHeartbeats 1600000 in
set_option maxRecDepth 20000 in
theorem take1_T (e : Ev) (l : List Int) (hl : 1 ≤ l.length) (hb : l.length ≤ 1000000) : TCall Tryz.prog 101 [.ptr 2 0, .sla 4 1 0 1 0] [.var (encE e), .var [.int 0], .var (encR noMark l), .arr 1 0 ps3, .arr 1 0 ps1]
 (fun r s => r = .tup [] ∧ s = [.var (encE (evN e l 1)), .var [.int 0], .var (encR noMark (l.drop 1)), .arr 1 0 ps3, .arr 1 0 ps1]) := by
 refine TCall.body Tryz.func101 rfl rfl Tryz.ntmps101 rfl rfl ?_
 repeat' (first | refine AWP.regionPan rfl rfl (fun K' hK => ?_) | refine aoQ rfl rfl rfl (fun hg => by first | exact std0 | exact PRun.lenA tabOk rfl rfl nd rfl | exact PRun.buildZ (by exact ⟨rfl, rfl⟩) rfl | exact PRun.ifaceW (by kernel_rfl) rfl rfl nd rfl | exact std1) (by exact rfl) ?_ | refine sqW ?_ | refine rgK (fun K' hK => ?_) | (refine aoN (hK _ _ ?_); clear hK K') | refine DStep.panic rfl rfl rfl tI ?_ | refine cdN rfl tI (fun hc => ?_) (fun hc => ?_) | refine blK ?_ | refine skW ?_)
 · exfalso; omega
 clear hc
 refine lpW (ι := Nat) (fun k => [(0, .ptr 2 0), (1, .sla 4 1 0 1 0), (16, .sla 4 1 0 1 0), (17, .int 1), (18, .int k)]) (fun k => [.var (encE (evN e l k)), .var [.int 0], .var (encR noMark l), .arr 1 0 ps3, .arr 1 0 ps1]) (fun k => k ≤ 1) (fun k => 1 - k) 0 (nZl _) ⟨rfl, rfl, rfl, rfl, rfl, tI⟩ rfl ?_
 intro k hk
 have hk4 : k = 0 ∨ k = 1 := by omega
 rcases hk4 with rfl | rfl
 all_goals repeat' (first | refine aoQ rfl rfl rfl (fun hg => by first | exact std0 | exact PRun.lenA tabOk rfl rfl nd rfl | exact PRun.indexA0 (es := ps1) tabOk rfl rfl nd rfl nd rfl (by decide) rfl ⟨by decide, by decide⟩ | exact PRun.loadE (es := ps1) tabOk rfl rfl nd rfl (by decide) rfl rfl rfl | exact PRun.sliceLoM tabOk rfl rfl nd rfl nd rfl (by omega) | exact std1) (by exact rfl) ?_ | refine sqW ?_ | refine rgK (fun K' hK => ?_) | (refine aoN (hK _ _ ?_); clear hK K') | refine aoE (stW tabOk rfl rfl rfl tI rfl rfl tI rfl rfl rfl rfl rfl rfl rfl ?_) | refine cdN rfl tI (fun hc => ?_) (fun hc => ?_) | refine blK ?_ | refine exW ?_ | refine skW ?_)
 all_goals first
  | (exfalso; omega)
  | exact ⟨_ + 1, by omega, by omega, ⟨rfl, rfl, rfl, rfl, rfl, tI⟩, rfl⟩
  | exact ⟨.inl rfl, _, _, ⟨rfl, rfl⟩, rfl, nLr _, rfl, rfl, rfl⟩
set_option maxRecDepth 20000 in
theorem take1_D (e : Ev) (l : List Int) (hl : l.length < 1) : TDies Tryz.prog 101 [.ptr 2 0, .sla 4 1 0 1 0] [.var (encE e), .var [.int 0], .var (encR noMark l), .arr 1 0 ps3, .arr 1 0 ps1] brkJ (fun s => s = [.var (encE e), .var [.int 0], .var (encR noMark l), .arr 1 0 ps3, .arr 1 0 ps1]) := by
 refine TDies.body Tryz.func101 rfl rfl Tryz.ntmps101 rfl ?_
 repeat' (first | refine AWP.regionPan rfl rfl (fun K' hK => ?_) | refine aoQ rfl rfl rfl (fun hg => by first | exact std0 | exact PRun.lenA tabOk rfl rfl nd rfl | exact PRun.buildZ (by exact ⟨rfl, rfl⟩) rfl | exact PRun.ifaceW (by kernel_rfl) rfl rfl nd rfl | exact std1) (by exact rfl) ?_ | refine sqW ?_ | refine rgK (fun K' hK => ?_) | (refine aoN (hK _ _ ?_); clear hK K') | refine DStep.panic rfl rfl rfl tI ?_ | refine cdN rfl tI (fun hc => ?_) (fun hc => ?_) | refine blK ?_ | refine skW ?_)
 · exact ⟨rfl, _, rfl, rfl, nLr _, rfl⟩
 all_goals (exfalso; omega)
set_option maxHeartbeats 1600000 in
set_option maxRecDepth 20000 in
theorem take9_T (e : Ev) (l : List Int) (hl : 9 ≤ l.length) (hb : l.length ≤ 1000000) : TCall Tryz.prog 101 [.ptr 2 0, .sla 4 1 0 9 0] [.var (encE e), .var [.int 0], .var (encR noMark l), .arr 1 0 ps3, .arr 1 0 ps9]
 (fun r s => r = .tup [] ∧ s = [.var (encE e), .var [.int 0], .var (encR (mk9 l 9) (l.drop 9)), .arr 1 0 ps3, .arr 1 0 ps9]) := by
 refine TCall.body Tryz.func101 rfl rfl Tryz.ntmps101 rfl rfl ?_
 repeat' (first | refine AWP.regionPan rfl rfl (fun K' hK => ?_) | refine aoQ rfl rfl rfl (fun hg => by first | exact std0 | exact PRun.lenA tabOk rfl rfl nd rfl | exact PRun.buildZ (by exact ⟨rfl, rfl⟩) rfl | exact PRun.ifaceW (by kernel_rfl) rfl rfl nd rfl | exact std1) (by exact rfl) ?_ | refine sqW ?_ | refine rgK (fun K' hK => ?_) | (refine aoN (hK _ _ ?_); clear hK K') | refine DStep.panic rfl rfl rfl tI ?_ | refine cdN rfl tI (fun hc => ?_) (fun hc => ?_) | refine blK ?_ | refine skW ?_)
 · exfalso; omega
 clear hc
 refine lpW (ι := Nat) (fun k => [(0, .ptr 2 0), (1, .sla 4 1 0 9 0), (16, .sla 4 1 0 9 0), (17, .int 9), (18, .int k)]) (fun k => [.var (encE e), .var [.int 0], .var (encR (mk9 l k) l), .arr 1 0 ps3, .arr 1 0 ps9]) (fun k => k ≤ 9) (fun k => 9 - k) 0 (nZl _) ⟨rfl, rfl, rfl, rfl, rfl, tI⟩ rfl ?_
 intro k hk
 have hk4 : k = 0 ∨ k = 1 ∨ k = 2 ∨ k = 3 ∨ k = 4 ∨ k = 5 ∨ k = 6 ∨ k = 7 ∨ k = 8 ∨ k = 9 := by omega
 rcases hk4 with rfl | rfl | rfl | rfl | rfl | rfl | rfl | rfl | rfl | rfl
 all_goals repeat' (first | refine aoQ rfl rfl rfl (fun hg => by first | exact std0 | exact PRun.lenA tabOk rfl rfl nd rfl | exact PRun.indexA0 (es := ps9) tabOk rfl rfl nd rfl nd rfl (by decide) rfl ⟨by decide, by decide⟩ | exact PRun.loadE (es := ps9) tabOk rfl rfl nd rfl (by decide) rfl rfl rfl | exact PRun.sliceLoM tabOk rfl rfl nd rfl nd rfl (by omega) | exact std1) (by exact rfl) ?_ | refine sqW ?_ | refine rgK (fun K' hK => ?_) | (refine aoN (hK _ _ ?_); clear hK K') | refine aoE (stW tabOk rfl rfl rfl tI rfl rfl tI rfl rfl rfl rfl rfl rfl rfl ?_) | refine cdN rfl tI (fun hc => ?_) (fun hc => ?_) | refine blK ?_ | refine exW ?_ | refine skW ?_)
 all_goals first
  | (exfalso; omega)
  | exact ⟨_ + 1, by omega, by omega, ⟨rfl, rfl, rfl, rfl, rfl, tI⟩, rfl⟩
  | exact ⟨.inl rfl, _, _, ⟨rfl, rfl⟩, rfl, nLr _, rfl, rfl, rfl⟩
set_option maxRecDepth 20000 in
theorem take9_D (e : Ev) (l : List Int) (hl : l.length < 9) : TDies Tryz.prog 101 [.ptr 2 0, .sla 4 1 0 9 0] [.var (encE e), .var [.int 0], .var (encR noMark l), .arr 1 0 ps3, .arr 1 0 ps9] brkJ (fun s => s = [.var (encE e), .var [.int 0], .var (encR noMark l), .arr 1 0 ps3, .arr 1 0 ps9]) := by
 refine TDies.body Tryz.func101 rfl rfl Tryz.ntmps101 rfl ?_
 repeat' (first | refine AWP.regionPan rfl rfl (fun K' hK => ?_) | refine aoQ rfl rfl rfl (fun hg => by first | exact std0 | exact PRun.lenA tabOk rfl rfl nd rfl | exact PRun.buildZ (by exact ⟨rfl, rfl⟩) rfl | exact PRun.ifaceW (by kernel_rfl) rfl rfl nd rfl | exact std1) (by exact rfl) ?_ | refine sqW ?_ | refine rgK (fun K' hK => ?_) | (refine aoN (hK _ _ ?_); clear hK K') | refine DStep.panic rfl rfl rfl tI ?_ | refine cdN rfl tI (fun hc => ?_) (fun hc => ?_) | refine blK ?_ | refine skW ?_)
 · exact ⟨rfl, _, rfl, rfl, nLr _, rfl⟩
 all_goals (exfalso; omega)
end Go.Proofs.YtbneeinknlddaaaGreat
namespace Go.Ab
theorem envOp_congr {o : Oper} {ops : Array Oper} {env env' : Env} (he : ∀ x ∈ o.looksAt ops, env' x = env x) {x : Operand} (hx : x ∈ o.op.operands) : envOp env' x = envOp env x := by
 cases x with
 | tmp t =>
   refine he t ?_
   unfold Oper.looksAt
   refine zBh _ (List.mem_filterMap.2 ⟨.tmp t, by simpa using hx, rfl⟩)
 | _ => rfl
theorem partsF_congr {env env' : Env} : ∀ {l : List (Nat × Operand)}, (∀ p ∈ l, envOp env' p.2 = envOp env p.2) → partsF env' l = partsF env l ∧ (rdns env (l.map (·.2)) → rdns env' (l.map (·.2)))
 | [], _ => ⟨rfl, fun h => h⟩
 | (i, x) :: r, h => by
   obtain ⟨h1, h2⟩ := partsF_congr (l := r) fun p hp => h p (zAj _ hp)
   have h0 := h (i, x) (zAn ..)
   dsimp only at h0
   refine ⟨?_, fun hn => ⟨?_, h2 hn.2⟩⟩
   · simp only [partsF, h1, rdv, h0]
   · have := hn.1
     unfold rdn at this ⊢
     dsimp only at this ⊢
     rw [h0]; exact this
theorem EStep.buildArrC {P : Program} {n : Nat} {ops : Array Oper} {o : Oper} {env env' : Env} {σ : Store} {T : Tab} {k : Env → Store → Prop} (hT : T.Ok P) (he : ∀ x ∈ o.looksAt ops, env' x = env x) {t m d sz : Nat} {parts : Array (Nat × Operand)} {es : List (List AV)} (ho : o.op = .buildSlice t m parts) (hg : o.guard = none) (hd : o.dst = some d) (hdn : decide (d < n) = true)
 (h : rowF T env t m parts.toList = some (sz, es)) (hn : rdns env (parts.toList.map (·.2))) (hk : k (env'.put d (.sla σ.length sz 0 m 0)) (σ ++ [.arr sz 0 es])) : EStep P n ops o k env' σ := by
 have hp : ∀ p ∈ parts.toList, envOp env' p.2 = envOp env p.2 := fun p hp => envOp_congr he (by simp [ho, Op.operands]; exact ⟨p.1, by simpa using hp⟩)
 obtain ⟨h1, h2⟩ := partsF_congr hp
 refine EStep.buildArr hT ho hg hd hdn ?_ (h2 hn) hk
 unfold rowF at h ⊢
 rw [h1]; exact h
def effD (o : Oper) : Bool := match o.op with
 | .buildSlice _ _ _ => true
 | .call { callee := .value _, .. } => true
 | _ => effOp o
end Go.Ab
namespace Go.Proofs.YtbneeinknlddaaaGreat
open Go.Ab Go.Jo
attribute [local irreducible] AWP AOps EStep AQ PStep PRun PCall TCall VCall DStep TDies AWD DCall
theorem byteB {n : Int} (h : inR n 0 255 = true) : IntKind.u8.wrap n = ((UInt8.ofNat n.toNat).toNat : Int) := by
 unfold inR at h
 simp only [zA2, dEt] at h
 rw [ofNat_toNat8, IntKind.wrap_u8]; omega
def mkT (l : List Int) : Jo.Mark := ⟨l.getD 0 0, l.getD 1 0, l.getD 2 0, ⟨l.getD 3 0, l.getD 4 0, l.getD 5 0⟩, l.getD 6 0, l.getD 7 0, l.getD 8 0, untxt (l.drop 9)⟩
abbrev rdS (e : Ev) (m : Jo.Mark) (r : List Int) : Store := [.var (encE e), .var [.int 0], .var (encR m r), .arr 1 0 ps3]
set_option maxHeartbeats 1600000 in
set_option maxRecDepth 20000 in
theorem read_T (e : Ev) (l : List Int) (hl : 9 ≤ l.length) (hb : l.length ≤ 1000000) (hall : (l.drop 9).all (fun n => inR n 0 255) = true) : TCall Tryz.prog 102 [.ptr 2 0] (rdS e noMark l)
 (fun r s => r = .tup [] ∧ s = [.var (encE e), .var [.int 0], .var (Go.Proofs.YtbneeinknlddaaaGreat.encM (mkT l) ++ [.nils]), .arr 1 0 ps3]) := by
 have hv := TCall.val (first := []) (caps := []) (avs := [.ptr 2 0, .sla 4 1 0 9 0]) (take9_T e l hl hb)
 refine TCall.body Tryz.func102 rfl rfl Tryz.ntmps102 rfl rfl ?_
 refine sqW (AWP.drawYE effD (fun j => match j with | 0 => rdS e noMark l | 1 => rdS e noMark l ++ [.arr 1 0 ps9] | _ => rdS e (mk9 l 9) (l.drop 9) ++ [.arr 1 0 ps9]) rfl (by kernel_rfl) (by decide +kernel) rfl (by decide +kernel) (fun K' hK => ?_))
 repeat' (first
  | refine yqQ (a := 0) (b := 0) rfl (by decide +kernel) (by decide +kernel) rfl rfl rfl (fun k h1 h2 hg => by (have hk : k = 0 := (by omega)); (rcases hk with rfl) <;> (first | exact std0 | exact std1)) (by exact rfl) ?_
  | refine yqQ (a := 0) (b := 1) rfl (by decide +kernel) (by decide +kernel) rfl rfl rfl (fun k h1 h2 hg => by (have hk : k = 0 ∨ k = 1 := (by omega)); (rcases hk with rfl | rfl) <;> (first | exact std0 | exact std1)) (by exact rfl) ?_
  | refine yqQ (a := 1) (b := 1) rfl (by decide +kernel) (by decide +kernel) rfl rfl rfl (fun k h1 h2 hg => by (have hk : k = 1 := (by omega)); (rcases hk with rfl) <;> (first | exact std0 | exact std1)) (by exact rfl) ?_
  | refine yqQ (a := 0) (b := 2) rfl (by decide +kernel) (by decide +kernel) rfl rfl rfl (fun k h1 h2 hg => by (have hk : k = 0 ∨ k = 1 ∨ k = 2 := (by omega)); (rcases hk with rfl | rfl | rfl) <;> (first | exact std0 | exact std1)) (by exact rfl) ?_
  | refine yqQ (a := 1) (b := 2) rfl (by decide +kernel) (by decide +kernel) rfl rfl rfl (fun k h1 h2 hg => by (have hk : k = 1 ∨ k = 2 := (by omega)); (rcases hk with rfl | rfl) <;> (first | exact std0 | exact std1)) (by exact rfl) ?_
  | refine yqQ (a := 2) (b := 2) rfl (by decide +kernel) (by decide +kernel) rfl rfl rfl (fun k h1 h2 hg => by (have hk : k = 2 := (by omega)); (rcases hk with rfl) <;> (first | exact std0 | exact std1)) (by exact rfl) ?_)
 refine YQ.e (v := .sla 4 1 0 9 0) (d := some 45) rfl rfl rfl ?_ ?_
 · intro env' he
   exact EStep.buildArrC (sz := 1) (es := ps9) tabOk he rfl rfl rfl rfl (by kernel_rfl) T10 ⟨rfl, rfl⟩
 refine YQ.e (v := .tup []) (d := some 46) rfl rfl rfl ?_ ?_
 · intro env' he
   refine scT hv rfl rfl rfl rfl rfl tI rfl (by simp only [rds, rdv_congr (he 5 (by decide +kernel)), rdv_congr (he 45 (by decide +kernel))]; rfl) ⟨by rw [rdn_congr (he 5 (by decide +kernel))]; exact tI, by rw [rdn_congr (he 45 (by decide +kernel))]; exact tI, tI⟩ ?_
   rintro _ _ ⟨rfl, rfl⟩
   exact ⟨rfl, rfl⟩
 refine YQ.nil (hK _ _ ?_)
 clear hK K'
 show AWP _ _ _ _ _ (rdS e (mk9 l 9) (l.drop 9) ++ [.arr 1 0 ps9])
 refine AWP.keep [(0, .ptr 2 0)] ⟨rfl, tI⟩ ?_
 repeat' (first | refine aoQ rfl rfl rfl (fun hg => by first | exact std0 | exact std1) (by exact rfl) ?_ | refine sqW ?_ | refine rgK (fun K' hK => ?_) | (refine aoN (hK _ _ ?_); clear hK K') | refine blK ?_)
 refine AWP.ownNil (d := 2) (sz := 1) rfl ?_
 generalize hr : l.drop 9 = r at hall
 have hrl : r.length ≤ 1000000 := by rw [← hr, zAg]; omega
 skip
 refine lpW (ι := Nat) (fun k => [(0, .ptr 2 0), (2, .sl 1 ((untxt (r.take k)).map by8) (.own 5)), (50, .sl 1 (r.map encN) .no), (51, .int r.length), (52, .int k)]) (fun k => rdS e (mk9 l 9) r ++ [.arr 1 0 ps9, .own 1 ((untxt (r.take k)).map by8).length]) (fun k => k ≤ r.length) (fun k => r.length - k) 0 (nZl _) ⟨rfl, rfl, rfl, rfl, rfl, tI⟩ rfl ?_
 intro k hk
 have hlen : ((untxt (r.take k)).map by8).length = k := by simp [untxt]; omega
 by_cases hlt : k < r.length
 · have hin : inR (r.getD k default) 0 255 = true := by
    have := zAb.1 hall (r.getD k default) (by simp [List.getD, hlt])
    exact this
   have hin2 := inR_iff.1 hin
   have e1 : (untxt (r.take (k + 1))).map by8 = (untxt (r.take k)).map by8 ++ [by8 (UInt8.ofNat (r.getD k default).toNat)] := by
    rw [zB0 hlt, getD_lt hlt]; unfold untxt; rw [zB3, zB3]; rfl
   repeat' (first | refine AWP.regionPan rfl rfl (fun K' hK => ?_) | refine aoQ rfl rfl rfl (fun hg => by first | exact std0 | exact pbS tabOk rfl rfl nds | exact PRun.buildZ (by exact ⟨rfl, rfl⟩) rfl | exact PRun.ifaceW (by kernel_rfl) rfl rfl nd rfl | exact std1) (by exact rfl) ?_ | refine sqW ?_ | refine rgK (fun K' hK => ?_) | (refine aoN (hK _ _ ?_); clear hK K') | refine DStep.panic rfl rfl rfl tI ?_ | refine aoE (apO tabOk rfl rfl rfl (by decide) (Rd.w rfl tI) rfl (Rd.w rfl tI) (.sl rfl (by intro x hx; rcases zAa.1 hx with rfl; rfl)) (LOk.of (tabOk.get rfl)) (LOk.of (tabOk.get rfl)) rfl rfl (by simp only [zA1, zA9]; omega) (by simp only [zA1, zA9]; omega) ?_) | refine cdN rfl tI (fun hc => ?_) (fun hc => ?_) | refine blK ?_ | refine exW ?_ | refine skW ?_)
   · exfalso; simp only [zAh, zAx, zA2, zAo, zAs, dEt, dEf, zAz, zAv, beq_iff_eq, beq_eq_false_iff_ne, bne_iff_ne, bne_eq_false_iff_eq, gt_iff_lt, ge_iff_le, ne_eq] at hc; omega
   · refine ⟨k + 1, by omega, by omega, ⟨rfl, ?_, rfl, rfl, rfl, tI⟩, ?_⟩
     · rw [e1]
       show AV.sl 1 (_ ++ [[AV.prim (.int .u8 (IntKind.u8.wrap (r.getD k default)))]]) _ = _
       rw [byteB hin]
     · rw [e1]
       show rdS e (mk9 l 9) r ++ [.arr 1 0 ps9, .own 1 (List.map by8 (untxt (List.take k r)) ++ [[AV.prim (.int .u8 (IntKind.u8.wrap (r.getD k default)))]]).length] = _
       rw [lLa, lLa]; rfl
   all_goals (exfalso; omega)
 · repeat' (first | refine aoQ rfl rfl rfl (fun hg => by first | exact std0 | exact PRun.bytesStr tabOk rfl rfl nd rfl rfl rfl | exact std1) (by exact rfl) ?_ | refine sqW ?_ | refine rgK (fun K' hK => ?_) | (refine aoN (hK _ _ ?_); clear hK K') | refine aoE (stW tabOk rfl rfl rfl tI rfl rfl tI rfl rfl rfl rfl rfl rfl rfl ?_) | refine cdN rfl tI (fun hc => ?_) (fun hc => ?_) | refine blK ?_ | refine exW ?_ | refine skW ?_)
   all_goals (first | (exfalso; omega) | skip)
   have hkl : r.take k = r := zBd (by omega)
   rw [hkl]
   subst hr
   exact ⟨.inl rfl, _, _, ⟨rfl, rfl⟩, rfl, nLr _, rfl, rfl, rfl⟩
set_option maxHeartbeats 1600000 in
set_option maxRecDepth 20000 in
theorem read_D0 (e : Ev) (l : List Int) (hl : l.length < 9) : TDies Tryz.prog 102 [.ptr 2 0] (rdS e noMark l) brkJ (fun s => ∃ m r, s = rdS e m r) := by
 have hv := take9_D e l hl
 refine TDies.body Tryz.func102 rfl rfl Tryz.ntmps102 rfl ?_
 refine sqW (AWP.drawZ effD (fun j => match j with | 0 => rdS e noMark l | _ => rdS e noMark l ++ [.arr 1 0 ps9]) 2 rfl (by decide) (fun _ _ _ _ h => h) (by kernel_rfl) (by decide +kernel) rfl (by decide +kernel) ?_)
 repeat' (first
  | refine ZQ.q (a := 0) (b := 0) rfl (by decide +kernel) (by decide +kernel) rfl rfl rfl (fun k h1 h2 hg => by (have hk : k = 0 := (by omega)); (rcases hk with rfl) <;> (first | exact std0 | exact std1)) (by exact rfl) ?_
  | refine ZQ.q (a := 0) (b := 1) rfl (by decide +kernel) (by decide +kernel) rfl rfl rfl (fun k h1 h2 hg => by (have hk : k = 0 ∨ k = 1 := (by omega)); (rcases hk with rfl | rfl) <;> (first | exact std0 | exact std1)) (by exact rfl) ?_
  | refine ZQ.q (a := 1) (b := 1) rfl (by decide +kernel) (by decide +kernel) rfl rfl rfl (fun k h1 h2 hg => by (have hk : k = 1 := (by omega)); (rcases hk with rfl) <;> (first | exact std0 | exact std1)) (by exact rfl) ?_
  | refine ZQ.q (a := 0) (b := 2) rfl (by decide +kernel) (by decide +kernel) rfl rfl rfl (fun k h1 h2 hg => by (have hk : k = 0 ∨ k = 1 ∨ k = 2 := (by omega)); (rcases hk with rfl | rfl | rfl) <;> (first | exact std0 | exact std1)) (by exact rfl) ?_
  | refine ZQ.q (a := 1) (b := 2) rfl (by decide +kernel) (by decide +kernel) rfl rfl rfl (fun k h1 h2 hg => by (have hk : k = 1 ∨ k = 2 := (by omega)); (rcases hk with rfl | rfl) <;> (first | exact std0 | exact std1)) (by exact rfl) ?_
  | refine ZQ.q (a := 2) (b := 2) rfl (by decide +kernel) (by decide +kernel) rfl rfl rfl (fun k h1 h2 hg => by (have hk : k = 2 := (by omega)); (rcases hk with rfl) <;> (first | exact std0 | exact std1)) (by exact rfl) ?_)
 refine ZQ.e (v := .sla 4 1 0 9 0) (d := some 45) rfl rfl (by decide) rfl ?_ ?_
 · intro env' he
   exact EStep.buildArrC (sz := 1) (es := ps9) tabOk he rfl rfl rfl rfl (by kernel_rfl) T10 ⟨rfl, rfl⟩
 refine ZQ.d (d := some 46) rfl rfl rfl ?_ ?_
 · intro env' he
   refine DStep.call (first := []) (caps := []) (avs := [.ptr 2 0, .sla 4 1 0 9 0]) hv rfl rfl rfl tI (by simp only [rds, rdv_congr (he 5 (by decide +kernel)), rdv_congr (he 45 (by decide +kernel))]; rfl) ⟨by rw [rdn_congr (he 5 (by decide +kernel))]; exact tI, by rw [rdn_congr (he 45 (by decide +kernel))]; exact tI, tI⟩ ?_
   rintro _ rfl
   exact ⟨rfl, rdS e noMark l, ⟨_, _, rfl⟩, rfl, nLr _, rfl⟩
 exact ZQ.nil rfl
set_option maxHeartbeats 1600000 in
set_option maxRecDepth 20000 in
theorem read_D1 (e : Ev) (l : List Int) (hl : 9 ≤ l.length) (hb : l.length ≤ 1000000) (hall : (l.drop 9).all (fun n => inR n 0 255) = false) : TDies Tryz.prog 102 [.ptr 2 0] (rdS e noMark l) brkJ (fun s => ∃ m r, s = rdS e m r) := by
 have hv := TCall.val (first := []) (caps := []) (avs := [.ptr 2 0, .sla 4 1 0 9 0]) (take9_T e l hl hb)
 refine TDies.body Tryz.func102 rfl rfl Tryz.ntmps102 rfl ?_
 refine sqW (AWP.drawYE effD (fun j => match j with | 0 => rdS e noMark l | 1 => rdS e noMark l ++ [.arr 1 0 ps9] | _ => rdS e (mk9 l 9) (l.drop 9) ++ [.arr 1 0 ps9]) rfl (by kernel_rfl) (by decide +kernel) rfl (by decide +kernel) (fun K' hK => ?_))
 repeat' (first
  | refine yqQ (a := 0) (b := 0) rfl (by decide +kernel) (by decide +kernel) rfl rfl rfl (fun k h1 h2 hg => by (have hk : k = 0 := (by omega)); (rcases hk with rfl) <;> (first | exact std0 | exact std1)) (by exact rfl) ?_
  | refine yqQ (a := 0) (b := 1) rfl (by decide +kernel) (by decide +kernel) rfl rfl rfl (fun k h1 h2 hg => by (have hk : k = 0 ∨ k = 1 := (by omega)); (rcases hk with rfl | rfl) <;> (first | exact std0 | exact std1)) (by exact rfl) ?_
  | refine yqQ (a := 1) (b := 1) rfl (by decide +kernel) (by decide +kernel) rfl rfl rfl (fun k h1 h2 hg => by (have hk : k = 1 := (by omega)); (rcases hk with rfl) <;> (first | exact std0 | exact std1)) (by exact rfl) ?_
  | refine yqQ (a := 0) (b := 2) rfl (by decide +kernel) (by decide +kernel) rfl rfl rfl (fun k h1 h2 hg => by (have hk : k = 0 ∨ k = 1 ∨ k = 2 := (by omega)); (rcases hk with rfl | rfl | rfl) <;> (first | exact std0 | exact std1)) (by exact rfl) ?_
  | refine yqQ (a := 1) (b := 2) rfl (by decide +kernel) (by decide +kernel) rfl rfl rfl (fun k h1 h2 hg => by (have hk : k = 1 ∨ k = 2 := (by omega)); (rcases hk with rfl | rfl) <;> (first | exact std0 | exact std1)) (by exact rfl) ?_
  | refine yqQ (a := 2) (b := 2) rfl (by decide +kernel) (by decide +kernel) rfl rfl rfl (fun k h1 h2 hg => by (have hk : k = 2 := (by omega)); (rcases hk with rfl) <;> (first | exact std0 | exact std1)) (by exact rfl) ?_)
 refine YQ.e (v := .sla 4 1 0 9 0) (d := some 45) rfl rfl rfl ?_ ?_
 · intro env' he
   exact EStep.buildArrC (sz := 1) (es := ps9) tabOk he rfl rfl rfl rfl (by kernel_rfl) T10 ⟨rfl, rfl⟩
 refine YQ.e (v := .tup []) (d := some 46) rfl rfl rfl ?_ ?_
 · intro env' he
   refine scT hv rfl rfl rfl rfl rfl tI rfl (by simp only [rds, rdv_congr (he 5 (by decide +kernel)), rdv_congr (he 45 (by decide +kernel))]; rfl) ⟨by rw [rdn_congr (he 5 (by decide +kernel))]; exact tI, by rw [rdn_congr (he 45 (by decide +kernel))]; exact tI, tI⟩ ?_
   rintro _ _ ⟨rfl, rfl⟩
   exact ⟨rfl, rfl⟩
 refine YQ.nil (hK _ _ ?_)
 clear hK K'
 show AWP _ _ _ _ _ (rdS e (mk9 l 9) (l.drop 9) ++ [.arr 1 0 ps9])
 refine AWP.keep [(0, .ptr 2 0)] ⟨rfl, tI⟩ ?_
 repeat' (first | refine aoQ rfl rfl rfl (fun hg => by first | exact std0 | exact std1) (by exact rfl) ?_ | refine sqW ?_ | refine rgK (fun K' hK => ?_) | (refine aoN (hK _ _ ?_); clear hK K') | refine blK ?_)
 refine AWP.ownNil (d := 2) (sz := 1) rfl ?_
 generalize hr : l.drop 9 = r at hall
 have hrl : r.length ≤ 1000000 := by rw [← hr, zAg]; omega
 skip
 refine lpW (ι := Nat) (fun k => [(0, .ptr 2 0), (2, .sl 1 ((untxt (r.take k)).map by8) (.own 5)), (50, .sl 1 (r.map encN) .no), (51, .int r.length), (52, .int k)]) (fun k => rdS e (mk9 l 9) r ++ [.arr 1 0 ps9, .own 1 ((untxt (r.take k)).map by8).length]) (fun k => k ≤ r.length ∧ (r.take k).all (fun n => inR n 0 255) = true) (fun k => r.length - k) 0 ⟨nZl _, rfl⟩ ⟨rfl, rfl, rfl, rfl, rfl, tI⟩ rfl ?_
 rintro k ⟨hk, hak⟩
 have hlen : ((untxt (r.take k)).map by8).length = k := by simp [untxt]; omega
 by_cases hlt : k < r.length
 · cases hin : inR (r.getD k default) 0 255 with
   | false =>
     have hnot : r.getD k default < 0 ∨ 255 < r.getD k default := by
      unfold inR at hin
      simp only [zAs, dEf] at hin; omega
     repeat' (first | refine AWP.regionPan rfl rfl (fun K' hK => ?_) | refine aoQ rfl rfl rfl (fun hg => by first | exact std0 | exact pbS tabOk rfl rfl nds | exact PRun.buildZ (by exact ⟨rfl, rfl⟩) rfl | exact PRun.ifaceW (by kernel_rfl) rfl rfl nd rfl | exact std1) (by exact rfl) ?_ | refine sqW ?_ | refine rgK (fun K' hK => ?_) | (refine aoN (hK _ _ ?_); clear hK K') | refine DStep.panic rfl rfl rfl tI ?_ | refine cdN rfl tI (fun hc => ?_) (fun hc => ?_) | refine blK ?_ | refine exW ?_ | refine skW ?_)
     · exact ⟨rfl, rdS e (mk9 l 9) r, ⟨_, _, rfl⟩, rfl, nLr _, rfl⟩
     · exfalso; simp only [zAh, zAx, zA2, zAo, zAs, dEt, dEf, zAz, zAv, beq_iff_eq, beq_eq_false_iff_ne, bne_iff_ne, bne_eq_false_iff_eq, gt_iff_lt, ge_iff_le, ne_eq] at hc; omega
     all_goals (exfalso; omega)
   | true =>
     have hin2 := inR_iff.1 hin
     have hak' : (r.take (k + 1)).all (fun n => inR n 0 255) = true := by
      rw [zB0 hlt, List.all_append, hak, ← getD_lt hlt]; simp only [zCa, List.all_nil, hin]; rfl
     have e1 : (untxt (r.take (k + 1))).map by8 = (untxt (r.take k)).map by8 ++ [by8 (UInt8.ofNat (r.getD k default).toNat)] := by
      rw [zB0 hlt, getD_lt hlt]; unfold untxt; rw [zB3, zB3]; rfl
     repeat' (first | refine AWP.regionPan rfl rfl (fun K' hK => ?_) | refine aoQ rfl rfl rfl (fun hg => by first | exact std0 | exact pbS tabOk rfl rfl nds | exact PRun.buildZ (by exact ⟨rfl, rfl⟩) rfl | exact PRun.ifaceW (by kernel_rfl) rfl rfl nd rfl | exact std1) (by exact rfl) ?_ | refine sqW ?_ | refine rgK (fun K' hK => ?_) | (refine aoN (hK _ _ ?_); clear hK K') | refine DStep.panic rfl rfl rfl tI ?_ | refine aoE (apO tabOk rfl rfl rfl (by decide) (Rd.w rfl tI) rfl (Rd.w rfl tI) (.sl rfl (by intro x hx; rcases zAa.1 hx with rfl; rfl)) (LOk.of (tabOk.get rfl)) (LOk.of (tabOk.get rfl)) rfl rfl (by simp only [zA1, zA9]; omega) (by simp only [zA1, zA9]; omega) ?_) | refine cdN rfl tI (fun hc => ?_) (fun hc => ?_) | refine blK ?_ | refine exW ?_ | refine skW ?_)
     · exfalso; simp only [zAh, zAx, zA2, zAo, zAs, dEt, dEf, zAz, zAv, beq_iff_eq, beq_eq_false_iff_ne, bne_iff_ne, bne_eq_false_iff_eq, gt_iff_lt, ge_iff_le, ne_eq] at hc; omega
     · refine ⟨k + 1, ⟨by omega, hak'⟩, by omega, ⟨rfl, ?_, rfl, rfl, rfl, tI⟩, ?_⟩
       · rw [e1]
         show AV.sl 1 (_ ++ [[AV.prim (.int .u8 (IntKind.u8.wrap (r.getD k default)))]]) _ = _
         rw [byteB hin]
       · rw [e1]
         show rdS e (mk9 l 9) r ++ [.arr 1 0 ps9, .own 1 (List.map by8 (untxt (List.take k r)) ++ [[AV.prim (.int .u8 (IntKind.u8.wrap (r.getD k default)))]]).length] = _
         rw [lLa, lLa]; rfl
     all_goals (exfalso; omega)
 · exfalso
   have hkl : r.take k = r := zBd (by omega)
   rw [hkl, hall] at hak; cases hak
set_option maxRecDepth 20000 in
theorem ev1_ret (σ : Store) (hok : σ.all (okObj σ.length) = true) : DCall Tryz.prog 100 [.ptr 0 0, .ptr 1 0] σ .returning (fun u s => u = .returning ∧ s = σ) := by
 refine DCall.body Tryz.func100 rfl rfl Tryz.ntmps100 rfl rfl rfl rfl rfl rfl rfl ?_
 repeat' (first | refine aoQ rfl rfl rfl (fun hg => by first | exact PRun.nilIface (ti := 0) (w' := .nilIface) (by exact ⟨_, rfl⟩) rfl rfl nd rfl | exact std0 | exact std1) (by exact rfl) ?_ | refine sqW ?_ | refine rgK (fun K' hK => ?_) | (refine aoN (hK _ _ ?_); clear hK K') | refine aoE (bxW rfl rfl rfl rfl rfl tI rfl rfl ?_) | refine aoE (stW tabOk rfl rfl rfl tI rfl rfl tI rfl rfl rfl rfl rfl rfl rfl ?_) | refine aoE (alW tabOk rfl rfl rfl rfl rfl rfl ?_) | refine cdN rfl tI (fun hc => ?_) (fun hc => ?_) | refine blK ?_ | refine exW ?_ | refine skW ?_ | refine rtW ?_ | refine dK2 (by decide +kernel) (by kernel_rfl) (by decide +kernel) rfl (fun K' hK => ?_) | refine dL2 (by kernel_rfl) (by decide +kernel) rfl (fun K' hK => ?_) | (refine aqN (hK _ ?_); clear hK K') | refine aqN ?_ | refine aqQ rfl rfl (fun hg => by first | exact PRun.nilIface (ti := 0) (w' := .nilIface) (by exact ⟨_, rfl⟩) rfl rfl nd rfl | exact std0 | exact std1) (by exact rfl) ?_)
 · exact ⟨.inl rfl, _, rfl, zB1, nLr _, hok⟩
 all_goals (exfalso; cases hc)
abbrev brokeJ : FrameMode := .panicking [{ v := .iface 132 (.agg #[]), recovered := true }]
set_option maxHeartbeats 800000 in
set_option maxRecDepth 20000 in
theorem ev1_pan4 (e : Ev) (x : Int) (r : List AV) (X3 : AObj) (hok : List.all [AObj.var (encE noEv), .var [.int 7], .var r, X3] (okObj 4) = true) : DCall Tryz.prog 100 [.ptr 0 0, .ptr 1 0] [.var (encE e), .var [.int x], .var r, X3] (.panicking brkJ) (fun u s => u = brokeJ ∧ s = [.var (encE noEv), .var [.int 7], .var r, X3]) := by
 refine DCall.body Tryz.func100 rfl rfl Tryz.ntmps100 rfl rfl rfl rfl rfl rfl rfl ?_
 repeat' (first | refine aoQ rfl rfl rfl (fun hg => by first | exact PRun.nilIface (ti := 0) (w' := .nilIface) (by exact ⟨_, rfl⟩) rfl rfl nd rfl | exact std0 | exact std1) (by exact rfl) ?_ | refine sqW ?_ | refine rgK (fun K' hK => ?_) | (refine aoN (hK _ _ ?_); clear hK K') | refine aoE (bxW rfl rfl rfl rfl rfl tI rfl rfl ?_) | refine aoE (stW tabOk rfl rfl rfl tI rfl rfl tI rfl rfl rfl rfl rfl rfl rfl ?_) | refine aoE (alW tabOk rfl rfl rfl rfl rfl rfl ?_) | refine cdN rfl tI (fun hc => ?_) (fun hc => ?_) | refine blK ?_ | refine exW ?_ | refine skW ?_ | refine rtW ?_ | refine dK2 (by decide +kernel) (by kernel_rfl) (by decide +kernel) rfl (fun K' hK => ?_) | refine dL2 (by kernel_rfl) (by decide +kernel) rfl (fun K' hK => ?_) | (refine aqN (hK _ ?_); clear hK K') | refine aqN ?_ | refine aqQ rfl rfl (fun hg => by first | exact PRun.nilIface (ti := 0) (w' := .nilIface) (by exact ⟨_, rfl⟩) rfl rfl nd rfl | exact std0 | exact std1) (by exact rfl) ?_)
 · exfalso; cases hc
 · have hz : LOk Tryz.prog 132 ⟨.struct [], 0, 0, []⟩ := LOk.of rfl
   refine aoQ rfl rfl rfl (fun hg => PRun.assertZ (by exact rfl) rfl rfl tI) (by exact rfl) ?_
   repeat' (first | refine aoQ rfl rfl rfl (fun hg => by first | exact std0 | exact pbD tabOk rfl rfl nds | exact std1) (by exact rfl) ?_ | refine sqW ?_ | refine rgK (fun K' hK => ?_) | (refine aoN (hK _ _ ?_); clear hK K') | refine aoE (bxW rfl rfl rfl rfl rfl tI rfl rfl ?_) | refine aoE (stW tabOk rfl rfl rfl tI rfl rfl tI rfl rfl rfl rfl rfl rfl rfl ?_) | refine aoE (alW tabOk rfl rfl rfl rfl rfl rfl ?_) | refine aoE (EStep.alloc rfl rfl rfl (by decide) hz ?_) | refine aoE (EStep.store rfl rfl (Rd.w rfl tI) rfl (Rd.w rfl tI) rfl rfl hz rfl (by decide) rfl ?_) | refine cdN rfl tI (fun hc => ?_) (fun hc => ?_) | refine blK ?_ | refine exW ?_ | refine skW ?_ | refine rtW ?_ | refine dK2 (by decide +kernel) (by kernel_rfl) (by decide +kernel) rfl (fun K' hK => ?_) | refine dL2 (by kernel_rfl) (by decide +kernel) rfl (fun K' hK => ?_) | (refine aqN (hK _ ?_); clear hK K') | refine aqN ?_ | refine aqQ rfl rfl (fun hg => by first | exact std0 | exact pbD tabOk rfl rfl nds | exact std1) (by exact rfl) ?_)
   · exact ⟨.inl rfl, _, rfl, rfl, nLr _, hok⟩
   · exfalso; cases hc
set_option maxHeartbeats 800000 in
set_option maxRecDepth 20000 in
theorem ev1_pan5 (e : Ev) (x : Int) (r : List AV) (X3 X4 : AObj) (hok : List.all [AObj.var (encE noEv), .var [.int 7], .var r, X3, X4] (okObj 5) = true) : DCall Tryz.prog 100 [.ptr 0 0, .ptr 1 0] [.var (encE e), .var [.int x], .var r, X3, X4] (.panicking brkJ) (fun u s => u = brokeJ ∧ s = [.var (encE noEv), .var [.int 7], .var r, X3, X4]) := by
 refine DCall.body Tryz.func100 rfl rfl Tryz.ntmps100 rfl rfl rfl rfl rfl rfl rfl ?_
 repeat' (first | refine aoQ rfl rfl rfl (fun hg => by first | exact PRun.nilIface (ti := 0) (w' := .nilIface) (by exact ⟨_, rfl⟩) rfl rfl nd rfl | exact std0 | exact std1) (by exact rfl) ?_ | refine sqW ?_ | refine rgK (fun K' hK => ?_) | (refine aoN (hK _ _ ?_); clear hK K') | refine aoE (bxW rfl rfl rfl rfl rfl tI rfl rfl ?_) | refine aoE (stW tabOk rfl rfl rfl tI rfl rfl tI rfl rfl rfl rfl rfl rfl rfl ?_) | refine aoE (alW tabOk rfl rfl rfl rfl rfl rfl ?_) | refine cdN rfl tI (fun hc => ?_) (fun hc => ?_) | refine blK ?_ | refine exW ?_ | refine skW ?_ | refine rtW ?_ | refine dK2 (by decide +kernel) (by kernel_rfl) (by decide +kernel) rfl (fun K' hK => ?_) | refine dL2 (by kernel_rfl) (by decide +kernel) rfl (fun K' hK => ?_) | (refine aqN (hK _ ?_); clear hK K') | refine aqN ?_ | refine aqQ rfl rfl (fun hg => by first | exact PRun.nilIface (ti := 0) (w' := .nilIface) (by exact ⟨_, rfl⟩) rfl rfl nd rfl | exact std0 | exact std1) (by exact rfl) ?_)
 · exfalso; cases hc
 · have hz : LOk Tryz.prog 132 ⟨.struct [], 0, 0, []⟩ := LOk.of rfl
   refine aoQ rfl rfl rfl (fun hg => PRun.assertZ (by exact rfl) rfl rfl tI) (by exact rfl) ?_
   repeat' (first | refine aoQ rfl rfl rfl (fun hg => by first | exact std0 | exact pbD tabOk rfl rfl nds | exact std1) (by exact rfl) ?_ | refine sqW ?_ | refine rgK (fun K' hK => ?_) | (refine aoN (hK _ _ ?_); clear hK K') | refine aoE (bxW rfl rfl rfl rfl rfl tI rfl rfl ?_) | refine aoE (stW tabOk rfl rfl rfl tI rfl rfl tI rfl rfl rfl rfl rfl rfl rfl ?_) | refine aoE (alW tabOk rfl rfl rfl rfl rfl rfl ?_) | refine aoE (EStep.alloc rfl rfl rfl (by decide) hz ?_) | refine aoE (EStep.store rfl rfl (Rd.w rfl tI) rfl (Rd.w rfl tI) rfl rfl hz rfl (by decide) rfl ?_) | refine cdN rfl tI (fun hc => ?_) (fun hc => ?_) | refine blK ?_ | refine exW ?_ | refine skW ?_ | refine rtW ?_ | refine dK2 (by decide +kernel) (by kernel_rfl) (by decide +kernel) rfl (fun K' hK => ?_) | refine dL2 (by kernel_rfl) (by decide +kernel) rfl (fun K' hK => ?_) | (refine aqN (hK _ ?_); clear hK K') | refine aqN ?_ | refine aqQ rfl rfl (fun hg => by first | exact std0 | exact pbD tabOk rfl rfl nds | exact std1) (by exact rfl) ?_)
   · exact ⟨.inl rfl, _, rfl, rfl, nLr _, hok⟩
   · exfalso; cases hc
end Go.Proofs.YtbneeinknlddaaaGreat
