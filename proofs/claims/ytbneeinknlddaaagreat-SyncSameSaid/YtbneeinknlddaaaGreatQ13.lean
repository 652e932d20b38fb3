/- DERIVED: THE SHELF's CONTRACTS AT THIS DUMP, IN PLAIN WORDS (tools/lay-plain.mjs out of 'YtbneeinknlddaaaGreatShelfE.lean', which tools/lay-shelf.mjs wrote): THE SAME DECLARATIONS UNDER THE SAME NAMES: 'import', 'namespace', 'open', 'def', 'theorem' AND NOTHING ELSE: no command of the shelf's: FOR A HAND-IN. Each laying: the table of numbers ('.._ren') and one theorem, a field a fact of the dump's own or the kernel's comparison; each contract: ONE APPLICATION. Contracts by content: the sort of events, what is merged.  Contracts by content: the codec of the reference: an integer is read.  Contr No statement is proved here. -/
import Derived.Lib.Zigzag
import Derived.Shelf.SlSortCmp.WholeK
import Derived.Test.YtbneeinknlddaaaGreatChecked
import Derived.Test.YtbneeinknlddaaaGreatQ8
import Derived.Test.YtbneeinknlddaaaGreatQ10
import Derived.Test.YtbneeinknlddaaaGreatQ12
set_option linter.unusedVariables false
set_option linter.unusedSimpArgs false
/-
 DERIVED: THE SHELF's CONTRACTS AT THIS DUMP, IN PLAIN WORDS (tools/lay-plain.mjs out of 'YtbneeinknlddaaaGreatShelfE.lean', which tools/lay-shelf.mjs wrote): THE SAME DECLARATIONS UNDER THE SAME NAMES: 'import', 'namespace', 'open', 'def', 'theorem' AND NOTHING ELSE: no command of the shelf's: FOR A HAND-IN. Each laying: the table of numbers ('.._ren') and one theorem, a field a fact of the dump's own or the kernel's comparison; each contract: ONE APPLICATION.
-/
namespace Go.Proofs
open Go.Shelf
def Tryz.sortEv_ren : Go.Shelf.Ren := ⟨fun | 6 => 61 | 15 => 83 | 14 => 82 | 28 => 111 | 29 => 112 | 20 => 103 | 21 => 104 | 22 => 105 | 23 => 106 | 24 => 107 | 25 => 108 | 26 => 109 | 27 => 110 | 46 => 130 | 47 => 131 | 48 => 132 | 49 => 133 | 50 => 134 | 57 => 142 | n => n, fun | 22 => 24 | 24 => 33 | 25 => 86 | 3 => 3 | 39 => 113 | 0 => 0 | 53 => 147 | 55 => 149 | 4 => 4 | 46 => 140 | 45 => 139 | 50 => 144 | 5 => 5 | 9 => 9 | 66 => 157 | 70 => 137 | 76 => 174 | 77 => 175 | n => n, fun | n => n⟩
theorem Tryz.sortEv : Go.Proofs.SlLaysF0.n6 Tryz.prog Tryz.sortEv_ren := {
 mixed := by kernel_rfl
 f6 := ⟨Tryz.f61.name, by decide, Tryz.func61.trans (congrArg some (by kernel_rfl))⟩
 f14 := ⟨Tryz.f82.name, by decide, Tryz.func82.trans (congrArg some (by kernel_rfl))⟩
 f15 := Tryz.func83.trans (congrArg some (by kernel_rfl))
 f20 := ⟨Tryz.f103.name, by decide, Tryz.func103.trans (congrArg some (by kernel_rfl))⟩
 f21 := ⟨Tryz.f104.name, by decide, Tryz.func104.trans (congrArg some (by kernel_rfl))⟩
 f22 := ⟨Tryz.f105.name, by decide, Tryz.func105.trans (congrArg some (by kernel_rfl))⟩
 f23 := ⟨Tryz.f106.name, by decide, Tryz.func106.trans (congrArg some (by kernel_rfl))⟩
 f24 := ⟨Tryz.f107.name, by decide, Tryz.func107.trans (congrArg some (by kernel_rfl))⟩
 f25 := ⟨Tryz.f108.name, by decide, Tryz.func108.trans (congrArg some (by kernel_rfl))⟩
 f26 := ⟨Tryz.f109.name, by decide, Tryz.func109.trans (congrArg some (by kernel_rfl))⟩
 f27 := ⟨Tryz.f110.name, by decide, Tryz.func110.trans (congrArg some (by kernel_rfl))⟩
 f28 := Tryz.func111.trans (congrArg some (by kernel_rfl))
 f29 := Tryz.func112.trans (congrArg some (by kernel_rfl))
 f46 := ⟨Tryz.f130.name, by decide, Tryz.func130.trans (congrArg some (by kernel_rfl))⟩
 f47 := Tryz.func131.trans (congrArg some (by kernel_rfl))
 f48 := Tryz.func132.trans (congrArg some (by kernel_rfl))
 f49 := ⟨Tryz.f133.name, by decide, Tryz.func133.trans (congrArg some (by kernel_rfl))⟩
 f50 := ⟨Tryz.f134.name, by decide, Tryz.func134.trans (congrArg some (by kernel_rfl))⟩
 f57 := ⟨Tryz.f142.name, by decide, Tryz.func142.trans (congrArg some (by kernel_rfl))⟩
 t0 := Tryz.underlying0
 a0 := Tryz.isAgg0
 z0 := Tryz.sizeOf0
 v0 := Tryz.zeroValue0
 t3 := Tryz.underlying3
 a3 := Tryz.isAgg3
 z3 := Tryz.sizeOf3
 v3 := Tryz.zeroValue3
 t4 := Tryz.underlying4
 a4 := Tryz.isAgg4
 z4 := Tryz.sizeOf4
 v4 := Tryz.zeroValue4
 t5 := Tryz.underlying5
 a5 := Tryz.isAgg5
 z5 := Tryz.sizeOf5
 v5 := Tryz.zeroValue5
 t9 := Tryz.underlying9
 a9 := Tryz.isAgg9
 z9 := Tryz.sizeOf9
 v9 := Tryz.zeroValue9
 t22 := Tryz.underlying24
 a22 := Tryz.isAgg24
 z22 := Tryz.sizeOf24
 v22 := Tryz.zeroValue24
 t25 := Tryz.underlying86
 a25 := Tryz.isAgg86
 z25 := Tryz.sizeOf86
 v25 := Tryz.zeroValue86
 t39 := Tryz.underlying113
 a39 := Tryz.isAgg113
 z39 := Tryz.sizeOf113
 v39 := Tryz.zeroValue113
 t45 := Tryz.underlying139
 a45 := Tryz.isAgg139
 z45 := Tryz.sizeOf139
 v45 := Tryz.zeroValue139
 t46 := Tryz.underlying140
 a46 := Tryz.isAgg140
 z46 := Tryz.sizeOf140
 v46 := Tryz.zeroValue140
 t50 := Tryz.underlying144
 a50 := Tryz.isAgg144
 z50 := Tryz.sizeOf144
 v50 := Tryz.zeroValue144
 t53 := Tryz.underlying147
 a53 := Tryz.isAgg147
 z53 := Tryz.sizeOf147
 v53 := Tryz.zeroValue147
 t55 := Tryz.underlying149
 a55 := Tryz.isAgg149
 z55 := Tryz.sizeOf149
 v55 := Tryz.zeroValue149
 t66 := Tryz.underlying157
 a66 := Tryz.isAgg157
 z66 := Tryz.sizeOf157
 v66 := Tryz.zeroValue157
 t70 := Tryz.underlying137
 a70 := Tryz.isAgg137
 z70 := Tryz.sizeOf137
 v70 := Tryz.zeroValue137
 t76 := Tryz.underlying174
 a76 := Tryz.isAgg174
 z76 := Tryz.sizeOf174
 v76 := Tryz.zeroValue174
 t77 := Tryz.underlying175
 a77 := Tryz.isAgg175
 z77 := Tryz.sizeOf175
 v77 := Tryz.zeroValue175 }
end Go.Proofs
namespace Go.Proofs.YtbneeinknlddaaaGreat
open Go.Ab Go.Jo Go.Sy Go.Sort
attribute [local irreducible] AWP AOps EStep AQ PStep PRun PCall TCall VCall DStep TDies AWD DCall
theorem pureE (l : List Ev) : ∀ e ∈ l.map encE, ∀ a ∈ e, ∀ M B x, VRel M B a x → VRel M [] a x := fun e he a ha M B x hx => by
 obtain ⟨n, _, rfl⟩ := zC1.1 he
 simp only [encE, zB5, zC8, or_false] at ha
 rcases ha with rfl | rfl | rfl | rfl | rfl | rfl | rfl | rfl | rfl | rfl | rfl | rfl | rfl | rfl <;> (rw [VRel.prim_eq hx]; exact .prim _)
theorem pureB (l : Bs) : ∀ e ∈ l.map by8, ∀ a ∈ e, ∀ M B x, VRel M B a x → VRel M [] a x := fun e he a ha M B x hx => by
 obtain ⟨n, _, rfl⟩ := zC1.1 he
 obtain rfl := zAa.1 ha
 rw [VRel.prim_eq hx]; exact .prim _
theorem cloneEv_T (l : List Ev) (hl : l.length ≤ 1000000000) : TCall Tryz.prog 60 [.sl 14 (l.map encE) .no] []
 (fun r s => (l = [] ∧ r = .nils ∧ s = []) ∨ (r = .sla 0 14 0 l.length 0 ∧ s = [.arr 14 0 (l.map encE)])) := by
 have hll : (l.map encE).length = l.length := by simp
 refine TCall.body Tryz.func60 rfl rfl Tryz.ntmps60 rfl rfl ?_
 repeat' (first | refine aoQ rfl rfl rfl (fun hg => by first | exact std0 | exact std1) (by exact rfl) ?_ | refine sqW ?_ | refine rgK (fun K' hK => ?_) | (refine aoN (hK _ _ ?_); clear hK K') | refine aoE (bxW rfl rfl rfl rfl rfl tI rfl rfl ?_) | refine aoE (stW tabOk rfl rfl rfl tI rfl rfl tI rfl rfl rfl rfl rfl rfl rfl ?_) | refine aoE (alW tabOk rfl rfl rfl rfl rfl rfl ?_) | refine aoE (EStep.nilSl tabOk rfl rfl rfl rfl rfl tI rfl ?_) | refine cdN rfl tI (fun hc => ?_) (fun hc => ?_) | refine blK ?_ | refine exW ?_ | refine skW ?_ | refine rtW ?_ | refine dK2 (by decide +kernel) (by kernel_rfl) (by decide +kernel) rfl (fun K' hK => ?_) | refine dL2 (by kernel_rfl) (by decide +kernel) rfl (fun K' hK => ?_) | (refine aqN (hK _ ?_); clear hK K') | refine aqN ?_ | refine aqQ rfl rfl (fun hg => by first | exact std0 | exact std1) (by exact rfl) ?_)
 intro b hb
 repeat' (first | refine aoQ rfl rfl rfl (fun hg => by first | exact PRun.buildSl0 tabOk rfl rfl | exact std0 | exact std1) (by exact rfl) ?_ | refine sqW ?_ | refine rgK (fun K' hK => ?_) | (refine aoN (hK _ _ ?_); clear hK K') | refine aoE (bxW rfl rfl rfl rfl rfl tI rfl rfl ?_) | refine aoE (stW tabOk rfl rfl rfl tI rfl rfl tI rfl rfl rfl rfl rfl rfl rfl ?_) | refine aoE (alW tabOk rfl rfl rfl rfl rfl rfl ?_) | refine aoE (EStep.appendArrF tabOk rfl rfl rfl rfl (Rd.w rfl tI) (Rd.w rfl tI) (.sl rfl (one_ev _)) (LOk.of (tabOk.get rfl)) (LOk.of (tabOk.get rfl)) rfl rfl (by simp only [hll]; omega) (by omega) ?_) | refine cdN rfl tI (fun hc => ?_) (fun hc => ?_) | refine blK ?_ | refine exW ?_ | refine skW ?_ | refine rtW ?_ | refine dK2 (by decide +kernel) (by kernel_rfl) (by decide +kernel) rfl (fun K' hK => ?_) | refine dL2 (by kernel_rfl) (by decide +kernel) rfl (fun K' hK => ?_) | (refine aqN (hK _ ?_); clear hK K') | refine aqN ?_ | refine aqQ rfl rfl (fun hg => by first | exact PRun.buildSl0 tabOk rfl rfl | exact std0 | exact std1) (by exact rfl) ?_)
 · exact ⟨.inr rfl, .nils, [], .inl ⟨by simpa using hb hc, rfl, rfl⟩, rfl, nLr _, rfl, rfl, rfl⟩
 · refine ⟨.inr rfl, .sla 0 14 0 (l.map encE).length 0, [.arr 14 0 (l.map encE)], .inr ⟨by rw [hll], rfl⟩, rfl, by simp, ?_, rfl, rfl⟩
   simp only [zCa, List.all_nil, zA1, zA9, zBs, Bool.and_true]
   simp [okObj, encE, okRef]
theorem bclone_spec (b : Bs) (hb : b.length ≤ 1000000000) : PCall Tryz.prog 32 [.sl 1 (b.map by8) .no] (.sl 1 (b.map by8) .no) := by
 have hll : (b.map by8).length = b.length := by simp
 refine PCall.body Tryz.func32 rfl rfl Tryz.ntmps32 rfl rfl ?_
 repeat' (first | refine aoQ rfl rfl rfl (fun hg => by first | exact std0 | exact std1) (by exact rfl) ?_ | refine sqW ?_ | refine rgK (fun K' hK => ?_) | (refine aoN (hK _ _ ?_); clear hK K') | refine aoE (bxW rfl rfl rfl rfl rfl tI rfl rfl ?_) | refine aoE (stW tabOk rfl rfl rfl tI rfl rfl tI rfl rfl rfl rfl rfl rfl rfl ?_) | refine aoE (alW tabOk rfl rfl rfl rfl rfl rfl ?_) | refine aoE (EStep.nilSl tabOk rfl rfl rfl rfl rfl tI rfl ?_) | refine cdN rfl tI (fun hc => ?_) (fun hc => ?_) | refine blK ?_ | refine exW ?_ | refine skW ?_ | refine rtW ?_ | refine dK2 (by decide +kernel) (by kernel_rfl) (by decide +kernel) rfl (fun K' hK => ?_) | refine dL2 (by kernel_rfl) (by decide +kernel) rfl (fun K' hK => ?_) | (refine aqN (hK _ ?_); clear hK K') | refine aqN ?_ | refine aqQ rfl rfl (fun hg => by first | exact std0 | exact std1) (by exact rfl) ?_)
 intro q hq
 repeat' (first | refine aoQ rfl rfl rfl (fun hg => by first | exact PRun.buildSl0 tabOk rfl rfl | exact std0 | exact std1) (by exact rfl) ?_ | refine sqW ?_ | refine rgK (fun K' hK => ?_) | (refine aoN (hK _ _ ?_); clear hK K') | refine aoE (bxW rfl rfl rfl rfl rfl tI rfl rfl ?_) | refine aoE (stW tabOk rfl rfl rfl tI rfl rfl tI rfl rfl rfl rfl rfl rfl rfl ?_) | refine aoE (alW tabOk rfl rfl rfl rfl rfl rfl ?_) | refine aoE (EStep.appendArrF tabOk rfl rfl rfl rfl (Rd.w rfl tI) (Rd.w rfl tI) (.sl rfl (one_by8 _)) (LOk.of (tabOk.get rfl)) (LOk.of (tabOk.get rfl)) rfl rfl (by simp only [hll]; omega) (by omega) ?_) | refine cdN rfl tI (fun hc => ?_) (fun hc => ?_) | refine blK ?_ | refine exW ?_ | refine skW ?_ | refine dK2 (by decide +kernel) (by kernel_rfl) (by decide +kernel) rfl (fun K' hK => ?_) | refine dL2 (by kernel_rfl) (by decide +kernel) rfl (fun K' hK => ?_) | (refine aqN (hK _ ?_); clear hK K') | refine aqN ?_ | refine aqQ rfl rfl (fun hg => by first | exact PRun.buildSl0 tabOk rfl rfl | exact std0 | exact std1) (by exact rfl) ?_)
 · refine rtW ⟨.inr rfl, ?_⟩
   have : b = [] := by simpa using hq hc
   subst this
   exact Ent.nil
 · refine AWP.freezeA (d := 2) (l := 0) (sz := 1) (ver := 0) (es := b.map by8) rfl rfl (pureB _) ?_
   refine rtW ⟨.inr rfl, ?_⟩
   exact fun _ _ h => h
theorem ltE (x y : Ev) : Go.Proofs.ltOf ordE x y = before x y := by
 have h : Go.Proofs.ltOf ordE x y = true ↔ ordE x y < 0 := decide_eq_true_iff
 rw [zBm, h, ord_neg]
theorem swoE : SWO (Go.Proofs.ltOf ordE) where
 irrefl x := by rw [ltE]; exact before_irr x
 trans x y z h1 h2 := by rw [ltE] at *; exact before_trans h1 h2
 ntrans x y z h1 h2 := by rw [ltE] at *; exact nb_trans h2 h1
def sortE (l : List Ev) : List Ev := sortL ordE l
theorem sortE_len (l : List Ev) : (sortE l).length = l.length := by
 have := (sortL_spec _ swoE l).1.1
 simpa [sortE] using this
theorem sortE_perm (l : List Ev) : (sortE l).Perm l := by
 have h := (sortL_spec _ swoE l).1.2.2
 have hl := sortE_len l
 rw [← hl] at h
 unfold sortE at h hl ⊢
 simp only [zCp, List.extract_toArray, List.extract_eq_take_drop, Nat.sub_zero, zCu] at h
 rw [zBd (nLr _), hl, zBd (nLr _)] at h
 exact h
theorem sortE_wk (l : List Ev) : Wk (sortE l) := by
 have hs := (sortL_spec _ swoE l).2
 have hlen := sortE_len l
 unfold Wk
 rw [List.pairwise_iff_getElem]
 intro i j hi hj hij
 have h1 := hs i j (nZl _) hij (by omega)
 have e : ∀ k (hk : k < (sortE l).length), (sortL ordE l).toArray[k]! = (sortE l)[k] := fun k hk => by
  unfold sortE at hk ⊢
  simp [hk]
 rw [e i hi, e j hj, ltE] at h1
 exact h1
def encVE (e : Ev) : List Value := [.int .i64 e.clock, .int .i64 e.stand, .int .i64 e.kind, .int .i64 e.n, .int .i64 e.mark.id, .int .i64 e.mark.kind, .int .i64 e.mark.layer, .int .i64 e.mark.who.part, .int .i64 e.mark.who.desk, .int .i64 e.mark.who.seat, .int .i64 e.mark.version, .int .i64 e.mark.note, .int .i64 e.mark.value, .string ⟨e.mark.text.toArray⟩]
theorem fnOk_add2 : FnOk Tryz.prog 62 := ⟨_, Tryz.func62, rfl, rfl⟩
theorem fnOk_sortE : FnOk Tryz.prog 61 := ⟨_, Tryz.func61, rfl, rfl⟩
theorem add2_spec (a b : Ev) : PCall Tryz.prog 62 [.agg (encE a), .agg (encE b)] (.int (ordE a b)) := by
 refine PCall.body Tryz.func62 rfl rfl Tryz.ntmps62 rfl rfl ?_
 repeat' (first | refine aoQ rfl rfl rfl (fun hg => by first | exact std0 | exact pcW (order_spec _ _) rfl rfl nd rfl nds | exact std1) (by exact rfl) ?_ | refine sqW ?_ | refine rgK (fun K' hK => ?_) | (refine aoN (hK _ _ ?_); clear hK K') | refine aoE (bxW rfl rfl rfl rfl rfl tI rfl rfl ?_) | refine aoE (stW tabOk rfl rfl rfl tI rfl rfl tI rfl rfl rfl rfl rfl rfl rfl ?_) | refine aoE (alW tabOk rfl rfl rfl rfl rfl rfl ?_) | refine cdN rfl tI (fun hc => ?_) (fun hc => ?_) | refine blK ?_ | refine exW ?_ | refine skW ?_ | refine rtW ?_ | refine dK2 (by decide +kernel) (by kernel_rfl) (by decide +kernel) rfl (fun K' hK => ?_) | refine dL2 (by kernel_rfl) (by decide +kernel) rfl (fun K' hK => ?_) | (refine aqN (hK _ ?_); clear hK K') | refine aqN ?_ | refine aqQ rfl rfl (fun hg => by first | exact std0 | exact pcW (order_spec _ _) rfl rfl nd rfl nds | exact std1) (by exact rfl) ?_)
 exact ⟨.inr rfl, Ent.int rfl⟩
theorem sortET (l : List Ev) (hl : l.length ≤ 1000000000) :
 TCall Tryz.prog 61 [.sla 0 14 0 l.length 0, .fn (.func 62) [] []] [.arr 14 0 (l.map encE)]
  (fun r s => r = .tup [] ∧ s = [.arr 14 0 ((sortE l).map encE)]) :=
 TCall.sortA (P := Tryz.prog) (ρ := Tryz.sortEv_ren) Tryz.sortEv (sz := 14) Tryz.isAgg33 Tryz.sizeOf33 encVE (fun _ => rfl) (fun x v hv => by
  simp only [encVE, zB5, zC8, or_false] at hv
  rcases hv with rfl | rfl | rfl | rfl | rfl | rfl | rfl | rfl | rfl | rfl | rfl | rfl | rfl | rfl <;> rfl)
  ordE swoE (g := 62) (caps := []) (σ := [.arr 14 0 (l.map encE)]) fnOk_sortE fnOk_add2
  (fun x y => add2_spec x y) (l := 0) (ver := 0) (xs := l) rfl (by omega)
theorem sort0_spec (u : AV) : PCall Tryz.prog 61 [.nils, u] (.tup []) := PCall.sort0 (P := Tryz.prog) (ρ := Tryz.sortEv_ren) Tryz.sortEv fnOk_sortE u
end Go.Proofs.YtbneeinknlddaaaGreat
namespace Go.Ab
theorem PRun.bitsV {P : Program} {o : Oper} {env : Env} {σ : Store} {op : BinOp} {t t' : TypeId} {x y : Operand} {k : IntKind} {a b r : Int} (h : bits op k a b = r) (ho : o.op = .binOp op t x y t') (hx : rdv env x = some (.prim (.int k a))) (nx : rdn env x) (hy : rdv env y = some (.prim (.int k b))) (ny : rdn env y) (hop : isBits op = true) :
 PRun P o env σ (.prim (.int k r)) := h ▸ PRun.bitsW ho hx nx hy ny hop
theorem PRun.convV {P : Program} {T : Tab} (hT : T.Ok P) {o : Oper} {env : Env} {σ : Store} {s d : TypeId} {x : Operand} {k k' : IntKind} {a r : Int} {lis : LI} {sz by' : Nat} {z : List Z} (h : k'.wrap a = r) (ho : o.op = .convert s d x) (hx : rdv env x = some (.prim (.int k a))) (nx : rdn env x) (hs' : T.get s = some lis) (hl : T.get d = some ⟨.int k', sz, by', z⟩) :
 PRun P o env σ (.prim (.int k' r)) := h ▸ PRun.convW hT ho hx nx hs' hl
end Go.Ab
namespace Go.Proofs.YtbneeinknlddaaaGreat
open Go.Ab Go.Jo
attribute [local irreducible] AWP AOps EStep AQ PStep PRun PCall TCall VCall DStep TDies AWD DCall
theorem or_step {u k c : Nat} {x s : Int} (hk : k ≤ 9) (hu : u < 128 ^ k) (hx : x = ((c % 128 : Nat) : Int)) (hs : s = 7 * (k : Int)) (hc : c % 128 * 128 ^ k < 18446744073709551616) :
 bits .or .u64 (u : Int) (IntKind.u64.wrap (x * 2 ^ (Min.min s.toNat 64))) = ((u + c % 128 * 128 ^ k : Nat) : Int) := by
 subst hx; subst hs
 have e1 : (7 * (k : Int)).toNat = 7 * k := by omega
 have e2 : Min.min (7 * k) 64 = 7 * k := Nat.min_eq_left (by omega)
 have e3 : (2 : Nat) ^ (7 * k) = 128 ^ k := by rw [Nat.pow_mul]
 have e4 : ((c % 128 : Nat) : Int) * 2 ^ (7 * k) = ((c % 128 * 128 ^ k : Nat) : Int) := by
  rw [Int.natCast_mul, ← e3, Int.natCast_pow]; rfl
 have hu64 : u < 18446744073709551616 := by
  have : 128 ^ k ≤ 128 ^ 9 := zCs (by decide) hk
  have h2 : (128 : Nat) ^ 9 < 18446744073709551616 := by decide
  omega
 rw [e1, e2, e4, IntKind.wrap_u64]
 have e5 : ((c % 128 * 128 ^ k : Nat) : Int) % 18446744073709551616 = ((c % 128 * 128 ^ k : Nat) : Int) := by omega
 rw [e5, bits_or_u64_nat u _ hu64 hc]
 have h := Nat.shiftLeft_add_eq_or_of_lt (i := 7 * k) (b := u) (by rw [e3]; exact hu) (c % 128)
 rw [Nat.shiftLeft_eq, e3] at h
 rw [Nat.or_comm, ← h, zCe]
theorem rdL_step {c : UInt8} {r : Bs} {k u : Nat} (hk : k ≤ 9) (h9 : ¬ (k = 9 ∧ 1 < c.toNat)) (h : 127 < c.toNat) : rdL (c :: r) k u = rdL r (k + 1) (u + c.toNat % 128 * 128 ^ k) := by
 rw [rdL, if_neg (by omega), if_pos h]
theorem rdL_stop {c : UInt8} {r : Bs} {k u : Nat} (hk : k ≤ 9) (h9 : ¬ (k = 9 ∧ 1 < c.toNat)) (h : ¬ 127 < c.toNat) (h0 : ¬ (c.toNat = 0 ∧ 0 < k)) : rdL (c :: r) k u = some (u + c.toNat % 128 * 128 ^ k, r) := by
 rw [rdL, if_neg (by omega), if_neg h, if_neg h0]
theorem rdL_bad {c : UInt8} {r : Bs} {k u : Nat} (h : (k = 9 ∧ 1 < c.toNat) ∨ 9 < k ∨ (¬ 127 < c.toNat ∧ c.toNat = 0 ∧ 0 < k)) : rdL (c :: r) k u = none := by
 rw [rdL]
 rcases h with h | h | ⟨h1, h2, h3⟩
 · rw [if_pos (.inl h)]
 · rw [if_pos (.inr h)]
 · split
   · rfl
   · first | rw [if_neg h1, if_pos ⟨h2, h3⟩] | rw [if_pos ⟨h2, h3⟩]
theorem acc_lt {u k c : Nat} (hu : u < 128 ^ k) : u + c % 128 * 128 ^ k < 128 ^ (k + 1) := by
 have h1 : c % 128 * 128 ^ k ≤ 127 * 128 ^ k := zB6 _ (by omega)
 rw [Nat.pow_succ]; omega
theorem acc64 {k c : Nat} (hk : k ≤ 9) (h9 : k = 9 → c ≤ 1) : c % 128 * 128 ^ k < 18446744073709551616 := by
 by_cases h : k = 9
 · subst h
   have := h9 rfl
   have : c % 128 ≤ 1 := by omega
   have h3 := zB6 (128 ^ 9) this
   have h2 : (128 : Nat) ^ 9 = 9223372036854775808 := by decide
   rw [h2] at h3 ⊢
   omega
 · have h1 : c % 128 * 128 ^ k ≤ 127 * 128 ^ 8 := Nat.mul_le_mul (by omega) (zCs (by decide) (by omega))
   have h2 : 127 * (128 : Nat) ^ 8 < 18446744073709551616 := by decide
   omega
theorem acc64' {u k c : Nat} (hk : k ≤ 9) (hu : u < 128 ^ k) (h9 : k = 9 → c ≤ 1) : u + c % 128 * 128 ^ k < 18446744073709551616 := by
 by_cases h : k = 9
 · subst h
   have := h9 rfl
   have : c % 128 ≤ 1 := by omega
   have h3 := zB6 (128 ^ 9) this
   have h2 : 1 * (128 : Nat) ^ 9 = 9223372036854775808 := by decide
   have h4 : (128 : Nat) ^ 9 = 9223372036854775808 := by decide
   omega
 · have h1 := acc_lt (c := c) hu
   have h2 : 128 ^ (k + 1) ≤ 128 ^ 9 := zCs (by decide) (by omega)
   have h3 : (128 : Nat) ^ 9 < 18446744073709551616 := by decide
   omega
theorem drop_c {b : Bs} {k : Nat} (h : k < b.length) : b.drop k = b.getD k default :: b.drop (k + 1) := by
 rw [zBg h, getD_lt h]
def getS (out : List Int) (e : Int) (b : Bs) : Store := [.var [.sl 1 (out.map encN) (.own 3)], .var [.int e], .var [.sl 1 (b.map by8) .no], .own 1 (out.map encN).length]
abbrev brk : List PanicEntry := [{ v := .iface 178 (.agg #[]), recovered := false }]
theorem and127k : ∀ c : Fin 256, bits .and .u8 ((c.val : Nat) : Int) 127 = ((c.val % 128 : Nat) : Int) := by decide +kernel
theorem and127 (c : UInt8) : IntKind.u64.wrap (bits .and .u8 (c.toNat : Int) 127) = ((c.toNat % 128 : Nat) : Int) := by
 have h := and127k ⟨c.toNat, c.toNat_lt⟩
 have e : bits .and .u8 (c.toNat : Int) 127 = ((c.toNat % 128 : Nat) : Int) := h
 rw [e, IntKind.wrap_u64]; omega
theorem bits_comm (k : IntKind) (a b : Int) : bits .xor k a b = bits .xor k b a := by
 unfold bits
 simp only [BitVec.xor_comm]
theorem half1 {u : Nat} (hu : u < 18446744073709551616) : IntKind.i64.wrap ((u : Int).fdiv (2 ^ (Min.min (1 : Int).toNat IntKind.u64.bits))) = ((u / 2 : Nat) : Int) := by
 have e1 : (2 : Int) ^ (Min.min (1 : Int).toNat IntKind.u64.bits) = 2 := by decide
 rw [e1, zBu _ (by decide), IntKind.wrap_i64]
 omega
theorem low1 {u : Nat} (hu : u < 18446744073709551616) : IntKind.i64.wrap (bits .and .u64 (u : Int) 1) = ((u % 2 : Nat) : Int) := by
 rw [Lib.u64_and1 _ (by omega) (by omega), IntKind.wrap_i64]
 omega
theorem unzig_bits {u : Nat} (hu : u < 18446744073709551616) : bits .xor .i64 (IntKind.i64.wrap ((u : Int).fdiv (2 ^ (Min.min (1 : Int).toNat IntKind.u64.bits)))) (-IntKind.i64.wrap (bits .and .u64 (u : Int) 1)) = unzig u := by
 rw [half1 hu, low1 hu]
 have hh : u / 2 < 9223372036854775808 := by omega
 unfold unzig
 rcases Nat.mod_two_eq_zero_or_one u with h | h
 · rw [h, if_pos rfl]
   show IntKind.i64.wrap ((BitVec.ofInt 64 ((u / 2 : Nat) : Int) ^^^ BitVec.ofInt 64 (-((0 : Nat) : Int))).toNat : Int) = _
   have h2 : (BitVec.ofInt 64 ((u / 2 : Nat) : Int)).toNat = u / 2 := by
    rw [BitVec.ofInt_natCast, BitVec.toNat_ofNat]; exact zCw (by omega)
   have h3 : (BitVec.ofInt 64 (-((0 : Nat) : Int))).toNat = 0 := by decide
   rw [BitVec.toNat_xor, h2, h3, Nat.xor_zero, IntKind.wrap_i64]
   omega
 · rw [h, if_neg (by decide), bits_comm]
   exact Lib.i64_not (u / 2) hh
set_option maxHeartbeats 1600000 in
set_option maxRecDepth 20000 in
theorem next_T (out : List Int) (e : Int) (b rest : Bs) (n : Int) (hb : b.length ≤ 9223372036854775807) (hrd : Jo.rd b = some (n, rest)) :
 TCall Tryz.prog 141 [.ptr 2 0] (getS out e b) (fun r s => r = .int n ∧ s = getS out e rest) := by
 refine TCall.body Tryz.func141 rfl rfl Tryz.ntmps141 rfl rfl ?_
 repeat' (first | refine aoQ rfl rfl rfl (fun hg => by first | exact std0 | exact std1) (by exact rfl) ?_ | refine sqW ?_ | refine rgK (fun K' hK => ?_) | (refine aoN (hK _ _ ?_); clear hK K') | refine aoE (bxW rfl rfl rfl rfl rfl tI rfl rfl ?_) | refine aoE (stW tabOk rfl rfl rfl tI rfl rfl tI rfl rfl rfl rfl rfl rfl rfl ?_) | refine aoE (alW tabOk rfl rfl rfl rfl rfl rfl ?_) | refine cdN rfl tI (fun hc => ?_) (fun hc => ?_) | refine blK ?_ | refine exW ?_ | refine skW ?_ | refine rtW ?_ | refine dK2 (by decide +kernel) (by kernel_rfl) (by decide +kernel) rfl (fun K' hK => ?_) | refine dL2 (by kernel_rfl) (by decide +kernel) rfl (fun K' hK => ?_) | (refine aqN (hK _ ?_); clear hK K') | refine aqN ?_ | refine aqQ rfl rfl (fun hg => by first | exact std0 | exact std1) (by exact rfl) ?_)
 refine lpW (ι := Nat × Nat) (fun i => [(0, .ptr 2 0), (9, .sl 1 (b.map by8) .no), (10, .int b.length), (11, .int i.1), (3, .prim (.int .u64 (i.2 : Nat)))]) (fun _ => getS out e b) (fun i => i.1 ≤ b.length ∧ i.1 ≤ 10 ∧ (i.1 ≤ 9 → i.2 < 128 ^ i.1) ∧ rdL b 0 0 = rdL (b.drop i.1) i.1 i.2) (fun i => 10 - i.1) (0, 0) ⟨nZl _, by decide, fun _ => by decide, rfl⟩ ⟨rfl, rfl, rfl, rfl, rfl, tI⟩ rfl ?_
 rintro ⟨k, u⟩ ⟨g1, g2, g3, g4⟩
 dsimp only at g1 g2 g3 g4 ⊢
 have hne : rdL b 0 0 ≠ none := by
  intro h; unfold Jo.rd at hrd; rw [h] at hrd; simp at hrd
 have hlt : k < b.length := by
  rcases nLg k b.length with h | h
  · exact h
  · exfalso; apply hne; rw [g4, List.drop_eq_nil_of_le h]; rfl
 have hd := drop_c hlt
 rw [hd] at g4
 have hk9 : k ≤ 9 := by
  rcases nLg 9 k with h | h
  · exact absurd (g4.trans (rdL_bad (.inr (.inl h)))) hne
  · exact h
 have h9 : ¬ (k = 9 ∧ 1 < (b.getD k default).toNat) := fun h => absurd (g4.trans (rdL_bad (.inl h))) hne
 have h0 : ¬ (¬ 127 < (b.getD k default).toNat ∧ (b.getD k default).toNat = 0 ∧ 0 < k) := fun h => absurd (g4.trans (rdL_bad (.inr (.inr h)))) hne
 have hu := g3 hk9
 have hor := or_step (c := (b.getD k default).toNat) hk9 hu (and127 _) (rfl : 7 * (k : Int) = 7 * (k : Int)) (acc64 hk9 (by omega))
 obtain ⟨U, hU⟩ : ∃ U, U = u + (b.getD k default).toNat % 128 * 128 ^ k := ⟨_, rfl⟩
 have hU1 : U < 128 ^ (k + 1) := by rw [hU]; exact acc_lt hu
 have hU2 : U < 18446744073709551616 := by rw [hU]; exact acc64' hk9 hu (by omega)
 rw [← hU] at hor
 have q1 := fun h => rdL_step (r := b.drop (k + 1)) hk9 h9 (u := u) h
 have q2 := fun h h' => rdL_stop (r := b.drop (k + 1)) hk9 h9 (u := u) h h'
 rw [← hU] at q1 q2
 have hl1 := low1 hU2
 clear hU hu g3
 have fin : ¬ 127 < (b.getD k default).toNat → n = unzig U ∧ rest = b.drop (k + 1) := fun h => by
  have h2 := g4.trans (q2 h (fun h' => h0 ⟨h, h'⟩))
  unfold Jo.rd at hrd; rw [h2] at hrd
  simp at hrd; exact ⟨hrd.1.symm, hrd.2.symm⟩
 have step : 127 < (b.getD k default).toNat → rdL b 0 0 = rdL (b.drop (k + 1)) (k + 1) U := fun h => g4.trans (q1 h)
 clear q1 q2 g4 hrd hne
 repeat' (first | refine AWP.regionPan rfl rfl (fun K' hK => ?_) | refine aoQ rfl rfl rfl (fun hg => by first | exact std0 | exact PRun.bitsV hor rfl rfl nd rfl nd rfl | exact PRun.bitsW rfl rfl nd rfl nd rfl | exact PRun.shlW rfl rfl nd rfl nd (by omega) | exact PRun.shrW rfl rfl nd rfl nd (by omega) | exact PRun.sliceLoM tabOk rfl rfl nd rfl nd rfl (by omega) | exact PRun.sliceHiM tabOk rfl rfl nd rfl nd rfl (by omega) | exact PRun.sliceM tabOk rfl rfl nd rfl nd rfl nd rfl (by omega) | exact PRun.buildZ (by exact ⟨rfl, rfl⟩) rfl | exact PRun.ifaceW (by kernel_rfl) rfl rfl nd rfl | exact std1) (by exact rfl) ?_ | refine sqW ?_ | refine rgK (fun K' hK => ?_) | (refine aoN (hK _ _ ?_); clear hK K') | refine aoE (bxW rfl rfl rfl rfl rfl tI rfl rfl ?_) | refine aoE (stW tabOk rfl rfl rfl tI rfl rfl tI rfl rfl rfl rfl rfl rfl rfl ?_) | refine aoE (alW tabOk rfl rfl rfl rfl rfl rfl ?_) | refine DStep.panic rfl rfl rfl tI ?_ | refine cdN rfl tI (fun hc => ?_) (fun hc => ?_) | refine blK ?_ | refine exW ?_ | refine skW ?_ | refine rtW ?_ | refine dK2 (by decide +kernel) (by kernel_rfl) (by decide +kernel) rfl (fun K' hK => ?_) | refine dL2 (by kernel_rfl) (by decide +kernel) rfl (fun K' hK => ?_) | (refine aqN (hK _ ?_); clear hK K') | refine aqN ?_ | refine aqQ rfl rfl (fun hg => by first | exact std0 | exact PRun.bitsV hor rfl rfl nd rfl nd rfl | exact PRun.bitsW rfl rfl nd rfl nd rfl | exact PRun.shlW rfl rfl nd rfl nd (by omega) | exact PRun.shrW rfl rfl nd rfl nd (by omega) | exact PRun.sliceLoM tabOk rfl rfl nd rfl nd rfl (by omega) | exact PRun.sliceHiM tabOk rfl rfl nd rfl nd rfl (by omega) | exact PRun.sliceM tabOk rfl rfl nd rfl nd rfl nd rfl (by omega) | exact PRun.buildZ (by exact ⟨rfl, rfl⟩) rfl | exact PRun.ifaceW (by kernel_rfl) rfl rfl nd rfl | exact std1) (by exact rfl) ?_)
 · exfalso
   simp only [zAh, zAx, zA2, zAo, zAs, dEt, dEf, zAz, zAv, beq_iff_eq, beq_eq_false_iff_ne, bne_iff_ne, bne_eq_false_iff_eq, gt_iff_lt, ge_iff_le, ne_eq] at hc
   omega
 · have hc' : 127 < (b.getD k default).toNat := by
    rw [zAh] at hc; omega
   exact ⟨(k + 1, U), ⟨by dsimp only; omega, by dsimp only; omega, fun _ => hU1, step hc'⟩, by dsimp only; omega, ⟨rfl, rfl, rfl, rfl, rfl, tI⟩, rfl⟩
 · exfalso
   simp only [zAh, zAx, zA2, zAo, zAs, dEt, dEf, zAz, zAv, beq_iff_eq, beq_eq_false_iff_ne, bne_iff_ne, bne_eq_false_iff_eq, gt_iff_lt, ge_iff_le, ne_eq] at hc
   rename_i hx
   rw [zAh] at hx
   omega
 · rename_i hx
   obtain ⟨f1, f2⟩ := fin (by rw [zAh] at hx; omega)
   subst f1; subst f2
   rw [← unzig_bits hU2]
   exact ⟨.inr rfl, _, _, ⟨rfl, rfl⟩, rfl, nLr _, rfl, rfl, rfl⟩
 · omega
set_option maxHeartbeats 1600000 in
set_option maxRecDepth 20000 in
theorem next_D (out : List Int) (e : Int) (b : Bs) (hb : b.length ≤ 9223372036854775807) (hrd : Jo.rd b = none) :
 TDies Tryz.prog 141 [.ptr 2 0] (getS out e b) brk (fun s => s = getS out e b) := by
 refine TDies.body Tryz.func141 rfl rfl Tryz.ntmps141 rfl ?_
 repeat' (first | refine aoQ rfl rfl rfl (fun hg => by first | exact std0 | exact std1) (by exact rfl) ?_ | refine sqW ?_ | refine rgK (fun K' hK => ?_) | (refine aoN (hK _ _ ?_); clear hK K') | refine aoE (bxW rfl rfl rfl rfl rfl tI rfl rfl ?_) | refine aoE (stW tabOk rfl rfl rfl tI rfl rfl tI rfl rfl rfl rfl rfl rfl rfl ?_) | refine aoE (alW tabOk rfl rfl rfl rfl rfl rfl ?_) | refine cdN rfl tI (fun hc => ?_) (fun hc => ?_) | refine blK ?_ | refine exW ?_ | refine skW ?_ | refine rtW ?_ | refine dK2 (by decide +kernel) (by kernel_rfl) (by decide +kernel) rfl (fun K' hK => ?_) | refine dL2 (by kernel_rfl) (by decide +kernel) rfl (fun K' hK => ?_) | (refine aqN (hK _ ?_); clear hK K') | refine aqN ?_ | refine aqQ rfl rfl (fun hg => by first | exact std0 | exact std1) (by exact rfl) ?_)
 refine lpW (ι := Nat × Nat) (fun i => [(0, .ptr 2 0), (9, .sl 1 (b.map by8) .no), (10, .int b.length), (11, .int i.1), (3, .prim (.int .u64 (i.2 : Nat)))]) (fun _ => getS out e b) (fun i => i.1 ≤ b.length ∧ i.1 ≤ 9 ∧ i.2 < 128 ^ i.1 ∧ rdL b 0 0 = rdL (b.drop i.1) i.1 i.2) (fun i => 10 - i.1) (0, 0) ⟨nZl _, by decide, by decide, rfl⟩ ⟨rfl, rfl, rfl, rfl, rfl, tI⟩ rfl ?_
 rintro ⟨k, u⟩ ⟨g1, hk9, hu, g4⟩
 dsimp only at g1 hk9 hu g4 ⊢
 have hno : rdL b 0 0 = none := by
  unfold Jo.rd at hrd
  cases h : rdL b 0 0 with
  | none => rfl
  | some x => rw [h] at hrd; simp at hrd
 by_cases hbad : k = 9 ∧ 1 < (b.getD k default).toNat
 · clear g4 hno hrd hu
   repeat' (first | refine AWP.regionPan rfl rfl (fun K' hK => ?_) | refine aoQ rfl rfl rfl (fun hg => by first | exact std0 | exact PRun.sliceLoM tabOk rfl rfl nd rfl nd rfl (by omega) | exact PRun.sliceHiM tabOk rfl rfl nd rfl nd rfl (by omega) | exact PRun.sliceM tabOk rfl rfl nd rfl nd rfl nd rfl (by omega) | exact PRun.buildZ (by exact ⟨rfl, rfl⟩) rfl | exact PRun.ifaceW (by kernel_rfl) rfl rfl nd rfl | exact std1) (by exact rfl) ?_ | refine sqW ?_ | refine rgK (fun K' hK => ?_) | (refine aoN (hK _ _ ?_); clear hK K') | refine aoE (bxW rfl rfl rfl rfl rfl tI rfl rfl ?_) | refine aoE (stW tabOk rfl rfl rfl tI rfl rfl tI rfl rfl rfl rfl rfl rfl rfl ?_) | refine aoE (alW tabOk rfl rfl rfl rfl rfl rfl ?_) | refine DStep.panic rfl rfl rfl tI ?_ | refine cdN rfl tI (fun hc => ?_) (fun hc => ?_) | refine blK ?_ | refine exW ?_ | refine skW ?_ | refine rtW ?_ | refine dK2 (by decide +kernel) (by kernel_rfl) (by decide +kernel) rfl (fun K' hK => ?_) | refine dL2 (by kernel_rfl) (by decide +kernel) rfl (fun K' hK => ?_) | (refine aqN (hK _ ?_); clear hK K') | refine aqN ?_ | refine aqQ rfl rfl (fun hg => by first | exact std0 | exact PRun.sliceLoM tabOk rfl rfl nd rfl nd rfl (by omega) | exact PRun.sliceHiM tabOk rfl rfl nd rfl nd rfl (by omega) | exact PRun.sliceM tabOk rfl rfl nd rfl nd rfl nd rfl (by omega) | exact PRun.buildZ (by exact ⟨rfl, rfl⟩) rfl | exact PRun.ifaceW (by kernel_rfl) rfl rfl nd rfl | exact std1) (by exact rfl) ?_)
   · exact ⟨rfl, _, rfl, rfl, nLr _, rfl⟩
   · exfalso
     simp only [zAh, zAx, zA2, zAo, zAs, dEt, dEf, zAz, zAv, beq_iff_eq, beq_eq_false_iff_ne, bne_iff_ne, bne_eq_false_iff_eq, gt_iff_lt, ge_iff_le, ne_eq] at hc
     omega
   · exact ⟨rfl, _, rfl, rfl, nLr _, rfl⟩
 have hor := or_step (c := (b.getD k default).toNat) hk9 hu (and127 _) (rfl : 7 * (k : Int) = 7 * (k : Int)) (acc64 hk9 (by omega))
 obtain ⟨U, hU⟩ : ∃ U, U = u + (b.getD k default).toNat % 128 * 128 ^ k := ⟨_, rfl⟩
 have hU1 : U < 128 ^ (k + 1) := by rw [hU]; exact acc_lt hu
 rw [← hU] at hor
 have step : k < b.length → ¬ (k = 9 ∧ 1 < (b.getD k default).toNat) → 127 < (b.getD k default).toNat → rdL b 0 0 = rdL (b.drop (k + 1)) (k + 1) U := fun hlt h9 h => by
  rw [drop_c hlt] at g4
  rw [hU]; exact g4.trans (rdL_step hk9 h9 h)
 have fin : k < b.length → ¬ (k = 9 ∧ 1 < (b.getD k default).toNat) → ¬ 127 < (b.getD k default).toNat → ¬ ((b.getD k default).toNat = 0 ∧ 0 < k) → False := fun hlt h9 h h' => by
  rw [drop_c hlt] at g4
  have h2 := g4.trans (rdL_stop hk9 h9 h h')
  rw [hno] at h2; exact absurd h2 (by simp)
 have hU2 : U < 18446744073709551616 := by rw [hU]; exact acc64' hk9 hu (by omega)
 have hl1 := low1 hU2
 clear hU hu g4 hno hrd
 repeat' (first | refine AWP.regionPan rfl rfl (fun K' hK => ?_) | refine aoQ rfl rfl rfl (fun hg => by first | exact std0 | exact PRun.bitsV hor rfl rfl nd rfl nd rfl | exact PRun.bitsW rfl rfl nd rfl nd rfl | exact PRun.shlW rfl rfl nd rfl nd (by omega) | exact PRun.shrW rfl rfl nd rfl nd (by omega) | exact PRun.sliceLoM tabOk rfl rfl nd rfl nd rfl (by omega) | exact PRun.sliceHiM tabOk rfl rfl nd rfl nd rfl (by omega) | exact PRun.sliceM tabOk rfl rfl nd rfl nd rfl nd rfl (by omega) | exact PRun.buildZ (by exact ⟨rfl, rfl⟩) rfl | exact PRun.ifaceW (by kernel_rfl) rfl rfl nd rfl | exact std1) (by exact rfl) ?_ | refine sqW ?_ | refine rgK (fun K' hK => ?_) | (refine aoN (hK _ _ ?_); clear hK K') | refine aoE (bxW rfl rfl rfl rfl rfl tI rfl rfl ?_) | refine aoE (stW tabOk rfl rfl rfl tI rfl rfl tI rfl rfl rfl rfl rfl rfl rfl ?_) | refine aoE (alW tabOk rfl rfl rfl rfl rfl rfl ?_) | refine DStep.panic rfl rfl rfl tI ?_ | refine cdN rfl tI (fun hc => ?_) (fun hc => ?_) | refine blK ?_ | refine exW ?_ | refine skW ?_ | refine rtW ?_ | refine dK2 (by decide +kernel) (by kernel_rfl) (by decide +kernel) rfl (fun K' hK => ?_) | refine dL2 (by kernel_rfl) (by decide +kernel) rfl (fun K' hK => ?_) | (refine aqN (hK _ ?_); clear hK K') | refine aqN ?_ | refine aqQ rfl rfl (fun hg => by first | exact std0 | exact PRun.bitsV hor rfl rfl nd rfl nd rfl | exact PRun.bitsW rfl rfl nd rfl nd rfl | exact PRun.shlW rfl rfl nd rfl nd (by omega) | exact PRun.shrW rfl rfl nd rfl nd (by omega) | exact PRun.sliceLoM tabOk rfl rfl nd rfl nd rfl (by omega) | exact PRun.sliceHiM tabOk rfl rfl nd rfl nd rfl (by omega) | exact PRun.sliceM tabOk rfl rfl nd rfl nd rfl nd rfl (by omega) | exact PRun.buildZ (by exact ⟨rfl, rfl⟩) rfl | exact PRun.ifaceW (by kernel_rfl) rfl rfl nd rfl | exact std1) (by exact rfl) ?_)
 · exact ⟨rfl, _, rfl, rfl, nLr _, rfl⟩
 · have hc' : 127 < (b.getD k default).toNat := by
    rw [zAh] at hc; omega
   rename_i h1 h2
   simp only [zAh, zAx, zA2, zAo, zAs, dEt, dEf, zAz, zAv, beq_iff_eq, beq_eq_false_iff_ne, bne_iff_ne, bne_eq_false_iff_eq, gt_iff_lt, ge_iff_le, ne_eq] at h2
   exact ⟨(k + 1, U), ⟨by dsimp only; omega, by dsimp only; omega, hU1, step (by omega) (by omega) hc'⟩, by dsimp only; omega, ⟨rfl, rfl, rfl, rfl, rfl, tI⟩, rfl⟩
 · exact ⟨rfl, _, rfl, rfl, nLr _, rfl⟩
 · exfalso
   rename_i h1 h2 h3
   simp only [zAh, zAx, zA2, zAo, zAs, dEt, dEf, zAz, zAv, beq_iff_eq, beq_eq_false_iff_ne, bne_iff_ne, bne_eq_false_iff_eq, gt_iff_lt, ge_iff_le, ne_eq] at h2 hc
   rw [zAh] at h3
   exact fin (by omega) (by omega) (by omega) (by omega)
 · exact ⟨rfl, _, rfl, rfl, nLr _, rfl⟩
def getR (b : Bs) : List Int × Int := match getL b with
 | some l => (l, 0)
 | none => ([], 7)
theorem getR_none {b : Bs} (h : getL b = none) : getR b = ([], 7) := by unfold getR; rw [h]
theorem getR_some {b : Bs} {l : List Int} (h : getL b = some l) : getR b = (l, 0) := by unfold getR; rw [h]
theorem getL_none {b : Bs} (h : Jo.rd b = none) : getL b = none := by unfold getL; rw [h]
theorem getL_range {b r : Bs} {n : Int} (h : Jo.rd b = some (n, r)) (hn : n < 0 ∨ 4000 < n) : getL b = none := by
 unfold getL; rw [h]
 simp only
 rw [if_pos (by rcases hn with h | h; exact .inl h; exact .inr h)]
theorem getL_in {b r : Bs} {m : Nat} (h : Jo.rd b = some ((m : Int), r)) (hm : m ≤ 4000) : getL b = match rdN m r with | some (l, []) => some l | _ => none := by
 unfold getL; rw [h]
 simp only
 rw [if_neg (by have : maxInts = 4000 := rfl; omega), zAh]
 cases rdN m r with
 | none => rfl
 | some p => obtain ⟨a, b⟩ := p; cases b <;> rfl
abbrev tupLI (l : List Int) (e : Int) : AV := .tup [.sl 1 (l.map encN) .no, .int e]
def frameR (l : List Int) : Bs × Int := if l.length ≤ 4000 then (frame l, 0) else ([], 2)
theorem pure8 (l : List Int) : ∀ e ∈ l.map (fun n => [AV.prim (.int .u8 n)]), ∀ a ∈ e, ∀ M B x, VRel M B a x → VRel M [] a x := by
 intro e he a ha M B x hx
 obtain ⟨n, _, rfl⟩ := zC1.1 he
 obtain rfl := zAa.1 ha
 rw [VRel.prim_eq hx]; exact .prim _
end Go.Proofs.YtbneeinknlddaaaGreat
