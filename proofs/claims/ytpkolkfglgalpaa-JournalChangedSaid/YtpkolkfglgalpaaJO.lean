/- Contracts by content: the program's codec: whole frames. No statement is proved here. -/
import Derived.Test.YtpkolkfglgalpaaJN
import Derived.Test.YtpkolkfglgalpaaM5
set_option linter.unusedVariables false
set_option linter.unusedSimpArgs false
namespace Go.Ab
theorem PRun.shlV {P : Program} {o : Oper} {env : Env} {σ : Store} {t t' : TypeId} {x y : Operand} {k k' : IntKind} {a b r : Int} (h : k.wrap (a * 2 ^ (Min.min b.toNat k.bits)) = r) (ho : o.op = .binOp .shl t x y t') (hx : rdv env x = some (.prim (.int k a))) (nx : rdn env x) (hy : rdv env y = some (.prim (.int k' b))) (ny : rdn env y) (hb : 0 ≤ b) :
    PRun P o env σ (.prim (.int k r)) := h ▸ PRun.shlW ho hx nx hy ny hb
end Go.Ab
namespace Go.Proofs.Ytpkolkfglgalpaa
open Go.Ab Go.Jo
attribute [local irreducible] AWP AOps EStep AQ PStep PRun PCall TCall VCall DStep TDies AWD DCall

theorem fl8 : flatN Try.prog 79 = some [.int .u8, .int .u8, .int .u8, .int .u8, .int .u8, .int .u8, .int .u8, .int .u8] := by kernel_rfl
abbrev p8 (c : UInt8) : AV := .prim (.int .u8 c.toNat)
theorem eqB : ∀ (a c : Bs), a.length = c.length → eqVs (List.replicate a.length (.int .u8)) (a.map p8) (c.map p8) = some (a == c)
  | [], [], _ => rfl
  | x :: a, y :: c, h => by
    have ih := eqB a c (by simpa using h)
    simp only [List.length_cons, List.replicate_succ, List.map_cons, eqVs, ih, eqV, if_true]
    congr 1
    rw [Bool.eq_iff_iff]
    simp
    intro _
    exact ⟨fun h => UInt8.toNat_inj.1 (by omega), fun h => by rw [h]⟩
theorem eq8 (a c : Bs) (ha : a.length = 8) (hc : c.length = 8) : eqVs [.int .u8, .int .u8, .int .u8, .int .u8, .int .u8, .int .u8, .int .u8, .int .u8] (a.map p8) ((c.map p8).take 8) = some (a == c) := by
  have h := eqB a c (ha.trans hc.symm)
  rw [ha] at h
  rw [List.take_of_length_le (by simp [hc])]
  exact h
theorem shl16 (c : UInt8) : IntKind.i64.wrap ((c.toNat : Int) * 2 ^ (Min.min (16 : Int).toNat IntKind.i64.bits)) = (c.toNat : Int) * 65536 := by
  have e1 : (2 : Int) ^ (Min.min (16 : Int).toNat IntKind.i64.bits) = 65536 := by decide
  have := c.toNat_lt
  rw [e1]; exact wrap64_in (by omega)
theorem shl8 (c : UInt8) : IntKind.i64.wrap ((c.toNat : Int) * 2 ^ (Min.min (8 : Int).toNat IntKind.i64.bits)) = (c.toNat : Int) * 256 := by
  have e1 : (2 : Int) ^ (Min.min (8 : Int).toNat IntKind.i64.bits) = 256 := by decide
  have := c.toNat_lt
  rw [e1]; exact wrap64_in (by omega)
set_option maxHeartbeats 1600000 in
theorem whole_spec (b : Bs) (hl : b.length ≤ 4611686018427387904) : PCall Try.prog 47 [.sl 1 (b.map by8) .no] (tupLI (wholeR b).1 (wholeR b).2) := by
  have c0 := (b.getD (0 : Int).toNat default).toNat_lt
  have c1 := (b.getD (1 : Int).toNat default).toNat_lt
  have c2 := (b.getD (2 : Int).toNat default).toNat_lt
  have hN := n3_int b
  refine PCall.body Try.func47 rfl rfl Try.ntmps47 rfl rfl ?_
  by_cases h11 : b.length < 11
  · repeat' (first
      | refine AOps.q rfl rfl rfl (fun hg => by first | exact std0 | exact std1) (by exact rfl) ?_
      | refine AWP.seq ?_
      | refine AWP.regionK (fun K' hK => ?_)
      | (refine AOps.nil (hK _ _ ?_); clear hK K')
      | refine AOps.e (EStep.boxW rfl rfl rfl rfl rfl True.intro rfl rfl ?_)
      | refine AOps.e (EStep.storeW tabOk rfl rfl rfl True.intro rfl rfl True.intro rfl rfl rfl rfl rfl rfl rfl ?_)
      | refine AOps.e (EStep.allocW tabOk rfl rfl rfl rfl rfl rfl ?_)
      | (refine AWP.condW rfl True.intro (fun hc => ?_) (fun hc => ?_) <;> (first | (simp only [decide_eq_true_eq] at hc) | (simp only [decide_eq_false_iff_not, Int.not_lt, Int.not_le] at hc) | skip))
      | refine AWP.block ?_
      | refine AWP.exit ?_
      | refine AWP.skip ?_
      | refine AWP.ret ?_
      | refine AWP.drawK2 (by decide +kernel) (by kernel_rfl) (by decide +kernel) rfl (fun K' hK => ?_)
      | refine AWP.drawL2 (by kernel_rfl) (by decide +kernel) rfl (fun K' hK => ?_)
      | (refine AQ.nil (hK _ ?_); clear hK K')
      | refine AQ.nil ?_
      | refine AQ.q rfl rfl (fun hg => by first | exact std0 | exact std1) (by exact rfl) ?_)
    · refine ⟨.inr rfl, ?_⟩
      rw [wholeR_len (.inr h11)]
      exact Ent.tup2 Ent.nil (Ent.rfl' _)
    all_goals (exfalso; first | omega | (simp at hc; done) | (simp only [Int.toNat_natCast, Bool.or_eq_true, Bool.and_eq_true, Bool.or_eq_false_iff, Bool.and_eq_false_iff, decide_eq_true_eq, decide_eq_false_iff_not, Bool.not_eq_true', Bool.not_eq_false', beq_iff_eq, beq_eq_false_iff_ne, bne_iff_ne, bne_eq_false_iff_eq, gt_iff_lt, ge_iff_le, ne_eq] at hc; omega))
  repeat' (first
    | refine AOps.q rfl rfl rfl (fun hg => by first | exact PRun.shlV (shl8 _) rfl rfl nd rfl nd (by decide) | exact PRun.shlV (shl16 _) rfl rfl nd rfl nd (by decide) | exact PRun.convV tabOk (cv8 _) rfl rfl nd rfl rfl | exact std0 | exact PRun.sliceLoM tabOk rfl rfl nd rfl nd rfl (by omega) | exact PRun.sliceHiM tabOk rfl rfl nd rfl nd rfl (by omega) | exact PRun.sliceM tabOk rfl rfl nd rfl nd rfl nd rfl (by omega) | exact PRun.sliceLoM tabOk rfl rfl nd rfl nd rfl (by rw [List.length_take]; omega) | exact PRun.slice3M tabOk rfl rfl nd rfl nd rfl nd rfl (by omega) | exact PRun.callW (sum_spec _ (by rw [List.length_take]; omega)) rfl rfl nd rfl nds | exact PRun.s2a tabOk rfl rfl nd rfl (by rw [List.length_drop, List.length_take]; omega) | exact PRun.loadIAll tabOk rfl rfl nd rfl rfl (by rw [List.length_map, List.length_drop, List.length_take]; simp only []; omega) | exact PRun.neN fl8 rfl rfl nd rfl nd (eq8 _ _ rfl (by rw [List.length_drop, List.length_take]; omega)) | exact PRun.callW (get_spec _ (by rw [List.length_drop, List.length_take]; omega)) rfl rfl nd rfl nds | exact std1) (by exact rfl) ?_
    | refine AWP.seq ?_
    | refine AWP.regionK (fun K' hK => ?_)
    | (refine AOps.nil (hK _ _ ?_); clear hK K')
    | refine AOps.e (EStep.boxW rfl rfl rfl rfl rfl True.intro rfl rfl ?_)
    | refine AOps.e (EStep.storeW tabOk rfl rfl rfl True.intro rfl rfl True.intro rfl rfl rfl rfl rfl rfl rfl ?_)
    | refine AOps.e (EStep.allocW tabOk rfl rfl rfl rfl rfl rfl ?_)
    | (refine AWP.condW rfl True.intro (fun hc => ?_) (fun hc => ?_) <;> (first | (simp only [decide_eq_true_eq] at hc) | (simp only [decide_eq_false_iff_not, Int.not_lt, Int.not_le] at hc) | skip))
    | refine AWP.block ?_
    | refine AWP.exit ?_
    | refine AWP.skip ?_
    | refine AWP.ret ?_
    | refine AWP.drawK2 (by decide +kernel) (by kernel_rfl) (by decide +kernel) rfl (fun K' hK => ?_)
    | refine AWP.drawL2 (by kernel_rfl) (by decide +kernel) rfl (fun K' hK => ?_)
    | (refine AQ.nil (hK _ ?_); clear hK K')
    | refine AQ.nil ?_
    | refine AQ.q rfl rfl (fun hg => by first | exact PRun.shlV (shl8 _) rfl rfl nd rfl nd (by decide) | exact PRun.shlV (shl16 _) rfl rfl nd rfl nd (by decide) | exact PRun.convV tabOk (cv8 _) rfl rfl nd rfl rfl | exact std0 | exact PRun.sliceLoM tabOk rfl rfl nd rfl nd rfl (by omega) | exact PRun.sliceHiM tabOk rfl rfl nd rfl nd rfl (by omega) | exact PRun.sliceM tabOk rfl rfl nd rfl nd rfl nd rfl (by omega) | exact PRun.sliceLoM tabOk rfl rfl nd rfl nd rfl (by rw [List.length_take]; omega) | exact PRun.slice3M tabOk rfl rfl nd rfl nd rfl nd rfl (by omega) | exact PRun.callW (sum_spec _ (by rw [List.length_take]; omega)) rfl rfl nd rfl nds | exact PRun.s2a tabOk rfl rfl nd rfl (by rw [List.length_drop, List.length_take]; omega) | exact PRun.loadIAll tabOk rfl rfl nd rfl rfl (by rw [List.length_map, List.length_drop, List.length_take]; simp only []; omega) | exact PRun.neN fl8 rfl rfl nd rfl nd (eq8 _ _ rfl (by rw [List.length_drop, List.length_take]; omega)) | exact PRun.callW (get_spec _ (by rw [List.length_drop, List.length_take]; omega)) rfl rfl nd rfl nds | exact std1) (by exact rfl) ?_)
  · (exfalso; first | omega | (simp at hc; done) | (simp only [Int.toNat_natCast, Bool.or_eq_true, Bool.and_eq_true, Bool.or_eq_false_iff, Bool.and_eq_false_iff, decide_eq_true_eq, decide_eq_false_iff_not, Bool.not_eq_true', Bool.not_eq_false', beq_iff_eq, beq_eq_false_iff_ne, bne_iff_ne, bne_eq_false_iff_eq, gt_iff_lt, ge_iff_le, ne_eq] at hc; omega))
  · refine ⟨.inr rfl, ?_⟩
    rw [wholeR_len (.inl (by omega))]
    exact Ent.tup2 Ent.nil (Ent.rfl' _)
  all_goals (
    have h2 : n3 b + 11 ≤ b.length := by omega
    have n1 : (3 + (((b.getD (0 : Int).toNat default).toNat : Int) * 65536 + ((b.getD (1 : Int).toNat default).toNat : Int) * 256 + ((b.getD (2 : Int).toNat default).toNat : Int))).toNat = n3 b + 3 := by omega
    have n2 : (3 + (((b.getD (0 : Int).toNat default).toNat : Int) * 65536 + ((b.getD (1 : Int).toNat default).toNat : Int) * 256 + ((b.getD (2 : Int).toNat default).toNat : Int)) + 8).toNat = n3 b + 11 := by omega
    have n3' : (b.take (n3 b + 11)).drop (n3 b + 3) = (b.drop (n3 b + 3)).take 8 := by rw [List.drop_take]; congr 1; omega)
  · refine ⟨.inr rfl, ?_⟩
    rw [n1, n2, n3'] at hc
    rw [wholeR_sum (by omega) h2 (by intro he; rw [he] at hc; simp at hc)]
    exact Ent.tup2 Ent.nil (Ent.rfl' _)
  · refine ⟨.inr rfl, ?_⟩
    rename_i hs
    rw [n1, n2, n3'] at hs
    rw [n1] at hc
    have he : sumB (b.take (n3 b + 3)) = (b.drop (n3 b + 3)).take 8 := by simp at hs; exact hs
    have hq := wholeR_get (by omega) h2 he
    rw [show ((b.take (n3 b + 3)).drop (3 : Int).toNat) = (b.take (n3 b + 3)).drop 3 from rfl] at hc
    cases hg : getL ((b.take (n3 b + 3)).drop 3) with
    | some l => rw [getR_some hg] at hc; simp at hc
    | none =>
      rw [hg] at hq
      rw [hq]
      exact Ent.tup2 Ent.nil (Ent.rfl' _)
  · refine ⟨.inr rfl, Ent.of ?_⟩
    rename_i hs
    rw [n1, n2, n3'] at hs
    have he : sumB (b.take (n3 b + 3)) = (b.drop (n3 b + 3)).take 8 := by simp at hs; exact hs
    have hq := wholeR_get (by omega) h2 he
    rw [n1] at hc
    rw [show ((b.take (n3 b + 3)).drop (3 : Int).toNat) = (b.take (n3 b + 3)).drop 3 from rfl] at hc
    cases hg : getL ((b.take (n3 b + 3)).drop 3) with
    | none => rw [getR_none hg] at hc; simp at hc
    | some l =>
      rw [hg] at hq
      rw [hq]
      show AV.tup [.sl 1 ((getR ((b.take ((3 : Int) + _).toNat).drop (3 : Int).toNat)).1.map encN) .no, .int _] = _
      rw [n1, show ((b.take (n3 b + 3)).drop (3 : Int).toNat) = (b.take (n3 b + 3)).drop 3 from rfl, getR_some hg]
      have n4 : (3 : Int) + (((b.getD (0 : Int).toNat default).toNat : Int) * 65536 + ((b.getD (1 : Int).toNat default).toNat : Int) * 256 + ((b.getD (2 : Int).toNat default).toNat : Int)) + 8 = ((n3 b + 11 : Nat) : Int) := by omega
      rw [← n4]
end Go.Proofs.Ytpkolkfglgalpaa
