/- Contracts by content: the codec of the reference: an integer is read. No statement is proved here. -/
import Derived.Test.YtpkolkfglgalpaaJD
set_option linter.unusedVariables false
set_option linter.unusedSimpArgs false
namespace Go.Ab
theorem PRun.bitsV {P : Program} {o : Oper} {env : Env} {σ : Store} {op : BinOp} {t t' : TypeId} {x y : Operand} {k : IntKind} {a b r : Int} (h : bits op k a b = r) (ho : o.op = .binOp op t x y t') (hx : rdv env x = some (.prim (.int k a))) (nx : rdn env x) (hy : rdv env y = some (.prim (.int k b))) (ny : rdn env y) (hop : isBits op = true) :
    PRun P o env σ (.prim (.int k r)) := h ▸ PRun.bitsW ho hx nx hy ny hop
theorem PRun.convV {P : Program} {T : Tab} (hT : T.Ok P) {o : Oper} {env : Env} {σ : Store} {s d : TypeId} {x : Operand} {k k' : IntKind} {a r : Int} {lis : LI} {sz by' : Nat} {z : List Z} (h : k'.wrap a = r) (ho : o.op = .convert s d x) (hx : rdv env x = some (.prim (.int k a))) (nx : rdn env x) (hs' : T.get s = some lis) (hl : T.get d = some ⟨.int k', sz, by', z⟩) :
    PRun P o env σ (.prim (.int k' r)) := h ▸ PRun.convW hT ho hx nx hs' hl
end Go.Ab
namespace Go.Proofs.Ytpkolkfglgalpaa
open Go.Ab Go.Jo
attribute [local irreducible] AWP AOps EStep AQ PStep PRun PCall TCall VCall DStep TDies AWD DCall

def rdR (b : Bs) : Int × Int := match Jo.rd b with
  | some (n, r) => (n, ((b.length - r.length : Nat) : Int))
  | none => (0, 0)
theorem or_step {u k c : Nat} {x s : Int} (hk : k ≤ 9) (hu : u < 128 ^ k) (hx : x = ((c % 128 : Nat) : Int)) (hs : s = 7 * (k : Int)) (hc : c % 128 * 128 ^ k < 18446744073709551616) :
    bits .or .u64 (u : Int) (IntKind.u64.wrap (x * 2 ^ (Min.min s.toNat 64))) = ((u + c % 128 * 128 ^ k : Nat) : Int) := by
  subst hx; subst hs
  have e1 : (7 * (k : Int)).toNat = 7 * k := by omega
  have e2 : Min.min (7 * k) 64 = 7 * k := Nat.min_eq_left (by omega)
  have e3 : (2 : Nat) ^ (7 * k) = 128 ^ k := by rw [Nat.pow_mul]
  have e4 : ((c % 128 : Nat) : Int) * 2 ^ (7 * k) = ((c % 128 * 128 ^ k : Nat) : Int) := by
    rw [Int.natCast_mul, ← e3, Int.natCast_pow]; rfl
  have hu64 : u < 18446744073709551616 := by
    have : 128 ^ k ≤ 128 ^ 9 := Nat.pow_le_pow_right (by decide) hk
    have h2 : (128 : Nat) ^ 9 < 18446744073709551616 := by decide
    omega
  rw [e1, e2, e4, IntKind.wrap_u64]
  have e5 : ((c % 128 * 128 ^ k : Nat) : Int) % 18446744073709551616 = ((c % 128 * 128 ^ k : Nat) : Int) := by omega
  rw [e5, bits_or_u64_nat u _ hu64 hc]
  have h := Nat.shiftLeft_add_eq_or_of_lt (i := 7 * k) (b := u) (by rw [e3]; exact hu) (c % 128)
  rw [Nat.shiftLeft_eq, e3] at h
  rw [Nat.or_comm, ← h, Nat.add_comm]
theorem rdL_step {c : UInt8} {r : Bs} {k u : Nat} (hk : k ≤ 9) (h9 : ¬ (k = 9 ∧ 1 < c.toNat)) (h : 127 < c.toNat) : rdL (c :: r) k u = rdL r (k + 1) (u + c.toNat % 128 * 128 ^ k) := by
  rw [rdL, if_neg (by omega), if_pos h]
theorem rdL_stop {c : UInt8} {r : Bs} {k u : Nat} (hk : k ≤ 9) (h9 : ¬ (k = 9 ∧ 1 < c.toNat)) (h : ¬ 127 < c.toNat) (h0 : ¬ (c.toNat = 0 ∧ 0 < k)) : rdL (c :: r) k u = some (u + c.toNat % 128 * 128 ^ k, r) := by
  rw [rdL, if_neg (by omega), if_neg h, if_neg h0]
theorem rdL_bad {c : UInt8} {r : Bs} {k u : Nat} (h : (k = 9 ∧ 1 < c.toNat) ∨ 9 < k ∨ (¬ 127 < c.toNat ∧ c.toNat = 0 ∧ 0 < k)) : rdL (c :: r) k u = none := by
  rw [rdL]
  rcases h with h | h | ⟨h1, h2, h3⟩
  · rw [if_pos (.inl h)]
  · rw [if_pos (.inr h)]
  · split
    · rfl
    · first | rw [if_neg h1, if_pos ⟨h2, h3⟩] | rw [if_pos ⟨h2, h3⟩]
theorem acc_lt {u k c : Nat} (hu : u < 128 ^ k) : u + c % 128 * 128 ^ k < 128 ^ (k + 1) := by
  have h1 : c % 128 * 128 ^ k ≤ 127 * 128 ^ k := Nat.mul_le_mul_right _ (by omega)
  rw [Nat.pow_succ]; omega
theorem acc64 {k c : Nat} (hk : k ≤ 9) (h9 : k = 9 → c ≤ 1) : c % 128 * 128 ^ k < 18446744073709551616 := by
  by_cases h : k = 9
  · subst h
    have := h9 rfl
    have : c % 128 ≤ 1 := by omega
    have h3 := Nat.mul_le_mul_right (128 ^ 9) this
    have h2 : (128 : Nat) ^ 9 = 9223372036854775808 := by decide
    rw [h2] at h3 ⊢
    omega
  · have h1 : c % 128 * 128 ^ k ≤ 127 * 128 ^ 8 := Nat.mul_le_mul (by omega) (Nat.pow_le_pow_right (by decide) (by omega))
    have h2 : 127 * (128 : Nat) ^ 8 < 18446744073709551616 := by decide
    omega
theorem acc64' {u k c : Nat} (hk : k ≤ 9) (hu : u < 128 ^ k) (h9 : k = 9 → c ≤ 1) : u + c % 128 * 128 ^ k < 18446744073709551616 := by
  by_cases h : k = 9
  · subst h
    have := h9 rfl
    have : c % 128 ≤ 1 := by omega
    have h3 := Nat.mul_le_mul_right (128 ^ 9) this
    have h2 : 1 * (128 : Nat) ^ 9 = 9223372036854775808 := by decide
    have h4 : (128 : Nat) ^ 9 = 9223372036854775808 := by decide
    omega
  · have h1 := acc_lt (c := c) hu
    have h2 : 128 ^ (k + 1) ≤ 128 ^ 9 := Nat.pow_le_pow_right (by decide) (by omega)
    have h3 : (128 : Nat) ^ 9 < 18446744073709551616 := by decide
    omega
theorem half_v {u : Nat} (hu : u < 18446744073709551616) : IntKind.i64.wrap (IntKind.u64.wrap ((u : Int).tdiv 2)) = ((u / 2 : Nat) : Int) := by
  have h2 : (u : Int).tdiv 2 = ((u / 2 : Nat) : Int) := tdivN u 2
  rw [h2, IntKind.wrap_u64, IntKind.wrap_i64]
  omega
theorem odd_v {u : Nat} (hu : u < 18446744073709551616) (h : ((u : Int).tmod 2 == 1) = true) : -IntKind.i64.wrap (IntKind.u64.wrap ((u : Int).tdiv 2)) - 1 = unzig u := by
  have h1 : (u : Int).tmod 2 = ((u % 2 : Nat) : Int) := tmodN u 2
  rw [h1, beq_iff_eq] at h
  rw [half_v hu]
  unfold unzig
  rw [if_neg (by omega)]
theorem even_v {u : Nat} (hu : u < 18446744073709551616) (h : ((u : Int).tmod 2 == 1) = false) : IntKind.i64.wrap (IntKind.u64.wrap ((u : Int).tdiv 2)) = unzig u := by
  have h1 : (u : Int).tmod 2 = ((u % 2 : Nat) : Int) := tmodN u 2
  rw [h1, beq_eq_false_iff_ne] at h
  rw [half_v hu]
  unfold unzig
  rw [if_pos (by omega)]
theorem rdR_none {b : Bs} (h : rdL b 0 0 = none) : rdR b = (0, 0) := by unfold rdR Jo.rd; rw [h]; rfl
theorem rdR_some {b : Bs} {k v : Nat} (hk : k < b.length) (h : rdL b 0 0 = some (v, b.drop (k + 1))) : rdR b = (unzig v, (k : Int) + 1) := by
  unfold rdR Jo.rd; rw [h]
  simp only [Option.map_some, List.length_drop]
  congr 1; omega
theorem drop_c {b : Bs} {k : Nat} (h : k < b.length) : b.drop k = b.getD k default :: b.drop (k + 1) := by
  rw [List.drop_eq_getElem_cons h, getD_lt h]

set_option maxRecDepth 20000 in
theorem read05_spec (b : Bs) (hl : b.length ≤ 9223372036854775807) : PCall Try.prog 70 [.sl 1 (b.map by8) .no] (.tup [.int (rdR b).1, .int (rdR b).2]) := by
  refine PCall.body Try.func70 rfl rfl Try.ntmps70 rfl rfl ?_
  repeat' (first
    | refine AOps.q rfl rfl rfl (fun hg => by first | exact std0 | exact std1) (by exact rfl) ?_
    | refine AWP.seq ?_
    | refine AWP.regionK (fun K' hK => ?_)
    | (refine AOps.nil (hK _ _ ?_); clear hK K')
    | refine AOps.e (EStep.boxW rfl rfl rfl rfl rfl True.intro rfl rfl ?_)
    | refine AOps.e (EStep.storeW tabOk rfl rfl rfl True.intro rfl rfl True.intro rfl rfl rfl rfl rfl rfl rfl ?_)
    | refine AOps.e (EStep.allocW tabOk rfl rfl rfl rfl rfl rfl ?_)
    | (refine AWP.condW rfl True.intro (fun hc => ?_) (fun hc => ?_) <;> (first | (simp only [decide_eq_true_eq] at hc) | (simp only [decide_eq_false_iff_not, Int.not_lt, Int.not_le] at hc) | skip))
    | refine AWP.block ?_
    | refine AWP.exit ?_
    | refine AWP.skip ?_
    | refine AWP.ret ?_
    | refine AWP.drawK2 (by decide +kernel) (by kernel_rfl) (by decide +kernel) rfl (fun K' hK => ?_)
    | refine AWP.drawL2 (by kernel_rfl) (by decide +kernel) rfl (fun K' hK => ?_)
    | (refine AQ.nil (hK _ ?_); clear hK K')
    | refine AQ.nil ?_
    | refine AQ.q rfl rfl (fun hg => by first | exact std0 | exact std1) (by exact rfl) ?_)
  refine AWP.loopW (ι := Nat × Nat) (fun i => [(0, .sl 1 (b.map by8) .no), (4, .prim (.int .u64 (i.2 : Nat))), (5, .int i.1)]) (fun _ => []) (fun i => i.1 ≤ b.length ∧ i.1 ≤ 10 ∧ (i.1 ≤ 9 → i.2 < 128 ^ i.1) ∧ rdL b 0 0 = rdL (b.drop i.1) i.1 i.2) (fun i => 10 - i.1) (0, 0) ⟨Nat.zero_le _, by decide, fun _ => by decide, rfl⟩ ⟨rfl, rfl, rfl, True.intro⟩ rfl ?_
  rintro ⟨k, u⟩ ⟨g1, g2, g3, g4⟩
  simp only at g1 g2 g3 g4
  by_cases hlt : k < b.length ∧ k < 10
  · obtain ⟨hlt, hk10⟩ := hlt
    have hk9 : k ≤ 9 := by omega
    have hu := g3 hk9
    have hcl := (b.getD (k : Int).toNat default).toNat_lt
    have hd := drop_c hlt
    rw [hd] at g4
    have hw7 : IntKind.u64.wrap (7 * IntKind.u64.wrap (k : Int)) = 7 * (k : Int) := by rw [IntKind.wrap_u64, IntKind.wrap_u64]; omega
    have hx : IntKind.u64.wrap (((b.getD k default).toNat : Int).tmod 128) = (((b.getD k default).toNat % 128 : Nat) : Int) := by
      have := tmodN (b.getD k default).toNat 128
      have h' : ((b.getD k default).toNat : Int).tmod 128 = (((b.getD k default).toNat % 128 : Nat) : Int) := this
      rw [h', IntKind.wrap_u64]; omega
    by_cases h9 : k = 9 ∧ 1 < (b.getD k default).toNat
    · obtain ⟨rfl, h9⟩ := h9
      repeat' (first
        | refine AOps.q rfl rfl rfl (fun hg => by first | exact std0 | exact std1) (by exact rfl) ?_
        | refine AWP.seq ?_
        | refine AWP.regionK (fun K' hK => ?_)
        | (refine AOps.nil (hK _ _ ?_); clear hK K')
        | refine AOps.e (EStep.boxW rfl rfl rfl rfl rfl True.intro rfl rfl ?_)
        | refine AOps.e (EStep.storeW tabOk rfl rfl rfl True.intro rfl rfl True.intro rfl rfl rfl rfl rfl rfl rfl ?_)
        | refine AOps.e (EStep.allocW tabOk rfl rfl rfl rfl rfl rfl ?_)
        | (refine AWP.condW rfl True.intro (fun hc => ?_) (fun hc => ?_) <;> (first | (simp only [decide_eq_true_eq] at hc) | (simp only [decide_eq_false_iff_not, Int.not_lt, Int.not_le] at hc) | skip))
        | refine AWP.block ?_
        | refine AWP.exit ?_
        | refine AWP.skip ?_
        | refine AWP.ret ?_
        | refine AWP.drawK2 (by decide +kernel) (by kernel_rfl) (by decide +kernel) rfl (fun K' hK => ?_)
        | refine AWP.drawL2 (by kernel_rfl) (by decide +kernel) rfl (fun K' hK => ?_)
        | (refine AQ.nil (hK _ ?_); clear hK K')
        | refine AQ.nil ?_
        | refine AQ.q rfl rfl (fun hg => by first | exact std0 | exact std1) (by exact rfl) ?_)
      · refine ⟨.inr rfl, Ent.of ?_⟩
        rw [rdR_none (g4.trans (rdL_bad (.inl ⟨rfl, h9⟩)))]; rfl
      all_goals (exfalso; simp only [Int.toNat_natCast, Bool.or_eq_true, Bool.and_eq_true, Bool.or_eq_false_iff, Bool.and_eq_false_iff, decide_eq_true_eq, decide_eq_false_iff_not, Bool.not_eq_true', Bool.not_eq_false', beq_iff_eq, beq_eq_false_iff_ne, bne_iff_ne, bne_eq_false_iff_eq, gt_iff_lt, ge_iff_le, ne_eq] at hc; omega)
    have hor := or_step (c := (b.getD k default).toNat) hk9 hu hx hw7 (acc64 hk9 (by omega))
    have hw0 : 0 ≤ IntKind.u64.wrap (7 * IntKind.u64.wrap (k : Int)) := by omega
    obtain ⟨U, hU⟩ : ∃ U, U = u + (b.getD k default).toNat % 128 * 128 ^ k := ⟨_, rfl⟩
    have hU1 : U < 128 ^ (k + 1) := by rw [hU]; exact acc_lt hu
    have hU2 : U < 18446744073709551616 := by rw [hU]; exact acc64' hk9 hu (by omega)
    rw [← hU] at hor
    have q1 := fun h => rdL_step (r := b.drop (k + 1)) hk9 h9 (u := u) h
    have q2 := fun h h' => rdL_stop (r := b.drop (k + 1)) hk9 h9 (u := u) h h'
    have q3 := rdL_bad (c := b.getD k default) (r := b.drop (k + 1)) (k := k) (u := u)
    rw [← hU] at q1 q2
    have hh := half_v hU2
    clear hU hu g3
    repeat' (first
      | refine AOps.q rfl rfl rfl (fun hg => by first | exact std0 | exact PRun.bitsV hor rfl rfl nd rfl nd rfl | exact PRun.bitsW rfl rfl nd rfl nd rfl | exact PRun.shlW rfl rfl nd rfl nd (by omega) | exact PRun.shrW rfl rfl nd rfl nd (by omega) | exact std1) (by exact rfl) ?_
      | refine AWP.seq ?_
      | refine AWP.regionK (fun K' hK => ?_)
      | (refine AOps.nil (hK _ _ ?_); clear hK K')
      | refine AOps.e (EStep.boxW rfl rfl rfl rfl rfl True.intro rfl rfl ?_)
      | refine AOps.e (EStep.storeW tabOk rfl rfl rfl True.intro rfl rfl True.intro rfl rfl rfl rfl rfl rfl rfl ?_)
      | refine AOps.e (EStep.allocW tabOk rfl rfl rfl rfl rfl rfl ?_)
      | (refine AWP.condW rfl True.intro (fun hc => ?_) (fun hc => ?_) <;> (first | (simp only [decide_eq_true_eq] at hc) | (simp only [decide_eq_false_iff_not, Int.not_lt, Int.not_le] at hc) | skip))
      | refine AWP.block ?_
      | refine AWP.exit ?_
      | refine AWP.skip ?_
      | refine AWP.ret ?_
      | refine AWP.drawK2 (by decide +kernel) (by kernel_rfl) (by decide +kernel) rfl (fun K' hK => ?_)
      | refine AWP.drawL2 (by kernel_rfl) (by decide +kernel) rfl (fun K' hK => ?_)
      | (refine AQ.nil (hK _ ?_); clear hK K')
      | refine AQ.nil ?_
      | refine AQ.q rfl rfl (fun hg => by first | exact std0 | exact PRun.bitsV hor rfl rfl nd rfl nd rfl | exact PRun.bitsW rfl rfl nd rfl nd rfl | exact PRun.shlW rfl rfl nd rfl nd (by omega) | exact PRun.shrW rfl rfl nd rfl nd (by omega) | exact std1) (by exact rfl) ?_)
    · exfalso
      simp only [Int.toNat_natCast, Bool.or_eq_true, Bool.and_eq_true, Bool.or_eq_false_iff, Bool.and_eq_false_iff, decide_eq_true_eq, decide_eq_false_iff_not, Bool.not_eq_true', Bool.not_eq_false', beq_iff_eq, beq_eq_false_iff_ne, bne_iff_ne, bne_eq_false_iff_eq, gt_iff_lt, ge_iff_le, ne_eq] at hc
      omega
    · exact ⟨(k + 1, U), ⟨by omega, by omega, fun _ => hU1, g4.trans (q1 (by simp only [Int.toNat_natCast, Bool.or_eq_true, Bool.and_eq_true, Bool.or_eq_false_iff, Bool.and_eq_false_iff, decide_eq_true_eq, decide_eq_false_iff_not, Bool.not_eq_true', Bool.not_eq_false', beq_iff_eq, beq_eq_false_iff_ne, bne_iff_ne, bne_eq_false_iff_eq, gt_iff_lt, ge_iff_le, ne_eq] at hc; omega))⟩, by simp only; omega, ⟨rfl, rfl, rfl, True.intro⟩, rfl⟩
    · refine ⟨.inr rfl, Ent.of ?_⟩
      simp only [Int.toNat_natCast, Bool.or_eq_true, Bool.and_eq_true, Bool.or_eq_false_iff, Bool.and_eq_false_iff, decide_eq_true_eq, decide_eq_false_iff_not, Bool.not_eq_true', Bool.not_eq_false', beq_iff_eq, beq_eq_false_iff_ne, bne_iff_ne, bne_eq_false_iff_eq, gt_iff_lt, ge_iff_le, ne_eq] at hc
      rw [rdR_none (g4.trans (q3 (.inr (.inr ⟨by omega, by omega, by omega⟩))))]; rfl
    · refine ⟨.inr rfl, Ent.of ?_⟩
      rename_i hc1 hc0
      simp only [Int.toNat_natCast, Bool.or_eq_true, Bool.and_eq_true, Bool.or_eq_false_iff, Bool.and_eq_false_iff, decide_eq_true_eq, decide_eq_false_iff_not, Bool.not_eq_true', Bool.not_eq_false', beq_iff_eq, beq_eq_false_iff_ne, bne_iff_ne, bne_eq_false_iff_eq, gt_iff_lt, ge_iff_le, ne_eq] at hc1 hc0
      rw [rdR_some hlt (g4.trans (q2 (by omega) (by omega)))]
      show AV.tup [.int _, .int _] = AV.tup [.int _, .int _]
      rw [odd_v hU2 hc]
    · refine ⟨.inr rfl, Ent.of ?_⟩
      rename_i hc1 hc0
      simp only [Int.toNat_natCast, Bool.or_eq_true, Bool.and_eq_true, Bool.or_eq_false_iff, Bool.and_eq_false_iff, decide_eq_true_eq, decide_eq_false_iff_not, Bool.not_eq_true', Bool.not_eq_false', beq_iff_eq, beq_eq_false_iff_ne, bne_iff_ne, bne_eq_false_iff_eq, gt_iff_lt, ge_iff_le, ne_eq] at hc1 hc0
      rw [rdR_some hlt (g4.trans (q2 (by omega) (by omega)))]
      show AV.tup [.int _, .int _] = AV.tup [.int _, .int _]
      rw [even_v hU2 hc]
    · exfalso; simp only [Int.toNat_natCast, Bool.or_eq_true, Bool.and_eq_true, Bool.or_eq_false_iff, Bool.and_eq_false_iff, decide_eq_true_eq, decide_eq_false_iff_not, Bool.not_eq_true', Bool.not_eq_false', beq_iff_eq, beq_eq_false_iff_ne, bne_iff_ne, bne_eq_false_iff_eq, gt_iff_lt, ge_iff_le, ne_eq] at hc; omega
  · repeat' (first
      | refine AOps.q rfl rfl rfl (fun hg => by first | exact std0 | exact std1) (by exact rfl) ?_
      | refine AWP.seq ?_
      | refine AWP.regionK (fun K' hK => ?_)
      | (refine AOps.nil (hK _ _ ?_); clear hK K')
      | refine AOps.e (EStep.boxW rfl rfl rfl rfl rfl True.intro rfl rfl ?_)
      | refine AOps.e (EStep.storeW tabOk rfl rfl rfl True.intro rfl rfl True.intro rfl rfl rfl rfl rfl rfl rfl ?_)
      | refine AOps.e (EStep.allocW tabOk rfl rfl rfl rfl rfl rfl ?_)
      | (refine AWP.condW rfl True.intro (fun hc => ?_) (fun hc => ?_) <;> (first | (simp only [decide_eq_true_eq] at hc) | (simp only [decide_eq_false_iff_not, Int.not_lt, Int.not_le] at hc) | skip))
      | refine AWP.block ?_
      | refine AWP.exit ?_
      | refine AWP.skip ?_
      | refine AWP.ret ?_
      | refine AWP.drawK2 (by decide +kernel) (by kernel_rfl) (by decide +kernel) rfl (fun K' hK => ?_)
      | refine AWP.drawL2 (by kernel_rfl) (by decide +kernel) rfl (fun K' hK => ?_)
      | (refine AQ.nil (hK _ ?_); clear hK K')
      | refine AQ.nil ?_
      | refine AQ.q rfl rfl (fun hg => by first | exact std0 | exact std1) (by exact rfl) ?_)
    all_goals (first | (exfalso; simp only [Bool.and_eq_true, decide_eq_true_eq] at hc; omega) | skip)
    refine ⟨.inr rfl, Ent.of ?_⟩
    have : rdL b 0 0 = none := by
      rw [g4]
      by_cases h : k < b.length
      · rw [drop_c h]; exact rdL_bad (.inr (.inl (by omega)))
      · rw [List.drop_eq_nil_of_le (by omega)]; rfl
    rw [rdR_none this]; rfl
end Go.Proofs.Ytpkolkfglgalpaa
