/- Contracts by content: the program's codec: an integer is read, or the reader panics. No statement is proved here. -/
import Derived.Test.YtpkolkfglgalpaaJE
import Derived.Lib.Zigzag
set_option linter.unusedVariables false
set_option linter.unusedSimpArgs false
namespace Go.Proofs.Ytpkolkfglgalpaa
open Go.Ab Go.Jo
attribute [local irreducible] AWP AOps EStep AQ PStep PRun PCall TCall VCall DStep TDies AWD DCall

/-- The objects of 'Get': the list, the error, the reader, the list's array. -/
def getS (out : List Int) (e : Int) (b : Bs) : Store := [.var [.sl 1 (out.map encN) (.own 3)], .var [.int e], .var [.sl 1 (b.map by8) .no], .own 1 (out.map encN).length]
theorem getS_ok (out : List Int) (e : Int) (b : Bs) : (getS out e b).all (okObj (getS out e b).length) = true := rfl
abbrev brk : List PanicEntry := [{ v := .iface 116 (.agg #[]), recovered := false }]

theorem and127k : ∀ c : Fin 256, bits .and .u8 ((c.val : Nat) : Int) 127 = ((c.val % 128 : Nat) : Int) := by decide +kernel
theorem and127 (c : UInt8) : IntKind.u64.wrap (bits .and .u8 (c.toNat : Int) 127) = ((c.toNat % 128 : Nat) : Int) := by
  have h := and127k ⟨c.toNat, c.toNat_lt⟩
  have e : bits .and .u8 (c.toNat : Int) 127 = ((c.toNat % 128 : Nat) : Int) := h
  rw [e, IntKind.wrap_u64]; omega
theorem bits_comm (k : IntKind) (a b : Int) : bits .xor k a b = bits .xor k b a := by
  unfold bits
  simp only [BitVec.xor_comm]
theorem half1 {u : Nat} (hu : u < 18446744073709551616) : IntKind.i64.wrap ((u : Int).fdiv (2 ^ (Min.min (1 : Int).toNat IntKind.u64.bits))) = ((u / 2 : Nat) : Int) := by
  have e1 : (2 : Int) ^ (Min.min (1 : Int).toNat IntKind.u64.bits) = 2 := by decide
  rw [e1, Int.fdiv_eq_ediv_of_nonneg _ (by decide), IntKind.wrap_i64]
  omega
theorem low1 {u : Nat} (hu : u < 18446744073709551616) : IntKind.i64.wrap (bits .and .u64 (u : Int) 1) = ((u % 2 : Nat) : Int) := by
  rw [Lib.u64_and1 _ (by omega) (by omega), IntKind.wrap_i64]
  omega
theorem unzig_bits {u : Nat} (hu : u < 18446744073709551616) : bits .xor .i64 (IntKind.i64.wrap ((u : Int).fdiv (2 ^ (Min.min (1 : Int).toNat IntKind.u64.bits)))) (-IntKind.i64.wrap (bits .and .u64 (u : Int) 1)) = unzig u := by
  rw [half1 hu, low1 hu]
  have hh : u / 2 < 9223372036854775808 := by omega
  unfold unzig
  rcases Nat.mod_two_eq_zero_or_one u with h | h
  · rw [h, if_pos rfl]
    show IntKind.i64.wrap ((BitVec.ofInt 64 ((u / 2 : Nat) : Int) ^^^ BitVec.ofInt 64 (-((0 : Nat) : Int))).toNat : Int) = _
    have h2 : (BitVec.ofInt 64 ((u / 2 : Nat) : Int)).toNat = u / 2 := by
      rw [BitVec.ofInt_natCast, BitVec.toNat_ofNat]; exact Nat.mod_eq_of_lt (by omega)
    have h3 : (BitVec.ofInt 64 (-((0 : Nat) : Int))).toNat = 0 := by decide
    rw [BitVec.toNat_xor, h2, h3, Nat.xor_zero, IntKind.wrap_i64]
    omega
  · rw [h, if_neg (by decide), bits_comm]
    exact Lib.i64_not (u / 2) hh
set_option maxHeartbeats 1600000 in
set_option maxRecDepth 20000 in
theorem next_T (out : List Int) (e : Int) (b rest : Bs) (n : Int) (hb : b.length ≤ 9223372036854775807) (hrd : Jo.rd b = some (n, rest)) :
    TCall Try.prog 69 [.ptr 2 0] (getS out e b) (fun r s => r = .int n ∧ s = getS out e rest) := by
  refine TCall.body Try.func69 rfl rfl Try.ntmps69 rfl rfl ?_
  repeat' (first
    | refine AOps.q rfl rfl rfl (fun hg => by first | exact std0 | exact std1) (by exact rfl) ?_
    | refine AWP.seq ?_
    | refine AWP.regionK (fun K' hK => ?_)
    | (refine AOps.nil (hK _ _ ?_); clear hK K')
    | refine AOps.e (EStep.boxW rfl rfl rfl rfl rfl True.intro rfl rfl ?_)
    | refine AOps.e (EStep.storeW tabOk rfl rfl rfl True.intro rfl rfl True.intro rfl rfl rfl rfl rfl rfl rfl ?_)
    | refine AOps.e (EStep.allocW tabOk rfl rfl rfl rfl rfl rfl ?_)
    | (refine AWP.condW rfl True.intro (fun hc => ?_) (fun hc => ?_) <;> (first | (simp only [decide_eq_true_eq] at hc) | (simp only [decide_eq_false_iff_not, Int.not_lt, Int.not_le] at hc) | skip))
    | refine AWP.block ?_
    | refine AWP.exit ?_
    | refine AWP.skip ?_
    | refine AWP.ret ?_
    | refine AWP.drawK2 (by decide +kernel) (by kernel_rfl) (by decide +kernel) rfl (fun K' hK => ?_)
    | refine AWP.drawL2 (by kernel_rfl) (by decide +kernel) rfl (fun K' hK => ?_)
    | (refine AQ.nil (hK _ ?_); clear hK K')
    | refine AQ.nil ?_
    | refine AQ.q rfl rfl (fun hg => by first | exact std0 | exact std1) (by exact rfl) ?_)
  refine AWP.loopW (ι := Nat × Nat) (fun i => [(0, .ptr 2 0), (9, .sl 1 (b.map by8) .no), (10, .int b.length), (11, .int i.1), (3, .prim (.int .u64 (i.2 : Nat)))]) (fun _ => getS out e b) (fun i => i.1 ≤ b.length ∧ i.1 ≤ 10 ∧ (i.1 ≤ 9 → i.2 < 128 ^ i.1) ∧ rdL b 0 0 = rdL (b.drop i.1) i.1 i.2) (fun i => 10 - i.1) (0, 0) ⟨Nat.zero_le _, by decide, fun _ => by decide, rfl⟩ ⟨rfl, rfl, rfl, rfl, rfl, True.intro⟩ rfl ?_
  rintro ⟨k, u⟩ ⟨g1, g2, g3, g4⟩
  dsimp only at g1 g2 g3 g4 ⊢
  have hne : rdL b 0 0 ≠ none := by
    intro h; unfold Jo.rd at hrd; rw [h] at hrd; simp at hrd
  have hlt : k < b.length := by
    rcases Nat.lt_or_ge k b.length with h | h
    · exact h
    · exfalso; apply hne; rw [g4, List.drop_eq_nil_of_le h]; rfl
  have hd := drop_c hlt
  rw [hd] at g4
  have hk9 : k ≤ 9 := by
    rcases Nat.lt_or_ge 9 k with h | h
    · exact absurd (g4.trans (rdL_bad (.inr (.inl h)))) hne
    · exact h
  have h9 : ¬ (k = 9 ∧ 1 < (b.getD k default).toNat) := fun h => absurd (g4.trans (rdL_bad (.inl h))) hne
  have h0 : ¬ (¬ 127 < (b.getD k default).toNat ∧ (b.getD k default).toNat = 0 ∧ 0 < k) := fun h => absurd (g4.trans (rdL_bad (.inr (.inr h)))) hne
  have hu := g3 hk9
  have hor := or_step (c := (b.getD k default).toNat) hk9 hu (and127 _) (rfl : 7 * (k : Int) = 7 * (k : Int)) (acc64 hk9 (by omega))
  obtain ⟨U, hU⟩ : ∃ U, U = u + (b.getD k default).toNat % 128 * 128 ^ k := ⟨_, rfl⟩
  have hU1 : U < 128 ^ (k + 1) := by rw [hU]; exact acc_lt hu
  have hU2 : U < 18446744073709551616 := by rw [hU]; exact acc64' hk9 hu (by omega)
  rw [← hU] at hor
  have q1 := fun h => rdL_step (r := b.drop (k + 1)) hk9 h9 (u := u) h
  have q2 := fun h h' => rdL_stop (r := b.drop (k + 1)) hk9 h9 (u := u) h h'
  rw [← hU] at q1 q2
  have hl1 := low1 hU2
  clear hU hu g3
  have fin : ¬ 127 < (b.getD k default).toNat → n = unzig U ∧ rest = b.drop (k + 1) := fun h => by
    have h2 := g4.trans (q2 h (fun h' => h0 ⟨h, h'⟩))
    unfold Jo.rd at hrd; rw [h2] at hrd
    simp at hrd; exact ⟨hrd.1.symm, hrd.2.symm⟩
  have step : 127 < (b.getD k default).toNat → rdL b 0 0 = rdL (b.drop (k + 1)) (k + 1) U := fun h => g4.trans (q1 h)
  clear q1 q2 g4 hrd hne
  repeat' (first
    | refine AWP.regionPan rfl rfl (fun K' hK => ?_)
    | refine AOps.q rfl rfl rfl (fun hg => by first | exact std0 | exact PRun.bitsV hor rfl rfl nd rfl nd rfl | exact PRun.bitsW rfl rfl nd rfl nd rfl | exact PRun.shlW rfl rfl nd rfl nd (by omega) | exact PRun.shrW rfl rfl nd rfl nd (by omega) | exact PRun.sliceLoM tabOk rfl rfl nd rfl nd rfl (by omega) | exact PRun.sliceHiM tabOk rfl rfl nd rfl nd rfl (by omega) | exact PRun.sliceM tabOk rfl rfl nd rfl nd rfl nd rfl (by omega) | exact PRun.buildZ (by exact ⟨rfl, rfl⟩) rfl | exact PRun.ifaceW (by kernel_rfl) rfl rfl nd rfl | exact std1) (by exact rfl) ?_
    | refine AWP.seq ?_
    | refine AWP.regionK (fun K' hK => ?_)
    | (refine AOps.nil (hK _ _ ?_); clear hK K')
    | refine AOps.e (EStep.boxW rfl rfl rfl rfl rfl True.intro rfl rfl ?_)
    | refine AOps.e (EStep.storeW tabOk rfl rfl rfl True.intro rfl rfl True.intro rfl rfl rfl rfl rfl rfl rfl ?_)
    | refine AOps.e (EStep.allocW tabOk rfl rfl rfl rfl rfl rfl ?_)
    | refine DStep.panic rfl rfl rfl True.intro ?_
    | (refine AWP.condW rfl True.intro (fun hc => ?_) (fun hc => ?_) <;> (first | (simp only [decide_eq_true_eq] at hc) | (simp only [decide_eq_false_iff_not, Int.not_lt, Int.not_le] at hc) | skip))
    | refine AWP.block ?_
    | refine AWP.exit ?_
    | refine AWP.skip ?_
    | refine AWP.ret ?_
    | refine AWP.drawK2 (by decide +kernel) (by kernel_rfl) (by decide +kernel) rfl (fun K' hK => ?_)
    | refine AWP.drawL2 (by kernel_rfl) (by decide +kernel) rfl (fun K' hK => ?_)
    | (refine AQ.nil (hK _ ?_); clear hK K')
    | refine AQ.nil ?_
    | refine AQ.q rfl rfl (fun hg => by first | exact std0 | exact PRun.bitsV hor rfl rfl nd rfl nd rfl | exact PRun.bitsW rfl rfl nd rfl nd rfl | exact PRun.shlW rfl rfl nd rfl nd (by omega) | exact PRun.shrW rfl rfl nd rfl nd (by omega) | exact PRun.sliceLoM tabOk rfl rfl nd rfl nd rfl (by omega) | exact PRun.sliceHiM tabOk rfl rfl nd rfl nd rfl (by omega) | exact PRun.sliceM tabOk rfl rfl nd rfl nd rfl nd rfl (by omega) | exact PRun.buildZ (by exact ⟨rfl, rfl⟩) rfl | exact PRun.ifaceW (by kernel_rfl) rfl rfl nd rfl | exact std1) (by exact rfl) ?_)
  · exfalso
    simp only [Int.toNat_natCast, Bool.or_eq_true, Bool.and_eq_true, Bool.or_eq_false_iff, Bool.and_eq_false_iff, decide_eq_true_eq, decide_eq_false_iff_not, Bool.not_eq_true', Bool.not_eq_false', beq_iff_eq, beq_eq_false_iff_ne, bne_iff_ne, bne_eq_false_iff_eq, gt_iff_lt, ge_iff_le, ne_eq] at hc
    omega
  · have hc' : 127 < (b.getD k default).toNat := by
      rw [Int.toNat_natCast] at hc; omega
    exact ⟨(k + 1, U), ⟨by dsimp only; omega, by dsimp only; omega, fun _ => hU1, step hc'⟩, by dsimp only; omega, ⟨rfl, rfl, rfl, rfl, rfl, True.intro⟩, rfl⟩
  · exfalso
    simp only [Int.toNat_natCast, Bool.or_eq_true, Bool.and_eq_true, Bool.or_eq_false_iff, Bool.and_eq_false_iff, decide_eq_true_eq, decide_eq_false_iff_not, Bool.not_eq_true', Bool.not_eq_false', beq_iff_eq, beq_eq_false_iff_ne, bne_iff_ne, bne_eq_false_iff_eq, gt_iff_lt, ge_iff_le, ne_eq] at hc
    rename_i hx
    rw [Int.toNat_natCast] at hx
    omega
  · rename_i hx
    obtain ⟨f1, f2⟩ := fin (by rw [Int.toNat_natCast] at hx; omega)
    subst f1; subst f2
    rw [← unzig_bits hU2]
    exact ⟨.inr rfl, _, _, ⟨rfl, rfl⟩, rfl, Nat.le_refl _, rfl, rfl, rfl⟩
  · omega
set_option maxHeartbeats 1600000 in
set_option maxRecDepth 20000 in
theorem next_D (out : List Int) (e : Int) (b : Bs) (hb : b.length ≤ 9223372036854775807) (hrd : Jo.rd b = none) :
    TDies Try.prog 69 [.ptr 2 0] (getS out e b) brk (fun s => s = getS out e b) := by
  refine TDies.body Try.func69 rfl rfl Try.ntmps69 rfl ?_
  repeat' (first
    | refine AOps.q rfl rfl rfl (fun hg => by first | exact std0 | exact std1) (by exact rfl) ?_
    | refine AWP.seq ?_
    | refine AWP.regionK (fun K' hK => ?_)
    | (refine AOps.nil (hK _ _ ?_); clear hK K')
    | refine AOps.e (EStep.boxW rfl rfl rfl rfl rfl True.intro rfl rfl ?_)
    | refine AOps.e (EStep.storeW tabOk rfl rfl rfl True.intro rfl rfl True.intro rfl rfl rfl rfl rfl rfl rfl ?_)
    | refine AOps.e (EStep.allocW tabOk rfl rfl rfl rfl rfl rfl ?_)
    | (refine AWP.condW rfl True.intro (fun hc => ?_) (fun hc => ?_) <;> (first | (simp only [decide_eq_true_eq] at hc) | (simp only [decide_eq_false_iff_not, Int.not_lt, Int.not_le] at hc) | skip))
    | refine AWP.block ?_
    | refine AWP.exit ?_
    | refine AWP.skip ?_
    | refine AWP.ret ?_
    | refine AWP.drawK2 (by decide +kernel) (by kernel_rfl) (by decide +kernel) rfl (fun K' hK => ?_)
    | refine AWP.drawL2 (by kernel_rfl) (by decide +kernel) rfl (fun K' hK => ?_)
    | (refine AQ.nil (hK _ ?_); clear hK K')
    | refine AQ.nil ?_
    | refine AQ.q rfl rfl (fun hg => by first | exact std0 | exact std1) (by exact rfl) ?_)
  refine AWP.loopW (ι := Nat × Nat) (fun i => [(0, .ptr 2 0), (9, .sl 1 (b.map by8) .no), (10, .int b.length), (11, .int i.1), (3, .prim (.int .u64 (i.2 : Nat)))]) (fun _ => getS out e b) (fun i => i.1 ≤ b.length ∧ i.1 ≤ 9 ∧ i.2 < 128 ^ i.1 ∧ rdL b 0 0 = rdL (b.drop i.1) i.1 i.2) (fun i => 10 - i.1) (0, 0) ⟨Nat.zero_le _, by decide, by decide, rfl⟩ ⟨rfl, rfl, rfl, rfl, rfl, True.intro⟩ rfl ?_
  rintro ⟨k, u⟩ ⟨g1, hk9, hu, g4⟩
  dsimp only at g1 hk9 hu g4 ⊢
  have hno : rdL b 0 0 = none := by
    unfold Jo.rd at hrd
    cases h : rdL b 0 0 with
    | none => rfl
    | some x => rw [h] at hrd; simp at hrd
  by_cases hbad : k = 9 ∧ 1 < (b.getD k default).toNat
  · clear g4 hno hrd hu
    repeat' (first
      | refine AWP.regionPan rfl rfl (fun K' hK => ?_)
      | refine AOps.q rfl rfl rfl (fun hg => by first | exact std0 | exact PRun.sliceLoM tabOk rfl rfl nd rfl nd rfl (by omega) | exact PRun.sliceHiM tabOk rfl rfl nd rfl nd rfl (by omega) | exact PRun.sliceM tabOk rfl rfl nd rfl nd rfl nd rfl (by omega) | exact PRun.buildZ (by exact ⟨rfl, rfl⟩) rfl | exact PRun.ifaceW (by kernel_rfl) rfl rfl nd rfl | exact std1) (by exact rfl) ?_
      | refine AWP.seq ?_
      | refine AWP.regionK (fun K' hK => ?_)
      | (refine AOps.nil (hK _ _ ?_); clear hK K')
      | refine AOps.e (EStep.boxW rfl rfl rfl rfl rfl True.intro rfl rfl ?_)
      | refine AOps.e (EStep.storeW tabOk rfl rfl rfl True.intro rfl rfl True.intro rfl rfl rfl rfl rfl rfl rfl ?_)
      | refine AOps.e (EStep.allocW tabOk rfl rfl rfl rfl rfl rfl ?_)
      | refine DStep.panic rfl rfl rfl True.intro ?_
      | (refine AWP.condW rfl True.intro (fun hc => ?_) (fun hc => ?_) <;> (first | (simp only [decide_eq_true_eq] at hc) | (simp only [decide_eq_false_iff_not, Int.not_lt, Int.not_le] at hc) | skip))
      | refine AWP.block ?_
      | refine AWP.exit ?_
      | refine AWP.skip ?_
      | refine AWP.ret ?_
      | refine AWP.drawK2 (by decide +kernel) (by kernel_rfl) (by decide +kernel) rfl (fun K' hK => ?_)
      | refine AWP.drawL2 (by kernel_rfl) (by decide +kernel) rfl (fun K' hK => ?_)
      | (refine AQ.nil (hK _ ?_); clear hK K')
      | refine AQ.nil ?_
      | refine AQ.q rfl rfl (fun hg => by first | exact std0 | exact PRun.sliceLoM tabOk rfl rfl nd rfl nd rfl (by omega) | exact PRun.sliceHiM tabOk rfl rfl nd rfl nd rfl (by omega) | exact PRun.sliceM tabOk rfl rfl nd rfl nd rfl nd rfl (by omega) | exact PRun.buildZ (by exact ⟨rfl, rfl⟩) rfl | exact PRun.ifaceW (by kernel_rfl) rfl rfl nd rfl | exact std1) (by exact rfl) ?_)
    · exact ⟨rfl, _, rfl, rfl, Nat.le_refl _, rfl⟩
    · exfalso
      simp only [Int.toNat_natCast, Bool.or_eq_true, Bool.and_eq_true, Bool.or_eq_false_iff, Bool.and_eq_false_iff, decide_eq_true_eq, decide_eq_false_iff_not, Bool.not_eq_true', Bool.not_eq_false', beq_iff_eq, beq_eq_false_iff_ne, bne_iff_ne, bne_eq_false_iff_eq, gt_iff_lt, ge_iff_le, ne_eq] at hc
      omega
    · exact ⟨rfl, _, rfl, rfl, Nat.le_refl _, rfl⟩
  have hor := or_step (c := (b.getD k default).toNat) hk9 hu (and127 _) (rfl : 7 * (k : Int) = 7 * (k : Int)) (acc64 hk9 (by omega))
  obtain ⟨U, hU⟩ : ∃ U, U = u + (b.getD k default).toNat % 128 * 128 ^ k := ⟨_, rfl⟩
  have hU1 : U < 128 ^ (k + 1) := by rw [hU]; exact acc_lt hu
  rw [← hU] at hor
  have step : k < b.length → ¬ (k = 9 ∧ 1 < (b.getD k default).toNat) → 127 < (b.getD k default).toNat → rdL b 0 0 = rdL (b.drop (k + 1)) (k + 1) U := fun hlt h9 h => by
    rw [drop_c hlt] at g4
    rw [hU]; exact g4.trans (rdL_step hk9 h9 h)
  have fin : k < b.length → ¬ (k = 9 ∧ 1 < (b.getD k default).toNat) → ¬ 127 < (b.getD k default).toNat → ¬ ((b.getD k default).toNat = 0 ∧ 0 < k) → False := fun hlt h9 h h' => by
    rw [drop_c hlt] at g4
    have h2 := g4.trans (rdL_stop hk9 h9 h h')
    rw [hno] at h2; exact absurd h2 (by simp)
  have hU2 : U < 18446744073709551616 := by rw [hU]; exact acc64' hk9 hu (by omega)
  have hl1 := low1 hU2
  clear hU hu g4 hno hrd
  repeat' (first
    | refine AWP.regionPan rfl rfl (fun K' hK => ?_)
    | refine AOps.q rfl rfl rfl (fun hg => by first | exact std0 | exact PRun.bitsV hor rfl rfl nd rfl nd rfl | exact PRun.bitsW rfl rfl nd rfl nd rfl | exact PRun.shlW rfl rfl nd rfl nd (by omega) | exact PRun.shrW rfl rfl nd rfl nd (by omega) | exact PRun.sliceLoM tabOk rfl rfl nd rfl nd rfl (by omega) | exact PRun.sliceHiM tabOk rfl rfl nd rfl nd rfl (by omega) | exact PRun.sliceM tabOk rfl rfl nd rfl nd rfl nd rfl (by omega) | exact PRun.buildZ (by exact ⟨rfl, rfl⟩) rfl | exact PRun.ifaceW (by kernel_rfl) rfl rfl nd rfl | exact std1) (by exact rfl) ?_
    | refine AWP.seq ?_
    | refine AWP.regionK (fun K' hK => ?_)
    | (refine AOps.nil (hK _ _ ?_); clear hK K')
    | refine AOps.e (EStep.boxW rfl rfl rfl rfl rfl True.intro rfl rfl ?_)
    | refine AOps.e (EStep.storeW tabOk rfl rfl rfl True.intro rfl rfl True.intro rfl rfl rfl rfl rfl rfl rfl ?_)
    | refine AOps.e (EStep.allocW tabOk rfl rfl rfl rfl rfl rfl ?_)
    | refine DStep.panic rfl rfl rfl True.intro ?_
    | (refine AWP.condW rfl True.intro (fun hc => ?_) (fun hc => ?_) <;> (first | (simp only [decide_eq_true_eq] at hc) | (simp only [decide_eq_false_iff_not, Int.not_lt, Int.not_le] at hc) | skip))
    | refine AWP.block ?_
    | refine AWP.exit ?_
    | refine AWP.skip ?_
    | refine AWP.ret ?_
    | refine AWP.drawK2 (by decide +kernel) (by kernel_rfl) (by decide +kernel) rfl (fun K' hK => ?_)
    | refine AWP.drawL2 (by kernel_rfl) (by decide +kernel) rfl (fun K' hK => ?_)
    | (refine AQ.nil (hK _ ?_); clear hK K')
    | refine AQ.nil ?_
    | refine AQ.q rfl rfl (fun hg => by first | exact std0 | exact PRun.bitsV hor rfl rfl nd rfl nd rfl | exact PRun.bitsW rfl rfl nd rfl nd rfl | exact PRun.shlW rfl rfl nd rfl nd (by omega) | exact PRun.shrW rfl rfl nd rfl nd (by omega) | exact PRun.sliceLoM tabOk rfl rfl nd rfl nd rfl (by omega) | exact PRun.sliceHiM tabOk rfl rfl nd rfl nd rfl (by omega) | exact PRun.sliceM tabOk rfl rfl nd rfl nd rfl nd rfl (by omega) | exact PRun.buildZ (by exact ⟨rfl, rfl⟩) rfl | exact PRun.ifaceW (by kernel_rfl) rfl rfl nd rfl | exact std1) (by exact rfl) ?_)
  · exact ⟨rfl, _, rfl, rfl, Nat.le_refl _, rfl⟩
  · have hc' : 127 < (b.getD k default).toNat := by
      rw [Int.toNat_natCast] at hc; omega
    rename_i h1 h2
    simp only [Int.toNat_natCast, Bool.or_eq_true, Bool.and_eq_true, Bool.or_eq_false_iff, Bool.and_eq_false_iff, decide_eq_true_eq, decide_eq_false_iff_not, Bool.not_eq_true', Bool.not_eq_false', beq_iff_eq, beq_eq_false_iff_ne, bne_iff_ne, bne_eq_false_iff_eq, gt_iff_lt, ge_iff_le, ne_eq] at h2
    exact ⟨(k + 1, U), ⟨by dsimp only; omega, by dsimp only; omega, hU1, step (by omega) (by omega) hc'⟩, by dsimp only; omega, ⟨rfl, rfl, rfl, rfl, rfl, True.intro⟩, rfl⟩
  · exact ⟨rfl, _, rfl, rfl, Nat.le_refl _, rfl⟩
  · exfalso
    rename_i h1 h2 h3
    simp only [Int.toNat_natCast, Bool.or_eq_true, Bool.and_eq_true, Bool.or_eq_false_iff, Bool.and_eq_false_iff, decide_eq_true_eq, decide_eq_false_iff_not, Bool.not_eq_true', Bool.not_eq_false', beq_iff_eq, beq_eq_false_iff_ne, bne_iff_ne, bne_eq_false_iff_eq, gt_iff_lt, ge_iff_le, ne_eq] at h2 hc
    rw [Int.toNat_natCast] at h3
    exact fin (by omega) (by omega) (by omega) (by omega)
  · exact ⟨rfl, _, rfl, rfl, Nat.le_refl _, rfl⟩
end Go.Proofs.Ytpkolkfglgalpaa
