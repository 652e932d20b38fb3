/- Contracts by content: the program's codec: integers as bytes.  Contracts by content: the codec of the reference: whole frames.  An array variable is cut into a slice, and changes no more. The program's frames.  Contracts by content: the program's codec: whole frames.  Contracts by content: all whole frames: the reference, the program.  Contracts by content: events as integers: the reference.  Contracts by content: events out of integers: the reference.  Contracts by content: the journal of the reference: one event more, all events. No statement is proved here. -/
import Derived.Lib.Zigzag
import Derived.Test.YtbneeinknlddaaaGreatQ4
import Derived.Test.YtbneeinknlddaaaGreatQ6
import Derived.Test.YtbneeinknlddaaaGreatQ8
import Derived.Test.YtbneeinknlddaaaGreatQ13
import Derived.Test.YtbneeinknlddaaaGreatQ14
set_option linter.unusedVariables false
set_option linter.unusedSimpArgs false
namespace Go.Proofs.YtbneeinknlddaaaGreat
open Go.Ab Go.Jo
attribute [local irreducible] AWP AOps EStep AQ PStep PRun PCall TCall VCall DStep TDies AWD DCall
theorem zig_bits {n : Int} (hn : InI n) : bits .xor .u64 (IntKind.u64.wrap (IntKind.u64.wrap n * 2 ^ (Min.min (1 : Int).toNat IntKind.u64.bits))) (IntKind.u64.wrap (n.fdiv (2 ^ (Min.min (63 : Int).toNat IntKind.i64.bits)))) = ((zig n : Nat) : Int) := by
 have h1 := hn.1
 have h2 := hn.2
 have e1 : (2 : Int) ^ (Min.min (1 : Int).toNat IntKind.u64.bits) = 2 := by decide
 have e2 : (2 : Int) ^ (Min.min (63 : Int).toNat IntKind.i64.bits) = 9223372036854775808 := by decide
 rw [e1, e2, zBu _ (by decide)]
 have hz := zig_lt hn
 by_cases h : 0 ≤ n
 · have a1 : IntKind.u64.wrap (IntKind.u64.wrap n * 2) = ((zig n : Nat) : Int) := by
    rw [IntKind.wrap_u64, IntKind.wrap_u64]; unfold zig; rw [if_pos h]; omega
   have a2 : IntKind.u64.wrap (n / 9223372036854775808) = ((0 : Nat) : Int) := by
    rw [IntKind.wrap_u64]; omega
   rw [a1, a2, bits_xor_u64_nat _ _ hz (by decide), Nat.xor_zero]
 · have a1 : IntKind.u64.wrap (IntKind.u64.wrap n * 2) = (((2 * n + 18446744073709551616).toNat : Nat) : Int) := by
    rw [IntKind.wrap_u64, IntKind.wrap_u64]; omega
   have a2 : IntKind.u64.wrap (n / 9223372036854775808) = ((18446744073709551615 : Nat) : Int) := by
    rw [IntKind.wrap_u64]; omega
   rw [a1, a2, bits_xor_u64_nat _ _ (by omega) (by decide), Nat.xor_comm, show (18446744073709551615 : Nat) = 2 ^ 64 - 1 from by decide, Lib.xor_ones64 _ (by omega)]
   unfold zig; rw [if_neg h]; omega
theorem number_spec (n : Int) (hn : InI n) : PCall Tryz.prog 138 [.int n] (.prim (.int .u64 (zig n : Nat))) := by
 refine PCall.body Tryz.func138 rfl rfl Tryz.ntmps138 rfl rfl ?_
 repeat' (first | refine aoQ rfl rfl rfl (fun hg => by first | exact std0 | exact PRun.bitsW rfl rfl nd rfl nd rfl | exact PRun.shlW rfl rfl nd rfl nd (by omega) | exact PRun.shrW rfl rfl nd rfl nd (by omega)) (by exact rfl) ?_ | refine sqW ?_ | refine rgK (fun K' hK => ?_) | (refine aoN (hK _ _ ?_); clear hK K') | refine rtW ?_)
 refine ⟨.inr rfl, Ent.of ?_⟩
 show AV.prim (.int .u64 _) = _
 rw [zig_bits hn]
theorem or128k : ∀ c : Fin 256, bits .or .u8 ((c.val : Nat) : Int) 128 = ((c.val % 128 + 128 : Nat) : Int) := by decide +kernel
theorem or128 (u : Nat) : bits .or .u8 (IntKind.u8.wrap (u : Int)) 128 = ((UInt8.ofNat (u % 128 + 128)).toNat : Int) := by
 have h := or128k ⟨u % 256, by omega⟩
 have e : IntKind.u8.wrap (u : Int) = ((u % 256 : Nat) : Int) := by rw [wrap8]; omega
 rw [e, ofNat_toNat8]
 refine h.trans ?_
 simp only
 omega
theorem shr7 (u : Nat) : (u : Int).fdiv (2 ^ (Min.min (7 : Int).toNat IntKind.u64.bits)) = ((u / 128 : Nat) : Int) := by
 have e2 : (2 : Int) ^ (Min.min (7 : Int).toNat IntKind.u64.bits) = 128 := by decide
 rw [e2, zBu _ (by decide)]; omega
theorem put_T (n : Int) (hn : InI n) (out : Bs) (ho : out.length ≤ 1000000) : TCall Tryz.prog 127 [.sl 1 (out.map by8) (.own 0), .int n] [.own 1 (out.map by8).length] (fun r s => r = .sl 1 ((out ++ num n).map by8) (.own 0) ∧ s = [.own 1 ((out ++ num n).map by8).length]) := by
 have hz := zig_lt hn
 have hv := number_spec n hn
 refine TCall.body Tryz.func127 rfl rfl Tryz.ntmps127 rfl rfl ?_
 repeat' (first | refine aoQ rfl rfl rfl (fun hg => by first | exact std0 | exact pcW (hv) rfl rfl nd rfl nds) (by exact rfl) ?_ | refine sqW ?_ | refine rgK (fun K' hK => ?_) | (refine aoN (hK _ _ ?_); clear hK K') | refine blK ?_)
 refine lpW (ι := Nat × Bs × Nat) (fun i => [(0, .sl 1 (i.2.1.map by8) (.own 0)), (5, .prim (.int .u64 (i.1 : Nat)))]) (fun i => [.own 1 (i.2.1.map by8).length]) (fun i => i.2.1 ++ lebF (i.2.2 + 1) i.1 = out ++ num n ∧ i.1 < 128 ^ (i.2.2 + 1) ∧ i.2.1.length + i.2.2 = out.length + 9) (fun i => i.2.2) (zig n, out, 9) ⟨rfl, by simp only; omega, rfl⟩ ⟨rfl, rfl, tI⟩ rfl ?_
 rintro ⟨u, out', f⟩ ⟨g1, g2, g3⟩
 dsimp only at g1 g2 g3 ⊢
 by_cases hu : 127 < u
 · repeat' (first | refine aoQ rfl rfl rfl (fun hg => by first | exact std0 | exact PRun.bitsW rfl rfl nd rfl nd rfl | exact PRun.shrW rfl rfl nd rfl nd (by omega) | exact pbS tabOk rfl rfl nds) (by exact rfl) ?_ | refine sqW ?_ | refine rgK (fun K' hK => ?_) | (refine aoN (hK _ _ ?_); clear hK K') | refine aoE (apO tabOk rfl rfl rfl (by decide) (Rd.w rfl tI) rfl (Rd.w rfl tI) (.sl rfl (by first | (intro x hx; rcases zAa.1 hx with rfl; rfl) | exact one_by8 _ | exact one_ints _)) (LOk.of (tabOk.get rfl)) (LOk.of (tabOk.get rfl)) rfl rfl (by simp only [lLm, lLa, zA1, zA9]; omega) (by simp only [lLm, lLa, zA1, zA9]; omega) ?_) | refine cdN rfl tI (fun hc => ?_) (fun hc => ?_) | refine blK ?_ | refine exW ?_ | refine skW ?_ | refine rtW ?_)
   · cases f with
     | zero => exfalso; simp at g2; omega
     | succ f' =>
       refine ⟨(u / 128, out' ++ [UInt8.ofNat (u % 128 + 128)], f'), ⟨by rw [← g1, lebF_step (u := u) (by omega)]; simp, div_pow g2, by simp; omega⟩, by simp, ⟨snoc8 (or128 u), ?_, tI⟩, (by show [AObj.own 1 (out'.map by8 ++ [_]).length] = [AObj.own 1 ((out' ++ [UInt8.ofNat (u % 128 + 128)]).map by8).length]; simp)⟩
       show AV.prim (.int .u64 _) = _
       rw [shr7]
   · (exfalso; first | omega | (simp at hc; done) | (simp only [zAh, zAx, zA2, zAo, zAs, dEt, dEf, zAz, zAv, beq_iff_eq, beq_eq_false_iff_ne, bne_iff_ne, bne_eq_false_iff_eq, gt_iff_lt, ge_iff_le, ne_eq] at hc; omega))
 · repeat' (first | refine aoQ rfl rfl rfl (fun hg => by first | exact std0 | exact PRun.bitsW rfl rfl nd rfl nd rfl | exact PRun.shrW rfl rfl nd rfl nd (by omega) | exact pbS tabOk rfl rfl nds) (by exact rfl) ?_ | refine sqW ?_ | refine rgK (fun K' hK => ?_) | (refine aoN (hK _ _ ?_); clear hK K') | refine aoE (apO tabOk rfl rfl rfl (by decide) (Rd.w rfl tI) rfl (Rd.w rfl tI) (.sl rfl (by first | (intro x hx; rcases zAa.1 hx with rfl; rfl) | exact one_by8 _ | exact one_ints _)) (LOk.of (tabOk.get rfl)) (LOk.of (tabOk.get rfl)) rfl rfl (by simp only [lLm, lLa, zA1, zA9]; omega) (by simp only [lLm, lLa, zA1, zA9]; omega) ?_) | refine cdN rfl tI (fun hc => ?_) (fun hc => ?_) | refine blK ?_ | refine exW ?_ | refine skW ?_ | refine rtW ?_)
   · exfalso; omega
   · have e : out ++ num n = out' ++ [UInt8.ofNat u] := by rw [← g1, lebF_last (by omega)]
     exact ⟨.inr rfl, _, [.own 1 ((out ++ num n).map by8).length], ⟨(snoc8 (t := .own 0) (w_last u)).trans (by rw [e]), rfl⟩, (by rw [e]; show [AObj.own 1 (out'.map by8 ++ [_]).length] = [AObj.own 1 ((out' ++ [UInt8.ofNat u]).map by8).length]; simp), nLr _, rfl, rfl, rfl⟩
theorem put_nil (n : Int) (hn : InI n) : TCall Tryz.prog 127 [.nils, .int n] [] (fun r s => r = .sl 1 ((num n).map by8) (.own 0) ∧ s = [.own 1 ((num n).map by8).length]) := by
 have hz := zig_lt hn
 have hv := number_spec n hn
 refine TCall.body Tryz.func127 rfl rfl Tryz.ntmps127 rfl rfl ?_
 refine AWP.ownNil (d := 0) (sz := 1) rfl ?_
 repeat' (first | refine aoQ rfl rfl rfl (fun hg => by first | exact std0 | exact pcW (hv) rfl rfl nd rfl nds) (by exact rfl) ?_ | refine sqW ?_ | refine rgK (fun K' hK => ?_) | (refine aoN (hK _ _ ?_); clear hK K') | refine blK ?_)
 refine lpW (ι := Nat × Bs × Nat) (fun i => [(0, .sl 1 (i.2.1.map by8) (.own 0)), (5, .prim (.int .u64 (i.1 : Nat)))]) (fun i => [.own 1 (i.2.1.map by8).length]) (fun i => i.2.1 ++ lebF (i.2.2 + 1) i.1 = num n ∧ i.1 < 128 ^ (i.2.2 + 1) ∧ i.2.1.length + i.2.2 = 9) (fun i => i.2.2) (zig n, [], 9) ⟨rfl, by simp only; omega, rfl⟩ ⟨rfl, rfl, tI⟩ rfl ?_
 rintro ⟨u, out', f⟩ ⟨g1, g2, g3⟩
 dsimp only at g1 g2 g3 ⊢
 by_cases hu : 127 < u
 · repeat' (first | refine aoQ rfl rfl rfl (fun hg => by first | exact std0 | exact PRun.bitsW rfl rfl nd rfl nd rfl | exact PRun.shrW rfl rfl nd rfl nd (by omega) | exact pbS tabOk rfl rfl nds) (by exact rfl) ?_ | refine sqW ?_ | refine rgK (fun K' hK => ?_) | (refine aoN (hK _ _ ?_); clear hK K') | refine aoE (apO tabOk rfl rfl rfl (by decide) (Rd.w rfl tI) rfl (Rd.w rfl tI) (.sl rfl (by first | (intro x hx; rcases zAa.1 hx with rfl; rfl) | exact one_by8 _ | exact one_ints _)) (LOk.of (tabOk.get rfl)) (LOk.of (tabOk.get rfl)) rfl rfl (by simp only [lLm, lLa, zA1, zA9]; omega) (by simp only [lLm, lLa, zA1, zA9]; omega) ?_) | refine cdN rfl tI (fun hc => ?_) (fun hc => ?_) | refine blK ?_ | refine exW ?_ | refine skW ?_ | refine rtW ?_)
   · cases f with
     | zero => exfalso; simp at g2; omega
     | succ f' =>
       refine ⟨(u / 128, out' ++ [UInt8.ofNat (u % 128 + 128)], f'), ⟨by rw [← g1, lebF_step (u := u) (by omega)]; simp, div_pow g2, by simp; omega⟩, by simp, ⟨snoc8 (or128 u), ?_, tI⟩, (by show [AObj.own 1 (out'.map by8 ++ [_]).length] = [AObj.own 1 ((out' ++ [UInt8.ofNat (u % 128 + 128)]).map by8).length]; simp)⟩
       show AV.prim (.int .u64 _) = _
       rw [shr7]
   · (exfalso; first | omega | (simp at hc; done) | (simp only [zAh, zAx, zA2, zAo, zAs, dEt, dEf, zAz, zAv, beq_iff_eq, beq_eq_false_iff_ne, bne_iff_ne, bne_eq_false_iff_eq, gt_iff_lt, ge_iff_le, ne_eq] at hc; omega))
 · repeat' (first | refine aoQ rfl rfl rfl (fun hg => by first | exact std0 | exact PRun.bitsW rfl rfl nd rfl nd rfl | exact PRun.shrW rfl rfl nd rfl nd (by omega) | exact pbS tabOk rfl rfl nds) (by exact rfl) ?_ | refine sqW ?_ | refine rgK (fun K' hK => ?_) | (refine aoN (hK _ _ ?_); clear hK K') | refine aoE (apO tabOk rfl rfl rfl (by decide) (Rd.w rfl tI) rfl (Rd.w rfl tI) (.sl rfl (by first | (intro x hx; rcases zAa.1 hx with rfl; rfl) | exact one_by8 _ | exact one_ints _)) (LOk.of (tabOk.get rfl)) (LOk.of (tabOk.get rfl)) rfl rfl (by simp only [lLm, lLa, zA1, zA9]; omega) (by simp only [lLm, lLa, zA1, zA9]; omega) ?_) | refine cdN rfl tI (fun hc => ?_) (fun hc => ?_) | refine blK ?_ | refine exW ?_ | refine skW ?_ | refine rtW ?_)
   · exfalso; omega
   · have e : num n = out' ++ [UInt8.ofNat u] := by rw [← g1, lebF_last (by omega)]
     exact ⟨.inr rfl, _, [.own 1 ((num n).map by8).length], ⟨(snoc8 (t := .own 0) (w_last u)).trans (by rw [e]), rfl⟩, (by rw [e]; show [AObj.own 1 (out'.map by8 ++ [_]).length] = [AObj.own 1 ((out' ++ [UInt8.ofNat u]).map by8).length]; simp), nZl _, rfl, rfl, rfl⟩
theorem put_spec (l : List Int) (hi : ∀ n ∈ l, InI n) (hl : l.length ≤ 9223372036854775807) : PCall Tryz.prog 96 [.sl 1 (l.map encN) .no] (.tup [.sl 1 ((putR l).1.map by8) .no, .int (putR l).2]) := by
 have hv := TCall.val (first := []) (caps := []) (avs := [.nils, .int l.length]) (put_nil l.length ⟨by omega, by omega⟩)
 refine PCall.body Tryz.func96 rfl rfl Tryz.ntmps96 rfl rfl ?_
 repeat' (first | refine aoQ rfl rfl rfl (fun hg => by first | exact std0 | exact std1) (by exact rfl) ?_ | refine sqW ?_ | refine rgK (fun K' hK => ?_) | (refine aoN (hK _ _ ?_); clear hK K') | refine aoE (scT (hv) rfl rfl rfl rfl rfl nd rfl rfl nds ?_) | refine cdN rfl tI (fun hc => ?_) (fun hc => ?_) | refine skW ?_ | refine rtW ?_)
 · refine ⟨.inr rfl, ?_⟩
   rw [show putR l = ([], 2) from if_neg (by omega)]
   exact Ent.tup2 Ent.nil (Ent.rfl' _)
 rintro _ _ ⟨rfl, rfl⟩
 have hl4 : l.length ≤ 4000 := by omega
 repeat' (first | refine aoQ rfl rfl rfl (fun hg => by first | exact std0 | exact std1) (by exact rfl) ?_ | refine sqW ?_ | refine rgK (fun K' hK => ?_) | (refine aoN (hK _ _ ?_); clear hK K') | refine blK ?_)
 refine lpW (ι := Nat) (fun k => [(13, .sl 1 (l.map encN) .no), (14, .int l.length), (15, .int k), (4, .sl 1 ((num l.length ++ (l.take k).flatMap num).map by8) (.own 0))]) (fun k => [.own 1 ((num l.length ++ (l.take k).flatMap num).map by8).length]) (fun k => k ≤ l.length) (fun k => l.length - k) 0 (nZl _) ⟨rfl, rfl, rfl, (by show AV.sl 1 ((num l.length).map by8) _ = _; simp), tI⟩ (by show [AObj.own 1 ((num l.length).map by8).length] = _; simp) ?_
 intro k hk
 have hb := flat_len (l.take k)
 have hb2 := num_len l.length
 have hb3 : (l.take k).length ≤ 4000 := by simp; omega
 by_cases hlt : k < l.length
 · have hp := TCall.val (first := []) (caps := []) (avs := [.sl 1 ((num l.length ++ (l.take k).flatMap num).map by8) (.own 0), .int (l.getD k default)]) (put_T (l.getD k default) (hi _ (getD_mem hlt)) (num l.length ++ (l.take k).flatMap num) (by rw [lLa]; omega))
   repeat' (first | refine aoQ rfl rfl rfl (fun hg => by first | exact std0 | exact std1) (by exact rfl) ?_ | refine sqW ?_ | refine rgK (fun K' hK => ?_) | (refine aoN (hK _ _ ?_); clear hK K') | refine aoE (scT (hp) rfl rfl rfl rfl rfl nd rfl rfl nds ?_) | refine cdN rfl tI (fun hc => ?_) (fun hc => ?_) | refine blK ?_ | refine exW ?_ | refine skW ?_ | refine rtW ?_)
   · rintro _ _ ⟨rfl, rfl⟩
     repeat' (first | refine aoQ rfl rfl rfl (fun hg => by exact std0) (by exact rfl) ?_ | refine rgK (fun K' hK => ?_) | (refine aoN (hK _ _ ?_); clear hK K'))
     have e : num l.length ++ (l.take (k + 1)).flatMap num = (num l.length ++ (l.take k).flatMap num) ++ num (l.getD k default) := by rw [take_flat hlt, zBf]
     exact ⟨k + 1, by omega, by omega, ⟨rfl, rfl, rfl, by rw [e]; rfl, tI⟩, by rw [e]⟩
   · exfalso; omega
 · repeat' (first | refine aoQ rfl rfl rfl (fun hg => by first | exact std0 | exact std1) (by exact rfl) ?_ | refine sqW ?_ | refine rgK (fun K' hK => ?_) | (refine aoN (hK _ _ ?_); clear hK K') | refine cdN rfl tI (fun hc => ?_) (fun hc => ?_) | refine blK ?_ | refine exW ?_ | refine skW ?_ | refine rtW ?_)
   · exfalso; omega
   · refine ⟨.inr rfl, Ent.of ?_⟩
     have htk : l.take k = l := zBd (by omega)
     rw [show putR l = (putL l, 0) from if_pos hl4, htk]; rfl
theorem cv8 (c : UInt8) : IntKind.i64.wrap (c.toNat : Int) = (c.toNat : Int) := by
 have := c.toNat_lt
 exact wrap64_in (by omega)
def wholeR (b : Bs) : List Int × Int := match whole b with
 | some p => (p.1, p.2)
 | none => ([], 0)
theorem wholeR_len {b : Bs} (h : b.length < n3 b + 11 ∨ b.length < 11) : wholeR b = ([], 0) := by
 unfold wholeR whole
 by_cases h11 : b.length < 11
 · rw [if_pos h11]
 · rw [if_neg h11, if_pos (by omega)]
theorem wholeR_sum {b : Bs} (h1 : 11 ≤ b.length) (h2 : n3 b + 11 ≤ b.length) (h : sumB (b.take (n3 b + 3)) ≠ (b.drop (n3 b + 3)).take 8) : wholeR b = ([], 0) := by
 unfold wholeR whole
 rw [if_neg (by omega), if_neg (by omega), if_neg h]
theorem wholeR_get {b : Bs} (h1 : 11 ≤ b.length) (h2 : n3 b + 11 ≤ b.length) (h : sumB (b.take (n3 b + 3)) = (b.drop (n3 b + 3)).take 8) : wholeR b = match getL ((b.take (n3 b + 3)).drop 3) with | some l => (l, ((n3 b + 11 : Nat) : Int)) | none => ([], 0) := by
 unfold wholeR whole
 rw [if_neg (by omega), if_neg (by omega), if_pos h]
 cases getL ((b.take (n3 b + 3)).drop 3) <;> rfl
theorem n3_int (b : Bs) : ((b.getD (0 : Int).toNat default).toNat : Int) * 65536 + ((b.getD (1 : Int).toNat default).toNat : Int) * 256 + ((b.getD (2 : Int).toNat default).toNat : Int) = (n3 b : Nat) := by
 show _ = (((b.getD 0 0).toNat * 65536 + (b.getD 1 0).toNat * 256 + (b.getD 2 0).toNat : Nat) : Int)
 rw [Int.natCast_add, Int.natCast_add, Int.natCast_mul, Int.natCast_mul]; rfl
end Go.Proofs.YtbneeinknlddaaaGreat
namespace Go.Ab
def isPrim : AV → Bool
 | .prim _ => true
 | _ => false
theorem purePrim {cs : List AV} (h : cs.all isPrim = true) : ∀ c ∈ cs, ∀ M B x, VRel M B c x → VRel M [] c x := fun c hc M B x hx => by
 have h1 := zAb.1 h c hc
 cases c <;> simp [isPrim] at h1
 rw [VRel.prim_eq hx]; exact .prim _
theorem one_cell {es : List (List AV)} (h : es.all (fun x => x.all oneAV) = true) : ∀ x ∈ es, x.all oneAV = true := fun x hx => zAb.1 h x hx
section
variable {P : Program} {n : Nat} {ops : Array Oper} {o : Oper} {env : Env} {σ : Store} {T : Tab} {k : Env → Store → Prop}
theorem EStep.sliceV (hT : T.Ok P) {t e : TypeId} {x : Operand} {l m s2 b2 d : Nat} {z2 : List Z} {cs : List AV} {le : LI} (ho : o.op = .slice t x none none none) (hg : o.guard = none) (hd : o.dst = some d) (hdn : decide (d < n) = true) (hx : rdv env x = some (.ptr l 0)) (nx : rdn env x)
 (hσ : σ[l]? = some (.var cs)) (ha : T.get t = some ⟨.arr m e, s2, b2, z2⟩) (he : T.get e = some le) (h1 : le.size = 1) (hm : cs.length = m) (h0 : 0 < m) (hpure : ∀ c ∈ cs, ∀ M B x, VRel M B c x → VRel M [] c x)
 (hk : k (env.put d (.sl 1 (cs.map fun c => [c]) .no)) (σ.set l .dead)) : EStep P n ops o k env σ := by
 refine EStep.plain hg fun G A w hr => ?_
 have hX := hr.rd (Rd.w hx nx)
 generalize hA : A.eval x = v at hX
 cases hX with
 | ptr _ _ b hB =>
   have hobj := hr.st.objs l _ _ hB hσ
   cases hobj with
   | var _ _ c T' fr hbb hf hl hrel hmm =>
     have hrun : (execOp A.eval o).run P w = .ok (.value (.slice (some ⟨b, 0, none⟩) m m)) w := by
      have hm0 : ¬ m = 0 := by omega
      simp [execOp, ho, hA, Instr.sliceAt, Instr.sureAddr, Instr.sliceBounds, (LOk.of (hT.get ha)).arr w, (LOk.of (hT.get he)).run_size w, hm0, Addr.add]
     unfold OWP
     rw [hrun]
     have hlt : l < σ.length := by
      rcases nLg l σ.length with h | h
      · exact h
      · simp [zA3 h] at hσ
     have hle := Mem.le_addBlk (M := G.M) (b := b) c hmm
     have hoth : ∀ b', b' ≠ b → (∀ o, (G.M.addBlk b c).cell b' o = G.M.cell b' o) ∧ (G.M.addBlk b c).map b' = G.M.map b' := fun b' hb' => ⟨fun o => by simp only [Mem.addBlk, if_neg hb'], rfl⟩
     have hown : ¬ G.w0.prot b ∧ ∀ (l' : Nat) (g : GB), G.B[l']? = some g → g.block = some b → l' = l :=
      ⟨(hr.st.fresh l _ b hB rfl).1, fun l' g h1 h2 => hr.st.inj l' l g _ b h1 hB h2 rfl⟩
     have hs : SRel { G with M := G.M.addBlk b c } (σ.set l .dead) w := by
      refine ⟨⟨fun b' o v hv => ?_, hr.st.memok.m, hr.st.memok.g.mono hle⟩, fun b' hb' => ?_, hr.st.base, by simp [hr.st.len], fun l' g' o' h1 h2 => ?_, hr.st.fresh, hr.st.inj, hr.st.out, ⟨fun p hp => ?_, hr.st.dfr.2⟩⟩
      · simp only [Mem.addBlk] at hv
        split at hv
        · rename_i e; subst e
          simp only [World.cell?, hbb]; exact hv
        · exact hr.st.memok.c _ _ _ hv
      · have := hoth b' fun eb => hown.1 (eb ▸ hb')
        have h0 := hr.st.m0 b' hb'
        exact ⟨fun o => (this.1 o).trans (h0.1 o), this.2.trans h0.2⟩
      · by_cases hll : l = l'
        · subst hll
          rw [zAp hlt] at h2
          simp at h2; subst h2; exact .dead _
        · rw [zAy hll] at h2
          refine (hr.st.objs l' g' o' h1 h2).grow hle (BLe.refl _) (fun _ _ => rfl) fun b' hb => hoth b' fun eb => ?_
          subst eb
          exact hll (hown.2 l' g' h1 hb).symm
      · obtain ⟨k1, k2, k3, k4, k5⟩ := hr.st.dfr.1 p hp
        have := hoth p.1 fun eb => k3 l _ hB (by rw [eb]; rfl)
        exact ⟨k1, k2, k3, fun o => (this.1 o).trans (k4 o), this.2.trans k5⟩
     refine ⟨_, _, { G with M := G.M.addBlk b c }, hk, .upM hle, ?_⟩
     rw [hd]
     have hr' : ARel n { G with M := G.M.addBlk b c } env (σ.set l .dead) A w := ⟨hr.size, hr.defers, fun i => (hr.vals i).mono hle (BLe.refl _), hs⟩
     refine hr'.put (of_decide_eq_true hdn) ?_
     have hlen : (cs.map fun c => [c]).length = m := by simp [hm]
     rw [← hlen]
     refine .sl 1 _ .no b 0 _ (fun i j => c.getD i undef) (fun e he => ?_) (fun i j hi hj => ?_) (fun i j e a' he ha' => ?_) (nLr _) trivial
     · simp only [lMm] at he
       obtain ⟨x, _, rfl⟩ := he; rfl
     · have hj0 : j = 0 := by omega
       subst hj0
       have h2 : i < c.size := by rw [hl]; simpa using hi
       simp only [Mem.addBlk, if_pos rfl, zBs, Nat.mul_one, zBk]
       simp [h2]
     · simp only [zAd, zA6] at he
       obtain ⟨y, hy, rfl⟩ := he
       match j, ha' with
       | 0, ha' =>
         simp at ha'; subst ha'
         exact (hpure y (zAm hy) _ _ _ ((hrel i y hy).mono hle (BLe.refl _))).mono (Mem.Le.refl _) (fun l g h => by simp at h)
       | j + 1, ha' => simp at ha'
end
end Go.Ab
namespace Go.Proofs.YtbneeinknlddaaaGreat
open Go.Ab Go.Jo
attribute [local irreducible] AWP AOps EStep AQ PStep PRun PCall TCall VCall DStep TDies AWD DCall
theorem head3w (n : Nat) (h : n < 16777216) (r : List (List AV)) : [[AV.prim (.int .u8 (IntKind.u8.wrap ((n : Int).fdiv (2 ^ (Min.min (16 : Int).toNat IntKind.i64.bits)))))], [AV.prim (.int .u8 (IntKind.u8.wrap ((n : Int).fdiv (2 ^ (Min.min (8 : Int).toNat IntKind.i64.bits)))))], [AV.prim (.int .u8 (IntKind.u8.wrap (n : Int)))]] ++ r = (be3 n).map by8 ++ r := by
 have e1 : (2 : Int) ^ (Min.min (16 : Int).toNat IntKind.i64.bits) = 65536 := by decide
 have e2 : (2 : Int) ^ (Min.min (8 : Int).toNat IntKind.i64.bits) = 256 := by decide
 have h1 : (n : Int).fdiv 65536 = ((n / 65536 : Nat) : Int) := by rw [zBu _ (by decide)]; omega
 have h2 : (n : Int).fdiv 256 = ((n / 256 : Nat) : Int) := by rw [zBu _ (by decide)]; omega
 rw [e1, e2, h1, h2, wrap8, wrap8, wrap8]
 simp only [be3, List.map_cons, List.map_nil, by8, ofNat_toNat8]
set_option maxHeartbeats 1600000 in
theorem frame_spec (l : List Int) (hi : ∀ n ∈ l, InI n) (hl : l.length ≤ 9223372036854775807) : PCall Tryz.prog 78 [.sl 1 (l.map encN) .no] (.tup [.sl 1 ((frameR l).1.map by8) .no, .int (frameR l).2]) := by
 have hv0 := put_spec l hi hl
 refine PCall.body Tryz.func78 rfl rfl Tryz.ntmps78 rfl rfl ?_
 by_cases h4 : l.length ≤ 4000
 · have hp := putL_len (l := l) h4
   have hh : (headed l).length = (putL l).length + 3 := by simp [headed, be3]
   have hb3 : (be3 (putL l).length).length = 3 := rfl
   rw [show putR l = (putL l, 0) from if_pos h4] at hv0
   dsimp only at hv0
   have hv1 := sum_spec (headed l) (by omega)
   have e : (headed l).map by8 = (be3 (putL l).length).map by8 ++ (putL l).map by8 := by unfold headed; rw [zB3]
   rw [e, ← head3w (putL l).length (by omega)] at hv1
   repeat' (first | refine aoQ rfl rfl rfl (fun hg => by first | exact std0 | exact pcW (hv0) rfl rfl nd rfl nds | exact PRun.bitsW rfl rfl nd rfl nd rfl | exact PRun.shlW rfl rfl nd rfl nd (by omega) | exact PRun.shrW rfl rfl nd rfl nd (by omega) | exact pbW (hv1) rfl rfl nd rfl rfl nds | exact std1) (by exact rfl) ?_ | refine sqW ?_ | refine rgK (fun K' hK => ?_) | (refine aoN (hK _ _ ?_); clear hK K') | refine aoE (bxW rfl rfl rfl rfl rfl tI rfl rfl ?_) | refine aoE (stW tabOk rfl rfl rfl tI rfl rfl tI rfl rfl rfl rfl rfl rfl rfl ?_) | refine aoE (alW tabOk rfl rfl rfl rfl rfl rfl ?_) | refine aoE (apO tabOk rfl rfl rfl (by decide) (Rd.w rfl tI) rfl (Rd.w rfl tI) (.sl rfl (by first | (intro x hx; rcases zAa.1 hx with rfl; rfl) | exact one_by8 _ | exact one_ints _)) (LOk.of (tabOk.get rfl)) (LOk.of (tabOk.get rfl)) rfl rfl (by simp only [lLm, lLa, zA1, zA9]; omega) (by simp only [lLm, lLa, zA1, zA9]; omega) ?_) | refine aoE (EStep.buildOwn tabOk rfl rfl rfl rfl rfl ⟨tI, tI, tI, tI⟩ (pure8 [_, _, _]) ?_) | refine aoE (EStep.sliceV tabOk rfl rfl rfl rfl rfl tI rfl rfl rfl rfl rfl (by decide) (purePrim rfl) ?_) | refine aoE (apO tabOk rfl rfl rfl (by decide) (Rd.w rfl tI) rfl (Rd.w rfl tI) (.sl rfl (Go.Ab.one_cell rfl)) (LOk.of (tabOk.get rfl)) (LOk.of (tabOk.get rfl)) rfl rfl (by simp only [lLm, lLa, zA1, zA9]; omega) (by simp only [lLm, lLa, zA1, zA9]; omega) ?_) | refine cdN rfl tI (fun hc => ?_) (fun hc => ?_) | refine blK ?_ | refine exW ?_ | refine skW ?_ | refine rtW ?_ | refine dK2 (by decide +kernel) (by kernel_rfl) (by decide +kernel) rfl (fun K' hK => ?_) | refine dL2 (by kernel_rfl) (by decide +kernel) rfl (fun K' hK => ?_) | (refine aqN (hK _ ?_); clear hK K') | refine aqN ?_ | refine aqQ rfl rfl (fun hg => by first | exact std0 | exact pcW (hv0) rfl rfl nd rfl nds | exact PRun.bitsW rfl rfl nd rfl nd rfl | exact PRun.shlW rfl rfl nd rfl nd (by omega) | exact PRun.shrW rfl rfl nd rfl nd (by omega) | exact pbW (hv1) rfl rfl nd rfl rfl nds | exact std1) (by exact rfl) ?_)
   · exfalso; simp at hc
   · refine ⟨.inr rfl, Ent.of ?_⟩
     rw [show frameR l = (frame l, 0) from if_pos h4]
     show AV.tup [.sl 1 ((_ ++ _) ++ (sumB (headed l)).map by8) .no, .int 0] = _
     rw [head3w (putL l).length (by omega), ← e, ← zB3]; rfl
 · rw [show putR l = ([], 2) from if_neg h4] at hv0
   repeat' (first | refine aoQ rfl rfl rfl (fun hg => by first | exact std0 | exact pcW (hv0) rfl rfl nd rfl nds | exact std1) (by exact rfl) ?_ | refine sqW ?_ | refine rgK (fun K' hK => ?_) | (refine aoN (hK _ _ ?_); clear hK K') | refine aoE (bxW rfl rfl rfl rfl rfl tI rfl rfl ?_) | refine aoE (stW tabOk rfl rfl rfl tI rfl rfl tI rfl rfl rfl rfl rfl rfl rfl ?_) | refine aoE (alW tabOk rfl rfl rfl rfl rfl rfl ?_) | refine cdN rfl tI (fun hc => ?_) (fun hc => ?_) | refine blK ?_ | refine exW ?_ | refine skW ?_ | refine rtW ?_ | refine dK2 (by decide +kernel) (by kernel_rfl) (by decide +kernel) rfl (fun K' hK => ?_) | refine dL2 (by kernel_rfl) (by decide +kernel) rfl (fun K' hK => ?_) | (refine aqN (hK _ ?_); clear hK K') | refine aqN ?_ | refine aqQ rfl rfl (fun hg => by first | exact std0 | exact pcW (hv0) rfl rfl nd rfl nds | exact std1) (by exact rfl) ?_)
   · refine ⟨.inr rfl, ?_⟩
     rw [show frameR l = ([], 2) from if_neg h4]
     exact Ent.tup2 Ent.nil (Ent.rfl' _)
   all_goals (exfalso; simp at hc; done)
end Go.Proofs.YtbneeinknlddaaaGreat
namespace Go.Ab
theorem PRun.shlV {P : Program} {o : Oper} {env : Env} {σ : Store} {t t' : TypeId} {x y : Operand} {k k' : IntKind} {a b r : Int} (h : k.wrap (a * 2 ^ (Min.min b.toNat k.bits)) = r) (ho : o.op = .binOp .shl t x y t') (hx : rdv env x = some (.prim (.int k a))) (nx : rdn env x) (hy : rdv env y = some (.prim (.int k' b))) (ny : rdn env y) (hb : 0 ≤ b) :
 PRun P o env σ (.prim (.int k r)) := h ▸ PRun.shlW ho hx nx hy ny hb
end Go.Ab
namespace Go.Proofs.YtbneeinknlddaaaGreat
open Go.Ab Go.Jo
attribute [local irreducible] AWP AOps EStep AQ PStep PRun PCall TCall VCall DStep TDies AWD DCall
theorem fl8 : flatN Tryz.prog 125 = some [.int .u8, .int .u8, .int .u8, .int .u8, .int .u8, .int .u8, .int .u8, .int .u8] := by kernel_rfl
abbrev p8 (c : UInt8) : AV := .prim (.int .u8 c.toNat)
theorem eqB : ∀ (a c : Bs), a.length = c.length → eqVs (List.replicate a.length (.int .u8)) (a.map p8) (c.map p8) = some (a == c)
 | [], [], _ => rfl
 | x :: a, y :: c, h => by
   have ih := eqB a c (by simpa using h)
   simp only [zA1, List.replicate_succ, List.map_cons, eqVs, ih, eqV, if_true]
   congr 1
   rw [zBm]
   simp
   intro _
   exact ⟨fun h => UInt8.toNat_inj.1 (by omega), fun h => by rw [h]⟩
theorem eq8 (a c : Bs) (ha : a.length = 8) (hc : c.length = 8) : eqVs [.int .u8, .int .u8, .int .u8, .int .u8, .int .u8, .int .u8, .int .u8, .int .u8] (a.map p8) ((c.map p8).take 8) = some (a == c) := by
 have h := eqB a c (ha.trans hc.symm)
 rw [ha] at h
 rw [zBd (by simp [hc])]
 exact h
theorem shl16 (c : UInt8) : IntKind.i64.wrap ((c.toNat : Int) * 2 ^ (Min.min (16 : Int).toNat IntKind.i64.bits)) = (c.toNat : Int) * 65536 := by
 have e1 : (2 : Int) ^ (Min.min (16 : Int).toNat IntKind.i64.bits) = 65536 := by decide
 have := c.toNat_lt
 rw [e1]; exact wrap64_in (by omega)
theorem shl8 (c : UInt8) : IntKind.i64.wrap ((c.toNat : Int) * 2 ^ (Min.min (8 : Int).toNat IntKind.i64.bits)) = (c.toNat : Int) * 256 := by
 have e1 : (2 : Int) ^ (Min.min (8 : Int).toNat IntKind.i64.bits) = 256 := by decide
 have := c.toNat_lt
 rw [e1]; exact wrap64_in (by omega)
set_option maxHeartbeats 1600000 in
theorem whole_spec (b : Bs) (hl : b.length ≤ 4611686018427387904) : PCall Tryz.prog 99 [.sl 1 (b.map by8) .no] (tupLI (wholeR b).1 (wholeR b).2) := by
 have c0 := (b.getD (0 : Int).toNat default).toNat_lt
 have c1 := (b.getD (1 : Int).toNat default).toNat_lt
 have c2 := (b.getD (2 : Int).toNat default).toNat_lt
 have hN := n3_int b
 refine PCall.body Tryz.func99 rfl rfl Tryz.ntmps99 rfl rfl ?_
 by_cases h11 : b.length < 11
 · repeat' (first | refine aoQ rfl rfl rfl (fun hg => by first | exact std0 | exact std1) (by exact rfl) ?_ | refine sqW ?_ | refine rgK (fun K' hK => ?_) | (refine aoN (hK _ _ ?_); clear hK K') | refine aoE (bxW rfl rfl rfl rfl rfl tI rfl rfl ?_) | refine aoE (stW tabOk rfl rfl rfl tI rfl rfl tI rfl rfl rfl rfl rfl rfl rfl ?_) | refine aoE (alW tabOk rfl rfl rfl rfl rfl rfl ?_) | refine cdN rfl tI (fun hc => ?_) (fun hc => ?_) | refine blK ?_ | refine exW ?_ | refine skW ?_ | refine rtW ?_ | refine dK2 (by decide +kernel) (by kernel_rfl) (by decide +kernel) rfl (fun K' hK => ?_) | refine dL2 (by kernel_rfl) (by decide +kernel) rfl (fun K' hK => ?_) | (refine aqN (hK _ ?_); clear hK K') | refine aqN ?_ | refine aqQ rfl rfl (fun hg => by first | exact std0 | exact std1) (by exact rfl) ?_)
   · refine ⟨.inr rfl, ?_⟩
     rw [wholeR_len (.inr h11)]
     exact Ent.tup2 Ent.nil (Ent.rfl' _)
   all_goals (exfalso; first | omega | (simp at hc; done) | (simp only [zAh, zAx, zA2, zAo, zAs, dEt, dEf, zAz, zAv, beq_iff_eq, beq_eq_false_iff_ne, bne_iff_ne, bne_eq_false_iff_eq, gt_iff_lt, ge_iff_le, ne_eq] at hc; omega))
 repeat' (first | refine aoQ rfl rfl rfl (fun hg => by first | exact PRun.shlV (shl8 _) rfl rfl nd rfl nd (by decide) | exact PRun.shlV (shl16 _) rfl rfl nd rfl nd (by decide) | exact PRun.convV tabOk (cv8 _) rfl rfl nd rfl rfl | exact std0 | exact PRun.sliceLoM tabOk rfl rfl nd rfl nd rfl (by omega) | exact PRun.sliceHiM tabOk rfl rfl nd rfl nd rfl (by omega) | exact PRun.sliceM tabOk rfl rfl nd rfl nd rfl nd rfl (by omega) | exact PRun.sliceLoM tabOk rfl rfl nd rfl nd rfl (by rw [zAk]; omega) | exact PRun.slice3M tabOk rfl rfl nd rfl nd rfl nd rfl (by omega) | exact pcW (sum_spec _ (by rw [zAk]; omega)) rfl rfl nd rfl nds | exact PRun.s2a tabOk rfl rfl nd rfl (by rw [zAg, zAk]; omega) | exact PRun.loadIAll tabOk rfl rfl nd rfl rfl (by rw [lLm, zAg, zAk]; simp only []; omega) | exact PRun.neN fl8 rfl rfl nd rfl nd (eq8 _ _ rfl (by rw [zAg, zAk]; omega)) | exact pcW (get_spec _ (by rw [zAg, zAk]; omega)) rfl rfl nd rfl nds | exact std1) (by exact rfl) ?_ | refine sqW ?_ | refine rgK (fun K' hK => ?_) | (refine aoN (hK _ _ ?_); clear hK K') | refine aoE (bxW rfl rfl rfl rfl rfl tI rfl rfl ?_) | refine aoE (stW tabOk rfl rfl rfl tI rfl rfl tI rfl rfl rfl rfl rfl rfl rfl ?_) | refine aoE (alW tabOk rfl rfl rfl rfl rfl rfl ?_) | refine cdN rfl tI (fun hc => ?_) (fun hc => ?_) | refine blK ?_ | refine exW ?_ | refine skW ?_ | refine rtW ?_ | refine dK2 (by decide +kernel) (by kernel_rfl) (by decide +kernel) rfl (fun K' hK => ?_) | refine dL2 (by kernel_rfl) (by decide +kernel) rfl (fun K' hK => ?_) | (refine aqN (hK _ ?_); clear hK K') | refine aqN ?_ | refine aqQ rfl rfl (fun hg => by first | exact PRun.shlV (shl8 _) rfl rfl nd rfl nd (by decide) | exact PRun.shlV (shl16 _) rfl rfl nd rfl nd (by decide) | exact PRun.convV tabOk (cv8 _) rfl rfl nd rfl rfl | exact std0 | exact PRun.sliceLoM tabOk rfl rfl nd rfl nd rfl (by omega) | exact PRun.sliceHiM tabOk rfl rfl nd rfl nd rfl (by omega) | exact PRun.sliceM tabOk rfl rfl nd rfl nd rfl nd rfl (by omega) | exact PRun.sliceLoM tabOk rfl rfl nd rfl nd rfl (by rw [zAk]; omega) | exact PRun.slice3M tabOk rfl rfl nd rfl nd rfl nd rfl (by omega) | exact pcW (sum_spec _ (by rw [zAk]; omega)) rfl rfl nd rfl nds | exact PRun.s2a tabOk rfl rfl nd rfl (by rw [zAg, zAk]; omega) | exact PRun.loadIAll tabOk rfl rfl nd rfl rfl (by rw [lLm, zAg, zAk]; simp only []; omega) | exact PRun.neN fl8 rfl rfl nd rfl nd (eq8 _ _ rfl (by rw [zAg, zAk]; omega)) | exact pcW (get_spec _ (by rw [zAg, zAk]; omega)) rfl rfl nd rfl nds | exact std1) (by exact rfl) ?_)
 · (exfalso; first | omega | (simp at hc; done) | (simp only [zAh, zAx, zA2, zAo, zAs, dEt, dEf, zAz, zAv, beq_iff_eq, beq_eq_false_iff_ne, bne_iff_ne, bne_eq_false_iff_eq, gt_iff_lt, ge_iff_le, ne_eq] at hc; omega))
 · refine ⟨.inr rfl, ?_⟩
   rw [wholeR_len (.inl (by omega))]
   exact Ent.tup2 Ent.nil (Ent.rfl' _)
 all_goals (
  have h2 : n3 b + 11 ≤ b.length := by omega
  have n1 : (3 + (((b.getD (0 : Int).toNat default).toNat : Int) * 65536 + ((b.getD (1 : Int).toNat default).toNat : Int) * 256 + ((b.getD (2 : Int).toNat default).toNat : Int))).toNat = n3 b + 3 := by omega
  have n2 : (3 + (((b.getD (0 : Int).toNat default).toNat : Int) * 65536 + ((b.getD (1 : Int).toNat default).toNat : Int) * 256 + ((b.getD (2 : Int).toNat default).toNat : Int)) + 8).toNat = n3 b + 11 := by omega
  have n3' : (b.take (n3 b + 11)).drop (n3 b + 3) = (b.drop (n3 b + 3)).take 8 := by rw [List.drop_take]; congr 1; omega)
 · refine ⟨.inr rfl, ?_⟩
   rw [n1, n2, n3'] at hc
   rw [wholeR_sum (by omega) h2 (by intro he; rw [he] at hc; simp at hc)]
   exact Ent.tup2 Ent.nil (Ent.rfl' _)
 · refine ⟨.inr rfl, ?_⟩
   rename_i hs
   rw [n1, n2, n3'] at hs
   rw [n1] at hc
   have he : sumB (b.take (n3 b + 3)) = (b.drop (n3 b + 3)).take 8 := by simp at hs; exact hs
   have hq := wholeR_get (by omega) h2 he
   rw [show ((b.take (n3 b + 3)).drop (3 : Int).toNat) = (b.take (n3 b + 3)).drop 3 from rfl] at hc
   cases hg : getL ((b.take (n3 b + 3)).drop 3) with
   | some l => rw [getR_some hg] at hc; simp at hc
   | none =>
     rw [hg] at hq
     rw [hq]
     exact Ent.tup2 Ent.nil (Ent.rfl' _)
 · refine ⟨.inr rfl, Ent.of ?_⟩
   rename_i hs
   rw [n1, n2, n3'] at hs
   have he : sumB (b.take (n3 b + 3)) = (b.drop (n3 b + 3)).take 8 := by simp at hs; exact hs
   have hq := wholeR_get (by omega) h2 he
   rw [n1] at hc
   rw [show ((b.take (n3 b + 3)).drop (3 : Int).toNat) = (b.take (n3 b + 3)).drop 3 from rfl] at hc
   cases hg : getL ((b.take (n3 b + 3)).drop 3) with
   | none => rw [getR_none hg] at hc; simp at hc
   | some l =>
     rw [hg] at hq
     rw [hq]
     show AV.tup [.sl 1 ((getR ((b.take ((3 : Int) + _).toNat).drop (3 : Int).toNat)).1.map encN) .no, .int _] = _
     rw [n1, show ((b.take (n3 b + 3)).drop (3 : Int).toNat) = (b.take (n3 b + 3)).drop 3 from rfl, getR_some hg]
     have n4 : (3 : Int) + (((b.getD (0 : Int).toNat default).toNat : Int) * 65536 + ((b.getD (1 : Int).toNat default).toNat : Int) * 256 + ((b.getD (2 : Int).toNat default).toNat : Int)) + 8 = ((n3 b + 11 : Nat) : Int) := by omega
     rw [← n4]
abbrev encL (l : List Int) : List AV := [.sl 1 (l.map encN) .no]
def framesR (b : Bs) : List (List Int) × Int × Int := if 200000 < b.length then ([], 0, 2) else ((frames b).1, ((frames b).2 : Nat), 0)
theorem framesR_in {b : Bs} (h : ¬ 200000 < b.length) : framesR b = ((frames b).1, (((frames b).2 : Nat) : Int), 0) := if_neg h
abbrev tupFR (r : List (List Int) × Int × Int) : AV := .tup [.sl 1 (r.1.map encL) .no, .int r.2.1, .int r.2.2]
theorem wholeR_some {b : Bs} {l : List Int} {n : Nat} (h : whole b = some (l, n)) : wholeR b = (l, (n : Int)) := by unfold wholeR; rw [h]
theorem wholeR_none {b : Bs} (h : whole b = none) : wholeR b = ([], 0) := by unfold wholeR; rw [h]
theorem whole_len {b : Bs} {l : List Int} {n : Nat} (h : whole b = some (l, n)) : 0 < n ∧ n ≤ b.length := by
 unfold whole at h
 split at h
 · simp at h
 · split at h
   · simp at h
   · split at h
     · simp only [zA6] at h
       obtain ⟨x, _, h⟩ := h
       simp at h; omega
     · simp at h
set_option maxHeartbeats 1600000 in
theorem frames_spec (b : Bs) (hl : b.length ≤ 4611686018427387904) : PCall Tryz.prog 80 [.sl 1 (b.map by8) .no] (tupFR (framesR b)) := by
 refine PCall.body Tryz.func80 rfl rfl Tryz.ntmps80 rfl rfl ?_
 by_cases h2 : 200000 < b.length
 · repeat' (first | refine aoQ rfl rfl rfl (fun hg => by first | exact std0 | exact std1) (by exact rfl) ?_ | refine sqW ?_ | refine rgK (fun K' hK => ?_) | (refine aoN (hK _ _ ?_); clear hK K') | refine cdN rfl tI (fun hc => ?_) (fun hc => ?_) | refine blK ?_ | refine skW ?_ | refine rtW ?_)
   · refine ⟨.inr rfl, ?_⟩
     rw [show framesR b = ([], 0, 2) from if_pos h2]
     exact Ent.tup3 Ent.nil (Ent.rfl' _) (Ent.rfl' _)
   all_goals (exfalso; omega)
 repeat' (first | refine aoQ rfl rfl rfl (fun hg => by first | exact std0 | exact std1) (by exact rfl) ?_ | refine sqW ?_ | refine rgK (fun K' hK => ?_) | (refine aoN (hK _ _ ?_); clear hK K') | refine cdN rfl tI (fun hc => ?_) (fun hc => ?_) | refine blK ?_ | refine skW ?_ | refine rtW ?_)
 · exfalso; omega
 refine AWP.ownNil (d := 5) (sz := 1) rfl ?_
 skip
 refine lpW (ι := Nat × List (List Int)) (fun i => [(0, .sl 1 (b.map by8) .no), (5, .sl 1 (i.2.map encL) (.own 0)), (6, .int i.1)]) (fun i => [.own 1 (i.2.map encL).length]) (fun i => i.1 ≤ b.length ∧ i.2.length ≤ i.1 ∧ frames b = (i.2 ++ (frames (b.drop i.1)).1, i.1 + (frames (b.drop i.1)).2)) (fun i => b.length - i.1) (0, []) ⟨nZl _, nLr _, by simp⟩ ⟨rfl, rfl, rfl, tI⟩ rfl ?_
 rintro ⟨k, out⟩ ⟨g1, g3, g2⟩
 dsimp only at g1 g2 g3 ⊢
 have hv := whole_spec (b.drop k) (by rw [zAg]; omega)
 cases hw : whole (b.drop k) with
 | none =>
   rw [wholeR_none hw] at hv
   rw [frames_none hw] at g2
   dsimp only at hv
   repeat' (first | refine aoQ rfl rfl rfl (fun hg => by first | exact std0 | exact PRun.sliceLoM tabOk rfl rfl nd rfl nd rfl (by omega) | exact pcW (hv) rfl rfl nd rfl nds) (by exact rfl) ?_ | refine sqW ?_ | refine rgK (fun K' hK => ?_) | (refine aoN (hK _ _ ?_); clear hK K') | refine cdN rfl tI (fun hc => ?_) (fun hc => ?_) | refine blK ?_ | refine skW ?_ | refine rtW ?_)
   · refine ⟨.inr rfl, Ent.of ?_⟩
     rw [framesR_in h2, g2, zBp, zBk]; rfl
   all_goals (exfalso; first | omega | (simp at hc; done) | (simp only [zAh, zAx, zA2, zAo, zAs, dEt, dEf, zAz, zAv, beq_iff_eq, beq_eq_false_iff_ne, bne_iff_ne, bne_eq_false_iff_eq, gt_iff_lt, ge_iff_le, ne_eq] at hc; omega))
 | some p =>
   obtain ⟨l, n⟩ := p
   obtain ⟨n1, n2⟩ := whole_len hw
   rw [zAg] at n2
   rw [wholeR_some hw] at hv
   rw [frames_some hw, zCv] at g2
   dsimp only at hv g2
   repeat' (first | refine aoQ rfl rfl rfl (fun hg => by first | exact std0 | exact PRun.sliceLoM tabOk rfl rfl nd rfl nd rfl (by omega) | exact pcW (hv) rfl rfl nd rfl nds | exact pbS tabOk rfl rfl nds) (by exact rfl) ?_ | refine sqW ?_ | refine rgK (fun K' hK => ?_) | (refine aoN (hK _ _ ?_); clear hK K') | refine aoE (apO tabOk rfl rfl rfl (by decide) (Rd.w rfl tI) rfl (Rd.w rfl tI) (.sl rfl (by first | (intro x hx; rcases zAa.1 hx with rfl; rfl) | exact one_by8 _ | exact one_ints _)) (LOk.of (tabOk.get rfl)) (LOk.of (tabOk.get rfl)) rfl rfl (by simp only [lLm, lLa, zA1, zA9]; omega) (by simp only [lLm, lLa, zA1, zA9]; omega) ?_) | refine cdN rfl tI (fun hc => ?_) (fun hc => ?_) | refine blK ?_ | refine skW ?_ | refine rtW ?_)
   · (exfalso; first | omega | (simp at hc; done) | (simp only [zAh, zAx, zA2, zAo, zAs, dEt, dEf, zAz, zAv, beq_iff_eq, beq_eq_false_iff_ne, bne_iff_ne, bne_eq_false_iff_eq, gt_iff_lt, ge_iff_le, ne_eq] at hc; omega))
   · refine ⟨(k + n, out ++ [l]), ⟨by dsimp only; omega, by simp; omega, ?_⟩, by dsimp only; omega, ⟨rfl, ?_, rfl, tI⟩, ?_⟩
     · rw [g2]; simp [zBy]
     · rw [zB3]; rfl
     · rw [zB3]; rfl
end Go.Proofs.YtbneeinknlddaaaGreat
namespace Go.Ab
theorem pureAll {es : List (List AV)} (h : es.all (fun x => x.all isPrim) = true) : ∀ e ∈ es, ∀ a ∈ e, ∀ M B x, VRel M B a x → VRel M [] a x := fun e he a ha M B x hx => by
 have h1 := zAb.1 (zAb.1 h e he) a ha
 cases a <;> simp [isPrim] at h1
 rw [VRel.prim_eq hx]; exact .prim _
end Go.Ab
namespace Go.Proofs.YtbneeinknlddaaaGreat
open Go.Ab Go.Jo
attribute [local irreducible] AWP AOps EStep AQ PStep PRun PCall TCall VCall DStep TDies AWD DCall
def ints12 (e : Ev) : List Int := [e.clock, e.stand, e.kind, e.mark.id, e.mark.kind, e.mark.layer, e.mark.who.part, e.mark.who.desk, e.mark.who.seat, e.mark.version, e.mark.note, e.mark.value]
theorem ints_mark {e : Ev} (h : e.kind = 1) : ints e = ints12 e ++ txt e.mark.text := by unfold ints; rw [if_pos h]; rfl
theorem ints_other {e : Ev} (h : e.kind ≠ 1) : ints e = [e.clock, e.stand, e.kind, e.n] := by unfold ints; rw [if_neg h]; rfl
abbrev row9 (e : Ev) : List (List AV) := [[.int e.mark.id], [.int e.mark.kind], [.int e.mark.layer], [.int e.mark.who.part], [.int e.mark.who.desk], [.int e.mark.who.seat], [.int e.mark.version], [.int e.mark.note], [.int e.mark.value]]
abbrev T10 : True ∧ True ∧ True ∧ True ∧ True ∧ True ∧ True ∧ True ∧ True ∧ True := ⟨tI, tI, tI, tI, tI, tI, tI, tI, tI, tI⟩
theorem txt_take {t : Bs} {k : Nat} (h : k < t.length) : (txt t).take (k + 1) = (txt t).take k ++ [((t.getD k 0).toNat : Int)] := by
 have h2 : k < (txt t).length := by simpa [txt] using h
 rw [zB0 h2]
 simp [txt, List.getD, h]
theorem txt_all (t : Bs) : (txt t).take t.length = txt t := zBd (by simp [txt])
def intsR (e : Ev) : List Int × Int := if evOk e then (ints e, 0) else ([], 1)
def eventR (l : List Int) : Ev × Int := match event l with
 | some e => (e, 0)
 | none => (noEv, 7)
theorem eventR_form {l : List Int} (h : formOk l = false) : eventR l = (noEv, 7) := by
 unfold eventR event; rw [h]; rfl
theorem eventR_ok {l : List Int} (h : formOk l = true) : eventR l = if evOk (rawEv l) then (rawEv l, 0) else (noEv, 7) := by
 unfold eventR event; rw [h]; cases evOk (rawEv l) <;> rfl
theorem frameR_ev {e : Ev} (h : evOk e = true) : frameR (ints e) = (fr e, 0) := if_pos (by have := (fr_ok h).1; exact this)
def appendR (f : Bs) (e : Ev) : Bs × Int := if evOk e then (if 200000 < f.length + (fr e).length then ([], 2) else (f ++ fr e, 0)) else ([], 1)
abbrev tupBI (b : Bs) (n : Int) : AV := .tup [.sl 1 (b.map by8) .no, .int n]
theorem frames_all : ∀ (m : Nat) (b : Bs), b.length < m → (frames b).1.length ≤ b.length ∧ ∀ l ∈ (frames b).1, l.length ≤ 4000 ∧ ∀ n ∈ l, InI n
 | 0, b, h => by omega
 | m + 1, b, h => by
   cases hw : whole b with
   | none => rw [frames_none hw]; simp
   | some p =>
     obtain ⟨l, n⟩ := p
     obtain ⟨h1, h2⟩ := whole_len hw
     obtain ⟨k1, k2, _⟩ := whole_inv hw
     have ih := frames_all m (b.drop n) (by rw [zAg]; omega)
     rw [zAg] at ih
     rw [frames_some hw]
     refine ⟨by simp only [zA1]; omega, fun x hx => ?_⟩
     rcases zB5.1 hx with rfl | hx
     · exact ⟨k1, k2⟩
     · exact ih.2 x hx
def loadR (b : Bs) : List Ev × Int × Int := if 200000 < b.length then ([], 0, 2) else ((Jo.load b).1, (((Jo.load b).2 : Nat) : Int), 0)
abbrev tupEv (r : List Ev × Int × Int) : AV := .tup [.sl 14 (r.1.map encE) .no, .int r.2.1, .int r.2.2]
theorem loadR_in {b : Bs} (h : ¬ 200000 < b.length) : loadR b = ((Jo.load b).1, (((Jo.load b).2 : Nat) : Int), 0) := if_neg h
theorem eventR_some {l : List Int} {e : Ev} (h : event l = some e) : eventR l = (e, 0) := by unfold eventR; rw [h]
theorem eventR_none {l : List Int} (h : event l = none) : eventR l = (noEv, 7) := by unfold eventR; rw [h]
theorem loadL_step {ls : List (List Int)} {k : Nat} (h : k < ls.length) : loadL (ls.drop k) = match event (ls.getD k default) with
 | some e => (e :: (loadL (ls.drop (k + 1))).1, (frame (ls.getD k default)).length + (loadL (ls.drop (k + 1))).2)
 | none => ([], 0) := by
 rw [zBg h, getD_lt h]
 simp only [loadL]
 cases event ls[k] <;> rfl
end Go.Proofs.YtbneeinknlddaaaGreat
