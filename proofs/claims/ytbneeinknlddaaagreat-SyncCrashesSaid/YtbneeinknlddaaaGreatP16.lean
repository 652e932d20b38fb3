/- Contracts by content: the program's digest.  Contracts by content: the program's codec: integers as bytes.  Contracts by content: the codec of the reference: whole frames. No statement is proved here. -/
import Derived.Lib.Zigzag
import Derived.Test.YtbneeinknlddaaaGreatP8
import Derived.Test.YtbneeinknlddaaaGreatP15
set_option linter.unusedVariables false
set_option linter.unusedSimpArgs false
namespace Go.Proofs.YtbneeinknlddaaaGreat
open Go.Ab Go.Jo
attribute [local irreducible] AWP AOps EStep AQ PStep PRun PCall TCall VCall DStep TDies AWD DCall
abbrev digS (d : Nat) : Store := [.var [.prim (.int .u64 (d : Nat))]]
theorem run_T : TCall Tryz.prog 139 [] [] (fun r s => r = .tup [.fn (.func 144) [] [.ptr 0 0], .fn (.func 145) [] [.ptr 0 0]] ∧ s = digS 14695981039346656037) := by
 refine TCall.body Tryz.func139 rfl rfl Tryz.ntmps139 rfl rfl ?_
 repeat' (first | refine aoQ rfl rfl rfl (fun hg => by first | exact std0 | exact std1) (by exact rfl) ?_ | refine sqW ?_ | refine rgK (fun K' hK => ?_) | (refine aoN (hK _ _ ?_); clear hK K') | refine aoE (bxW rfl rfl rfl rfl rfl tI rfl rfl ?_) | refine aoE (stW tabOk rfl rfl rfl tI rfl rfl tI rfl rfl rfl rfl rfl rfl rfl ?_) | refine aoE (alW tabOk rfl rfl rfl rfl rfl rfl ?_) | refine cdN rfl tI (fun hc => ?_) (fun hc => ?_) | refine blK ?_ | refine exW ?_ | refine skW ?_ | refine rtW ?_ | refine dK2 (by decide +kernel) (by kernel_rfl) (by decide +kernel) rfl (fun K' hK => ?_) | refine dL2 (by kernel_rfl) (by decide +kernel) rfl (fun K' hK => ?_) | (refine aqN (hK _ ?_); clear hK K') | refine aqN ?_ | refine aqQ rfl rfl (fun hg => by first | exact std0 | exact std1) (by exact rfl) ?_)
 exact ⟨.inr rfl, _, _, ⟨rfl, rfl⟩, rfl, by decide, rfl, rfl, rfl⟩
theorem add_T (d : Nat) (hd : d < 18446744073709551616) (b : Bs) (hl : b.length ≤ 9223372036854775807) : TCall Tryz.prog 144 [.sl 1 (b.map by8) .no, .ptr 0 0] (digS d) (fun _ s => s = digS (fnvF d b)) := by
 refine TCall.body Tryz.func144 rfl rfl Tryz.ntmps144 rfl rfl ?_
 repeat' (first | refine aoQ rfl rfl rfl (fun hg => by first | exact std0 | exact std1) (by exact rfl) ?_ | refine sqW ?_ | refine rgK (fun K' hK => ?_) | (refine aoN (hK _ _ ?_); clear hK K') | refine aoE (bxW rfl rfl rfl rfl rfl tI rfl rfl ?_) | refine aoE (stW tabOk rfl rfl rfl tI rfl rfl tI rfl rfl rfl rfl rfl rfl rfl ?_) | refine aoE (alW tabOk rfl rfl rfl rfl rfl rfl ?_) | refine cdN rfl tI (fun hc => ?_) (fun hc => ?_) | refine blK ?_ | refine exW ?_ | refine skW ?_ | refine rtW ?_ | refine dK2 (by decide +kernel) (by kernel_rfl) (by decide +kernel) rfl (fun K' hK => ?_) | refine dL2 (by kernel_rfl) (by decide +kernel) rfl (fun K' hK => ?_) | (refine aqN (hK _ ?_); clear hK K') | refine aqN ?_ | refine aqQ rfl rfl (fun hg => by first | exact std0 | exact std1) (by exact rfl) ?_)
 refine lpW (ι := Nat) (fun k => [(1, .ptr 0 0), (5, .sl 1 (b.map by8) .no), (6, .int b.length), (7, .int k)]) (fun k => digS (fnvF d (b.take k))) (fun k => k ≤ b.length) (fun k => b.length - k) 0 (nZl _) ⟨rfl, rfl, rfl, rfl, tI⟩ rfl ?_
 intro k hk
 by_cases hlt : k < b.length
 · have hr := fnv_round (fnvF d (b.take k)) (b.getD k default) (fnvF_lt _ _ hd)
   have hs : fnvF d (b.take (k + 1)) = fstep (fnvF d (b.take k)) (b.getD k default) := by
    rw [zAu hlt, fnvF_append, getD_lt hlt, fnvF_one]
   repeat' (first | refine aoQ rfl rfl rfl (fun hg => by first | exact std0 | exact PRun.bitsW rfl rfl nd rfl nd rfl | exact PRun.shlW rfl rfl nd rfl nd (by omega) | exact PRun.shrW rfl rfl nd rfl nd (by omega) | exact std1) (by exact rfl) ?_ | refine sqW ?_ | refine rgK (fun K' hK => ?_) | (refine aoN (hK _ _ ?_); clear hK K') | refine aoE (bxW rfl rfl rfl rfl rfl tI rfl rfl ?_) | refine aoE (stW tabOk rfl rfl rfl tI rfl rfl tI rfl rfl rfl rfl rfl rfl rfl ?_) | refine aoE (alW tabOk rfl rfl rfl rfl rfl rfl ?_) | refine cdN rfl tI (fun hc => ?_) (fun hc => ?_) | refine blK ?_ | refine exW ?_ | refine skW ?_ | refine rtW ?_ | refine dK2 (by decide +kernel) (by kernel_rfl) (by decide +kernel) rfl (fun K' hK => ?_) | refine dL2 (by kernel_rfl) (by decide +kernel) rfl (fun K' hK => ?_) | (refine aqN (hK _ ?_); clear hK K') | refine aqN ?_ | refine aqQ rfl rfl (fun hg => by first | exact std0 | exact PRun.bitsW rfl rfl nd rfl nd rfl | exact PRun.shlW rfl rfl nd rfl nd (by omega) | exact PRun.shrW rfl rfl nd rfl nd (by omega) | exact std1) (by exact rfl) ?_)
   · refine ⟨k + 1, by omega, by omega, ⟨rfl, rfl, rfl, rfl, tI⟩, ?_⟩
     rw [hs]
     exact congrArg (fun z => [AObj.var [AV.prim (.int .u64 z)]]) hr
   · exfalso; omega
 · repeat' (first | refine aoQ rfl rfl rfl (fun hg => by first | exact std0 | exact std1) (by exact rfl) ?_ | refine sqW ?_ | refine rgK (fun K' hK => ?_) | (refine aoN (hK _ _ ?_); clear hK K') | refine aoE (bxW rfl rfl rfl rfl rfl tI rfl rfl ?_) | refine aoE (stW tabOk rfl rfl rfl tI rfl rfl tI rfl rfl rfl rfl rfl rfl rfl ?_) | refine aoE (alW tabOk rfl rfl rfl rfl rfl rfl ?_) | refine cdN rfl tI (fun hc => ?_) (fun hc => ?_) | refine blK ?_ | refine exW ?_ | refine skW ?_ | refine rtW ?_ | refine dK2 (by decide +kernel) (by kernel_rfl) (by decide +kernel) rfl (fun K' hK => ?_) | refine dL2 (by kernel_rfl) (by decide +kernel) rfl (fun K' hK => ?_) | (refine aqN (hK _ ?_); clear hK K') | refine aqN ?_ | refine aqQ rfl rfl (fun hg => by first | exact std0 | exact std1) (by exact rfl) ?_)
   · exfalso; omega
   · have e : b.take k = b := zB5 (by omega)
     rw [e]
     exact ⟨.inl rfl, .tup [], _, rfl, rfl, nLr _, rfl, rfl, rfl⟩
theorem get_T (d : Nat) : TCall Tryz.prog 145 [.ptr 0 0] (digS d) (fun r s => r = .prim (.int .u64 (d : Nat)) ∧ s = digS d) := by
 refine TCall.body Tryz.func145 rfl rfl Tryz.ntmps145 rfl rfl ?_
 repeat' (first | refine aoQ rfl rfl rfl (fun hg => by first | exact std0 | exact std1) (by exact rfl) ?_ | refine sqW ?_ | refine rgK (fun K' hK => ?_) | (refine aoN (hK _ _ ?_); clear hK K') | refine aoE (bxW rfl rfl rfl rfl rfl tI rfl rfl ?_) | refine aoE (stW tabOk rfl rfl rfl tI rfl rfl tI rfl rfl rfl rfl rfl rfl rfl ?_) | refine aoE (alW tabOk rfl rfl rfl rfl rfl rfl ?_) | refine cdN rfl tI (fun hc => ?_) (fun hc => ?_) | refine blK ?_ | refine exW ?_ | refine skW ?_ | refine rtW ?_ | refine dK2 (by decide +kernel) (by kernel_rfl) (by decide +kernel) rfl (fun K' hK => ?_) | refine dL2 (by kernel_rfl) (by decide +kernel) rfl (fun K' hK => ?_) | (refine aqN (hK _ ?_); clear hK K') | refine aqN ?_ | refine aqQ rfl rfl (fun hg => by first | exact std0 | exact std1) (by exact rfl) ?_)
 exact ⟨.inr rfl, _, _, ⟨rfl, rfl⟩, rfl, nLr _, rfl, rfl, rfl⟩
theorem digest_spec (b : Bs) (hl : b.length ≤ 9223372036854775807) : PCall Tryz.prog 128 [.sl 1 (b.map by8) .no] (.prim (.int .u64 (fnv b : Nat))) := by
 have h1 := TCall.val (first := []) (caps := []) (avs := []) run_T
 have h2 := TCall.val (first := []) (caps := [.ptr 0 0]) (avs := [.sl 1 (b.map by8) .no]) (add_T 14695981039346656037 (by omega) b hl)
 have h3 := TCall.val (first := []) (caps := [.ptr 0 0]) (avs := []) (get_T (fnvF 14695981039346656037 b))
 refine PCall.body Tryz.func128 rfl rfl Tryz.ntmps128 rfl rfl ?_
 repeat' (first | refine aoQ rfl rfl rfl (fun hg => by first | exact std0 | exact std1) (by exact rfl) ?_ | refine sqW ?_ | refine rgK (fun K' hK => ?_) | (refine aoN (hK _ _ ?_); clear hK K') | refine aoE (bxW rfl rfl rfl rfl rfl tI rfl rfl ?_) | refine aoE (stW tabOk rfl rfl rfl tI rfl rfl tI rfl rfl rfl rfl rfl rfl rfl ?_) | refine aoE (alW tabOk rfl rfl rfl rfl rfl rfl ?_) | refine aoE (scT (h1) rfl rfl rfl rfl rfl nd rfl rfl nds ?_) | refine cdN rfl tI (fun hc => ?_) (fun hc => ?_) | refine blK ?_ | refine exW ?_ | refine skW ?_ | refine rtW ?_ | refine dK2 (by decide +kernel) (by kernel_rfl) (by decide +kernel) rfl (fun K' hK => ?_) | refine dL2 (by kernel_rfl) (by decide +kernel) rfl (fun K' hK => ?_) | (refine aqN (hK _ ?_); clear hK K') | refine aqN ?_ | refine aqQ rfl rfl (fun hg => by first | exact std0 | exact std1) (by exact rfl) ?_)
 rintro _ _ ⟨rfl, rfl⟩
 repeat' (first | refine aoQ rfl rfl rfl (fun hg => by first | exact std0 | exact std1) (by exact rfl) ?_ | refine sqW ?_ | refine rgK (fun K' hK => ?_) | (refine aoN (hK _ _ ?_); clear hK K') | refine aoE (bxW rfl rfl rfl rfl rfl tI rfl rfl ?_) | refine aoE (stW tabOk rfl rfl rfl tI rfl rfl tI rfl rfl rfl rfl rfl rfl rfl ?_) | refine aoE (alW tabOk rfl rfl rfl rfl rfl rfl ?_) | refine aoE (scT (h2) rfl rfl rfl rfl rfl nd rfl rfl nds ?_) | refine cdN rfl tI (fun hc => ?_) (fun hc => ?_) | refine blK ?_ | refine exW ?_ | refine skW ?_ | refine rtW ?_ | refine dK2 (by decide +kernel) (by kernel_rfl) (by decide +kernel) rfl (fun K' hK => ?_) | refine dL2 (by kernel_rfl) (by decide +kernel) rfl (fun K' hK => ?_) | (refine aqN (hK _ ?_); clear hK K') | refine aqN ?_ | refine aqQ rfl rfl (fun hg => by first | exact std0 | exact std1) (by exact rfl) ?_)
 rintro rv _ rfl
 repeat' (first | refine aoQ rfl rfl rfl (fun hg => by first | exact std0 | exact std1) (by exact rfl) ?_ | refine sqW ?_ | refine rgK (fun K' hK => ?_) | (refine aoN (hK _ _ ?_); clear hK K') | refine aoE (bxW rfl rfl rfl rfl rfl tI rfl rfl ?_) | refine aoE (stW tabOk rfl rfl rfl tI rfl rfl tI rfl rfl rfl rfl rfl rfl rfl ?_) | refine aoE (alW tabOk rfl rfl rfl rfl rfl rfl ?_) | refine aoE (scT (h3) rfl rfl rfl rfl rfl nd rfl rfl nds ?_) | refine cdN rfl tI (fun hc => ?_) (fun hc => ?_) | refine blK ?_ | refine exW ?_ | refine skW ?_ | refine rtW ?_ | refine dK2 (by decide +kernel) (by kernel_rfl) (by decide +kernel) rfl (fun K' hK => ?_) | refine dL2 (by kernel_rfl) (by decide +kernel) rfl (fun K' hK => ?_) | (refine aqN (hK _ ?_); clear hK K') | refine aqN ?_ | refine aqQ rfl rfl (fun hg => by first | exact std0 | exact std1) (by exact rfl) ?_)
 rintro _ _ ⟨rfl, rfl⟩
 repeat' (first | refine aoQ rfl rfl rfl (fun hg => by first | exact std0 | exact std1) (by exact rfl) ?_ | refine sqW ?_ | refine rgK (fun K' hK => ?_) | (refine aoN (hK _ _ ?_); clear hK K') | refine aoE (bxW rfl rfl rfl rfl rfl tI rfl rfl ?_) | refine aoE (stW tabOk rfl rfl rfl tI rfl rfl tI rfl rfl rfl rfl rfl rfl rfl ?_) | refine aoE (alW tabOk rfl rfl rfl rfl rfl rfl ?_) | refine cdN rfl tI (fun hc => ?_) (fun hc => ?_) | refine blK ?_ | refine exW ?_ | refine skW ?_ | refine rtW ?_ | refine dK2 (by decide +kernel) (by kernel_rfl) (by decide +kernel) rfl (fun K' hK => ?_) | refine dL2 (by kernel_rfl) (by decide +kernel) rfl (fun K' hK => ?_) | (refine aqN (hK _ ?_); clear hK K') | refine aqN ?_ | refine aqQ rfl rfl (fun hg => by first | exact std0 | exact std1) (by exact rfl) ?_)
 exact ⟨.inr rfl, Ent.of rfl⟩
def byU (d i : Nat) : AV := .prim (.int .u8 ((UInt8.ofNat (d / 256 ^ (7 - i))).toNat : Nat))
def sumC (d k : Nat) : List AV := (List.range 8).map fun i => if i < k then byU d i else .prim (.int .u8 0)
theorem sumC_set (d : Nat) {k : Nat} (hk : k < 8) : (sumC d k).set k (byU d k) = sumC d (k + 1) := by
 have h : k = 0 ∨ k = 1 ∨ k = 2 ∨ k = 3 ∨ k = 4 ∨ k = 5 ∨ k = 6 ∨ k = 7 := by omega
 rcases h with rfl | rfl | rfl | rfl | rfl | rfl | rfl | rfl <;> rfl
theorem splice_one {cs : List AV} {k : Nat} {u : AV} (h : k < cs.length) : splice cs k [u] = cs.set k u := by
 rw [List.set_eq_take_append_cons_drop, if_pos h]; simp [splice]
set_option maxHeartbeats 1600000 in
theorem sum_spec (b : Bs) (hl : b.length ≤ 9223372036854775807) : PCall Tryz.prog 97 [.sl 1 (b.map by8) .no] (.agg ((sumB b).map fun c => .prim (.int .u8 c.toNat))) := by
 refine PCall.bodyS tabOk Tryz.func97 rfl rfl Tryz.ntmps97 rfl ?_
 repeat' (first | refine aoQ rfl rfl rfl (fun hg => by first | exact std0 | exact pcW (digest_spec b hl) rfl rfl nd rfl nds | exact std1) (by exact rfl) ?_ | refine sqW ?_ | refine rgK (fun K' hK => ?_) | (refine aoN (hK _ _ ?_); clear hK K') | refine aoE (bxW rfl rfl rfl rfl rfl tI rfl rfl ?_) | refine aoE (stW tabOk rfl rfl rfl tI rfl rfl tI rfl rfl rfl rfl rfl rfl rfl ?_) | refine aoE (alW tabOk rfl rfl rfl rfl rfl rfl ?_) | refine cdN rfl tI (fun hc => ?_) (fun hc => ?_) | refine blK ?_ | refine exW ?_ | refine skW ?_ | refine rtW ?_ | refine dK2 (by decide +kernel) (by kernel_rfl) (by decide +kernel) rfl (fun K' hK => ?_) | refine dL2 (by kernel_rfl) (by decide +kernel) rfl (fun K' hK => ?_) | (refine aqN (hK _ ?_); clear hK K') | refine aqN ?_ | refine aqQ rfl rfl (fun hg => by first | exact std0 | exact pcW (digest_spec b hl) rfl rfl nd rfl nds | exact std1) (by exact rfl) ?_)
 have hd := fnv_lt b
 have hsh : ∀ k : Nat, k < 8 → IntKind.u8.wrap ((fnv b : Int).fdiv (2 ^ (Min.min (8 * ((7 : Int) - (k : Int))).toNat 64))) = ((UInt8.ofNat (fnv b / 256 ^ (7 - k))).toNat : Int) := fun k hk => by
  rw [← shr8 _ k hk, show (56 : Int) - 8 * k = 8 * (7 - (k : Int)) by omega]
 have hS : ∀ k, k < 8 → (sumC (fnv b) k).set k (byU (fnv b) k) = sumC (fnv b) (k + 1) := fun k hk => sumC_set (fnv b) hk
 refine lpW (ι := Nat) (fun k => [(2, .ptr 0 0), (3, .prim (.int .u64 (fnv b : Nat))), (4, .ptr 1 0), (8, .int k)]) (fun k => [.var (sumC (fnv b) 0), .var (sumC (fnv b) k)]) (fun k => k ≤ 8) (fun k => 8 - k) 0 (nZl _) ⟨rfl, rfl, rfl, rfl, tI⟩ rfl ?_
 intro k hk
 by_cases hlt : k < 8
 · repeat' (first | refine aoQ rfl rfl rfl (fun hg => by first | exact std0 | exact PRun.bitsW rfl rfl nd rfl nd rfl | exact PRun.shlW rfl rfl nd rfl nd (by omega) | exact PRun.shrW rfl rfl nd rfl nd (by omega) | exact PRun.indexPA tabOk rfl rfl nd rfl nd rfl rfl ⟨by omega, by omega⟩ | exact std1) (by exact rfl) ?_ | refine sqW ?_ | refine rgK (fun K' hK => ?_) | (refine aoN (hK _ _ ?_); clear hK K') | refine aoE (bxW rfl rfl rfl rfl rfl tI rfl rfl ?_) | refine aoE (stW tabOk rfl rfl rfl tI rfl rfl tI rfl rfl rfl rfl rfl rfl rfl ?_) | refine aoE (alW tabOk rfl rfl rfl rfl rfl rfl ?_) | refine aoE (EStep.store rfl rfl (Rd.w rfl tI) rfl (Rd.w rfl tI) rfl rfl (LOk.of (tabOk.get rfl)) rfl (by simp only [sumC, lLm, zCv, zAc, zA2, zA5]; omega) rfl ?_) | refine cdN rfl tI (fun hc => ?_) (fun hc => ?_) | refine blK ?_ | refine exW ?_ | refine skW ?_ | refine rtW ?_ | refine dK2 (by decide +kernel) (by kernel_rfl) (by decide +kernel) rfl (fun K' hK => ?_) | refine dL2 (by kernel_rfl) (by decide +kernel) rfl (fun K' hK => ?_) | (refine aqN (hK _ ?_); clear hK K') | refine aqN ?_ | refine aqQ rfl rfl (fun hg => by first | exact std0 | exact PRun.bitsW rfl rfl nd rfl nd rfl | exact PRun.shlW rfl rfl nd rfl nd (by omega) | exact PRun.shrW rfl rfl nd rfl nd (by omega) | exact PRun.indexPA tabOk rfl rfl nd rfl nd rfl rfl ⟨by omega, by omega⟩ | exact std1) (by exact rfl) ?_)
   · refine ⟨k + 1, by omega, by omega, ⟨rfl, rfl, rfl, rfl, tI⟩, ?_⟩
     refine Eq.trans (b := [AObj.var (sumC (fnv b) 0), AObj.var (splice (sumC (fnv b) k) (0 + (k : Int).toNat * 1) [.prim (.int .u8 (IntKind.u8.wrap ((fnv b : Int).fdiv (2 ^ (Min.min (8 * ((7 : Int) - (k : Int))).toNat 64)))))])]) rfl ?_
     rw [hsh k hlt, ← hS k hlt, zAc, zBu, Nat.mul_one, splice_one (by simp [sumC]; omega)]
     rfl
   · exfalso; omega
 · have : k = 8 := by omega
   subst this
   repeat' (first | refine aoQ rfl rfl rfl (fun hg => by first | exact std0 | exact std1) (by exact rfl) ?_ | refine sqW ?_ | refine rgK (fun K' hK => ?_) | (refine aoN (hK _ _ ?_); clear hK K') | refine aoE (bxW rfl rfl rfl rfl rfl tI rfl rfl ?_) | refine aoE (stW tabOk rfl rfl rfl tI rfl rfl tI rfl rfl rfl rfl rfl rfl rfl ?_) | refine aoE (alW tabOk rfl rfl rfl rfl rfl rfl ?_) | refine cdN rfl tI (fun hc => ?_) (fun hc => ?_) | refine blK ?_ | refine exW ?_ | refine skW ?_ | refine rtW ?_ | refine dK2 (by decide +kernel) (by kernel_rfl) (by decide +kernel) rfl (fun K' hK => ?_) | refine dL2 (by kernel_rfl) (by decide +kernel) rfl (fun K' hK => ?_) | (refine aqN (hK _ ?_); clear hK K') | refine aqN ?_ | refine aqQ rfl rfl (fun hg => by first | exact std0 | exact std1) (by exact rfl) ?_)
   · exfalso; omega
   · exact ⟨.inr rfl, _, rfl, Ent.of rfl⟩
theorem zig_bits {n : Int} (hn : InI n) : bits .xor .u64 (IntKind.u64.wrap (IntKind.u64.wrap n * 2 ^ (Min.min (1 : Int).toNat IntKind.u64.bits))) (IntKind.u64.wrap (n.fdiv (2 ^ (Min.min (63 : Int).toNat IntKind.i64.bits)))) = ((zig n : Nat) : Int) := by
 have h1 := hn.1
 have h2 := hn.2
 have e1 : (2 : Int) ^ (Min.min (1 : Int).toNat IntKind.u64.bits) = 2 := by decide
 have e2 : (2 : Int) ^ (Min.min (63 : Int).toNat IntKind.i64.bits) = 9223372036854775808 := by decide
 rw [e1, e2, zBw _ (by decide)]
 have hz := zig_lt hn
 by_cases h : 0 ≤ n
 · have a1 : IntKind.u64.wrap (IntKind.u64.wrap n * 2) = ((zig n : Nat) : Int) := by
    rw [IntKind.wrap_u64, IntKind.wrap_u64]; unfold zig; rw [if_pos h]; omega
   have a2 : IntKind.u64.wrap (n / 9223372036854775808) = ((0 : Nat) : Int) := by
    rw [IntKind.wrap_u64]; omega
   rw [a1, a2, bits_xor_u64_nat _ _ hz (by decide), Nat.xor_zero]
 · have a1 : IntKind.u64.wrap (IntKind.u64.wrap n * 2) = (((2 * n + 18446744073709551616).toNat : Nat) : Int) := by
    rw [IntKind.wrap_u64, IntKind.wrap_u64]; omega
   have a2 : IntKind.u64.wrap (n / 9223372036854775808) = ((18446744073709551615 : Nat) : Int) := by
    rw [IntKind.wrap_u64]; omega
   rw [a1, a2, bits_xor_u64_nat _ _ (by omega) (by decide), Nat.xor_comm, show (18446744073709551615 : Nat) = 2 ^ 64 - 1 from by decide, Lib.xor_ones64 _ (by omega)]
   unfold zig; rw [if_neg h]; omega
theorem number_spec (n : Int) (hn : InI n) : PCall Tryz.prog 138 [.int n] (.prim (.int .u64 (zig n : Nat))) := by
 refine PCall.body Tryz.func138 rfl rfl Tryz.ntmps138 rfl rfl ?_
 repeat' (first | refine aoQ rfl rfl rfl (fun hg => by first | exact std0 | exact PRun.bitsW rfl rfl nd rfl nd rfl | exact PRun.shlW rfl rfl nd rfl nd (by omega) | exact PRun.shrW rfl rfl nd rfl nd (by omega)) (by exact rfl) ?_ | refine sqW ?_ | refine rgK (fun K' hK => ?_) | (refine aoN (hK _ _ ?_); clear hK K') | refine rtW ?_)
 refine ⟨.inr rfl, Ent.of ?_⟩
 show AV.prim (.int .u64 _) = _
 rw [zig_bits hn]
theorem or128k : ∀ c : Fin 256, bits .or .u8 ((c.val : Nat) : Int) 128 = ((c.val % 128 + 128 : Nat) : Int) := by decide +kernel
theorem or128 (u : Nat) : bits .or .u8 (IntKind.u8.wrap (u : Int)) 128 = ((UInt8.ofNat (u % 128 + 128)).toNat : Int) := by
 have h := or128k ⟨u % 256, by omega⟩
 have e : IntKind.u8.wrap (u : Int) = ((u % 256 : Nat) : Int) := by rw [wrap8]; omega
 rw [e, ofNat_toNat8]
 refine h.trans ?_
 simp only
 omega
theorem shr7 (u : Nat) : (u : Int).fdiv (2 ^ (Min.min (7 : Int).toNat IntKind.u64.bits)) = ((u / 128 : Nat) : Int) := by
 have e2 : (2 : Int) ^ (Min.min (7 : Int).toNat IntKind.u64.bits) = 128 := by decide
 rw [e2, zBw _ (by decide)]; omega
theorem put_T (n : Int) (hn : InI n) (out : Bs) (ho : out.length ≤ 1000000) : TCall Tryz.prog 127 [.sl 1 (out.map by8) (.own 0), .int n] [.own 1 (out.map by8).length] (fun r s => r = .sl 1 ((out ++ num n).map by8) (.own 0) ∧ s = [.own 1 ((out ++ num n).map by8).length]) := by
 have hz := zig_lt hn
 have hv := number_spec n hn
 refine TCall.body Tryz.func127 rfl rfl Tryz.ntmps127 rfl rfl ?_
 repeat' (first | refine aoQ rfl rfl rfl (fun hg => by first | exact std0 | exact pcW (hv) rfl rfl nd rfl nds) (by exact rfl) ?_ | refine sqW ?_ | refine rgK (fun K' hK => ?_) | (refine aoN (hK _ _ ?_); clear hK K') | refine blK ?_)
 refine lpW (ι := Nat × Bs × Nat) (fun i => [(0, .sl 1 (i.2.1.map by8) (.own 0)), (5, .prim (.int .u64 (i.1 : Nat)))]) (fun i => [.own 1 (i.2.1.map by8).length]) (fun i => i.2.1 ++ lebF (i.2.2 + 1) i.1 = out ++ num n ∧ i.1 < 128 ^ (i.2.2 + 1) ∧ i.2.1.length + i.2.2 = out.length + 9) (fun i => i.2.2) (zig n, out, 9) ⟨rfl, by simp only; omega, rfl⟩ ⟨rfl, rfl, tI⟩ rfl ?_
 rintro ⟨u, out', f⟩ ⟨g1, g2, g3⟩
 dsimp only at g1 g2 g3 ⊢
 by_cases hu : 127 < u
 · repeat' (first | refine aoQ rfl rfl rfl (fun hg => by first | exact std0 | exact PRun.bitsW rfl rfl nd rfl nd rfl | exact PRun.shrW rfl rfl nd rfl nd (by omega) | exact pbS tabOk rfl rfl nds) (by exact rfl) ?_ | refine sqW ?_ | refine rgK (fun K' hK => ?_) | (refine aoN (hK _ _ ?_); clear hK K') | refine aoE (apO tabOk rfl rfl rfl (by decide) (Rd.w rfl tI) rfl (Rd.w rfl tI) (.sl rfl (by first | (intro x hx; rcases zA9.1 hx with rfl; rfl) | exact one_by8 _ | exact one_ints _)) (LOk.of (tabOk.get rfl)) (LOk.of (tabOk.get rfl)) rfl rfl (by simp only [lLm, lLa, zA2, zA5]; omega) (by simp only [lLm, lLa, zA2, zA5]; omega) ?_) | refine cdN rfl tI (fun hc => ?_) (fun hc => ?_) | refine blK ?_ | refine exW ?_ | refine skW ?_ | refine rtW ?_)
   · cases f with
     | zero => exfalso; simp at g2; omega
     | succ f' =>
       refine ⟨(u / 128, out' ++ [UInt8.ofNat (u % 128 + 128)], f'), ⟨by rw [← g1, lebF_step (u := u) (by omega)]; simp, div_pow g2, by simp; omega⟩, by simp, ⟨snoc8 (or128 u), ?_, tI⟩, (by show [AObj.own 1 (out'.map by8 ++ [_]).length] = [AObj.own 1 ((out' ++ [UInt8.ofNat (u % 128 + 128)]).map by8).length]; simp)⟩
       show AV.prim (.int .u64 _) = _
       rw [shr7]
   · (exfalso; first | omega | (simp at hc; done) | (simp only [zAc, zAm, zA0, zAf, zAd, dEt, dEf, zAl, zAk, beq_iff_eq, beq_eq_false_iff_ne, bne_iff_ne, bne_eq_false_iff_eq, gt_iff_lt, ge_iff_le, ne_eq] at hc; omega))
 · repeat' (first | refine aoQ rfl rfl rfl (fun hg => by first | exact std0 | exact PRun.bitsW rfl rfl nd rfl nd rfl | exact PRun.shrW rfl rfl nd rfl nd (by omega) | exact pbS tabOk rfl rfl nds) (by exact rfl) ?_ | refine sqW ?_ | refine rgK (fun K' hK => ?_) | (refine aoN (hK _ _ ?_); clear hK K') | refine aoE (apO tabOk rfl rfl rfl (by decide) (Rd.w rfl tI) rfl (Rd.w rfl tI) (.sl rfl (by first | (intro x hx; rcases zA9.1 hx with rfl; rfl) | exact one_by8 _ | exact one_ints _)) (LOk.of (tabOk.get rfl)) (LOk.of (tabOk.get rfl)) rfl rfl (by simp only [lLm, lLa, zA2, zA5]; omega) (by simp only [lLm, lLa, zA2, zA5]; omega) ?_) | refine cdN rfl tI (fun hc => ?_) (fun hc => ?_) | refine blK ?_ | refine exW ?_ | refine skW ?_ | refine rtW ?_)
   · exfalso; omega
   · have e : out ++ num n = out' ++ [UInt8.ofNat u] := by rw [← g1, lebF_last (by omega)]
     exact ⟨.inr rfl, _, [.own 1 ((out ++ num n).map by8).length], ⟨(snoc8 (t := .own 0) (w_last u)).trans (by rw [e]), rfl⟩, (by rw [e]; show [AObj.own 1 (out'.map by8 ++ [_]).length] = [AObj.own 1 ((out' ++ [UInt8.ofNat u]).map by8).length]; simp), nLr _, rfl, rfl, rfl⟩
theorem put_nil (n : Int) (hn : InI n) : TCall Tryz.prog 127 [.nils, .int n] [] (fun r s => r = .sl 1 ((num n).map by8) (.own 0) ∧ s = [.own 1 ((num n).map by8).length]) := by
 have hz := zig_lt hn
 have hv := number_spec n hn
 refine TCall.body Tryz.func127 rfl rfl Tryz.ntmps127 rfl rfl ?_
 refine AWP.ownNil (d := 0) (sz := 1) rfl ?_
 repeat' (first | refine aoQ rfl rfl rfl (fun hg => by first | exact std0 | exact pcW (hv) rfl rfl nd rfl nds) (by exact rfl) ?_ | refine sqW ?_ | refine rgK (fun K' hK => ?_) | (refine aoN (hK _ _ ?_); clear hK K') | refine blK ?_)
 refine lpW (ι := Nat × Bs × Nat) (fun i => [(0, .sl 1 (i.2.1.map by8) (.own 0)), (5, .prim (.int .u64 (i.1 : Nat)))]) (fun i => [.own 1 (i.2.1.map by8).length]) (fun i => i.2.1 ++ lebF (i.2.2 + 1) i.1 = num n ∧ i.1 < 128 ^ (i.2.2 + 1) ∧ i.2.1.length + i.2.2 = 9) (fun i => i.2.2) (zig n, [], 9) ⟨rfl, by simp only; omega, rfl⟩ ⟨rfl, rfl, tI⟩ rfl ?_
 rintro ⟨u, out', f⟩ ⟨g1, g2, g3⟩
 dsimp only at g1 g2 g3 ⊢
 by_cases hu : 127 < u
 · repeat' (first | refine aoQ rfl rfl rfl (fun hg => by first | exact std0 | exact PRun.bitsW rfl rfl nd rfl nd rfl | exact PRun.shrW rfl rfl nd rfl nd (by omega) | exact pbS tabOk rfl rfl nds) (by exact rfl) ?_ | refine sqW ?_ | refine rgK (fun K' hK => ?_) | (refine aoN (hK _ _ ?_); clear hK K') | refine aoE (apO tabOk rfl rfl rfl (by decide) (Rd.w rfl tI) rfl (Rd.w rfl tI) (.sl rfl (by first | (intro x hx; rcases zA9.1 hx with rfl; rfl) | exact one_by8 _ | exact one_ints _)) (LOk.of (tabOk.get rfl)) (LOk.of (tabOk.get rfl)) rfl rfl (by simp only [lLm, lLa, zA2, zA5]; omega) (by simp only [lLm, lLa, zA2, zA5]; omega) ?_) | refine cdN rfl tI (fun hc => ?_) (fun hc => ?_) | refine blK ?_ | refine exW ?_ | refine skW ?_ | refine rtW ?_)
   · cases f with
     | zero => exfalso; simp at g2; omega
     | succ f' =>
       refine ⟨(u / 128, out' ++ [UInt8.ofNat (u % 128 + 128)], f'), ⟨by rw [← g1, lebF_step (u := u) (by omega)]; simp, div_pow g2, by simp; omega⟩, by simp, ⟨snoc8 (or128 u), ?_, tI⟩, (by show [AObj.own 1 (out'.map by8 ++ [_]).length] = [AObj.own 1 ((out' ++ [UInt8.ofNat (u % 128 + 128)]).map by8).length]; simp)⟩
       show AV.prim (.int .u64 _) = _
       rw [shr7]
   · (exfalso; first | omega | (simp at hc; done) | (simp only [zAc, zAm, zA0, zAf, zAd, dEt, dEf, zAl, zAk, beq_iff_eq, beq_eq_false_iff_ne, bne_iff_ne, bne_eq_false_iff_eq, gt_iff_lt, ge_iff_le, ne_eq] at hc; omega))
 · repeat' (first | refine aoQ rfl rfl rfl (fun hg => by first | exact std0 | exact PRun.bitsW rfl rfl nd rfl nd rfl | exact PRun.shrW rfl rfl nd rfl nd (by omega) | exact pbS tabOk rfl rfl nds) (by exact rfl) ?_ | refine sqW ?_ | refine rgK (fun K' hK => ?_) | (refine aoN (hK _ _ ?_); clear hK K') | refine aoE (apO tabOk rfl rfl rfl (by decide) (Rd.w rfl tI) rfl (Rd.w rfl tI) (.sl rfl (by first | (intro x hx; rcases zA9.1 hx with rfl; rfl) | exact one_by8 _ | exact one_ints _)) (LOk.of (tabOk.get rfl)) (LOk.of (tabOk.get rfl)) rfl rfl (by simp only [lLm, lLa, zA2, zA5]; omega) (by simp only [lLm, lLa, zA2, zA5]; omega) ?_) | refine cdN rfl tI (fun hc => ?_) (fun hc => ?_) | refine blK ?_ | refine exW ?_ | refine skW ?_ | refine rtW ?_)
   · exfalso; omega
   · have e : num n = out' ++ [UInt8.ofNat u] := by rw [← g1, lebF_last (by omega)]
     exact ⟨.inr rfl, _, [.own 1 ((num n).map by8).length], ⟨(snoc8 (t := .own 0) (w_last u)).trans (by rw [e]), rfl⟩, (by rw [e]; show [AObj.own 1 (out'.map by8 ++ [_]).length] = [AObj.own 1 ((out' ++ [UInt8.ofNat u]).map by8).length]; simp), nZl _, rfl, rfl, rfl⟩
theorem put_spec (l : List Int) (hi : ∀ n ∈ l, InI n) (hl : l.length ≤ 9223372036854775807) : PCall Tryz.prog 96 [.sl 1 (l.map encN) .no] (.tup [.sl 1 ((putR l).1.map by8) .no, .int (putR l).2]) := by
 have hv := TCall.val (first := []) (caps := []) (avs := [.nils, .int l.length]) (put_nil l.length ⟨by omega, by omega⟩)
 refine PCall.body Tryz.func96 rfl rfl Tryz.ntmps96 rfl rfl ?_
 repeat' (first | refine aoQ rfl rfl rfl (fun hg => by first | exact std0 | exact std1) (by exact rfl) ?_ | refine sqW ?_ | refine rgK (fun K' hK => ?_) | (refine aoN (hK _ _ ?_); clear hK K') | refine aoE (scT (hv) rfl rfl rfl rfl rfl nd rfl rfl nds ?_) | refine cdN rfl tI (fun hc => ?_) (fun hc => ?_) | refine skW ?_ | refine rtW ?_)
 · refine ⟨.inr rfl, ?_⟩
   rw [show putR l = ([], 2) from if_neg (by omega)]
   exact Ent.tup2 Ent.nil (Ent.rfl' _)
 rintro _ _ ⟨rfl, rfl⟩
 have hl4 : l.length ≤ 4000 := by omega
 repeat' (first | refine aoQ rfl rfl rfl (fun hg => by first | exact std0 | exact std1) (by exact rfl) ?_ | refine sqW ?_ | refine rgK (fun K' hK => ?_) | (refine aoN (hK _ _ ?_); clear hK K') | refine blK ?_)
 refine lpW (ι := Nat) (fun k => [(13, .sl 1 (l.map encN) .no), (14, .int l.length), (15, .int k), (4, .sl 1 ((num l.length ++ (l.take k).flatMap num).map by8) (.own 0))]) (fun k => [.own 1 ((num l.length ++ (l.take k).flatMap num).map by8).length]) (fun k => k ≤ l.length) (fun k => l.length - k) 0 (nZl _) ⟨rfl, rfl, rfl, (by show AV.sl 1 ((num l.length).map by8) _ = _; simp), tI⟩ (by show [AObj.own 1 ((num l.length).map by8).length] = _; simp) ?_
 intro k hk
 have hb := flat_len (l.take k)
 have hb2 := num_len l.length
 have hb3 : (l.take k).length ≤ 4000 := by simp; omega
 by_cases hlt : k < l.length
 · have hp := TCall.val (first := []) (caps := []) (avs := [.sl 1 ((num l.length ++ (l.take k).flatMap num).map by8) (.own 0), .int (l.getD k default)]) (put_T (l.getD k default) (hi _ (getD_mem hlt)) (num l.length ++ (l.take k).flatMap num) (by rw [lLa]; omega))
   repeat' (first | refine aoQ rfl rfl rfl (fun hg => by first | exact std0 | exact std1) (by exact rfl) ?_ | refine sqW ?_ | refine rgK (fun K' hK => ?_) | (refine aoN (hK _ _ ?_); clear hK K') | refine aoE (scT (hp) rfl rfl rfl rfl rfl nd rfl rfl nds ?_) | refine cdN rfl tI (fun hc => ?_) (fun hc => ?_) | refine blK ?_ | refine exW ?_ | refine skW ?_ | refine rtW ?_)
   · rintro _ _ ⟨rfl, rfl⟩
     repeat' (first | refine aoQ rfl rfl rfl (fun hg => by exact std0) (by exact rfl) ?_ | refine rgK (fun K' hK => ?_) | (refine aoN (hK _ _ ?_); clear hK K'))
     have e : num l.length ++ (l.take (k + 1)).flatMap num = (num l.length ++ (l.take k).flatMap num) ++ num (l.getD k default) := by rw [take_flat hlt, zBh]
     exact ⟨k + 1, by omega, by omega, ⟨rfl, rfl, rfl, by rw [e]; rfl, tI⟩, by rw [e]⟩
   · exfalso; omega
 · repeat' (first | refine aoQ rfl rfl rfl (fun hg => by first | exact std0 | exact std1) (by exact rfl) ?_ | refine sqW ?_ | refine rgK (fun K' hK => ?_) | (refine aoN (hK _ _ ?_); clear hK K') | refine cdN rfl tI (fun hc => ?_) (fun hc => ?_) | refine blK ?_ | refine exW ?_ | refine skW ?_ | refine rtW ?_)
   · exfalso; omega
   · refine ⟨.inr rfl, Ent.of ?_⟩
     have htk : l.take k = l := zB5 (by omega)
     rw [show putR l = (putL l, 0) from if_pos hl4, htk]; rfl
theorem cv8 (c : UInt8) : IntKind.i64.wrap (c.toNat : Int) = (c.toNat : Int) := by
 have := c.toNat_lt
 exact wrap64_in (by omega)
def wholeR (b : Bs) : List Int × Int := match whole b with
 | some p => (p.1, p.2)
 | none => ([], 0)
theorem wholeR_len {b : Bs} (h : b.length < n3 b + 11 ∨ b.length < 11) : wholeR b = ([], 0) := by
 unfold wholeR whole
 by_cases h11 : b.length < 11
 · rw [if_pos h11]
 · rw [if_neg h11, if_pos (by omega)]
theorem wholeR_sum {b : Bs} (h1 : 11 ≤ b.length) (h2 : n3 b + 11 ≤ b.length) (h : sumB (b.take (n3 b + 3)) ≠ (b.drop (n3 b + 3)).take 8) : wholeR b = ([], 0) := by
 unfold wholeR whole
 rw [if_neg (by omega), if_neg (by omega), if_neg h]
theorem wholeR_get {b : Bs} (h1 : 11 ≤ b.length) (h2 : n3 b + 11 ≤ b.length) (h : sumB (b.take (n3 b + 3)) = (b.drop (n3 b + 3)).take 8) : wholeR b = match getL ((b.take (n3 b + 3)).drop 3) with | some l => (l, ((n3 b + 11 : Nat) : Int)) | none => ([], 0) := by
 unfold wholeR whole
 rw [if_neg (by omega), if_neg (by omega), if_pos h]
 cases getL ((b.take (n3 b + 3)).drop 3) <;> rfl
theorem n3_int (b : Bs) : ((b.getD (0 : Int).toNat default).toNat : Int) * 65536 + ((b.getD (1 : Int).toNat default).toNat : Int) * 256 + ((b.getD (2 : Int).toNat default).toNat : Int) = (n3 b : Nat) := by
 show _ = (((b.getD 0 0).toNat * 65536 + (b.getD 1 0).toNat * 256 + (b.getD 2 0).toNat : Nat) : Int)
 rw [Int.natCast_add, Int.natCast_add, Int.natCast_mul, Int.natCast_mul]; rfl
set_option maxHeartbeats 1600000 in
theorem whole05_spec (b : Bs) (hl : b.length ≤ 4611686018427387904) : PCall Tryz.prog 113 [.sl 1 (b.map by8) .no] (tupLI (wholeR b).1 (wholeR b).2) := by
 have c0 := (b.getD (0 : Int).toNat default).toNat_lt
 have c1 := (b.getD (1 : Int).toNat default).toNat_lt
 have c2 := (b.getD (2 : Int).toNat default).toNat_lt
 have hN := n3_int b
 refine PCall.body Tryz.func113 rfl rfl Tryz.ntmps113 rfl rfl ?_
 by_cases h11 : b.length < 11
 · repeat' (first | refine aoQ rfl rfl rfl (fun hg => by first | exact std0 | exact std1) (by exact rfl) ?_ | refine sqW ?_ | refine rgK (fun K' hK => ?_) | (refine aoN (hK _ _ ?_); clear hK K') | refine aoE (bxW rfl rfl rfl rfl rfl tI rfl rfl ?_) | refine aoE (stW tabOk rfl rfl rfl tI rfl rfl tI rfl rfl rfl rfl rfl rfl rfl ?_) | refine aoE (alW tabOk rfl rfl rfl rfl rfl rfl ?_) | refine cdN rfl tI (fun hc => ?_) (fun hc => ?_) | refine blK ?_ | refine exW ?_ | refine skW ?_ | refine rtW ?_ | refine dK2 (by decide +kernel) (by kernel_rfl) (by decide +kernel) rfl (fun K' hK => ?_) | refine dL2 (by kernel_rfl) (by decide +kernel) rfl (fun K' hK => ?_) | (refine aqN (hK _ ?_); clear hK K') | refine aqN ?_ | refine aqQ rfl rfl (fun hg => by first | exact std0 | exact std1) (by exact rfl) ?_)
   · refine ⟨.inr rfl, ?_⟩
     rw [wholeR_len (.inr h11)]
     exact Ent.tup2 Ent.nil (Ent.rfl' _)
   all_goals (exfalso; first | omega | (simp at hc; done) | (simp only [zAc, zAm, zA0, zAf, zAd, dEt, dEf, zAl, zAk, beq_iff_eq, beq_eq_false_iff_ne, bne_iff_ne, bne_eq_false_iff_eq, gt_iff_lt, ge_iff_le, ne_eq] at hc; omega))
 repeat' (first | refine aoQ rfl rfl rfl (fun hg => by first | exact PRun.convV tabOk (cv8 _) rfl rfl nd rfl rfl | exact std0 | exact PRun.sliceLoM tabOk rfl rfl nd rfl nd rfl (by omega) | exact PRun.sliceHiM tabOk rfl rfl nd rfl nd rfl (by omega) | exact PRun.sliceM tabOk rfl rfl nd rfl nd rfl nd rfl (by omega) | exact pcW (sum04_spec _ (by rw [zAg]; omega)) rfl rfl nd rfl nds | exact pcW (bytes05_spec _ (fnv_lt _)) rfl rfl nd rfl nds | exact pcW (sameBytes_spec _ _) rfl rfl nd rfl nds | exact pcW (get05_spec _ (by rw [zAe, zAg]; omega)) rfl rfl nd rfl nds | exact std1) (by exact rfl) ?_ | refine sqW ?_ | refine rgK (fun K' hK => ?_) | (refine aoN (hK _ _ ?_); clear hK K') | refine aoE (bxW rfl rfl rfl rfl rfl tI rfl rfl ?_) | refine aoE (stW tabOk rfl rfl rfl tI rfl rfl tI rfl rfl rfl rfl rfl rfl rfl ?_) | refine aoE (alW tabOk rfl rfl rfl rfl rfl rfl ?_) | refine cdN rfl tI (fun hc => ?_) (fun hc => ?_) | refine blK ?_ | refine exW ?_ | refine skW ?_ | refine rtW ?_ | refine dK2 (by decide +kernel) (by kernel_rfl) (by decide +kernel) rfl (fun K' hK => ?_) | refine dL2 (by kernel_rfl) (by decide +kernel) rfl (fun K' hK => ?_) | (refine aqN (hK _ ?_); clear hK K') | refine aqN ?_ | refine aqQ rfl rfl (fun hg => by first | exact PRun.convV tabOk (cv8 _) rfl rfl nd rfl rfl | exact std0 | exact PRun.sliceLoM tabOk rfl rfl nd rfl nd rfl (by omega) | exact PRun.sliceHiM tabOk rfl rfl nd rfl nd rfl (by omega) | exact PRun.sliceM tabOk rfl rfl nd rfl nd rfl nd rfl (by omega) | exact pcW (sum04_spec _ (by rw [zAg]; omega)) rfl rfl nd rfl nds | exact pcW (bytes05_spec _ (fnv_lt _)) rfl rfl nd rfl nds | exact pcW (sameBytes_spec _ _) rfl rfl nd rfl nds | exact pcW (get05_spec _ (by rw [zAe, zAg]; omega)) rfl rfl nd rfl nds | exact std1) (by exact rfl) ?_)
 · (exfalso; first | omega | (simp at hc; done) | (simp only [zAc, zAm, zA0, zAf, zAd, dEt, dEf, zAl, zAk, beq_iff_eq, beq_eq_false_iff_ne, bne_iff_ne, bne_eq_false_iff_eq, gt_iff_lt, ge_iff_le, ne_eq] at hc; omega))
 · refine ⟨.inr rfl, ?_⟩
   rw [wholeR_len (.inl (by omega))]
   exact Ent.tup2 Ent.nil (Ent.rfl' _)
 all_goals (
  have h2 : n3 b + 11 ≤ b.length := by omega
  have n1 : (3 + (((b.getD (0 : Int).toNat default).toNat : Int) * 65536 + ((b.getD (1 : Int).toNat default).toNat : Int) * 256 + ((b.getD (2 : Int).toNat default).toNat : Int))).toNat = n3 b + 3 := by omega
  have n2 : (11 + (((b.getD (0 : Int).toNat default).toNat : Int) * 65536 + ((b.getD (1 : Int).toNat default).toNat : Int) * 256 + ((b.getD (2 : Int).toNat default).toNat : Int))).toNat = n3 b + 11 := by omega
  have n3' : (b.take (n3 b + 11)).drop (n3 b + 3) = (b.drop (n3 b + 3)).take 8 := by rw [List.drop_take]; congr 1; omega)
 · refine ⟨.inr rfl, ?_⟩
   rw [n1, n2, n3'] at hc
   rw [wholeR_sum (by omega) h2 (by intro he; unfold sumB at he; rw [he] at hc; simp at hc)]
   exact Ent.tup2 Ent.nil (Ent.rfl' _)
 · refine ⟨.inr rfl, ?_⟩
   rename_i hs
   rw [n1, n2, n3'] at hs
   rw [n1] at hc
   have he : sumB (b.take (n3 b + 3)) = (b.drop (n3 b + 3)).take 8 := by unfold sumB; simp at hs; exact hs.symm
   have hq := wholeR_get (by omega) h2 he
   rw [show ((b.take (n3 b + 3)).drop (3 : Int).toNat) = (b.take (n3 b + 3)).drop 3 from rfl] at hc
   cases hg : getL ((b.take (n3 b + 3)).drop 3) with
   | some l => rw [getR_some hg] at hc; simp at hc
   | none =>
     rw [hg] at hq
     rw [hq]
     exact Ent.tup2 Ent.nil (Ent.rfl' _)
 · refine ⟨.inr rfl, Ent.of ?_⟩
   rename_i hs
   rw [n1, n2, n3'] at hs
   have he : sumB (b.take (n3 b + 3)) = (b.drop (n3 b + 3)).take 8 := by unfold sumB; simp at hs; exact hs.symm
   have hq := wholeR_get (by omega) h2 he
   rw [n1] at hc
   rw [show ((b.take (n3 b + 3)).drop (3 : Int).toNat) = (b.take (n3 b + 3)).drop 3 from rfl] at hc
   cases hg : getL ((b.take (n3 b + 3)).drop 3) with
   | none => rw [getR_none hg] at hc; simp at hc
   | some l =>
     rw [hg] at hq
     rw [hq]
     show AV.tup [.sl 1 ((getR ((b.take ((3 : Int) + _).toNat).drop (3 : Int).toNat)).1.map encN) .no, .int _] = _
     rw [n1, show ((b.take (n3 b + 3)).drop (3 : Int).toNat) = (b.take (n3 b + 3)).drop 3 from rfl, getR_some hg]
     show AV.tup [_, .int _] = AV.tup [_, .int _]
     congr 3
end Go.Proofs.YtbneeinknlddaaaGreat
