/- Contracts by content: texts, marks and events of the reference.  Contracts by content: the codec of the reference: integers as bytes.  Contracts by content: the codec of the reference: lists of integers, digests.  Contracts by content: lists that are compared.  Events in order, in plain words: their stamps, lists without forks, what is added. No program is in sight. No statement is proved here. -/
import Derived.Test.YtbneeinknlddaaaGreatP6
import Derived.Test.YtbneeinknlddaaaGreatP7
set_option linter.unusedVariables false
set_option linter.unusedSimpArgs false
namespace Go.Proofs.YtbneeinknlddaaaGreat
open Go.Ab Go.Jo
attribute [local irreducible] AWP AOps EStep AQ PStep PRun PCall TCall VCall
theorem text_bad {t : Bs} {k : Nat} (hk : k < t.length) (h : (t.getD k 0).toNat < 32 ∨ 126 < (t.getD k 0).toNat) : textOk t = false := by
 cases h1 : textOk t with
 | false => rfl
 | true =>
   have := (textOk_iff.1 h1).2 (t.getD k 0) (by simp [List.getD, hk])
   omega
theorem text_good {t : Bs} (h1 : t.length ≤ 200) (h : ∀ j, j < t.length → 32 ≤ (t.getD j 0).toNat ∧ (t.getD j 0).toNat ≤ 126) : textOk t = true :=
 textOk_iff.2 ⟨h1, fun c hc => by
  obtain ⟨i, hi, rfl⟩ := zBj.1 hc
  have := h i hi
  simpa [List.getD, hi] using this⟩
theorem text19_spec (t : Bs) (ht : t.length ≤ 9223372036854775807) : PCall Tryz.prog 40 [.bs t] (.b (textOk t)) := by
 have hsz : (⟨t.toArray⟩ : ByteArray).size = t.length := by simp [ByteArray.size]
 refine PCall.body Tryz.func40 rfl rfl Tryz.ntmps40 rfl rfl ?_
 repeat' (first | refine aoQ rfl rfl rfl (fun hg => by first | exact std0 | exact std1) (by exact rfl) ?_ | refine sqW ?_ | refine rgK (fun K' hK => ?_) | (refine aoN (hK _ _ ?_); clear hK K') | refine aoE (bxW rfl rfl rfl rfl rfl tI rfl rfl ?_) | refine aoE (stW tabOk rfl rfl rfl tI rfl rfl tI rfl rfl rfl rfl rfl rfl rfl ?_) | refine aoE (alW tabOk rfl rfl rfl rfl rfl rfl ?_) | refine cdN rfl tI (fun hc => ?_) (fun hc => ?_) | refine blK ?_ | refine exW ?_ | refine skW ?_ | refine rtW ?_ | refine dK2 (by decide +kernel) (by kernel_rfl) (by decide +kernel) rfl (fun K' hK => ?_) | refine dL2 (by kernel_rfl) (by decide +kernel) rfl (fun K' hK => ?_) | (refine aqN (hK _ ?_); clear hK K') | refine aqN ?_ | refine aqQ rfl rfl (fun hg => by first | exact std0 | exact std1) (by exact rfl) ?_)
 · refine ⟨.inr rfl, Ent.b ?_⟩
   rw [hsz] at hc
   have : decide (t.length ≤ 200) = false := by simp; omega
   unfold textOk; rw [this]; rfl
 refine lpW (ι := Nat) (fun k => [(0, .bs t), (3, .int k)]) (fun _ => []) (fun k => k ≤ t.length ∧ ∀ j, j < k → 32 ≤ (t.getD j 0).toNat ∧ (t.getD j 0).toNat ≤ 126) (fun k => t.length - k) 0 ⟨nZl _, fun j h => absurd h (by omega)⟩ ⟨rfl, rfl, tI⟩ rfl ?_
 rintro k ⟨hk, hall⟩
 rw [hsz] at hc
 by_cases hlt : k < t.length
 · repeat' (first | refine aoQ rfl rfl rfl (fun hg => by first | exact std0 | exact std1) (by exact rfl) ?_ | refine sqW ?_ | refine rgK (fun K' hK => ?_) | (refine aoN (hK _ _ ?_); clear hK K') | refine aoE (bxW rfl rfl rfl rfl rfl tI rfl rfl ?_) | refine aoE (stW tabOk rfl rfl rfl tI rfl rfl tI rfl rfl rfl rfl rfl rfl rfl ?_) | refine aoE (alW tabOk rfl rfl rfl rfl rfl rfl ?_) | refine cdN rfl tI (fun hc => ?_) (fun hc => ?_) | refine blK ?_ | refine exW ?_ | refine skW ?_ | refine rtW ?_ | refine dK2 (by decide +kernel) (by kernel_rfl) (by decide +kernel) rfl (fun K' hK => ?_) | refine dL2 (by kernel_rfl) (by decide +kernel) rfl (fun K' hK => ?_) | (refine aqN (hK _ ?_); clear hK K') | refine aqN ?_ | refine aqQ rfl rfl (fun hg => by first | exact std0 | exact std1) (by exact rfl) ?_)
   · refine ⟨.inr rfl, Ent.b (Eq.symm (text_bad hlt ?_))⟩
     simp only [zAc, zAm, zA0, zAf, zAd, dEt, dEf, zAl, zAk, beq_iff_eq, beq_eq_false_iff_ne, bne_iff_ne, bne_eq_false_iff_eq, gt_iff_lt, ge_iff_le, ne_eq] at hc; omega
   · refine ⟨k + 1, ⟨by omega, fun j hj => lt_succ_cases hall ?_ hj⟩, by omega, ⟨rfl, rfl, tI⟩, rfl⟩
     simp only [zAc, zAm, zA0, zAf, zAd, dEt, dEf, zAl, zAk, beq_iff_eq, beq_eq_false_iff_ne, bne_iff_ne, bne_eq_false_iff_eq, gt_iff_lt, ge_iff_le, ne_eq] at hc; omega
   · exfalso; omega
 · repeat' (first | refine aoQ rfl rfl rfl (fun hg => by first | exact std0 | exact std1) (by exact rfl) ?_ | refine sqW ?_ | refine rgK (fun K' hK => ?_) | (refine aoN (hK _ _ ?_); clear hK K') | refine aoE (bxW rfl rfl rfl rfl rfl tI rfl rfl ?_) | refine aoE (stW tabOk rfl rfl rfl tI rfl rfl tI rfl rfl rfl rfl rfl rfl rfl ?_) | refine aoE (alW tabOk rfl rfl rfl rfl rfl rfl ?_) | refine cdN rfl tI (fun hc => ?_) (fun hc => ?_) | refine blK ?_ | refine exW ?_ | refine skW ?_ | refine rtW ?_ | refine dK2 (by decide +kernel) (by kernel_rfl) (by decide +kernel) rfl (fun K' hK => ?_) | refine dL2 (by kernel_rfl) (by decide +kernel) rfl (fun K' hK => ?_) | (refine aqN (hK _ ?_); clear hK K') | refine aqN ?_ | refine aqQ rfl rfl (fun hg => by first | exact std0 | exact std1) (by exact rfl) ?_)
   all_goals (first | (exfalso; omega) | skip)
   · exact ⟨.inr rfl, Ent.b (text_good (by omega) fun j hj => hall j (by omega)).symm⟩
theorem flM : flatN Tryz.prog 31 = some [.int .i64, .int .i64, .int .i64, .int .i64, .int .i64, .int .i64, .int .i64, .int .i64, .int .i64, .str] := by kernel_rfl
theorem flE : flatN Tryz.prog 33 = some [.int .i64, .int .i64, .int .i64, .int .i64, .int .i64, .int .i64, .int .i64, .int .i64, .int .i64, .int .i64, .int .i64, .int .i64, .int .i64, .str] := by kernel_rfl
theorem flR : flatN Tryz.prog 23 = some [.int .i64, .int .i64, .int .i64] := by kernel_rfl
theorem valid19_spec (m : Jo.Mark) (ht : m.text.length ≤ 9223372036854775807) : PCall Tryz.prog 18 [.agg (encM m)] (.b (markOk m)) := by
 have v := by19_spec m.layer m.who
 have w := text19_spec m.text ht
 refine PCall.body Tryz.func18 rfl rfl Tryz.ntmps18 rfl rfl ?_
 repeat' (first | refine aoQ rfl rfl rfl (fun hg => by first | exact std0 | exact pcW (v) rfl rfl nd rfl nds | exact pcW (w) rfl rfl nd rfl nds | exact pcW (in19_spec _ _ _) rfl rfl nd rfl nds | exact pcW (id19_spec _) rfl rfl nd rfl nds | exact std1) (by exact rfl) ?_ | refine sqW ?_ | refine rgK (fun K' hK => ?_) | (refine aoN (hK _ _ ?_); clear hK K') | refine aoE (bxW rfl rfl rfl rfl rfl tI rfl rfl ?_) | refine aoE (stW tabOk rfl rfl rfl tI rfl rfl tI rfl rfl rfl rfl rfl rfl rfl ?_) | refine aoE (alW tabOk rfl rfl rfl rfl rfl rfl ?_) | refine cdN rfl tI (fun hc => ?_) (fun hc => ?_) | refine blK ?_ | refine exW ?_ | refine skW ?_ | refine rtW ?_ | refine dK2 (by decide +kernel) (by kernel_rfl) (by decide +kernel) rfl (fun K' hK => ?_) | refine dL2 (by kernel_rfl) (by decide +kernel) rfl (fun K' hK => ?_) | (refine aqN (hK _ ?_); clear hK K') | refine aqN ?_ | refine aqQ rfl rfl (fun hg => by first | exact std0 | exact pcW (v) rfl rfl nd rfl nds | exact pcW (w) rfl rfl nd rfl nds | exact pcW (in19_spec _ _ _) rfl rfl nd rfl nds | exact pcW (id19_spec _) rfl rfl nd rfl nds | exact std1) (by exact rfl) ?_)
 · refine ⟨.inr rfl, Ent.b ?_⟩
   unfold markOk
   (revert hc; generalize (textOk m.text) = z0; generalize (byOk m.layer m.who) = z1; generalize (isId m.id) = z2; generalize (isId m.version) = z3; generalize (isId m.note) = z4; generalize (inR m.kind 1 5) = z5; generalize (inR m.value 0 1000) = z6; generalize (m.kind != 1 || decide (m.value ≤ 2)) = z7; revert z0 z1 z2 z3 z4 z5 z6 z7; decide)
 · refine ⟨.inr rfl, Ent.b ?_⟩
   unfold markOk
   show (inR m.value 0 1000 && (m.kind != 1 || decide (m.value ≤ 2))) = _
   (revert hc; generalize (textOk m.text) = z0; generalize (byOk m.layer m.who) = z1; generalize (isId m.id) = z2; generalize (isId m.version) = z3; generalize (isId m.note) = z4; generalize (inR m.kind 1 5) = z5; generalize (inR m.value 0 1000) = z6; generalize (m.kind != 1 || decide (m.value ≤ 2)) = z7; revert z0 z1 z2 z3 z4 z5 z6 z7; decide)
theorem bs_beq (t u : Bs) : ((⟨t.toArray⟩ : ByteArray) == ⟨u.toArray⟩) = (t == u) := by
 show (t.toArray == u.toArray) = (t == u)
 rw [zBf]; simp
def eqM (m k : Jo.Mark) : Bool := m.id == k.id && (m.kind == k.kind && (m.layer == k.layer && (m.who.part == k.who.part && (m.who.desk == k.who.desk && (m.who.seat == k.who.seat && (m.version == k.version && (m.note == k.note && (m.value == k.value && (((⟨m.text.toArray⟩ : ByteArray) == ⟨k.text.toArray⟩) && true)))))))))
theorem eqM_eq (m k : Jo.Mark) : eqM m k = (m == k) := by
 unfold eqM
 rw [bs_beq, zBf]
 obtain ⟨a, b, c, ⟨d, e, f⟩, g, h, i, j⟩ := m
 obtain ⟨a', b', c', ⟨d', e', f'⟩, g', h', i', j'⟩ := k
 simp
 exact fun _ _ _ => ⟨fun ⟨h1, h2, h3, h4⟩ => ⟨⟨h1, h2, h3⟩, h4⟩, fun ⟨⟨h1, h2, h3⟩, h4⟩ => ⟨h1, h2, h3, h4⟩⟩
def eqE (e k : Ev) : Bool := e.clock == k.clock && (e.stand == k.stand && (e.kind == k.kind && (e.n == k.n && eqM e.mark k.mark)))
theorem eqE_eq (m k : Ev) : eqE m k = (m == k) := by
 unfold eqE
 rw [eqM_eq, zBf]
 obtain ⟨a, b, c, d, e⟩ := m
 obtain ⟨a', b', c', d', e'⟩ := k
 simp
theorem event22_spec (e : Ev) (ht : e.mark.text.length ≤ 9223372036854775807) : PCall Tryz.prog 45 [.agg (encE e)] (.b (evOk e)) := by
 have v := valid19_spec e.mark ht
 refine PCall.body Tryz.func45 rfl rfl Tryz.ntmps45 rfl rfl ?_
 repeat' (first | refine aoQ rfl rfl rfl (fun hg => by first | exact std0 | exact pcW (v) rfl rfl nd rfl nds | exact pcW (in22_spec _ _ _) rfl rfl nd rfl nds | exact pcW (id19_spec _) rfl rfl nd rfl nds | exact PRun.eqN flM rfl rfl nd rfl nd rfl | exact pbD tabOk rfl rfl nds | exact std1) (by exact rfl) ?_ | refine sqW ?_ | refine rgK (fun K' hK => ?_) | (refine aoN (hK _ _ ?_); clear hK K') | refine aoE (bxW rfl rfl rfl rfl rfl tI rfl rfl ?_) | refine aoE (stW tabOk rfl rfl rfl tI rfl rfl tI rfl rfl rfl rfl rfl rfl rfl ?_) | refine aoE (alW tabOk rfl rfl rfl rfl rfl rfl ?_) | refine cdN rfl tI (fun hc => ?_) (fun hc => ?_) | refine blK ?_ | refine exW ?_ | refine skW ?_ | refine rtW ?_ | refine dK2 (by decide +kernel) (by kernel_rfl) (by decide +kernel) rfl (fun K' hK => ?_) | refine dL2 (by kernel_rfl) (by decide +kernel) rfl (fun K' hK => ?_) | (refine aqN (hK _ ?_); clear hK K') | refine aqN ?_ | refine aqQ rfl rfl (fun hg => by first | exact std0 | exact pcW (v) rfl rfl nd rfl nds | exact pcW (in22_spec _ _ _) rfl rfl nd rfl nds | exact pcW (id19_spec _) rfl rfl nd rfl nds | exact PRun.eqN flM rfl rfl nd rfl nd rfl | exact pbD tabOk rfl rfl nds | exact std1) (by exact rfl) ?_)
 all_goals (refine ⟨.inr rfl, Ent.b ?_⟩; unfold evOk)
 · revert hc
   cases inR e.clock 0 1000000000 <;> cases isId e.stand <;> simp
 · have := hc; simp_all
 · show (isId e.n && eqM e.mark noMark) = _
   rw [eqM_eq]; simp_all
 · show (inR e.n 0 1000 && eqM e.mark noMark) = _
   rw [eqM_eq]; simp_all
 · simp_all
end Go.Proofs.YtbneeinknlddaaaGreat
namespace Go.Proofs.YtbneeinknlddaaaGreat
open Go.Ab Go.Jo
attribute [local irreducible] AWP AOps EStep AQ PStep PRun PCall TCall VCall DStep TDies AWD DCall
theorem lebF_step {f u : Nat} (h : 128 ≤ u) : lebF (f + 1) u = UInt8.ofNat (u % 128 + 128) :: lebF f (u / 128) := by rw [lebF, if_neg (by omega)]
theorem lebF_last {f u : Nat} (h : u < 128) : lebF (f + 1) u = [UInt8.ofNat u] := by rw [lebF, if_pos h]
theorem wrap8 (n : Int) : IntKind.u8.wrap n = n % 256 := by simp [IntKind.wrap, IntKind.bits, IntKind.signed]
theorem ofNat_toNat8 (n : Nat) : ((UInt8.ofNat n).toNat : Int) = (n : Int) % 256 := by rw [UInt8.toNat_ofNat']; omega
theorem tmodN (a b : Nat) : ((a : Int).tmod (b : Int)) = ((a % b : Nat) : Int) := by rw [Int.tmod_eq_emod_of_nonneg (by omega)]; rfl
theorem tdivN (a b : Nat) : ((a : Int).tdiv (b : Int)) = ((a / b : Nat) : Int) := by rw [Int.tdiv_eq_ediv_of_nonneg (by omega)]; rfl
theorem w_low (u : Nat) : IntKind.u8.wrap (IntKind.u8.wrap ((u : Int).tmod 128) + 128) = ((UInt8.ofNat (u % 128 + 128)).toNat : Int) := by
 have h := tmodN u 128
 rw [wrap8, wrap8, ofNat_toNat8]
 have h' : (u : Int).tmod 128 = ((u % 128 : Nat) : Int) := h
 rw [h']; omega
theorem w_last (u : Nat) : IntKind.u8.wrap (u : Int) = ((UInt8.ofNat u).toNat : Int) := by rw [wrap8, ofNat_toNat8]
theorem w_quo {u : Nat} (h : u < 18446744073709551616) : IntKind.u64.wrap ((u : Int).tdiv 128) = ((u / 128 : Nat) : Int) := by
 have h' : (u : Int).tdiv 128 = ((u / 128 : Nat) : Int) := tdivN u 128
 rw [h', IntKind.wrap_u64]; omega
theorem div_pow {u f : Nat} (h : u < 128 ^ (f + 1)) : u / 128 < 128 ^ f := by
 rw [Nat.pow_succ] at h
 exact Nat.div_lt_of_lt_mul (by rw [zC5]; exact h)
theorem snoc8 {l : Bs} {c : UInt8} {n : Int} {t : Tok} (h : n = c.toNat) : AV.sl 1 (l.map by8 ++ [[.prim (.int .u8 n)]]) t = AV.sl 1 ((l ++ [c]).map by8) t := by
 rw [h, zAr]; rfl
theorem one_T (n : Int) (hn : InI n) : TCall Tryz.prog 137 [.int n] [] (fun r s => r = .sl 1 ((num n).map by8) (.own 0) ∧ s = [.own 1 (num n).length]) := by
 have h1 := hn.1
 have h2 := hn.2
 have hz := zig_lt hn
 refine TCall.body Tryz.func137 rfl rfl Tryz.ntmps137 rfl rfl ?_
 repeat' (first | refine aoQ rfl rfl rfl (fun hg => by first | exact std0 | exact std1) (by exact rfl) ?_ | refine sqW ?_ | refine rgK (fun K' hK => ?_) | (refine aoN (hK _ _ ?_); clear hK K') | refine aoE (bxW rfl rfl rfl rfl rfl tI rfl rfl ?_) | refine aoE (stW tabOk rfl rfl rfl tI rfl rfl tI rfl rfl rfl rfl rfl rfl rfl ?_) | refine aoE (alW tabOk rfl rfl rfl rfl rfl rfl ?_) | refine cdN rfl tI (fun hc => ?_) (fun hc => ?_) | refine blK ?_ | refine exW ?_ | refine skW ?_ | refine rtW ?_ | refine dK2 (by decide +kernel) (by kernel_rfl) (by decide +kernel) rfl (fun K' hK => ?_) | refine dL2 (by kernel_rfl) (by decide +kernel) rfl (fun K' hK => ?_) | (refine aqN (hK _ ?_); clear hK K') | refine aqN ?_ | refine aqQ rfl rfl (fun hg => by first | exact std0 | exact std1) (by exact rfl) ?_)
 all_goals (refine AWP.keep [(3, .prim (.int .u64 (zig n : Nat))), (4, .nils)] ⟨?_, rfl, tI⟩ ?_)
 any_goals (show AV.prim (.int .u64 _) = _; congr 2; simp only [IntKind.wrap_u64, zig]; split <;> omega)
 all_goals (refine AWP.ownNil (d := 4) (sz := 1) rfl ?_)
 all_goals (refine lpW (ι := Nat × Bs × Nat) (fun i => [(3, .prim (.int .u64 (i.1 : Nat))), (4, .sl 1 (i.2.1.map by8) (.own 0))]) (fun i => [.own 1 (i.2.1.map by8).length]) (fun i => i.2.1 ++ lebF (i.2.2 + 1) i.1 = num n ∧ i.1 < 128 ^ (i.2.2 + 1) ∧ i.2.1.length + i.2.2 = 9 ∧ i.1 < 18446744073709551616) (fun i => i.2.2) (zig n, [], 9) ⟨rfl, by simp only; omega, rfl, hz⟩ ⟨rfl, rfl, tI⟩ rfl ?_)
 all_goals (rintro ⟨u, out, f⟩ ⟨g1, g2, g3, g4⟩; simp only at g1 g2 g3 g4)
 all_goals (have hlen : ((u, out, f) : Nat × Bs × Nat).2.1.length ≤ 9 := by simp only; omega)
 all_goals (by_cases hu : 128 ≤ u)
 all_goals (repeat' (first | refine aoQ rfl rfl rfl (fun hg => by first | exact std0 | exact pbS tabOk rfl rfl nds | exact std1) (by exact rfl) ?_ | refine sqW ?_ | refine rgK (fun K' hK => ?_) | (refine aoN (hK _ _ ?_); clear hK K') | refine aoE (bxW rfl rfl rfl rfl rfl tI rfl rfl ?_) | refine aoE (stW tabOk rfl rfl rfl tI rfl rfl tI rfl rfl rfl rfl rfl rfl rfl ?_) | refine aoE (alW tabOk rfl rfl rfl rfl rfl rfl ?_) | refine aoE (EStep.appendOwn tabOk rfl rfl rfl (by decide) (Rd.w rfl tI) rfl (Rd.w rfl tI) (.sl rfl (by first | (intro x hx; rcases zA9.1 hx with rfl; rfl) | exact one_by8 _ | exact one_ints _)) (LOk.of (tabOk.get rfl)) (LOk.of (tabOk.get rfl)) rfl rfl (by simp only [lLm, lLa, zA2, zA5]; omega) (by simp only [lLm, lLa, zA2, zA5]; omega) ?_) | refine cdN rfl tI (fun hc => ?_) (fun hc => ?_) | refine blK ?_ | refine exW ?_ | refine skW ?_ | refine rtW ?_ | refine dK2 (by decide +kernel) (by kernel_rfl) (by decide +kernel) rfl (fun K' hK => ?_) | refine dL2 (by kernel_rfl) (by decide +kernel) rfl (fun K' hK => ?_) | (refine aqN (hK _ ?_); clear hK K') | refine aqN ?_ | refine aqQ rfl rfl (fun hg => by first | exact std0 | exact pbS tabOk rfl rfl nds | exact std1) (by exact rfl) ?_))
 all_goals (first | (exfalso; simp only [dEf] at hc; omega) | (exfalso; omega) | skip)
 all_goals (first | exact ⟨.inr rfl, _, [.own 1 (num n).length], ⟨((snoc8 (t := .own 0) (w_last u)).trans (by rw [← g1, lebF_last (by omega)])), rfl⟩, (by show [AObj.own 1 ((out.map by8).length + 1)] = _; rw [← g1, lebF_last (by omega)]; simp), nZl _, rfl, rfl, rfl⟩ | skip)
 all_goals
  cases f with
  | zero => exfalso; simp at g2; omega
  | succ f' =>
    refine ⟨(u / 128, out ++ [UInt8.ofNat (u % 128 + 128)], f'), ⟨by rw [← g1, lebF_step hu]; simp, div_pow g2, by simp; omega, by simp only; omega⟩, by simp, ⟨?_, snoc8 (w_low u), tI⟩, ?_⟩
    · show AV.prim (.int .u64 _) = _
      rw [w_quo g4]
    · show [AObj.own 1 ((out.map by8).length + 1)] = _
      simp
theorem one_spec (n : Int) (hn : InI n) : PCall Tryz.prog 137 [.int n] (.sl 1 ((num n).map by8) .no) :=
 (one_T n hn).pcall fun r s h => Ent.of (by rw [h.1]; rfl)
theorem getD_mem {α : Type} [Inhabited α] {l : List α} {k : Nat} (h : k < l.length) : l.getD k default ∈ l := by simp [List.getD, h]
theorem take_flat {l : List Int} {k : Nat} (h : k < l.length) : (l.take (k + 1)).flatMap num = (l.take k).flatMap num ++ num (l.getD k default) := by
 rw [zAu h, List.flatMap_append, getD_lt h]; simp
abbrev encN (n : Int) : List AV := [.int n]
def putR (l : List Int) : Bs × Int := if l.length ≤ 4000 then (putL l, 0) else ([], 2)
theorem put05_spec (l : List Int) (hi : ∀ n ∈ l, InI n) (hl : l.length ≤ 9223372036854775807) : PCall Tryz.prog 115 [.sl 1 (l.map encN) .no] (.tup [.sl 1 ((putR l).1.map by8) .no, .int (putR l).2]) := by
 have hT := one_T l.length ⟨by omega, by omega⟩
 have hv := TCall.val (first := []) (caps := []) (avs := [.int l.length]) hT
 refine PCall.body Tryz.func115 rfl rfl Tryz.ntmps115 rfl rfl ?_
 repeat' (first | refine aoQ rfl rfl rfl (fun hg => by first | exact std0 | exact std1) (by exact rfl) ?_ | refine sqW ?_ | refine rgK (fun K' hK => ?_) | (refine aoN (hK _ _ ?_); clear hK K') | refine aoE (scT (hv) rfl rfl rfl rfl rfl nd rfl rfl nds ?_) | refine cdN rfl tI (fun hc => ?_) (fun hc => ?_) | refine skW ?_ | refine rtW ?_)
 · refine ⟨.inr rfl, ?_⟩
   rw [show putR l = ([], 2) from if_neg (by omega)]
   exact Ent.tup2 Ent.nil (Ent.rfl' _)
 rintro _ _ ⟨rfl, rfl⟩
 have hl4 : l.length ≤ 4000 := by omega
 repeat' (first | refine aoQ rfl rfl rfl (fun hg => by exact std0) (by exact rfl) ?_ | refine sqW ?_ | refine rgK (fun K' hK => ?_) | (refine aoN (hK _ _ ?_); clear hK K') | refine blK ?_)
 refine lpW (ι := Nat) (fun k => [(0, .sl 1 (l.map encN) .no), (4, .sl 1 ((num l.length ++ (l.take k).flatMap num).map by8) (.own 0)), (5, .int k)]) (fun k => [.own 1 ((num l.length ++ (l.take k).flatMap num).map by8).length]) (fun k => k ≤ l.length) (fun k => l.length - k) 0 (nZl _) ⟨rfl, (by show AV.sl 1 ((num l.length).map by8) _ = _; simp), rfl, tI⟩ (by show [AObj.own 1 (num l.length).length] = _; simp) ?_
 intro k hk
 have hb := flat_len (l.take k)
 have hb2 := num_len l.length
 have hb3 : (l.take k).length ≤ 4000 := by simp; omega
 by_cases hlt : k < l.length
 · have hb4 := num_len (l.getD k default)
   repeat' (first | refine aoQ rfl rfl rfl (fun hg => by first | exact std0 | exact pcW (one_spec _ (hi _ (getD_mem hlt))) rfl rfl nd rfl nds | exact std1) (by exact rfl) ?_ | refine sqW ?_ | refine rgK (fun K' hK => ?_) | (refine aoN (hK _ _ ?_); clear hK K') | refine aoE (EStep.appendOwn tabOk rfl rfl rfl (by decide) (Rd.w rfl tI) rfl (Rd.w rfl tI) (.sl rfl (by first | (intro x hx; rcases zA9.1 hx with rfl; rfl) | exact one_by8 _ | exact one_ints _)) (LOk.of (tabOk.get rfl)) (LOk.of (tabOk.get rfl)) rfl rfl (by simp only [lLm, lLa, zA2, zA5]; omega) (by simp only [lLm, lLa, zA2, zA5]; omega) ?_) | refine cdN rfl tI (fun hc => ?_) (fun hc => ?_) | refine blK ?_ | refine exW ?_ | refine skW ?_ | refine rtW ?_)
   · have e : num l.length ++ (l.take (k + 1)).flatMap num = (num l.length ++ (l.take k).flatMap num) ++ num (l.getD k default) := by rw [take_flat hlt, zBh]
     exact ⟨k + 1, by omega, by omega, ⟨rfl, slApp e, rfl, tI⟩, ownApp1 e⟩
   · exfalso; omega
 · repeat' (first | refine aoQ rfl rfl rfl (fun hg => by first | exact std0 | exact std1) (by exact rfl) ?_ | refine sqW ?_ | refine rgK (fun K' hK => ?_) | (refine aoN (hK _ _ ?_); clear hK K') | refine cdN rfl tI (fun hc => ?_) (fun hc => ?_) | refine blK ?_ | refine exW ?_ | refine skW ?_ | refine rtW ?_)
   · exfalso; omega
   · refine ⟨.inr rfl, Ent.of ?_⟩
     have htk : l.take k = l := zB5 (by omega)
     rw [show putR l = (putL l, 0) from if_pos hl4, htk]; rfl
theorem shr8 (d : Nat) (i : Nat) (hi : i < 8) : IntKind.u8.wrap ((d : Int).fdiv (2 ^ (Min.min ((56 : Int) - 8 * (i : Int)).toNat 64))) = ((UInt8.ofNat (d / 256 ^ (7 - i))).toNat : Int) := by
 rw [wrap8, ofNat_toNat8]
 have h : ((56 : Int) - 8 * (i : Int)).toNat = 8 * (7 - i) := by omega
 rw [h, Nat.min_eq_left (by omega)]
 have h2 : (2 : Int) ^ (8 * (7 - i)) = ((256 ^ (7 - i) : Nat) : Int) := by
  rw [show (256 ^ (7 - i) : Nat) = 2 ^ (8 * (7 - i)) from by rw [Nat.pow_mul], Int.natCast_pow]; rfl
 rw [h2, zBw _ (zB6 _)]
 rw [← Int.natCast_ediv]
def be8k (d k : Nat) : Bs := (List.range k).map fun i => UInt8.ofNat (d / 256 ^ (7 - i))
theorem be8k_succ (d k : Nat) : be8k d (k + 1) = be8k d k ++ [UInt8.ofNat (d / 256 ^ (7 - k))] := by
 unfold be8k; rw [List.range_succ, zAr]; rfl
theorem bytes05_spec (d : Nat) (hd : d < 18446744073709551616) : PCall Tryz.prog 116 [.prim (.int .u64 (d : Nat))] (.sl 1 ((be8 d).map by8) .no) := by
 refine PCall.body Tryz.func116 rfl rfl Tryz.ntmps116 rfl rfl ?_
 repeat' (first | refine aoQ rfl rfl rfl (fun hg => by exact std0) (by exact rfl) ?_ | refine sqW ?_ | refine rgK (fun K' hK => ?_) | (refine aoN (hK _ _ ?_); clear hK K') | refine blK ?_)
 refine AWP.ownNil (d := 3) (sz := 1) rfl ?_
 skip
 refine lpW (ι := Nat) (fun k => [(0, .prim (.int .u64 (d : Nat))), (3, .sl 1 ((be8k d k).map by8) (.own 0)), (4, .int k)]) (fun k => [.own 1 ((be8k d k).map by8).length]) (fun k => k ≤ 8) (fun k => 8 - k) 0 (nZl _) ⟨rfl, rfl, rfl, tI⟩ rfl ?_
 intro k hk
 have hbl : (be8k d k).length = k := by simp [be8k]
 by_cases hlt : k < 8
 · repeat' (first | refine aoQ rfl rfl rfl (fun hg => by first | exact std0 | exact PRun.shrW rfl rfl nd rfl nd (by omega) | exact pbS tabOk rfl rfl nds) (by exact rfl) ?_ | refine sqW ?_ | refine rgK (fun K' hK => ?_) | (refine aoN (hK _ _ ?_); clear hK K') | refine aoE (EStep.appendOwn tabOk rfl rfl rfl (by decide) (Rd.w rfl tI) rfl (Rd.w rfl tI) (.sl rfl (by first | (intro x hx; rcases zA9.1 hx with rfl; rfl) | exact one_by8 _ | exact one_ints _)) (LOk.of (tabOk.get rfl)) (LOk.of (tabOk.get rfl)) rfl rfl (by simp only [lLm, lLa, zA2, zA5]; omega) (by simp only [lLm, lLa, zA2, zA5]; omega) ?_) | refine cdN rfl tI (fun hc => ?_) (fun hc => ?_) | refine blK ?_ | refine exW ?_ | refine skW ?_ | refine rtW ?_)
   · have e := be8k_succ d k
     exact ⟨k + 1, by omega, by omega, ⟨rfl, (snoc8 (shr8 d k hlt)).trans (by rw [e]), rfl, tI⟩, ownApp1 e⟩
   · exfalso; omega
 · repeat' (first | refine aoQ rfl rfl rfl (fun hg => by exact std0) (by exact rfl) ?_ | refine sqW ?_ | refine rgK (fun K' hK => ?_) | (refine aoN (hK _ _ ?_); clear hK K') | refine cdN rfl tI (fun hc => ?_) (fun hc => ?_) | refine blK ?_ | refine exW ?_ | refine skW ?_ | refine rtW ?_)
   · exfalso; omega
   · refine ⟨.inr rfl, Ent.of ?_⟩
     have : k = 8 := by omega
     subst this; rfl
theorem fnvF_append (d : Nat) (x y : Bs) : fnvF d (x ++ y) = fnvF (fnvF d x) y := by unfold fnvF; rw [zCh]
theorem fnvF_one (d : Nat) (c : UInt8) : fnvF d [c] = fstep d c := by unfold fnvF; rw [zD4, List.foldl_nil]
theorem fnv_F (b : Bs) : fnv b = fnvF 14695981039346656037 b := rfl
theorem fnv_take {b : Bs} {k : Nat} (h : k < b.length) : fnv (b.take (k + 1)) = fstep (fnv (b.take k)) (b.getD k default) := by
 rw [fnv_F, fnv_F, zAu h, fnvF_append, getD_lt h, fnvF_one]
theorem fnv_round (d : Nat) (c : UInt8) (hd : d < 18446744073709551616) : IntKind.u64.wrap (bits .xor .u64 (d : Int) (IntKind.u64.wrap (c.toNat : Int)) * 1099511628211) = ((fstep d c : Nat) : Int) := by
 have hc := c.toNat_lt
 have e : IntKind.u64.wrap (c.toNat : Int) = ((c.toNat : Nat) : Int) := by rw [IntKind.wrap_u64]; omega
 rw [e, bits_xor_u64_nat d c.toNat hd (by omega), IntKind.wrap_u64]
 unfold fstep
 omega
theorem sum04_spec (b : Bs) (hl : b.length ≤ 9223372036854775807) : PCall Tryz.prog 117 [.sl 1 (b.map by8) .no] (.prim (.int .u64 (fnv b : Nat))) := by
 refine PCall.body Tryz.func117 rfl rfl Tryz.ntmps117 rfl rfl ?_
 repeat' (first | refine aoQ rfl rfl rfl (fun hg => by exact std0) (by exact rfl) ?_ | refine sqW ?_ | refine rgK (fun K' hK => ?_) | (refine aoN (hK _ _ ?_); clear hK K') | refine blK ?_)
 refine lpW (ι := Nat) (fun k => [(0, .sl 1 (b.map by8) .no), (3, .prim (.int .u64 (fnv (b.take k) : Nat))), (4, .int k)]) (fun k => []) (fun k => k ≤ b.length) (fun k => b.length - k) 0 (nZl _) ⟨rfl, rfl, rfl, tI⟩ rfl ?_
 intro k hk
 by_cases hlt : k < b.length
 · repeat' (first | refine aoQ rfl rfl rfl (fun hg => by first | exact std0 | exact PRun.bitsW rfl rfl nd rfl nd rfl | exact std1) (by exact rfl) ?_ | refine sqW ?_ | refine rgK (fun K' hK => ?_) | (refine aoN (hK _ _ ?_); clear hK K') | refine cdN rfl tI (fun hc => ?_) (fun hc => ?_) | refine blK ?_ | refine exW ?_ | refine skW ?_ | refine rtW ?_)
   · refine ⟨k + 1, by omega, by omega, ⟨rfl, ?_, rfl, tI⟩, rfl⟩
     show AV.prim (.int .u64 _) = _
     rw [fnv_take hlt]
     exact congrArg (fun z => AV.prim (.int .u64 z)) (fnv_round _ _ (fnv_lt _))
   · exfalso; omega
 · repeat' (first | refine aoQ rfl rfl rfl (fun hg => by first | exact std0 | exact std1) (by exact rfl) ?_ | refine sqW ?_ | refine rgK (fun K' hK => ?_) | (refine aoN (hK _ _ ?_); clear hK K') | refine cdN rfl tI (fun hc => ?_) (fun hc => ?_) | refine blK ?_ | refine exW ?_ | refine skW ?_ | refine rtW ?_)
   · exfalso; omega
   · refine ⟨.inr rfl, Ent.of ?_⟩
     rw [show b.take k = b from zB5 (by omega)]; rfl
theorem sameBytes_spec (a b : Bs) : PCall Tryz.prog 135 [.sl 1 (a.map by8) .no, .sl 1 (b.map by8) .no] (.b (a == b)) := by
 refine PCall.body Tryz.func135 rfl rfl Tryz.ntmps135 rfl rfl ?_
 repeat' (first | refine aoQ rfl rfl rfl (fun hg => by first | exact std0 | exact PRun.bytesStr tabOk rfl rfl nd rfl rfl rfl) (by exact rfl) ?_ | refine sqW ?_ | refine rgK (fun K' hK => ?_) | (refine aoN (hK _ _ ?_); clear hK K') | refine rtW ?_)
 refine ⟨.inr rfl, Ent.b ?_⟩
 rw [zBf]; simp
theorem list_ne_len {α : Type} [BEq α] [LawfulBEq α] {a b : List α} (h : a.length ≠ b.length) : (a == b) = false := by
 cases hh : a == b with
 | false => rfl
 | true => exact absurd (congrArg List.length (eq_of_beq hh)) h
theorem list_ne_at {α : Type} [BEq α] [LawfulBEq α] [Inhabited α] {a b : List α} {k : Nat} (h : a.getD k default ≠ b.getD k default) : (a == b) = false := by
 cases hh : a == b with
 | false => rfl
 | true => exact absurd (by rw [eq_of_beq hh]) h
theorem list_eq_all {α : Type} [BEq α] [LawfulBEq α] [Inhabited α] {a b : List α} (hl : a.length = b.length) (h : ∀ j, j < a.length → a.getD j default = b.getD j default) : (a == b) = true := by
 have : a = b := List.ext_getElem hl fun i h1 h2 => by
  have := h i h1
  rwa [getD_lt h1, getD_lt h2] at this
 rw [this]; simp
end Go.Proofs.YtbneeinknlddaaaGreat
namespace Go.Sy
open Go.Jo
def before (a b : Ev) : Bool := decide (a.clock < b.clock) || (a.clock == b.clock && decide (a.stand < b.stand))
theorem before_iff {a b : Ev} : before a b = true ↔ a.clock < b.clock ∨ (a.clock = b.clock ∧ a.stand < b.stand) := by
 unfold before; simp
def stamp (a b : Ev) : Prop := a.clock = b.clock ∧ a.stand = b.stand
theorem before_irr (a : Ev) : before a a = false := by
 cases h : before a a with
 | false => rfl
 | true => rw [before_iff] at h; omega
theorem before_trans {a b c : Ev} (h1 : before a b = true) (h2 : before b c = true) : before a c = true := by
 rw [before_iff] at *; omega
theorem before_asym {a b : Ev} (h : before a b = true) : before b a = false := by
 cases g : before b a with
 | false => rfl
 | true => rw [before_iff] at *; omega
theorem before_tri (a b : Ev) : before a b = true ∨ before b a = true ∨ stamp a b := by
 unfold stamp
 rw [before_iff, before_iff]; omega
theorem stamp_not {a b : Ev} (h : stamp a b) : before a b = false := by
 cases g : before a b with
 | false => rfl
 | true => rw [before_iff] at g; unfold stamp at h; omega
theorem nb_trans {a b c : Ev} (h1 : before b a = false) (h2 : before c b = false) : before c a = false := by
 cases g : before c a with
 | false => rfl
 | true =>
   have n1 : ¬ (before b a = true) := by rw [h1]; decide
   have n2 : ¬ (before c b = true) := by rw [h2]; decide
   rw [before_iff] at g n1 n2; omega
abbrev Srt (l : List Ev) : Prop := l.Pairwise fun a b => before a b = true
theorem srt_cons {x : Ev} {r : List Ev} : Srt (x :: r) ↔ (∀ b ∈ r, before x b = true) ∧ Srt r := List.pairwise_cons
theorem srt_app {a b : List Ev} : Srt (a ++ b) ↔ Srt a ∧ Srt b ∧ ∀ x ∈ a, ∀ y ∈ b, before x y = true := List.pairwise_append
theorem srt_filter {l : List Ev} (h : Srt l) (q : Ev → Bool) : Srt (l.filter q) := List.Pairwise.filter q h
def NoFork (l : List Ev) : Prop := ∀ a ∈ l, ∀ b ∈ l, stamp a b → a = b
theorem srt_nofork {l : List Ev} (h : Srt l) : NoFork l := by
 induction l with
 | nil => intro a ha; cases ha
 | cons x r ih =>
   rw [srt_cons] at h
   intro a ha b hb hs
   rcases zB3.1 ha with e1 | h1
   · rcases zB3.1 hb with e2 | h2
     · rw [e1, e2]
     · subst e1
       have := h.1 b h2; rw [stamp_not hs] at this; cases this
   · rcases zB3.1 hb with e2 | h2
     · subst e2
       have := h.1 a h1; rw [stamp_not ⟨hs.1.symm, hs.2.symm⟩] at this; cases this
     · exact ih h.2 a h1 b h2 hs
theorem srt_uniq : ∀ {a b : List Ev}, Srt a → Srt b → (∀ x, x ∈ a ↔ x ∈ b) → a = b
 | [], [], _, _, _ => rfl
 | [], y :: b, _, _, h => by have := (h y).2 (zAs ..); cases this
 | x :: a, [], _, _, h => by have := (h x).1 (zAs ..); cases this
 | x :: a, y :: b, ha, hb, h => by
   rw [srt_cons] at ha hb
   have e : x = y := by
    rcases zB3.1 ((h x).1 (zAs ..)) with e | hx
    · exact e
    · rcases zB3.1 ((h y).2 (zAs ..)) with e | hy
      · exact e.symm
      · have h1 := hb.1 x hx
        have h2 := ha.1 y hy
        rw [before_asym h1] at h2; cases h2
   subst e
   rw [srt_uniq ha.2 hb.2 fun z => ?_]
   constructor
   · intro hz
     rcases zB3.1 ((h z).1 (zAp _ hz)) with e | g
     · subst e; have := ha.1 z hz; rw [before_irr] at this; cases this
     · exact g
   · intro hz
     rcases zB3.1 ((h z).2 (zAp _ hz)) with e | g
     · subst e; have := hb.1 z hz; rw [before_irr] at this; cases this
     · exact g
def putE (l : List Ev) (e : Ev) : List Ev := if e ∈ l then l else (l.filter fun x => before x e) ++ e :: l.filter fun x => before e x
theorem mem_put {l : List Ev} {e x : Ev} (h : NoFork (e :: l)) : x ∈ putE l e ↔ x ∈ l ∨ x = e := by
 unfold putE
 split
 · rename_i he
   constructor
   · exact .inl
   · rintro (h1 | rfl)
     · exact h1
     · exact he
 · rename_i he
   rw [zAh, zB3, zBv, zBv]
   constructor
   · rintro (⟨h1, _⟩ | rfl | ⟨h1, _⟩)
     · exact .inl h1
     · exact .inr rfl
     · exact .inl h1
   · rintro (h1 | rfl)
     · rcases before_tri x e with g | g | g
       · exact .inl ⟨h1, g⟩
       · exact .inr (.inr ⟨h1, g⟩)
       · exact absurd (h x (zAp _ h1) e (zAs ..) g ▸ h1) he
     · exact .inr (.inl rfl)
theorem srt_put {l : List Ev} {e : Ev} (h : Srt l) : Srt (putE l e) := by
 unfold putE
 split
 · exact h
 · rw [srt_app]
   refine ⟨srt_filter h _, ?_, fun a ha b hb => ?_⟩
   · rw [srt_cons]
     exact ⟨fun a ha => (zBv.1 ha).2, srt_filter h _⟩
   · have h1 := (zBv.1 ha).2
     rcases zB3.1 hb with rfl | hb
     · exact h1
     · exact before_trans h1 (zBv.1 hb).2
def unE (l more : List Ev) : List Ev := more.foldl putE l
theorem un_ok : ∀ (more l : List Ev), Srt l → NoFork (l ++ more) → Srt (unE l more) ∧ ∀ x, x ∈ unE l more ↔ x ∈ l ∨ x ∈ more
 | [], l, h, _ => ⟨h, fun x => by simp [unE]⟩
 | e :: more, l, h, hf => by
   have hf1 : NoFork (e :: l) := fun a ha b hb => hf a (by
    rcases zB3.1 ha with rfl | ha
    · exact zBl _ (zAs ..)
    · exact zBg _ ha) b (by
    rcases zB3.1 hb with rfl | hb
    · exact zBl _ (zAs ..)
    · exact zBg _ hb)
   have hm := fun x => mem_put (x := x) hf1
   obtain ⟨h1, h2⟩ := un_ok more (putE l e) (srt_put h) fun a ha b hb => hf a (by
    rcases zAh.1 ha with ha | ha
    · rcases (hm a).1 ha with g | rfl
      · exact zBg _ g
      · exact zBl _ (zAs ..)
    · exact zBl _ (zAp _ ha)) b (by
    rcases zAh.1 hb with hb | hb
    · rcases (hm b).1 hb with g | rfl
      · exact zBg _ g
      · exact zBl _ (zAs ..)
    · exact zBl _ (zAp _ hb))
   refine ⟨h1, fun x => ?_⟩
   rw [show unE l (e :: more) = unE (putE l e) more from rfl, h2 x, hm x, zB3]
   constructor
   · rintro ((h | h) | h)
     · exact .inl h
     · exact .inr (.inl h)
     · exact .inr (.inr h)
   · rintro (h | h | h)
     · exact .inl (.inl h)
     · exact .inl (.inr h)
     · exact .inr h
theorem un_uniq {l more l' more' : List Ev} (h : Srt l) (hf : NoFork (l ++ more)) (h' : Srt l') (hm : ∀ x, (x ∈ l ∨ x ∈ more) ↔ (x ∈ l' ∨ x ∈ more')) : unE l more = unE l' more' := by
 have hf' : NoFork (l' ++ more') := fun a ha b hb => hf a (zAh.2 ((hm a).2 (zAh.1 ha))) b (zAh.2 ((hm b).2 (zAh.1 hb)))
 obtain ⟨h1, h2⟩ := un_ok more l h hf
 obtain ⟨h3, h4⟩ := un_ok more' l' h' hf'
 exact srt_uniq h1 h3 fun x => by rw [h2, h4]; exact hm x
theorem un_same {l more : List Ev} (h : Srt l) (hm : ∀ x ∈ more, x ∈ l) : unE l more = l := by
 have hf : NoFork (l ++ more) := fun a ha b hb => srt_nofork h a ((zAh.1 ha).elim id (hm a)) b ((zAh.1 hb).elim id (hm b))
 obtain ⟨h1, h2⟩ := un_ok more l h hf
 refine srt_uniq h1 h fun x => ?_
 rw [h2]
 exact ⟨fun g => g.elim id (hm x), .inl⟩
def validE (l : List Ev) : Bool := (l.all evOk && decide (Srt l)) && decide (l.length ≤ 20000)
theorem validE_iff {l : List Ev} : validE l = true ↔ (∀ e ∈ l, evOk e = true) ∧ Srt l ∧ l.length ≤ 20000 := by
 unfold validE
 simp only [zA0, dEt, zAb, and_assoc]
instance (l : List Ev) : Decidable (NoFork l) := by unfold NoFork stamp; infer_instance
def addE (l more : List Ev) : List Ev × Int :=
 if (validE l && more.all evOk) = true then (if NoFork (l ++ more) then (if (unE l more).length ≤ 20000 then (unE l more, 0) else ([], 2)) else ([], 61)) else ([], 1)
def knownE (l : List Ev) (id : Int) : Int := l.foldl (fun n e => if e.kind = 3 ∧ e.stand = id then max n e.n else n) 0
theorem known_go (id : Int) : ∀ (l : List Ev) (n k : Int), l.foldl (fun n e => if e.kind = 3 ∧ e.stand = id then max n e.n else n) n ≤ k ↔ n ≤ k ∧ ∀ e ∈ l, e.kind = 3 → e.stand = id → e.n ≤ k
 | [], n, k => by simp
 | e :: l, n, k => by
   rw [zD4, known_go id l]
   simp only [zB3, forall_eq_or_imp]
   split
   · rename_i h
     constructor
     · rintro ⟨h1, h2⟩; exact ⟨by omega, fun _ _ => by omega, h2⟩
     · rintro ⟨h1, h2, h3⟩; exact ⟨by have := h2 h.1 h.2; omega, h3⟩
   · rename_i h
     constructor
     · rintro ⟨h1, h2⟩; exact ⟨h1, fun a b => absurd ⟨a, b⟩ h, h2⟩
     · rintro ⟨h1, h2, h3⟩; exact ⟨h1, h3⟩
theorem known_le {l : List Ev} {id k : Int} : knownE l id ≤ k ↔ 0 ≤ k ∧ ∀ e ∈ l, e.kind = 3 → e.stand = id → e.n ≤ k := known_go id l 0 k
theorem known_nonneg (l : List Ev) (id : Int) : 0 ≤ knownE l id := ((known_le (l := l) (id := id) (k := knownE l id)).1 (zAw _)).1
theorem known_in {l : List Ev} (h : ∀ e ∈ l, evOk e = true) (id : Int) : knownE l id ≤ 1000 := by
 rw [known_le]
 refine ⟨by decide, fun e he hk _ => ?_⟩
 have := h e he
 unfold evOk inR at this
 rw [if_neg (by rw [hk]; decide), if_neg (by rw [hk]; decide), if_pos hk] at this
 simp only [zA0, dEt] at this
 omega
theorem known_app (a b : List Ev) (id : Int) : knownE (a ++ b) id = b.foldl (fun n e => if e.kind = 3 ∧ e.stand = id then max n e.n else n) (knownE a id) := by
 unfold knownE; rw [zCh]
end Go.Sy
