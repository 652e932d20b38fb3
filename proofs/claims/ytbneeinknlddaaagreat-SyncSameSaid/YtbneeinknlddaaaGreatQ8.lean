/- Contracts by content: texts, marks and events of the reference.  Contracts by content: the codec of the reference: integers as bytes.  Contracts by content: the codec of the reference: lists of integers, digests.  Contracts by content: lists that are compared.  Events in order, in plain words: their stamps, lists without forks, what is added. No program is in sight. Two lists of events merged, in plain words, and a further event put from behind. No program is in sight. Tablets, in plain words: what bytes say, tablets that write, crash, wake and exchange. No program is in sight. No statement is proved here. -/
import Derived.Test.YtbneeinknlddaaaGreatQ6
import Derived.Test.YtbneeinknlddaaaGreatQ7
set_option linter.unusedVariables false
set_option linter.unusedSimpArgs false
namespace Go.Proofs.YtbneeinknlddaaaGreat
open Go.Ab Go.Jo
attribute [local irreducible] AWP AOps EStep AQ PStep PRun PCall TCall VCall
theorem text_bad {t : Bs} {k : Nat} (hk : k < t.length) (h : (t.getD k 0).toNat < 32 ∨ 126 < (t.getD k 0).toNat) : textOk t = false := by
 cases h1 : textOk t with
 | false => rfl
 | true =>
   have := (textOk_iff.1 h1).2 (t.getD k 0) (by simp [List.getD, hk])
   omega
theorem text_good {t : Bs} (h1 : t.length ≤ 200) (h : ∀ j, j < t.length → 32 ≤ (t.getD j 0).toNat ∧ (t.getD j 0).toNat ≤ 126) : textOk t = true :=
 textOk_iff.2 ⟨h1, fun c hc => by
  obtain ⟨i, hi, rfl⟩ := zBq.1 hc
  have := h i hi
  simpa [List.getD, hi] using this⟩
theorem text19_spec (t : Bs) (ht : t.length ≤ 9223372036854775807) : PCall Tryz.prog 40 [.bs t] (.b (textOk t)) := by
 have hsz : (⟨t.toArray⟩ : ByteArray).size = t.length := by simp [ByteArray.size]
 refine PCall.body Tryz.func40 rfl rfl Tryz.ntmps40 rfl rfl ?_
 repeat' (first | refine aoQ rfl rfl rfl (fun hg => by first | exact std0 | exact std1) (by exact rfl) ?_ | refine sqW ?_ | refine rgK (fun K' hK => ?_) | (refine aoN (hK _ _ ?_); clear hK K') | refine aoE (bxW rfl rfl rfl rfl rfl tI rfl rfl ?_) | refine aoE (stW tabOk rfl rfl rfl tI rfl rfl tI rfl rfl rfl rfl rfl rfl rfl ?_) | refine aoE (alW tabOk rfl rfl rfl rfl rfl rfl ?_) | refine cdN rfl tI (fun hc => ?_) (fun hc => ?_) | refine blK ?_ | refine exW ?_ | refine skW ?_ | refine rtW ?_ | refine dK2 (by decide +kernel) (by kernel_rfl) (by decide +kernel) rfl (fun K' hK => ?_) | refine dL2 (by kernel_rfl) (by decide +kernel) rfl (fun K' hK => ?_) | (refine aqN (hK _ ?_); clear hK K') | refine aqN ?_ | refine aqQ rfl rfl (fun hg => by first | exact std0 | exact std1) (by exact rfl) ?_)
 · refine ⟨.inr rfl, Ent.b ?_⟩
   rw [hsz] at hc
   have : decide (t.length ≤ 200) = false := by simp; omega
   unfold textOk; rw [this]; rfl
 refine lpW (ι := Nat) (fun k => [(0, .bs t), (3, .int k)]) (fun _ => []) (fun k => k ≤ t.length ∧ ∀ j, j < k → 32 ≤ (t.getD j 0).toNat ∧ (t.getD j 0).toNat ≤ 126) (fun k => t.length - k) 0 ⟨nZl _, fun j h => absurd h (by omega)⟩ ⟨rfl, rfl, tI⟩ rfl ?_
 rintro k ⟨hk, hall⟩
 rw [hsz] at hc
 by_cases hlt : k < t.length
 · repeat' (first | refine aoQ rfl rfl rfl (fun hg => by first | exact std0 | exact std1) (by exact rfl) ?_ | refine sqW ?_ | refine rgK (fun K' hK => ?_) | (refine aoN (hK _ _ ?_); clear hK K') | refine aoE (bxW rfl rfl rfl rfl rfl tI rfl rfl ?_) | refine aoE (stW tabOk rfl rfl rfl tI rfl rfl tI rfl rfl rfl rfl rfl rfl rfl ?_) | refine aoE (alW tabOk rfl rfl rfl rfl rfl rfl ?_) | refine cdN rfl tI (fun hc => ?_) (fun hc => ?_) | refine blK ?_ | refine exW ?_ | refine skW ?_ | refine rtW ?_ | refine dK2 (by decide +kernel) (by kernel_rfl) (by decide +kernel) rfl (fun K' hK => ?_) | refine dL2 (by kernel_rfl) (by decide +kernel) rfl (fun K' hK => ?_) | (refine aqN (hK _ ?_); clear hK K') | refine aqN ?_ | refine aqQ rfl rfl (fun hg => by first | exact std0 | exact std1) (by exact rfl) ?_)
   · refine ⟨.inr rfl, Ent.b (Eq.symm (text_bad hlt ?_))⟩
     simp only [zAh, zAx, zA2, zAo, zAs, dEt, dEf, zAz, zAv, beq_iff_eq, beq_eq_false_iff_ne, bne_iff_ne, bne_eq_false_iff_eq, gt_iff_lt, ge_iff_le, ne_eq] at hc; omega
   · refine ⟨k + 1, ⟨by omega, fun j hj => lt_succ_cases hall ?_ hj⟩, by omega, ⟨rfl, rfl, tI⟩, rfl⟩
     simp only [zAh, zAx, zA2, zAo, zAs, dEt, dEf, zAz, zAv, beq_iff_eq, beq_eq_false_iff_ne, bne_iff_ne, bne_eq_false_iff_eq, gt_iff_lt, ge_iff_le, ne_eq] at hc; omega
   · exfalso; omega
 · repeat' (first | refine aoQ rfl rfl rfl (fun hg => by first | exact std0 | exact std1) (by exact rfl) ?_ | refine sqW ?_ | refine rgK (fun K' hK => ?_) | (refine aoN (hK _ _ ?_); clear hK K') | refine aoE (bxW rfl rfl rfl rfl rfl tI rfl rfl ?_) | refine aoE (stW tabOk rfl rfl rfl tI rfl rfl tI rfl rfl rfl rfl rfl rfl rfl ?_) | refine aoE (alW tabOk rfl rfl rfl rfl rfl rfl ?_) | refine cdN rfl tI (fun hc => ?_) (fun hc => ?_) | refine blK ?_ | refine exW ?_ | refine skW ?_ | refine rtW ?_ | refine dK2 (by decide +kernel) (by kernel_rfl) (by decide +kernel) rfl (fun K' hK => ?_) | refine dL2 (by kernel_rfl) (by decide +kernel) rfl (fun K' hK => ?_) | (refine aqN (hK _ ?_); clear hK K') | refine aqN ?_ | refine aqQ rfl rfl (fun hg => by first | exact std0 | exact std1) (by exact rfl) ?_)
   all_goals (first | (exfalso; omega) | skip)
   · exact ⟨.inr rfl, Ent.b (text_good (by omega) fun j hj => hall j (by omega)).symm⟩
theorem flM : flatN Tryz.prog 31 = some [.int .i64, .int .i64, .int .i64, .int .i64, .int .i64, .int .i64, .int .i64, .int .i64, .int .i64, .str] := by kernel_rfl
theorem flE : flatN Tryz.prog 33 = some [.int .i64, .int .i64, .int .i64, .int .i64, .int .i64, .int .i64, .int .i64, .int .i64, .int .i64, .int .i64, .int .i64, .int .i64, .int .i64, .str] := by kernel_rfl
theorem flR : flatN Tryz.prog 23 = some [.int .i64, .int .i64, .int .i64] := by kernel_rfl
theorem valid19_spec (m : Jo.Mark) (ht : m.text.length ≤ 9223372036854775807) : PCall Tryz.prog 18 [.agg (encM m)] (.b (markOk m)) := by
 have v := by19_spec m.layer m.who
 have w := text19_spec m.text ht
 refine PCall.body Tryz.func18 rfl rfl Tryz.ntmps18 rfl rfl ?_
 repeat' (first | refine aoQ rfl rfl rfl (fun hg => by first | exact std0 | exact pcW (v) rfl rfl nd rfl nds | exact pcW (w) rfl rfl nd rfl nds | exact pcW (in19_spec _ _ _) rfl rfl nd rfl nds | exact pcW (id19_spec _) rfl rfl nd rfl nds | exact std1) (by exact rfl) ?_ | refine sqW ?_ | refine rgK (fun K' hK => ?_) | (refine aoN (hK _ _ ?_); clear hK K') | refine aoE (bxW rfl rfl rfl rfl rfl tI rfl rfl ?_) | refine aoE (stW tabOk rfl rfl rfl tI rfl rfl tI rfl rfl rfl rfl rfl rfl rfl ?_) | refine aoE (alW tabOk rfl rfl rfl rfl rfl rfl ?_) | refine cdN rfl tI (fun hc => ?_) (fun hc => ?_) | refine blK ?_ | refine exW ?_ | refine skW ?_ | refine rtW ?_ | refine dK2 (by decide +kernel) (by kernel_rfl) (by decide +kernel) rfl (fun K' hK => ?_) | refine dL2 (by kernel_rfl) (by decide +kernel) rfl (fun K' hK => ?_) | (refine aqN (hK _ ?_); clear hK K') | refine aqN ?_ | refine aqQ rfl rfl (fun hg => by first | exact std0 | exact pcW (v) rfl rfl nd rfl nds | exact pcW (w) rfl rfl nd rfl nds | exact pcW (in19_spec _ _ _) rfl rfl nd rfl nds | exact pcW (id19_spec _) rfl rfl nd rfl nds | exact std1) (by exact rfl) ?_)
 · refine ⟨.inr rfl, Ent.b ?_⟩
   unfold markOk
   (revert hc; generalize (textOk m.text) = z0; generalize (byOk m.layer m.who) = z1; generalize (isId m.id) = z2; generalize (isId m.version) = z3; generalize (isId m.note) = z4; generalize (inR m.kind 1 5) = z5; generalize (inR m.value 0 1000) = z6; generalize (m.kind != 1 || decide (m.value ≤ 2)) = z7; revert z0 z1 z2 z3 z4 z5 z6 z7; decide)
 · refine ⟨.inr rfl, Ent.b ?_⟩
   unfold markOk
   show (inR m.value 0 1000 && (m.kind != 1 || decide (m.value ≤ 2))) = _
   (revert hc; generalize (textOk m.text) = z0; generalize (byOk m.layer m.who) = z1; generalize (isId m.id) = z2; generalize (isId m.version) = z3; generalize (isId m.note) = z4; generalize (inR m.kind 1 5) = z5; generalize (inR m.value 0 1000) = z6; generalize (m.kind != 1 || decide (m.value ≤ 2)) = z7; revert z0 z1 z2 z3 z4 z5 z6 z7; decide)
theorem bs_beq (t u : Bs) : ((⟨t.toArray⟩ : ByteArray) == ⟨u.toArray⟩) = (t == u) := by
 show (t.toArray == u.toArray) = (t == u)
 rw [zBm]; simp
def eqM (m k : Jo.Mark) : Bool := m.id == k.id && (m.kind == k.kind && (m.layer == k.layer && (m.who.part == k.who.part && (m.who.desk == k.who.desk && (m.who.seat == k.who.seat && (m.version == k.version && (m.note == k.note && (m.value == k.value && (((⟨m.text.toArray⟩ : ByteArray) == ⟨k.text.toArray⟩) && true)))))))))
theorem eqM_eq (m k : Jo.Mark) : eqM m k = (m == k) := by
 unfold eqM
 rw [bs_beq, zBm]
 obtain ⟨a, b, c, ⟨d, e, f⟩, g, h, i, j⟩ := m
 obtain ⟨a', b', c', ⟨d', e', f'⟩, g', h', i', j'⟩ := k
 simp
 exact fun _ _ _ => ⟨fun ⟨h1, h2, h3, h4⟩ => ⟨⟨h1, h2, h3⟩, h4⟩, fun ⟨⟨h1, h2, h3⟩, h4⟩ => ⟨h1, h2, h3, h4⟩⟩
def eqE (e k : Ev) : Bool := e.clock == k.clock && (e.stand == k.stand && (e.kind == k.kind && (e.n == k.n && eqM e.mark k.mark)))
theorem eqE_eq (m k : Ev) : eqE m k = (m == k) := by
 unfold eqE
 rw [eqM_eq, zBm]
 obtain ⟨a, b, c, d, e⟩ := m
 obtain ⟨a', b', c', d', e'⟩ := k
 simp
theorem event22_spec (e : Ev) (ht : e.mark.text.length ≤ 9223372036854775807) : PCall Tryz.prog 45 [.agg (encE e)] (.b (evOk e)) := by
 have v := valid19_spec e.mark ht
 refine PCall.body Tryz.func45 rfl rfl Tryz.ntmps45 rfl rfl ?_
 repeat' (first | refine aoQ rfl rfl rfl (fun hg => by first | exact std0 | exact pcW (v) rfl rfl nd rfl nds | exact pcW (in22_spec _ _ _) rfl rfl nd rfl nds | exact pcW (id19_spec _) rfl rfl nd rfl nds | exact PRun.eqN flM rfl rfl nd rfl nd rfl | exact pbD tabOk rfl rfl nds | exact std1) (by exact rfl) ?_ | refine sqW ?_ | refine rgK (fun K' hK => ?_) | (refine aoN (hK _ _ ?_); clear hK K') | refine aoE (bxW rfl rfl rfl rfl rfl tI rfl rfl ?_) | refine aoE (stW tabOk rfl rfl rfl tI rfl rfl tI rfl rfl rfl rfl rfl rfl rfl ?_) | refine aoE (alW tabOk rfl rfl rfl rfl rfl rfl ?_) | refine cdN rfl tI (fun hc => ?_) (fun hc => ?_) | refine blK ?_ | refine exW ?_ | refine skW ?_ | refine rtW ?_ | refine dK2 (by decide +kernel) (by kernel_rfl) (by decide +kernel) rfl (fun K' hK => ?_) | refine dL2 (by kernel_rfl) (by decide +kernel) rfl (fun K' hK => ?_) | (refine aqN (hK _ ?_); clear hK K') | refine aqN ?_ | refine aqQ rfl rfl (fun hg => by first | exact std0 | exact pcW (v) rfl rfl nd rfl nds | exact pcW (in22_spec _ _ _) rfl rfl nd rfl nds | exact pcW (id19_spec _) rfl rfl nd rfl nds | exact PRun.eqN flM rfl rfl nd rfl nd rfl | exact pbD tabOk rfl rfl nds | exact std1) (by exact rfl) ?_)
 all_goals (refine ⟨.inr rfl, Ent.b ?_⟩; unfold evOk)
 · revert hc
   cases inR e.clock 0 1000000000 <;> cases isId e.stand <;> simp
 · have := hc; simp_all
 · show (isId e.n && eqM e.mark noMark) = _
   rw [eqM_eq]; simp_all
 · show (inR e.n 0 1000 && eqM e.mark noMark) = _
   rw [eqM_eq]; simp_all
 · simp_all
end Go.Proofs.YtbneeinknlddaaaGreat
namespace Go.Proofs.YtbneeinknlddaaaGreat
open Go.Ab Go.Jo
attribute [local irreducible] AWP AOps EStep AQ PStep PRun PCall TCall VCall DStep TDies AWD DCall
theorem lebF_step {f u : Nat} (h : 128 ≤ u) : lebF (f + 1) u = UInt8.ofNat (u % 128 + 128) :: lebF f (u / 128) := by rw [lebF, if_neg (by omega)]
theorem lebF_last {f u : Nat} (h : u < 128) : lebF (f + 1) u = [UInt8.ofNat u] := by rw [lebF, if_pos h]
theorem wrap8 (n : Int) : IntKind.u8.wrap n = n % 256 := by simp [IntKind.wrap, IntKind.bits, IntKind.signed]
theorem ofNat_toNat8 (n : Nat) : ((UInt8.ofNat n).toNat : Int) = (n : Int) % 256 := by rw [UInt8.toNat_ofNat']; omega
theorem tmodN (a b : Nat) : ((a : Int).tmod (b : Int)) = ((a % b : Nat) : Int) := by rw [Int.tmod_eq_emod_of_nonneg (by omega)]; rfl
theorem tdivN (a b : Nat) : ((a : Int).tdiv (b : Int)) = ((a / b : Nat) : Int) := by rw [Int.tdiv_eq_ediv_of_nonneg (by omega)]; rfl
theorem w_last (u : Nat) : IntKind.u8.wrap (u : Int) = ((UInt8.ofNat u).toNat : Int) := by rw [wrap8, ofNat_toNat8]
theorem div_pow {u f : Nat} (h : u < 128 ^ (f + 1)) : u / 128 < 128 ^ f := by
 rw [Nat.pow_succ] at h
 exact Nat.div_lt_of_lt_mul (by rw [zC3]; exact h)
theorem snoc8 {l : Bs} {c : UInt8} {n : Int} {t : Tok} (h : n = c.toNat) : AV.sl 1 (l.map by8 ++ [[.prim (.int .u8 n)]]) t = AV.sl 1 ((l ++ [c]).map by8) t := by
 rw [h, zB3]; rfl
theorem getD_mem {α : Type} [Inhabited α] {l : List α} {k : Nat} (h : k < l.length) : l.getD k default ∈ l := by simp [List.getD, h]
theorem take_flat {l : List Int} {k : Nat} (h : k < l.length) : (l.take (k + 1)).flatMap num = (l.take k).flatMap num ++ num (l.getD k default) := by
 rw [zB0 h, List.flatMap_append, getD_lt h]; simp
abbrev encN (n : Int) : List AV := [.int n]
def putR (l : List Int) : Bs × Int := if l.length ≤ 4000 then (putL l, 0) else ([], 2)
theorem shr8 (d : Nat) (i : Nat) (hi : i < 8) : IntKind.u8.wrap ((d : Int).fdiv (2 ^ (Min.min ((56 : Int) - 8 * (i : Int)).toNat 64))) = ((UInt8.ofNat (d / 256 ^ (7 - i))).toNat : Int) := by
 rw [wrap8, ofNat_toNat8]
 have h : ((56 : Int) - 8 * (i : Int)).toNat = 8 * (7 - i) := by omega
 rw [h, Nat.min_eq_left (by omega)]
 have h2 : (2 : Int) ^ (8 * (7 - i)) = ((256 ^ (7 - i) : Nat) : Int) := by
  rw [show (256 ^ (7 - i) : Nat) = 2 ^ (8 * (7 - i)) from by rw [Nat.pow_mul], Int.natCast_pow]; rfl
 rw [h2, zBu _ (zB4 _)]
 rw [← Int.natCast_ediv]
theorem fnvF_append (d : Nat) (x y : Bs) : fnvF d (x ++ y) = fnvF (fnvF d x) y := by unfold fnvF; rw [zCr]
theorem fnvF_one (d : Nat) (c : UInt8) : fnvF d [c] = fstep d c := by unfold fnvF; rw [zD1, List.foldl_nil]
theorem fnv_round (d : Nat) (c : UInt8) (hd : d < 18446744073709551616) : IntKind.u64.wrap (bits .xor .u64 (d : Int) (IntKind.u64.wrap (c.toNat : Int)) * 1099511628211) = ((fstep d c : Nat) : Int) := by
 have hc := c.toNat_lt
 have e : IntKind.u64.wrap (c.toNat : Int) = ((c.toNat : Nat) : Int) := by rw [IntKind.wrap_u64]; omega
 rw [e, bits_xor_u64_nat d c.toNat hd (by omega), IntKind.wrap_u64]
 unfold fstep
 omega
theorem list_ne_len {α : Type} [BEq α] [LawfulBEq α] {a b : List α} (h : a.length ≠ b.length) : (a == b) = false := by
 cases hh : a == b with
 | false => rfl
 | true => exact absurd (congrArg List.length (eq_of_beq hh)) h
theorem list_ne_at {α : Type} [BEq α] [LawfulBEq α] [Inhabited α] {a b : List α} {k : Nat} (h : a.getD k default ≠ b.getD k default) : (a == b) = false := by
 cases hh : a == b with
 | false => rfl
 | true => exact absurd (by rw [eq_of_beq hh]) h
theorem list_eq_all {α : Type} [BEq α] [LawfulBEq α] [Inhabited α] {a b : List α} (hl : a.length = b.length) (h : ∀ j, j < a.length → a.getD j default = b.getD j default) : (a == b) = true := by
 have : a = b := List.ext_getElem hl fun i h1 h2 => by
  have := h i h1
  rwa [getD_lt h1, getD_lt h2] at this
 rw [this]; simp
end Go.Proofs.YtbneeinknlddaaaGreat
namespace Go.Sy
open Go.Jo
def before (a b : Ev) : Bool := decide (a.clock < b.clock) || (a.clock == b.clock && decide (a.stand < b.stand))
theorem before_iff {a b : Ev} : before a b = true ↔ a.clock < b.clock ∨ (a.clock = b.clock ∧ a.stand < b.stand) := by
 unfold before; simp
def stamp (a b : Ev) : Prop := a.clock = b.clock ∧ a.stand = b.stand
theorem before_irr (a : Ev) : before a a = false := by
 cases h : before a a with
 | false => rfl
 | true => rw [before_iff] at h; omega
theorem before_trans {a b c : Ev} (h1 : before a b = true) (h2 : before b c = true) : before a c = true := by
 rw [before_iff] at *; omega
theorem before_asym {a b : Ev} (h : before a b = true) : before b a = false := by
 cases g : before b a with
 | false => rfl
 | true => rw [before_iff] at *; omega
theorem before_tri (a b : Ev) : before a b = true ∨ before b a = true ∨ stamp a b := by
 unfold stamp
 rw [before_iff, before_iff]; omega
theorem stamp_not {a b : Ev} (h : stamp a b) : before a b = false := by
 cases g : before a b with
 | false => rfl
 | true => rw [before_iff] at g; unfold stamp at h; omega
theorem nb_trans {a b c : Ev} (h1 : before b a = false) (h2 : before c b = false) : before c a = false := by
 cases g : before c a with
 | false => rfl
 | true =>
   have n1 : ¬ (before b a = true) := by rw [h1]; decide
   have n2 : ¬ (before c b = true) := by rw [h2]; decide
   rw [before_iff] at g n1 n2; omega
abbrev Srt (l : List Ev) : Prop := l.Pairwise fun a b => before a b = true
theorem srt_cons {x : Ev} {r : List Ev} : Srt (x :: r) ↔ (∀ b ∈ r, before x b = true) ∧ Srt r := List.pairwise_cons
theorem srt_app {a b : List Ev} : Srt (a ++ b) ↔ Srt a ∧ Srt b ∧ ∀ x ∈ a, ∀ y ∈ b, before x y = true := List.pairwise_append
theorem srt_filter {l : List Ev} (h : Srt l) (q : Ev → Bool) : Srt (l.filter q) := List.Pairwise.filter q h
def NoFork (l : List Ev) : Prop := ∀ a ∈ l, ∀ b ∈ l, stamp a b → a = b
theorem srt_uniq : ∀ {a b : List Ev}, Srt a → Srt b → (∀ x, x ∈ a ↔ x ∈ b) → a = b
 | [], [], _, _, _ => rfl
 | [], y :: b, _, _, h => by have := (h y).2 (zAn ..); cases this
 | x :: a, [], _, _, h => by have := (h x).1 (zAn ..); cases this
 | x :: a, y :: b, ha, hb, h => by
   rw [srt_cons] at ha hb
   have e : x = y := by
    rcases zB5.1 ((h x).1 (zAn ..)) with e | hx
    · exact e
    · rcases zB5.1 ((h y).2 (zAn ..)) with e | hy
      · exact e.symm
      · have h1 := hb.1 x hx
        have h2 := ha.1 y hy
        rw [before_asym h1] at h2; cases h2
   subst e
   rw [srt_uniq ha.2 hb.2 fun z => ?_]
   constructor
   · intro hz
     rcases zB5.1 ((h z).1 (zAj _ hz)) with e | g
     · subst e; have := ha.1 z hz; rw [before_irr] at this; cases this
     · exact g
   · intro hz
     rcases zB5.1 ((h z).2 (zAj _ hz)) with e | g
     · subst e; have := hb.1 z hz; rw [before_irr] at this; cases this
     · exact g
def putE (l : List Ev) (e : Ev) : List Ev := if e ∈ l then l else (l.filter fun x => before x e) ++ e :: l.filter fun x => before e x
theorem mem_put {l : List Ev} {e x : Ev} (h : NoFork (e :: l)) : x ∈ putE l e ↔ x ∈ l ∨ x = e := by
 unfold putE
 split
 · rename_i he
   constructor
   · exact .inl
   · rintro (h1 | rfl)
     · exact h1
     · exact he
 · rename_i he
   rw [zAe, zB5, zBt, zBt]
   constructor
   · rintro (⟨h1, _⟩ | rfl | ⟨h1, _⟩)
     · exact .inl h1
     · exact .inr rfl
     · exact .inl h1
   · rintro (h1 | rfl)
     · rcases before_tri x e with g | g | g
       · exact .inl ⟨h1, g⟩
       · exact .inr (.inr ⟨h1, g⟩)
       · exact absurd (h x (zAj _ h1) e (zAn ..) g ▸ h1) he
     · exact .inr (.inl rfl)
theorem srt_put {l : List Ev} {e : Ev} (h : Srt l) : Srt (putE l e) := by
 unfold putE
 split
 · exact h
 · rw [srt_app]
   refine ⟨srt_filter h _, ?_, fun a ha b hb => ?_⟩
   · rw [srt_cons]
     exact ⟨fun a ha => (zBt.1 ha).2, srt_filter h _⟩
   · have h1 := (zBt.1 ha).2
     rcases zB5.1 hb with rfl | hb
     · exact h1
     · exact before_trans h1 (zBt.1 hb).2
def unE (l more : List Ev) : List Ev := more.foldl putE l
theorem un_ok : ∀ (more l : List Ev), Srt l → NoFork (l ++ more) → Srt (unE l more) ∧ ∀ x, x ∈ unE l more ↔ x ∈ l ∨ x ∈ more
 | [], l, h, _ => ⟨h, fun x => by simp [unE]⟩
 | e :: more, l, h, hf => by
   have hf1 : NoFork (e :: l) := fun a ha b hb => hf a (by
    rcases zB5.1 ha with rfl | ha
    · exact zBi _ (zAn ..)
    · exact zBh _ ha) b (by
    rcases zB5.1 hb with rfl | hb
    · exact zBi _ (zAn ..)
    · exact zBh _ hb)
   have hm := fun x => mem_put (x := x) hf1
   obtain ⟨h1, h2⟩ := un_ok more (putE l e) (srt_put h) fun a ha b hb => hf a (by
    rcases zAe.1 ha with ha | ha
    · rcases (hm a).1 ha with g | rfl
      · exact zBh _ g
      · exact zBi _ (zAn ..)
    · exact zBi _ (zAj _ ha)) b (by
    rcases zAe.1 hb with hb | hb
    · rcases (hm b).1 hb with g | rfl
      · exact zBh _ g
      · exact zBi _ (zAn ..)
    · exact zBi _ (zAj _ hb))
   refine ⟨h1, fun x => ?_⟩
   rw [show unE l (e :: more) = unE (putE l e) more from rfl, h2 x, hm x, zB5]
   constructor
   · rintro ((h | h) | h)
     · exact .inl h
     · exact .inr (.inl h)
     · exact .inr (.inr h)
   · rintro (h | h | h)
     · exact .inl (.inl h)
     · exact .inl (.inr h)
     · exact .inr h
theorem un_uniq {l more l' more' : List Ev} (h : Srt l) (hf : NoFork (l ++ more)) (h' : Srt l') (hm : ∀ x, (x ∈ l ∨ x ∈ more) ↔ (x ∈ l' ∨ x ∈ more')) : unE l more = unE l' more' := by
 have hf' : NoFork (l' ++ more') := fun a ha b hb => hf a (zAe.2 ((hm a).2 (zAe.1 ha))) b (zAe.2 ((hm b).2 (zAe.1 hb)))
 obtain ⟨h1, h2⟩ := un_ok more l h hf
 obtain ⟨h3, h4⟩ := un_ok more' l' h' hf'
 exact srt_uniq h1 h3 fun x => by rw [h2, h4]; exact hm x
def validE (l : List Ev) : Bool := (l.all evOk && decide (Srt l)) && decide (l.length ≤ 20000)
theorem validE_iff {l : List Ev} : validE l = true ↔ (∀ e ∈ l, evOk e = true) ∧ Srt l ∧ l.length ≤ 20000 := by
 unfold validE
 simp only [zA2, dEt, zAb, and_assoc]
instance (l : List Ev) : Decidable (NoFork l) := by unfold NoFork stamp; infer_instance
def addE (l more : List Ev) : List Ev × Int :=
 if (validE l && more.all evOk) = true then (if NoFork (l ++ more) then (if (unE l more).length ≤ 20000 then (unE l more, 0) else ([], 2)) else ([], 61)) else ([], 1)
def knownE (l : List Ev) (id : Int) : Int := l.foldl (fun n e => if e.kind = 3 ∧ e.stand = id then max n e.n else n) 0
theorem known_go (id : Int) : ∀ (l : List Ev) (n k : Int), l.foldl (fun n e => if e.kind = 3 ∧ e.stand = id then max n e.n else n) n ≤ k ↔ n ≤ k ∧ ∀ e ∈ l, e.kind = 3 → e.stand = id → e.n ≤ k
 | [], n, k => by simp
 | e :: l, n, k => by
   rw [zD1, known_go id l]
   simp only [zB5, forall_eq_or_imp]
   split
   · rename_i h
     constructor
     · rintro ⟨h1, h2⟩; exact ⟨by omega, fun _ _ => by omega, h2⟩
     · rintro ⟨h1, h2, h3⟩; exact ⟨by have := h2 h.1 h.2; omega, h3⟩
   · rename_i h
     constructor
     · rintro ⟨h1, h2⟩; exact ⟨h1, fun a b => absurd ⟨a, b⟩ h, h2⟩
     · rintro ⟨h1, h2, h3⟩; exact ⟨h1, h3⟩
theorem known_le {l : List Ev} {id k : Int} : knownE l id ≤ k ↔ 0 ≤ k ∧ ∀ e ∈ l, e.kind = 3 → e.stand = id → e.n ≤ k := known_go id l 0 k
theorem known_nonneg (l : List Ev) (id : Int) : 0 ≤ knownE l id := ((known_le (l := l) (id := id) (k := knownE l id)).1 (zAq _)).1
theorem known_in {l : List Ev} (h : ∀ e ∈ l, evOk e = true) (id : Int) : knownE l id ≤ 1000 := by
 rw [known_le]
 refine ⟨by decide, fun e he hk _ => ?_⟩
 have := h e he
 unfold evOk inR at this
 rw [if_neg (by rw [hk]; decide), if_neg (by rw [hk]; decide), if_pos hk] at this
 simp only [zA2, dEt] at this
 omega
theorem known_app (a b : List Ev) (id : Int) : knownE (a ++ b) id = b.foldl (fun n e => if e.kind = 3 ∧ e.stand = id then max n e.n else n) (knownE a id) := by
 unfold knownE; rw [zCr]
abbrev Wk (l : List Ev) : Prop := l.Pairwise fun a b => before b a = false
theorem wk_cons {x : Ev} {r : List Ev} : Wk (x :: r) ↔ (∀ b ∈ r, before b x = false) ∧ Wk r := List.pairwise_cons
theorem wk_app {a b : List Ev} : Wk (a ++ b) ↔ Wk a ∧ Wk b ∧ ∀ x ∈ a, ∀ y ∈ b, before y x = false := List.pairwise_append
theorem srt_wk {l : List Ev} (h : Srt l) : Wk l := List.Pairwise.imp before_asym h
def mergeF : Nat → List Ev → List Ev → List Ev
 | 0, a, b => a ++ b
 | _ + 1, [], b => b
 | _ + 1, a, [] => a
 | k + 1, x :: a, y :: b => if before y x then y :: mergeF k (x :: a) b else x :: mergeF k a (y :: b)
def mergeW (a b : List Ev) : List Ev := mergeF (a.length + b.length) a b
theorem merge_perm : ∀ (k : Nat) (a b : List Ev), (mergeF k a b).Perm (a ++ b)
 | 0, a, b => List.Perm.refl _
 | k + 1, [], b => by cases b <;> exact List.Perm.refl _
 | k + 1, x :: a, [] => by rw [zBp]; exact List.Perm.refl _
 | k + 1, x :: a, y :: b => by
   unfold mergeF
   split
   · exact ((merge_perm k (x :: a) b).cons y).trans (List.perm_middle (l₁ := x :: a) (l₂ := b) (a := y)).symm
   · exact (merge_perm k a (y :: b)).cons x
theorem merge_wk : ∀ (k : Nat) (a b : List Ev), a.length + b.length ≤ k → Wk a → Wk b → Wk (mergeF k a b)
 | 0, a, b, hk, ha, hb => by
   have h1 : a = [] := zAr (by omega)
   have h2 : b = [] := zAr (by omega)
   subst h1; subst h2; exact List.Pairwise.nil
 | k + 1, [], b, _, _, hb => by cases b <;> exact hb
 | k + 1, x :: a, [], _, ha, _ => ha
 | k + 1, x :: a, y :: b, hk, ha, hb => by
   simp only [zA1] at hk
   unfold mergeF
   split
   · rename_i h
     rw [wk_cons] at hb
     refine wk_cons.2 ⟨fun z hz => ?_, merge_wk k (x :: a) b (by simp only [zA1]; omega) ha hb.2⟩
     rcases zAe.1 ((merge_perm k (x :: a) b).mem_iff.1 hz) with hz | hz
     · rcases zB5.1 hz with rfl | hz
       · exact before_asym h
       · exact nb_trans (before_asym h) ((wk_cons.1 ha).1 z hz)
     · exact hb.1 z hz
   · rename_i h
     have h : before y x = false := by cases g : before y x with | false => rfl | true => exact absurd g h
     rw [wk_cons] at ha
     refine wk_cons.2 ⟨fun z hz => ?_, merge_wk k a (y :: b) (by simp only [zA1]; omega) ha.2 hb⟩
     rcases zAe.1 ((merge_perm k a (y :: b)).mem_iff.1 hz) with hz | hz
     · exact ha.1 z hz
     · rcases zB5.1 hz with rfl | hz
       · exact h
       · exact nb_trans h ((wk_cons.1 hb).1 z hz)
instance (a b : Ev) : Decidable (stamp a b) := by unfold stamp; infer_instance
def ddStep (o : Option (List Ev)) (e : Ev) : Option (List Ev) := match o with
 | none => none
 | some out => match out.getLast? with
   | none => some [e]
   | some z => if stamp z e then (if z = e then some out else none) else some (out ++ [e])
def ddL (m : List Ev) : Option (List Ev) := m.foldl ddStep (some [])
theorem dd_snoc (m : List Ev) (e : Ev) : ddL (m ++ [e]) = ddStep (ddL m) e := by unfold ddL; rw [zCr]; rfl
theorem srt_last {l : List Ev} (h : Srt l) {z : Ev} (hz : l.getLast? = some z) : ∀ x ∈ l, x = z ∨ before x z = true := fun x hx => by
 obtain ⟨r, rfl⟩ : ∃ r, l = r ++ [z] := by
  have hne : l ≠ [] := fun e => by rw [e] at hz; cases hz
  refine ⟨l.dropLast, ?_⟩
  have h1 := zCl hne
  rw [List.getLast?_eq_some_getLast hne] at hz
  rw [← Option.some.inj hz]; exact h1.symm
 rcases zAe.1 hx with hx | hx
 · exact .inr ((srt_app.1 h).2.2 x hx z (zAa.2 rfl))
 · exact .inl (zAa.1 hx)
theorem dd_spec : ∀ (k : Nat) (m : List Ev), m.length = k → Wk m → (NoFork m → ∃ out, ddL m = some out ∧ Srt out ∧ ∀ x, x ∈ out ↔ x ∈ m) ∧ (¬ NoFork m → ddL m = none)
 | 0, m, hk, _ => by
   have : m = [] := zAr hk
   subst this
   exact ⟨fun _ => ⟨[], rfl, List.Pairwise.nil, fun _ => Iff.rfl⟩, fun h => absurd (fun a ha => by cases ha) h⟩
 | k + 1, m, hk, hw => by
   obtain ⟨p, e, rfl⟩ : ∃ p e, m = p ++ [e] := by
    have hne : m ≠ [] := fun e => by rw [e] at hk; cases hk
    exact ⟨m.dropLast, m.getLast hne, (zCl hne).symm⟩
   rw [zAt] at hk
   have hw2 := wk_app.1 hw
   obtain ⟨h1, h2⟩ := dd_spec k p (by simpa using hk) hw2.1
   have hge : ∀ x ∈ p, before e x = false := fun x hx => hw2.2.2 x hx e (zAa.2 rfl)
   have hsub : NoFork (p ++ [e]) → NoFork p := fun h a ha b hb => h a (zBh _ ha) b (zBh _ hb)
   rw [dd_snoc]
   by_cases hf : NoFork p
   · obtain ⟨out, g1, g2, g3⟩ := h1 hf
     rw [g1]
     unfold ddStep
     dsimp only
     cases hl : out.getLast? with
     | none =>
       have ho : out = [] := List.getLast?_eq_none_iff.1 hl
       subst ho
       have hp : p = [] := List.eq_nil_iff_forall_not_mem.2 fun x hx => by have := (g3 x).2 hx; cases this
       subst hp
       refine ⟨fun _ => ⟨[e], rfl, by simp [Srt], fun x => by simp⟩, fun h => absurd (fun a ha b hb _ => ?_) h⟩
       rw [zC6, zAa] at ha hb
       rw [ha, hb]
     | some z =>
       have hz : z ∈ out := List.mem_of_getLast? hl
       have hzp := (g3 z).1 hz
       have hlast := srt_last g2 hl
       dsimp only
       by_cases hs : stamp z e
       · rw [if_pos hs]
         by_cases hze : z = e
         · rw [if_pos hze]
           subst hze
           have hm : ∀ x, x ∈ p ++ [z] ↔ x ∈ p := fun x => by
            rw [zAe, zAa]
            exact ⟨fun g => g.elim id fun e => e ▸ hzp, .inl⟩
           refine ⟨fun _ => ⟨out, rfl, g2, fun x => by rw [g3, hm]⟩, fun h => absurd (fun a ha b hb => hf a ((hm a).1 ha) b ((hm b).1 hb)) h⟩
         · rw [if_neg hze]
           refine ⟨fun h => absurd (h z (zBh _ hzp) e (zBi _ (zAa.2 rfl)) hs) hze, fun _ => rfl⟩
       · rw [if_neg hs]
         have hno : ∀ x ∈ p, before x e = true := fun x hx => by
          rcases before_tri x e with g | g | g
          · exact g
          · rw [hge x hx] at g; cases g
          · rcases hlast x ((g3 x).2 hx) with rfl | h9
            · exact absurd g hs
            · exfalso
              have h8 := hge z hzp
              have h7 : before e z = true := by rw [before_iff] at h9 ⊢; unfold stamp at g; omega
              rw [h7] at h8; cases h8
         refine ⟨fun _ => ⟨out ++ [e], rfl, srt_app.2 ⟨g2, by simp [Srt], fun x hx y hy => by rw [zAa.1 hy]; exact hno x ((g3 x).1 hx)⟩, fun x => by rw [zAe, zAe, g3]⟩, fun h => absurd (fun a ha b hb hst => ?_) h⟩
         rcases zAe.1 ha with ha | ha <;> rcases zAe.1 hb with hb | hb
         · exact hf a ha b hb hst
         · rw [zAa.1 hb] at hst; have := hno a ha; rw [stamp_not hst] at this; cases this
         · rw [zAa.1 ha] at hst; have := hno b hb; rw [stamp_not ⟨hst.1.symm, hst.2.symm⟩] at this; cases this
         · rw [zAa.1 ha, zAa.1 hb]
   · rw [h2 hf]
     exact ⟨fun h => absurd (hsub h) hf, fun _ => rfl⟩
theorem merged_un {l more s : List Ev} (h : Srt l) (hs : Wk s) (hp : s.Perm more) : ddL (mergeW l s) = if NoFork (l ++ more) then some (unE l more) else none := by
 have hw := merge_wk (l.length + s.length) l s (zAi _) (srt_wk h) hs
 have hmem : ∀ x, x ∈ mergeW l s ↔ x ∈ l ++ more := fun x => by
  unfold mergeW
  rw [(merge_perm _ l s).mem_iff, zAe, zAe, hp.mem_iff]
 obtain ⟨h1, h2⟩ := dd_spec _ (mergeW l s) rfl hw
 have hnf : NoFork (mergeW l s) ↔ NoFork (l ++ more) := ⟨fun g a ha b hb => g a ((hmem a).2 ha) b ((hmem b).2 hb), fun g a ha b hb => g a ((hmem a).1 ha) b ((hmem b).1 hb)⟩
 by_cases hf : NoFork (l ++ more)
 · rw [if_pos hf]
   obtain ⟨out, g1, g2, g3⟩ := h1 (hnf.2 hf)
   rw [g1]
   obtain ⟨u1, u2⟩ := un_ok more l h hf
   rw [srt_uniq g2 u1 fun x => by rw [g3, hmem, zAe, u2]]
 · rw [if_neg hf]
   exact h2 fun g => hf (hnf.1 g)
def atR (l : List Ev) (e : Ev) : Nat → Nat
 | 0 => 0
 | k + 1 => if before e (l.getD k default) = true then atR l e k else k + 1
theorem getD_lt' {α : Type} [Inhabited α] {l : List α} {k : Nat} (h : k < l.length) : l.getD k default = l[k] := by simp [List.getD, h]
structure Std where
 id : Int
 who : Rdr
 ed : Int
 known : Int
 evs : List Ev
 deriving DecidableEq, Inhabited
structure Tab where
 s : Std
 b : Bs
 sure : Int
 up : Bool
 deriving DecidableEq, Inhabited
def noStd : Std := ⟨0, ⟨0, 0, 0⟩, 0, 0, []⟩
def noTab : Tab := ⟨noStd, [], 0, false⟩
def saidE (b : Bs) : List Ev × Nat × Bool :=
 if b.length ≤ 200000 then ((addE [] (Jo.load b).1).1, (Jo.load b).2, decide ((addE [] (Jo.load b).1).2 = 0)) else ([], 0, false)
def validS (s : Std) : Bool := isId s.ed && isRdr s.who && inR s.known 0 1000 && (validE s.evs && isId s.id) && decide (knownE s.evs s.id ≤ s.known)
def validT (t : Tab) : Bool :=
 (saidE t.b).2.2 && decide (0 ≤ t.sure) && decide (t.sure ≤ ((saidE t.b).2.1 : Int)) && validS t.s &&
 (if t.up = true then decide ((saidE t.b).2.1 = t.b.length) && decide ((saidE t.b).1 = t.s.evs) && decide (t.s.known = knownE (saidE t.b).1 t.s.id) else decide (t.s.evs = []) && decide (t.s.known = 0))
def takeT (t : Tab) (more : List Ev) : Tab × Int :=
 if more ≠ [] ∧ 200000 < t.b.length + (cat more).length then (noTab, 2) else
 if (addE t.s.evs more).2 ≠ 0 then (noTab, (addE t.s.evs more).2) else
 (⟨{ t.s with evs := (addE t.s.evs more).1, known := knownE (addE t.s.evs more).1 t.s.id }, t.b ++ cat more, t.sure, t.up⟩, 0)
def laterT (t : Tab) (e : Ev) : Bool := t.s.evs.all fun x => decide (x.clock < e.clock)
def writeT (t : Tab) (e : Ev) : Tab × Int :=
 if (validT t && decide (e.stand = t.s.id) && validE [e]) = true then
  if (t.up && laterT t e) = true then takeT { t with sure := (t.b.length : Int) } [e] else (noTab, 6)
 else (noTab, 1)
def crashT (t : Tab) (n : Int) : Tab × Int :=
 if validT t = true then
  if t.up = true then
   if t.sure ≤ n ∧ n ≤ (t.b.length : Int) then (⟨{ t.s with evs := [], known := 0 }, t.b.take n.toNat, t.sure, false⟩, 0) else (noTab, 1)
  else (noTab, 6)
 else (noTab, 1)
def wakeT (t : Tab) : Tab × Int :=
 if validT t = true then
  if t.up = true then (noTab, 6)
  else (⟨{ t.s with evs := (saidE t.b).1, known := knownE (saidE t.b).1 t.s.id }, t.b.take (saidE t.b).2.1, ((saidE t.b).2.1 : Int), true⟩, 0)
 else (noTab, 1)
def missE (l there : List Ev) : List Ev := l.filter fun e => decide (e ∉ there)
def surely (t : Tab) : Tab := { t with sure := (t.b.length : Int) }
def exchT (a b : Tab) : Tab × Tab × Int :=
 if (validT a && validT b && decide (a.s.id ≠ b.s.id)) = true then
  if (a.up && b.up) = true then
   if (addE a.s.evs b.s.evs).2 = 0 then
    if (takeT a (missE b.s.evs a.s.evs)).2 = 0 ∧ (takeT b (missE a.s.evs b.s.evs)).2 = 0 then
     (surely (takeT a (missE b.s.evs a.s.evs)).1, surely (takeT b (missE a.s.evs b.s.evs)).1, 0)
    else (noTab, noTab, 2)
   else (noTab, noTab, (addE a.s.evs b.s.evs).2)
  else (noTab, noTab, 6)
 else (noTab, noTab, 1)
theorem fr_min {e : Ev} (h : evOk e = true) : 16 ≤ (fr e).length := by
 have h1 := (ints_len h).1
 have h2 : ∀ l : List Int, l.length ≤ (l.flatMap num).length := fun l => by
  induction l with
  | nil => simp
  | cons x l ih => rw [List.flatMap_cons, zAt, zA1]; have := (num_len x).1; omega
 unfold fr
 rw [frame_len]
 unfold putL
 rw [zAt]
 have := h2 (ints e)
 have := (num_len ((ints e).length : Int)).1
 omega
theorem cat_app (a b : List Ev) : cat (a ++ b) = cat a ++ cat b := by unfold cat; rw [List.flatMap_append]
theorem cat_one (e : Ev) : cat [e] = fr e := by unfold cat; simp
theorem cat_min : ∀ {l : List Ev}, (∀ e ∈ l, evOk e = true) → 16 * l.length ≤ (cat l).length
 | [], _ => by simp [cat]
 | e :: l, h => by
   have h1 := cat_min (l := l) fun x hx => h x (zAj _ hx)
   have h2 := fr_min (h e (zAn ..))
   have e1 : cat (e :: l) = fr e ++ cat l := by simp [cat]
   rw [e1, zAt, zA1]; omega
theorem two_filters (p q : Ev → Bool) (h : ∀ x, p x = true → q x = false) : ∀ l : List Ev, (l.filter p).length + (l.filter q).length ≤ l.length
 | [] => by simp
 | x :: l => by
   have ih := two_filters p q h l
   rw [List.filter_cons, List.filter_cons]
   cases hp : p x with
   | true =>
     rw [h x hp]
     simp only [if_true, zB2, if_false, zA1]; omega
   | false =>
     cases hq : q x <;> simp only [if_true, zB2, if_false, zA1] <;> omega
theorem put_len (l : List Ev) (e : Ev) : (putE l e).length ≤ l.length + 1 := by
 unfold putE
 split
 · omega
 · rw [zAt, zA1]
   have := two_filters (fun x => before x e) (fun x => before e x) (fun x h => before_asym h) l
   omega
theorem un_len : ∀ (more l : List Ev), (unE l more).length ≤ l.length + more.length
 | [], l => by simp [unE]
 | e :: more, l => by
   have h1 := un_len more (putE l e)
   have h2 := put_len l e
   rw [zA1]
   show (unE (putE l e) more).length ≤ _
   omega
theorem addE_nil {l : List Ev} (hk : ∀ e ∈ l, evOk e = true) (hl : (unE [] l).length ≤ 20000) : addE [] l = if NoFork l then (unE [] l, 0) else ([], 61) := by
 unfold addE
 have h1 : validE [] = true := by decide
 rw [h1, show l.all evOk = true from zAb.2 hk, if_pos (show (true && true) = true from rfl), if_pos hl, zC6]
theorem said_small {b : Bs} (hb : b.length ≤ 200000) : (unE [] (Jo.load b).1).length ≤ 20000 := by
 obtain ⟨h1, _, h3, h4⟩ := load_inv b _ (zAi _)
 have := cat_min h1
 have := un_len (Jo.load b).1 []
 simp only [zA9] at this
 omega
theorem said_eq {b : Bs} (hb : b.length ≤ 200000) : saidE b = if NoFork (Jo.load b).1 then (unE [] (Jo.load b).1, (Jo.load b).2, true) else ([], (Jo.load b).2, false) := by
 have h1 := (load_inv b _ (zAi _)).1
 unfold saidE
 rw [if_pos hb, addE_nil h1 (said_small hb)]
 split
 · simp
 · simp
theorem said_cat {raw : List Ev} (h1 : ∀ e ∈ raw, evOk e = true) (h2 : NoFork raw) (h3 : (cat raw).length ≤ 200000) : saidE (cat raw) = (unE [] raw, (cat raw).length, true) := by
 have e1 := load_cat raw [] h1
 rw [zBp, load_nil, zBp] at e1
 rw [said_eq h3, e1, if_pos h2]
 rfl
theorem said_true {b : Bs} (h : (saidE b).2.2 = true) : b.length ≤ 200000 ∧ NoFork (Jo.load b).1 ∧ saidE b = (unE [] (Jo.load b).1, (Jo.load b).2, true) := by
 by_cases hb : b.length ≤ 200000
 · rw [said_eq hb] at h ⊢
   by_cases hf : NoFork (Jo.load b).1
   · exact ⟨hb, hf, by rw [if_pos hf]⟩
   · rw [if_neg hf] at h; cases h
 · unfold saidE at h; rw [if_neg hb] at h; cases h
structure Log (t : Tab) (raw : List Ev) : Prop where
 b : t.b = cat raw
 ok : ∀ e ∈ raw, evOk e = true
 nf : NoFork raw
 len : (cat raw).length ≤ 200000
 evs : t.s.evs = unE [] raw
 kn : t.s.known = knownE t.s.evs t.s.id
structure Fit (t : Tab) : Prop where
 ed : isId t.s.ed = true
 who : isRdr t.s.who = true
 id : isId t.s.id = true
theorem un0 {raw : List Ev} (hf : NoFork raw) : Srt (unE [] raw) ∧ ∀ x, x ∈ unE [] raw ↔ x ∈ raw := by
 obtain ⟨h1, h2⟩ := un_ok raw [] List.Pairwise.nil (by rwa [zC6])
 exact ⟨h1, fun x => by rw [h2]; simp⟩
theorem valid_up {t : Tab} : (validT t = true ∧ t.up = true) ↔ ∃ raw, Log t raw ∧ Fit t ∧ 0 ≤ t.sure ∧ t.sure ≤ (t.b.length : Int) ∧ t.up = true := by
 constructor
 · rintro ⟨h, hu⟩
   unfold validT validS at h
   rw [if_pos hu] at h
   simp only [zA2, dEt] at h
   obtain ⟨⟨⟨⟨h1, h2⟩, h3⟩, ⟨⟨⟨⟨g1, g2⟩, g3⟩, g4, g5⟩, g6⟩⟩, ⟨k1, k2⟩, k3⟩ := h
   obtain ⟨s1, s2, s3⟩ := said_true h1
   rw [s3] at k1 k2 k3 h3
   dsimp only at k1 k2 k3 h3
   obtain ⟨i1, i2, i3, i4⟩ := load_inv t.b _ (zAi _)
   have hb : t.b = cat (Jo.load t.b).1 := by rw [← i2, k1, zB1]
   refine ⟨(Jo.load t.b).1, ⟨hb, i1, s2, by rw [← hb]; exact s1, k2.symm, by rw [k3, k2]⟩, ⟨g1, g2, g5⟩, h2, by rw [← k1]; exact h3, hu⟩
 · rintro ⟨raw, hl, hf, h1, h2, hu⟩
   refine ⟨?_, hu⟩
   have hs := said_cat hl.ok hl.nf hl.len
   obtain ⟨u1, u2⟩ := un0 hl.nf
   have hev : validE t.s.evs = true := by
    rw [validE_iff, hl.evs]
    refine ⟨fun e he => hl.ok e ((u2 e).1 he), u1, ?_⟩
    have := un_len raw []
    have := cat_min hl.ok
    have := hl.len
    simp only [zA9] at *
    omega
   have hkn := known_in (validE_iff.1 hev).1 t.s.id
   have hk0 := known_nonneg t.s.evs t.s.id
   unfold validT validS
   rw [if_pos hu, hl.b, hs]
   rw [hl.b] at h2
   simp only [zA2, dEt]
   refine ⟨⟨⟨⟨trivial, h1⟩, h2⟩, ⟨⟨⟨⟨hf.ed, hf.who⟩, inR_iff.2 (by rw [hl.kn]; exact ⟨hk0, hkn⟩)⟩, hev, hf.id⟩, by rw [hl.kn]; exact zAq _⟩⟩, ⟨trivial, hl.evs.symm⟩, by rw [hl.kn, hl.evs]⟩
theorem valid_down {t : Tab} : (validT t = true ∧ t.up = false) ↔ (t.b.length ≤ 200000 ∧ NoFork (Jo.load t.b).1 ∧ Fit t ∧ 0 ≤ t.sure ∧ t.sure ≤ ((Jo.load t.b).2 : Int) ∧ t.s.evs = [] ∧ t.s.known = 0 ∧ t.up = false) := by
 constructor
 · rintro ⟨h, hu⟩
   unfold validT validS at h
   rw [if_neg (by rw [hu]; decide)] at h
   simp only [zA2, dEt] at h
   obtain ⟨⟨⟨⟨h1, h2⟩, h3⟩, ⟨⟨⟨⟨g1, g2⟩, g3⟩, g4, g5⟩, g6⟩⟩, k1, k2⟩ := h
   obtain ⟨s1, s2, s3⟩ := said_true h1
   rw [s3] at h3
   exact ⟨s1, s2, ⟨g1, g2, g5⟩, h2, h3, k1, k2, hu⟩
 · rintro ⟨s1, s2, hf, h2, h3, k1, k2, hu⟩
   refine ⟨?_, hu⟩
   unfold validT validS
   rw [if_neg (by rw [hu]; decide), said_eq s1, if_pos s2]
   simp only [zA2, dEt]
   have hk : knownE [] t.s.id = 0 := rfl
   refine ⟨⟨⟨⟨trivial, h2⟩, h3⟩, ⟨⟨⟨⟨hf.ed, hf.who⟩, inR_iff.2 (by rw [k2]; exact ⟨by decide, by decide⟩)⟩, by rw [k1]; decide, hf.id⟩, by rw [k1, hk, k2]; exact zAq _⟩⟩, k1, k2⟩
end Go.Sy
