/- The laws AlignLeast, AlignProves by content. What is handed in to the laws over scores reads as a content.  What is handed in to the laws of notes reads as a content: bytes. No statement is proved here. -/
import Derived.LaidMore
import Derived.MakeChecks
import Derived.SizedLaws
import Derived.Test.YtekfpcgagoidcaaGreatDoorP3
import Derived.Test.YtekfpcgagoidcaaGreatDoorP20
import Derived.Test.YtekfpcgagoidcaaGreatDoorP30
set_option linter.unusedVariables false
set_option linter.unusedSimpArgs false
namespace Go.Proofs.YtekfpcgagoidcaaGreatDoor.Al
open Go.Ab Go.Sort
attribute [local irreducible] AWP AOps EStep AQ PStep PRun PCall TCall VCall
theorem wrap64a {n : Int} (h : 0 ≤ n ∧ n ≤ 65535) : IntKind.i64.wrap n = n := by
  simp [IntKind.wrap, IntKind.bits, IntKind.signed]; omega
theorem usab_iff {a b : Score} (h : usab a b = true) : few12 a = true ∧ few12 b = true ∧ scoreOk a = true ∧ scoreOk b = true := by
  unfold usab at h
  simp only [Bool.and_eq_true] at h
  exact ⟨h.1.1.1, h.1.1.2, h.1.2, h.2⟩
theorem usab_short {a b : Score} (h : usab a b = true) : ¬ longB a b := by
  have h1 := few12_notes (usab_iff h).1
  have h2 := few12_notes (usab_iff h).2.1
  unfold longB; omega
theorem usab_bars {a b : Score} (h : usab a b = true) : barsR a b = (bestA a b, 0) := by
  obtain ⟨_, _, h3, h4⟩ := usab_iff h
  unfold barsR
  rw [if_pos ⟨h3, h4⟩, if_neg (usab_short h)]
def pairsG (n m : Nat) : List UInt8 → Nat → Nat → List (Nat × Nat)
  | [], _, _ => []
  | w :: r, i, k => if n ≤ i + w.toNat % 3 ∨ m ≤ k + w.toNat / 3 % 3 then [] else (i + w.toNat % 3, k + w.toNat / 3 % 3) :: pairsG n m r (i + w.toNat % 3 + 1) (k + w.toNat / 3 % 3 + 1)
theorem pairsG_ok {n m : Nat} : ∀ (r : List UInt8) (i k : Nat), (pairsG n m r i k).Pairwise (fun p q => p.1 < q.1 ∧ p.2 < q.2) ∧ ∀ p ∈ pairsG n m r i k, i ≤ p.1 ∧ k ≤ p.2 ∧ p.1 < n ∧ p.2 < m
  | [], _, _ => ⟨List.Pairwise.nil, fun p h => by cases h⟩
  | w :: r, i, k => by
    unfold pairsG
    split
    · exact ⟨List.Pairwise.nil, fun p h => by cases h⟩
    · rename_i h
      obtain ⟨r1, r2⟩ := pairsG_ok (n := n) (m := m) r (i + w.toNat % 3 + 1) (k + w.toNat / 3 % 3 + 1)
      refine ⟨List.pairwise_cons.2 ⟨fun p hp => ?_, r1⟩, fun p hp => ?_⟩
      · have := r2 p hp
        show i + w.toNat % 3 < p.1 ∧ k + w.toNat / 3 % 3 < p.2
        omega
      · rcases List.mem_cons.1 hp with rfl | hp
        · show i ≤ i + w.toNat % 3 ∧ k ≤ k + w.toNat / 3 % 3 ∧ i + w.toNat % 3 < n ∧ k + w.toNat / 3 % 3 < m
          omega
        · have := r2 p hp
          omega
theorem pairsG_pOk (n m : Nat) (r : List UInt8) : pOk n m (-1) (-1) (ip (pairsG n m r 0 0)) = true := by
  obtain ⟨h1, h2⟩ := pairsG_ok (n := n) (m := m) r 0 0
  exact pOk_of h1 fun p hp => by have := h2 p hp; omega
theorem pOk_len {n m : Nat} : ∀ {l : PL} {x y : Int}, pOk n m x y l = true → l ≠ [] → x + l.length < n
  | [], _, _, _, h => absurd rfl h
  | p :: r, x, y, h, _ => by
    simp only [pOk, Bool.and_eq_true, dEt] at h
    obtain ⟨h1, _, h3, _, h5⟩ := h
    cases r with
    | nil => simp; omega
    | cons q r =>
      have := pOk_len h5 (by simp)
      simp only [List.length_cons] at this ⊢
      omega
theorem pOk_len' {n m : Nat} {l : PL} (h : pOk n m (-1) (-1) l = true) : l.length ≤ n := by
  cases l with
  | nil => exact Nat.zero_le _
  | cons p r =>
    have := pOk_len h (by simp)
    omega
theorem pairsG_drop {n m : Nat} {by_ : List UInt8} {j : Nat} (h : j < by_.length) {w : UInt8} (hw : by_.getD j default = w) (i k : Nat) : pairsG n m (by_.drop j) i k = if n ≤ i + w.toNat % 3 ∨ m ≤ k + w.toNat / 3 % 3 then [] else (i + w.toNat % 3, k + w.toNat / 3 % 3) :: pairsG n m (by_.drop (j + 1)) (i + w.toNat % 3 + 1) (k + w.toNat / 3 % 3 + 1) := by
  rw [drop_at h, hw]; rfl
set_option maxHeartbeats 16000000 in
set_option maxRecDepth 20000 in
theorem pairs12_spec (a b : Score) (ha : a.Small) (hb : b.Small) (by_ : List UInt8) (hy : by_.length ≤ 9223372036854775807) :
    PCall Tryz.prog 28 [.agg (encS a), .agg (encS b), .sl 1 (by_.map by8) .no] (.sl 2 ((ip (pairsG a.bars.length b.bars.length by_ 0 0)).map encPr) .no) := by
  have ha1 := ha.1
  have hb1 := hb.1
  refine PCall.body Tryz.func28 rfl rfl Tryz.ntmps28 rfl rfl ?_
  repeat' (first | refine AOps.q rfl rfl rfl (fun hg => by first | exact std0 | exact std1) (by exact rfl) ?_ | refine AWP.seq ?_ | refine AWP.regionK (fun K' hK => ?_) | (refine AOps.nil (hK _ _ ?_); clear hK K') | refine AOps.e (EStep.boxW rfl rfl rfl rfl rfl True.intro rfl rfl ?_) | refine AWP.block ?_)
  refine AWP.ownNil (d := 7) (sz := 2) rfl ?_
  refine AWP.loopD (ι := Nat × Nat × Nat × List (Nat × Nat)) (fun q => [(3, .ptr 0 0), (4, .ptr 1 0), (7, .sl 2 ((ip q.2.2.2).map encPr) (.own 2)), (8, .int q.2.1), (9, .int q.2.2.1), (12, .sl 1 (by_.map by8) .no), (13, .int by_.length), (14, .int q.1)]) (fun q => [.var (encS a), .var (encS b), .own 2 ((ip q.2.2.2).map encPr).length])
    (fun q => q.1 ≤ by_.length ∧ q.2.1 ≤ a.bars.length ∧ q.2.2.1 ≤ b.bars.length ∧ q.2.2.2.length ≤ q.2.1 ∧ q.2.2.2 ++ pairsG a.bars.length b.bars.length (by_.drop q.1) q.2.1 q.2.2.1 = pairsG a.bars.length b.bars.length by_ 0 0) (fun q => by_.length - q.1) 3 (fun _ => rfl) (0, 0, 0, []) ⟨Nat.zero_le _, Nat.zero_le _, Nat.zero_le _, Nat.le_refl _, rfl⟩ ⟨rfl, rfl, rfl, rfl, rfl, rfl, rfl, rfl, True.intro⟩ rfl (fun _ _ => rfl) (fun _ _ => rfl) ?_
  rintro ⟨j, i, k, acc⟩ ⟨hj, hi, hk, hacc, hG⟩
  dsimp only at hj hi hk hacc hG ⊢
  by_cases hlt : j < by_.length
  · obtain ⟨w, hw⟩ : ∃ w, by_.getD j default = w := ⟨_, rfl⟩
    rw [pairsG_drop hlt hw] at hG
    have hw255 : w.toNat ≤ 255 := by have := w.toNat_lt; omega
    obtain ⟨u, hu⟩ : ∃ u, w.toNat % 3 = u := ⟨_, rfl⟩
    obtain ⟨v, hv⟩ : ∃ v, w.toNat / 3 % 3 = v := ⟨_, rfl⟩
    have r1 : ((w.toNat : Nat) : Int).tmod 3 = (u : Int) := by rw [← hu]; rfl
    have r2 : ((w.toNat / 3 : Nat) : Int).tmod 3 = (v : Int) := by rw [← hv]; rfl
    have r3 : IntKind.i64.wrap (((w.toNat : Nat) : Int).tdiv 3) = ((w.toNat / 3 : Nat) : Int) := (show IntKind.i64.wrap ((w.toNat / 3 : Nat) : Int) = _ from wrap64a (by omega))
    rw [hu, hv] at hG
    have hu2 : u ≤ 2 := by omega
    have hv2 : v ≤ 2 := by omega
    have hlen : (ip acc).length = acc.length := by unfold ip; rw [List.length_map]
    by_cases hst : a.bars.length ≤ i + u ∨ b.bars.length ≤ k + v
    · rw [if_pos hst, List.append_nil] at hG
      repeat' (first | refine AOps.q rfl rfl rfl (fun hg => by first | exact PRun.eq (PRun.quoW rfl rfl nd rfl nd (by decide)) (congrArg AV.int r3) | exact PRun.remV r2 (by decide) rfl rfl nd rfl nd | exact PRun.remV r1 (by decide) rfl rfl nd rfl nd | exact PRun.convV tabOk (wrap64a ⟨by omega, by omega⟩) rfl rfl nd rfl rfl | exact PRun.eq (v := .iptr (by8 (by_.getD ((j : Nat) : Int).toNat default))) (PRun.indexMW tabOk rfl rfl nd rfl nd rfl rfl (by omega)) (congrArg (fun x => AV.iptr (by8 x)) hw) | exact std0 | exact std1) (by exact rfl) ?_ | refine AWP.seq ?_ | refine AWP.regionK (fun K' hK => ?_) | (refine AOps.nil (hK _ _ ?_); clear hK K') | (refine AWP.condW rfl True.intro (fun hc => ?_) (fun hc => ?_) <;> (first | (simp only [dEt] at hc) | (simp only [dEf, iNl, iNe] at hc) | skip)) | refine AWP.block ?_ | refine AWP.exit ?_ | refine AWP.skip ?_ | refine AWP.ret ?_)
      all_goals (first | (exfalso; omega) | (exfalso; simp at hc; done) | (exfalso; simp at hc; omega) | (exfalso; simp only [dEf, dEt] at hc; omega) | (rename_i h0; exfalso; simp at h0; done) | (rename_i h0; exfalso; simp at h0; omega) | skip)
      rw [← hG]
      exact ⟨.inr rfl, Ent.of rfl⟩
    · rw [if_neg hst] at hG
      have hap : (ip (acc ++ [(i + u, k + v)])).map encPr = (ip acc).map encPr ++ [[AV.int ((i : Int) + (u : Int)), AV.int ((k : Int) + (v : Int))]] := by rw [ip_snoc, List.map_append]; rfl
      repeat' (first | refine AOps.q rfl rfl rfl (fun hg => by first | exact PRun.eq (PRun.quoW rfl rfl nd rfl nd (by decide)) (congrArg AV.int r3) | exact PRun.remV r2 (by decide) rfl rfl nd rfl nd | exact PRun.remV r1 (by decide) rfl rfl nd rfl nd | exact PRun.convV tabOk (wrap64a ⟨by omega, by omega⟩) rfl rfl nd rfl rfl | exact PRun.eq (v := .iptr (by8 (by_.getD ((j : Nat) : Int).toNat default))) (PRun.indexMW tabOk rfl rfl nd rfl nd rfl rfl (by omega)) (congrArg (fun x => AV.iptr (by8 x)) hw) | exact std0 | exact PRun.buildW tabOk rfl rfl nds | exact PRun.buildSlW tabOk rfl rfl nds | exact std1) (by exact rfl) ?_ | refine AWP.seq ?_ | refine AWP.regionK (fun K' hK => ?_) | (refine AOps.nil (hK _ _ ?_); clear hK K') | refine AOps.e (EStep.appendOwn' tabOk rfl rfl rfl (by decide) (Rd.w rfl True.intro) rfl (Rd.w rfl True.intro) (.sl rfl (by first | (intro x hx; rcases List.mem_singleton.1 hx with rfl; rfl) | exact one_encPr _)) (LOk.of (tabOk.get rfl)) (LOk.of (tabOk.get rfl)) rfl rfl (by simp only [List.length_map, List.length_append, List.length_cons, List.length_nil, List.length_take, List.length_drop]; omega) (by simp only [List.length_map, List.length_append, List.length_cons, List.length_nil, List.length_take, List.length_drop]; omega) ?_) | (refine AWP.condW rfl True.intro (fun hc => ?_) (fun hc => ?_) <;> (first | (simp only [dEt] at hc) | (simp only [dEf, iNl, iNe] at hc) | skip)) | refine AWP.block ?_ | refine AWP.exit ?_ | refine AWP.skip ?_ | refine AWP.ret ?_)
      all_goals (first | (exfalso; omega) | (exfalso; simp at hc; done) | (exfalso; simp at hc; omega) | (exfalso; simp only [dEf, dEt] at hc; omega) | (rename_i h0; exfalso; simp at h0; done) | (rename_i h0; exfalso; simp at h0; omega) | skip)
      exact ⟨(j + 1, i + u + 1, k + v + 1, acc ++ [(i + u, k + v)]), ⟨hlt, by show i + u + 1 ≤ _; omega, by show k + v + 1 ≤ _; omega, by simp; omega, by rw [← hG, List.append_assoc]; rfl⟩, by show by_.length - (j + 1) < by_.length - j; omega, ⟨rfl, rfl, (by show _ = AV.sl 2 ((ip (acc ++ [(i + u, k + v)])).map encPr) (.own 2); rw [hap]; rfl), rfl, rfl, rfl, rfl, rfl, True.intro⟩, (by show _ = [_, _, AObj.own 2 ((ip (acc ++ [(i + u, k + v)])).map encPr).length]; rw [hap]; rfl)⟩
  · obtain rfl : j = by_.length := by omega
    rw [List.drop_length, show pairsG a.bars.length b.bars.length [] i k = [] from rfl, List.append_nil] at hG
    repeat' (first | refine AOps.q rfl rfl rfl (fun hg => by first | exact std0 | exact std1) (by exact rfl) ?_ | refine AWP.seq ?_ | refine AWP.regionK (fun K' hK => ?_) | (refine AOps.nil (hK _ _ ?_); clear hK K') | (refine AWP.condW rfl True.intro (fun hc => ?_) (fun hc => ?_) <;> (first | (simp only [dEt] at hc) | (simp only [dEf, iNl, iNe] at hc) | skip)) | refine AWP.block ?_ | refine AWP.exit ?_ | refine AWP.skip ?_ | refine AWP.ret ?_)
    all_goals (first | (exfalso; omega) | (exfalso; simp at hc; done) | (exfalso; simp at hc; omega) | (exfalso; simp only [dEf, dEt] at hc; omega) | (rename_i h0; exfalso; simp at h0; done) | (rename_i h0; exfalso; simp at h0; omega) | skip)
    rw [← hG]
    exact ⟨.inr rfl, Ent.of rfl⟩
set_option maxHeartbeats 16000000 in
set_option maxRecDepth 20000 in
theorem least_law (a : Score) (ha : a.Sized) (b : Score) (hb : b.Sized) (by_ : List UInt8) (hy : by_.length ≤ 9223372036854775807) :
    PCall Tryz.prog 4 [.agg (encS a), .agg (encS b), .sl 1 (by_.map by8) .no] (.b true) := by
  have hh := head12_spec
  have hu := usable12_spec a b ha hb
  cases hg : usab a b with
  | true =>
    rw [hg] at hu
    obtain ⟨u1, u2, u3, u4⟩ := usab_iff hg
    have sa := few12_small u1
    have sb := few12_small u2
    have na := few12_notes u1
    have nb := few12_notes u2
    have b1 := aBars_spec a b sa sb
    rw [usab_bars hg] at b1
    have lq := alignR_len (costR a b) a.bars.length b.bars.length
    have k1 := aCheck_spec a b sa sb (bestA a b) (by show (alignR _ _ _).length ≤ _; omega) (by show (tableL _ _ _).length ≤ _; rw [tableL_len]; omega)
    rw [check_best u3 u4 (usab_short hg)] at k1
    have g1 := pairs12_spec a b sa sb by_ hy
    have hpo := pairsG_pOk a.bars.length b.bars.length by_
    have hle := align_least (c := costR a b) hpo
    have hlen := pOk_len' hpo
    have hps := pOk_spec (by omega) (by omega) hpo
    have hip := ip_np (by omega) (by omega) hpo
    generalize ip (pairsG a.bars.length b.bars.length by_ 0 0) = l at *
    dsimp only at b1 k1
    refine PCall.body Tryz.func4 rfl rfl Tryz.ntmps4 rfl rfl ?_
    repeat' (first | refine AOps.q rfl rfl rfl (fun hg => by first | exact std0 | exact PRun.callW (hh) rfl rfl nd rfl nds | exact PRun.callW (hu) rfl rfl nd rfl nds | exact PRun.callW (b1) rfl rfl nd rfl nds | exact PRun.callW (k1) rfl rfl nd rfl nds | exact PRun.callW (g1) rfl rfl nd rfl nds | exact std1) (by exact rfl) ?_ | refine AWP.seq ?_ | refine AWP.regionK (fun K' hK => ?_) | (refine AOps.nil (hK _ _ ?_); clear hK K') | refine AOps.e (EStep.boxW rfl rfl rfl rfl rfl True.intro rfl rfl ?_) | refine AOps.e (EStep.storeW tabOk rfl rfl rfl True.intro rfl rfl True.intro rfl rfl rfl rfl rfl rfl rfl ?_) | refine AOps.e (EStep.allocW tabOk rfl rfl rfl rfl rfl rfl ?_) | (refine AWP.condW rfl True.intro (fun hc => ?_) (fun hc => ?_) <;> (first | (simp only [dEt] at hc) | (simp only [dEf, iNl, iNe] at hc) | skip)) | refine AWP.block ?_ | refine AWP.skip ?_ | refine AWP.ret ?_)
    all_goals (first | (exfalso; omega) | (exfalso; simp at hc; done) | (exfalso; simp at hc; omega) | (exfalso; simp only [dEf, dEt] at hc; omega) | (rename_i h0; exfalso; simp at h0; done) | (rename_i h0; exfalso; simp at h0; omega) | skip)
    clear hh hu b1 k1 g1
    refine AWP.loopD (ι := Nat) (fun k => [(3, .ptr 0 0), (4, .ptr 1 0), (7, .b true), (8, .ptr 2 0), (9, .int 0), (10, .b true), (11, .int 0), (13, .int (2 * ((a.bars.length : Int) + b.bars.length - 2 * l.length) + sumK (costR a b) (l.take k))), (53, .sl 2 (l.map encPr) .no), (54, .int l.length), (55, .int k)]) (fun _ => [.var (encS a), .var (encS b), .var (encA (bestA a b))])
      (fun k => k ≤ l.length) (fun k => l.length - k) 3 (fun _ => rfl) 0 (Nat.zero_le _) ⟨rfl, rfl, rfl, rfl, rfl, rfl, rfl, ?_, rfl, rfl, rfl, True.intro⟩ rfl (fun _ _ => rfl) (fun _ _ => rfl) ?_
    · show AV.int _ = AV.int (_ + sumK (costR a b) [])
      exact congrArg AV.int (by rw [show sumK (costR a b) [] = 0 from rfl]; omega)
    intro k hk
    have hsi := sumK_in a b (l.take k)
    rw [List.length_take] at hsi
    by_cases hlt : k < l.length
    · obtain ⟨z, hz⟩ : ∃ z, l.getD k default = z := ⟨_, rfl⟩
      have hzm : z ∈ l := by rw [← hz, getD_lt hlt]; exact List.getElem_mem hlt
      have hst := sumK_take (costR a b) hlt
      rw [hz] at hst
      obtain ⟨z1, z2, z3, z4⟩ := hps.2 (z.1.toNat, z.2.toNat) (List.mem_map.2 ⟨z, hzm, rfl⟩)
      have hzp : 0 ≤ z.1 ∧ 0 ≤ z.2 := by
        have h6 : z ∈ ip (np l) := by rw [hip]; exact hzm
        obtain ⟨q, _, rfl⟩ := List.mem_map.1 h6
        exact ⟨Int.natCast_nonneg _, Int.natCast_nonneg _⟩
      dsimp only at z3 z4
      have c1 := costR_in a b z.1.toNat z.2.toNat
      have hc0 := aCost_spec a b sa sb z.1 z.2
      have hcv : costI a b z.1 z.2 = (costR a b z.1.toNat z.2.toNat, 0) := if_pos ⟨u3, u4, hzp.1, by omega, hzp.2, by omega⟩
      rw [hcv] at hc0
      dsimp only at hc0
      generalize sumK (costR a b) (l.take k) = sm at *
      generalize hC : costR a b z.1.toNat z.2.toNat = C at *
      repeat' (first | refine AOps.q rfl rfl rfl (fun hg => by first | exact PRun.eq (v := .iptr (encPr (l.getD ((k : Nat) : Int).toNat default))) (PRun.indexMW tabOk rfl rfl nd rfl nd rfl rfl (by omega)) (congrArg (fun x => AV.iptr (encPr x)) hz) | exact std0 | exact PRun.callW (hc0) rfl rfl nd rfl nds) (by exact rfl) ?_ | refine AWP.seq ?_ | refine AWP.regionK (fun K' hK => ?_) | (refine AOps.nil (hK _ _ ?_); clear hK K') | refine AOps.e (EStep.storeW tabOk rfl rfl rfl True.intro rfl rfl True.intro rfl rfl rfl rfl rfl rfl rfl ?_) | refine AOps.e (EStep.allocW tabOk rfl rfl rfl rfl rfl rfl ?_) | (refine AWP.condW rfl True.intro (fun hc => ?_) (fun hc => ?_) <;> (first | (simp only [dEt] at hc) | (simp only [dEf, iNl, iNe] at hc) | skip)) | refine AWP.block ?_ | refine AWP.exit ?_ | refine AWP.skip ?_ | refine AWP.ret ?_)
      all_goals (first | (exfalso; omega) | (exfalso; simp at hc; done) | (exfalso; simp at hc; omega) | (exfalso; simp only [dEf, dEt] at hc; omega) | (rename_i h0; exfalso; simp at h0; done) | (rename_i h0; exfalso; simp at h0; omega) | skip)
      refine ⟨k + 1, hlt, by show l.length - (k + 1) < l.length - k; omega, ⟨rfl, rfl, rfl, rfl, rfl, rfl, rfl, ?_, rfl, rfl, rfl, True.intro⟩, rfl⟩
      show _ = AV.int (2 * ((a.bars.length : Int) + b.bars.length - 2 * l.length) + sumK (costR a b) (l.take (k + 1)))
      rw [hst]
      exact congrArg AV.int (by omega)
    · have et : l.take k = l := List.take_of_length_le (by omega)
      rw [et] at hsi ⊢
      have hle2 : T (costR a b) a.bars.length b.bars.length ≤ 2 * ((a.bars.length : Int) + b.bars.length - 2 * l.length) + sumK (costR a b) l := hle
      have hd : decide (T (costR a b) a.bars.length b.bars.length ≤ 2 * ((a.bars.length : Int) + b.bars.length - 2 * l.length) + sumK (costR a b) l) = true := decide_eq_true hle2
      repeat' (first | refine AOps.q rfl rfl rfl (fun hg => by first | exact PRun.eq (PRun.binW rfl rfl nd rfl nd rfl) (show AV.b (decide (T (costR a b) a.bars.length b.bars.length ≤ 2 * ((a.bars.length : Int) + b.bars.length - 2 * l.length) + sumK (costR a b) l)) = AV.b true from congrArg AV.b hd) | exact std0 | exact std1) (by exact rfl) ?_ | refine AWP.seq ?_ | refine AWP.regionK (fun K' hK => ?_) | (refine AOps.nil (hK _ _ ?_); clear hK K') | refine AOps.e (EStep.storeW tabOk rfl rfl rfl True.intro rfl rfl True.intro rfl rfl rfl rfl rfl rfl rfl ?_) | refine AOps.e (EStep.allocW tabOk rfl rfl rfl rfl rfl rfl ?_) | (refine AWP.condW rfl True.intro (fun hc => ?_) (fun hc => ?_) <;> (first | (simp only [dEt] at hc) | (simp only [dEf, iNl, iNe] at hc) | skip)) | refine AWP.block ?_ | refine AWP.exit ?_ | refine AWP.skip ?_ | refine AWP.ret ?_)
      all_goals (first | (exfalso; omega) | (exfalso; simp at hc; done) | (exfalso; simp at hc; omega) | (exfalso; simp only [dEf, dEt] at hc; omega) | (rename_i h0; exfalso; simp at h0; done) | (rename_i h0; exfalso; simp at h0; omega) | skip)
      exact ⟨.inr rfl, Ent.b rfl⟩
  | false =>
    rw [hg] at hu
    refine PCall.body Tryz.func4 rfl rfl Tryz.ntmps4 rfl rfl ?_
    repeat' (first | refine AOps.q rfl rfl rfl (fun hg => by first | exact std0 | exact PRun.callW (hh) rfl rfl nd rfl nds | exact PRun.callW (hu) rfl rfl nd rfl nds) (by exact rfl) ?_ | refine AWP.seq ?_ | refine AWP.regionK (fun K' hK => ?_) | (refine AOps.nil (hK _ _ ?_); clear hK K') | refine AOps.e (EStep.boxW rfl rfl rfl rfl rfl True.intro rfl rfl ?_) | (refine AWP.condW rfl True.intro (fun hc => ?_) (fun hc => ?_) <;> (first | (simp only [dEt] at hc) | (simp only [dEf, iNl, iNe] at hc) | skip)) | refine AWP.skip ?_ | refine AWP.ret ?_)
    · exact ⟨.inr rfl, Ent.b rfl⟩
    all_goals (exfalso; simp at hc)
theorem check_true {a b : Score} {x : Algn} (h : usab a b = true) : (checkR a b x).2 = 0 ∧ ((checkR a b x).1 = true → x.cost = T (costR a b) a.bars.length b.bars.length) := by
  obtain ⟨_, _, h3, h4⟩ := usab_iff h
  have hl := usab_short h
  unfold longB at hl
  unfold checkR
  rw [if_pos ⟨h3, h4⟩, if_neg hl]
  split
  · rename_i g
    refine ⟨rfl, fun e => ?_⟩
    have := check_least g.2.2 g.1 ((beq_iff_eq.1 e).trans g.2.1.symm)
    rw [← this, g.2.1]
  · exact ⟨rfl, fun e => by cases e⟩
set_option maxHeartbeats 16000000 in
set_option maxRecDepth 20000 in
theorem proves_law (a : Score) (ha : a.Sized) (b : Score) (hb : b.Sized) (x : Algn) (hx : x.Sized) :
    PCall Tryz.prog 5 [.agg (encS a), .agg (encS b), .agg (encA x)] (.b true) := by
  have hh := head12_spec
  have hu := usable12_spec a b ha hb
  have q1 := hx.pairs
  have q2 := hx.table
  cases hg : usab a b with
  | true =>
    rw [hg] at hu
    by_cases hs : x.pairs.length ≤ 40 ∧ x.table.length ≤ 40
    · obtain ⟨u1, u2, u3, u4⟩ := usab_iff hg
      have sa := few12_small u1
      have sb := few12_small u2
      have b1 := aBars_spec a b sa sb
      rw [usab_bars hg] at b1
      have k1 := aCheck_spec a b sa sb x (by omega) q2
      obtain ⟨k2, k3⟩ := check_true (x := x) hg
      rw [k2] at k1
      generalize (checkR a b x).1 = is at *
      dsimp only at b1
      refine PCall.body Tryz.func5 rfl rfl Tryz.ntmps5 rfl rfl ?_
      repeat' (first | refine AOps.q rfl rfl rfl (fun hg => by first | exact std0 | exact PRun.callW (hh) rfl rfl nd rfl nds | exact PRun.callW (hu) rfl rfl nd rfl nds | exact PRun.callW (b1) rfl rfl nd rfl nds | exact PRun.callW (k1) rfl rfl nd rfl nds | exact std1) (by exact rfl) ?_ | refine AWP.seq ?_ | refine AWP.regionK (fun K' hK => ?_) | (refine AOps.nil (hK _ _ ?_); clear hK K') | refine AOps.e (EStep.boxW rfl rfl rfl rfl rfl True.intro rfl rfl ?_) | refine AOps.e (EStep.storeW tabOk rfl rfl rfl True.intro rfl rfl True.intro rfl rfl rfl rfl rfl rfl rfl ?_) | refine AOps.e (EStep.allocW tabOk rfl rfl rfl rfl rfl rfl ?_) | (refine AWP.condW rfl True.intro (fun hc => ?_) (fun hc => ?_) <;> (first | (simp only [dEt] at hc) | (simp only [dEf, iNl, iNe] at hc) | skip)) | refine AWP.skip ?_ | refine AWP.ret ?_)
      · exfalso; simp at hc; omega
      refine ⟨.inr rfl, Ent.b ?_⟩
      cases is with
      | false => rfl
      | true => simp [k3 rfl, bestA]
    · refine PCall.body Tryz.func5 rfl rfl Tryz.ntmps5 rfl rfl ?_
      repeat' (first | refine AOps.q rfl rfl rfl (fun hg => by first | exact std0 | exact PRun.callW (hh) rfl rfl nd rfl nds | exact PRun.callW (hu) rfl rfl nd rfl nds | exact std1) (by exact rfl) ?_ | refine AWP.seq ?_ | refine AWP.regionK (fun K' hK => ?_) | (refine AOps.nil (hK _ _ ?_); clear hK K') | refine AOps.e (EStep.boxW rfl rfl rfl rfl rfl True.intro rfl rfl ?_) | (refine AWP.condW rfl True.intro (fun hc => ?_) (fun hc => ?_) <;> (first | (simp only [dEt] at hc) | (simp only [dEf, iNl, iNe] at hc) | skip)) | refine AWP.skip ?_ | refine AWP.ret ?_)
      · exact ⟨.inr rfl, Ent.b rfl⟩
      all_goals (exfalso; apply hs; simp at hc; exact ⟨by omega, by omega⟩)
  | false =>
    rw [hg] at hu
    refine PCall.body Tryz.func5 rfl rfl Tryz.ntmps5 rfl rfl ?_
    repeat' (first | refine AOps.q rfl rfl rfl (fun hg => by first | exact std0 | exact PRun.callW (hh) rfl rfl nd rfl nds | exact PRun.callW (hu) rfl rfl nd rfl nds | exact (Bool.noConfusion (show false = true from hg) : PRun _ _ _ _ (.b false))) (by exact rfl) ?_ | refine AWP.seq ?_ | refine AWP.regionK (fun K' hK => ?_) | (refine AOps.nil (hK _ _ ?_); clear hK K') | refine AOps.e (EStep.boxW rfl rfl rfl rfl rfl True.intro rfl rfl ?_) | (refine AWP.condW rfl True.intro (fun hc => ?_) (fun hc => ?_) <;> (first | (simp only [dEt] at hc) | (simp only [dEf, iNl, iNe] at hc) | skip)) | refine AWP.skip ?_ | refine AWP.ret ?_)
    · exact ⟨.inr rfl, Ent.b rfl⟩
    all_goals (exfalso; simp at hc)
end Go.Proofs.YtekfpcgagoidcaaGreatDoor.Al


set_option maxRecDepth 20000
namespace Go.Ab
open Go.ChangeShapes Go.WideShapes
theorem slice_ok1 {P : Program} {w : World} {r : Reach} {b0 : Nat} {t e : TypeId} {v : Value} (hu : P.underlying t = some (.slice e)) (hv : Value.okWide P w r b0 t v) : ∀ a len cap, v = .slice (some a) len cap → a.spot = none := fun a len cap he => by
  subst he
  unfold Value.okWide at hv
  rw [hu] at hv
  simp only at hv
  unfold Cell.okWide at hv
  simp only [hu] at hv
  unfold Cell.ok at hv
  simp only [hu] at hv
  exact hv.2.2.2.1
theorem slice_val1 {P : Program} {w : World} {r : Reach} {b0 : Nat} {t e : TypeId} {v : Value} (hu : P.underlying t = some (.slice e)) (hv : Value.okWide P w r b0 t v) : v.cells.toList = [v] := by
  unfold Value.okWide at hv
  rw [hu] at hv
  simp only at hv
  unfold Cell.okWide at hv
  simp only [hu] at hv
  cases v with
  | slice a l c => simp [Value.cells]
  | _ => unfold Cell.ok at hv; simp [hu] at hv
end Go.Ab
namespace Go.Proofs.YtekfpcgagoidcaaGreatDoor
open Go.Ab Go.ChangeShapes Go.WideShapes
section
variable {H : Type} {enc : TypeId × Value → H} {W : World} {base b0 fuel : Nat} {held : Bool} {spare : Nat → Bool}
abbrev vI (n : Int) : Value := .int .i64 n
theorem lk3 : LOk Tryz.prog 3 ⟨.int .i64, 1, 8, [.i .i64]⟩ := .of (tabOk.get rfl)
theorem cn3 : Tryz.prog.cellsOf 3 = 1 := by kernel_rfl

theorem lkRat : LOk Tryz.prog 52 ⟨.struct [(3, 0, 1), (3, 1, 1)], 2, 16, [.i .i64, .i .i64]⟩ := .of (tabOk.get rfl)
theorem cnRat : Tryz.prog.cellsOf 52 = 2 := by kernel_rfl
def vRat (x : Rat) : List Value := [vI x.n] ++ [vI x.d]
theorem rdRat {cs : List Value} {y : DataW H × List MemPlace} (h : DataW.trod enc Tryz.prog W base spare held fuel 52 cs = some y) : ∃ x : Rat, cs = vRat x := by
  obtain ⟨hlen, n, hf⟩ := struct_rd lkRat h
  rw [cnRat] at hlen
  match cs, hlen with
  | [u0, u1], _ =>
    obtain ⟨y0, h0⟩ := hf 0 3 0 1 rfl
    obtain ⟨y1, h1⟩ := hf 1 3 1 1 rfl
    rw [cn3] at h0 h1
    obtain ⟨n0, e0, _⟩ := int_rd lk3 h0
    obtain ⟨n1, e1, _⟩ := int_rd lk3 h1
    have g0 : u0 = vI n0 := by simpa using e0
    have g1 : u1 = vI n1 := by simpa using e1
    refine ⟨⟨n0, n1⟩, ?_⟩
    subst g0
    subst g1
    unfold vRat
    rfl
theorem lkInterval : LOk Tryz.prog 128 ⟨.struct [(3, 0, 1), (3, 1, 1)], 2, 16, [.i .i64, .i .i64]⟩ := .of (tabOk.get rfl)
theorem cnInterval : Tryz.prog.cellsOf 128 = 2 := by kernel_rfl
def vInterval (x : Interval) : List Value := [vI x.steps] ++ [vI x.semi]
theorem rdInterval {cs : List Value} {y : DataW H × List MemPlace} (h : DataW.trod enc Tryz.prog W base spare held fuel 128 cs = some y) : ∃ x : Interval, cs = vInterval x := by
  obtain ⟨hlen, n, hf⟩ := struct_rd lkInterval h
  rw [cnInterval] at hlen
  match cs, hlen with
  | [u0, u1], _ =>
    obtain ⟨y0, h0⟩ := hf 0 3 0 1 rfl
    obtain ⟨y1, h1⟩ := hf 1 3 1 1 rfl
    rw [cn3] at h0 h1
    obtain ⟨n0, e0, _⟩ := int_rd lk3 h0
    obtain ⟨n1, e1, _⟩ := int_rd lk3 h1
    have g0 : u0 = vI n0 := by simpa using e0
    have g1 : u1 = vI n1 := by simpa using e1
    refine ⟨⟨n0, n1⟩, ?_⟩
    subst g0
    subst g1
    unfold vInterval
    rfl
theorem lkPitch : LOk Tryz.prog 54 ⟨.struct [(3, 0, 1), (3, 1, 1), (3, 2, 1)], 3, 24, [.i .i64, .i .i64, .i .i64]⟩ := .of (tabOk.get rfl)
theorem cnPitch : Tryz.prog.cellsOf 54 = 3 := by kernel_rfl
def vPitch (x : Pitch) : List Value := [vI x.step] ++ [vI x.alter] ++ [vI x.oct]
theorem rdPitch {cs : List Value} {y : DataW H × List MemPlace} (h : DataW.trod enc Tryz.prog W base spare held fuel 54 cs = some y) : ∃ x : Pitch, cs = vPitch x := by
  obtain ⟨hlen, n, hf⟩ := struct_rd lkPitch h
  rw [cnPitch] at hlen
  match cs, hlen with
  | [u0, u1, u2], _ =>
    obtain ⟨y0, h0⟩ := hf 0 3 0 1 rfl
    obtain ⟨y1, h1⟩ := hf 1 3 1 1 rfl
    obtain ⟨y2, h2⟩ := hf 2 3 2 1 rfl
    rw [cn3] at h0 h1 h2
    obtain ⟨n0, e0, _⟩ := int_rd lk3 h0
    obtain ⟨n1, e1, _⟩ := int_rd lk3 h1
    obtain ⟨n2, e2, _⟩ := int_rd lk3 h2
    have g0 : u0 = vI n0 := by simpa using e0
    have g1 : u1 = vI n1 := by simpa using e1
    have g2 : u2 = vI n2 := by simpa using e2
    refine ⟨⟨n0, n1, n2⟩, ?_⟩
    subst g0
    subst g1
    subst g2
    unfold vPitch
    rfl
theorem lkBar : LOk Tryz.prog 59 ⟨.struct [(3, 0, 1), (52, 1, 2), (3, 3, 1)], 4, 32, [.i .i64, .i .i64, .i .i64, .i .i64]⟩ := .of (tabOk.get rfl)
theorem cnBar : Tryz.prog.cellsOf 59 = 4 := by kernel_rfl
def vBar (x : Bar) : List Value := [vI x.id] ++ vRat x.len ++ [vI x.key]
theorem rdBar {cs : List Value} {y : DataW H × List MemPlace} (h : DataW.trod enc Tryz.prog W base spare held fuel 59 cs = some y) : ∃ x : Bar, cs = vBar x := by
  obtain ⟨hlen, n, hf⟩ := struct_rd lkBar h
  rw [cnBar] at hlen
  match cs, hlen with
  | [u0, u1, u2, u3], _ =>
    obtain ⟨y0, h0⟩ := hf 0 3 0 1 rfl
    obtain ⟨y1, h1⟩ := hf 1 52 1 2 rfl
    obtain ⟨y2, h2⟩ := hf 2 3 3 1 rfl
    rw [cn3] at h0 h2
    rw [cnRat] at h1
    obtain ⟨n0, e0, _⟩ := int_rd lk3 h0
    obtain ⟨n1, e1⟩ := rdRat h1
    obtain ⟨n2, e2, _⟩ := int_rd lk3 h2
    have g0 : u0 = vI n0 := by simpa using e0
    have g1 : [u1, u2] = vRat n1 := by simpa using e1
    have g2 : u3 = vI n2 := by simpa using e2
    refine ⟨⟨n0, n1, n2⟩, ?_⟩
    subst g0
    subst g2
    unfold vBar
    rw [← g1]
    rfl
theorem relBar (x : Bar) : ∀ (j : Nat) c, (encB x)[j]? = some c → VRel (memOf W) [] c ((vBar x).getD j undef) := fun j c hj => by
  match j, hj with
  | 0, hj | 1, hj | 2, hj | 3, hj => simp only [encB, List.getElem?_cons_succ, List.getElem?_cons_zero, Option.some.injEq] at hj; subst hj; exact .prim _
  | j + 4, hj => simp [encB] at hj
theorem lkPart : LOk Tryz.prog 130 ⟨.struct [(3, 0, 1), (3, 1, 1), (3, 2, 1), (3, 3, 1), (3, 4, 1), (128, 5, 2), (54, 7, 3), (54, 10, 3)], 13, 104, [.i .i64, .i .i64, .i .i64, .i .i64, .i .i64, .i .i64, .i .i64, .i .i64, .i .i64, .i .i64, .i .i64, .i .i64, .i .i64]⟩ := .of (tabOk.get rfl)
theorem cnPart : Tryz.prog.cellsOf 130 = 13 := by kernel_rfl
def vPart (x : Part) : List Value := [vI x.id] ++ [vI x.section_] ++ [vI x.of_] ++ [vI x.octave] ++ [vI x.desks] ++ vInterval x.shift ++ vPitch x.low ++ vPitch x.high
theorem rdPart {cs : List Value} {y : DataW H × List MemPlace} (h : DataW.trod enc Tryz.prog W base spare held fuel 130 cs = some y) : ∃ x : Part, cs = vPart x := by
  obtain ⟨hlen, n, hf⟩ := struct_rd lkPart h
  rw [cnPart] at hlen
  match cs, hlen with
  | [u0, u1, u2, u3, u4, u5, u6, u7, u8, u9, u10, u11, u12], _ =>
    obtain ⟨y0, h0⟩ := hf 0 3 0 1 rfl
    obtain ⟨y1, h1⟩ := hf 1 3 1 1 rfl
    obtain ⟨y2, h2⟩ := hf 2 3 2 1 rfl
    obtain ⟨y3, h3⟩ := hf 3 3 3 1 rfl
    obtain ⟨y4, h4⟩ := hf 4 3 4 1 rfl
    obtain ⟨y5, h5⟩ := hf 5 128 5 2 rfl
    obtain ⟨y6, h6⟩ := hf 6 54 7 3 rfl
    obtain ⟨y7, h7⟩ := hf 7 54 10 3 rfl
    rw [cn3] at h0 h1 h2 h3 h4
    rw [cnInterval] at h5
    rw [cnPitch] at h6
    rw [cnPitch] at h7
    obtain ⟨n0, e0, _⟩ := int_rd lk3 h0
    obtain ⟨n1, e1, _⟩ := int_rd lk3 h1
    obtain ⟨n2, e2, _⟩ := int_rd lk3 h2
    obtain ⟨n3, e3, _⟩ := int_rd lk3 h3
    obtain ⟨n4, e4, _⟩ := int_rd lk3 h4
    obtain ⟨n5, e5⟩ := rdInterval h5
    obtain ⟨n6, e6⟩ := rdPitch h6
    obtain ⟨n7, e7⟩ := rdPitch h7
    have g0 : u0 = vI n0 := by simpa using e0
    have g1 : u1 = vI n1 := by simpa using e1
    have g2 : u2 = vI n2 := by simpa using e2
    have g3 : u3 = vI n3 := by simpa using e3
    have g4 : u4 = vI n4 := by simpa using e4
    have g5 : [u5, u6] = vInterval n5 := by simpa using e5
    have g6 : [u7, u8, u9] = vPitch n6 := by simpa using e6
    have g7 : [u10, u11, u12] = vPitch n7 := by simpa using e7
    refine ⟨⟨n0, n1, n2, n3, n4, n5, n6, n7⟩, ?_⟩
    subst g0
    subst g1
    subst g2
    subst g3
    subst g4
    unfold vPart
    rw [← g5]
    rw [← g6]
    rw [← g7]
    rfl
theorem relPart (x : Part) : ∀ (j : Nat) c, (encP x)[j]? = some c → VRel (memOf W) [] c ((vPart x).getD j undef) := fun j c hj => by
  match j, hj with
  | 0, hj | 1, hj | 2, hj | 3, hj | 4, hj | 5, hj | 6, hj | 7, hj | 8, hj | 9, hj | 10, hj | 11, hj | 12, hj => simp only [encP, List.getElem?_cons_succ, List.getElem?_cons_zero, Option.some.injEq] at hj; subst hj; exact .prim _
  | j + 13, hj => simp [encP] at hj
theorem lkNote : LOk Tryz.prog 56 ⟨.struct [(3, 0, 1), (3, 1, 1), (3, 2, 1), (3, 3, 1), (3, 4, 1), (52, 5, 2), (52, 7, 2), (54, 9, 3)], 12, 96, [.i .i64, .i .i64, .i .i64, .i .i64, .i .i64, .i .i64, .i .i64, .i .i64, .i .i64, .i .i64, .i .i64, .i .i64]⟩ := .of (tabOk.get rfl)
theorem cnNote : Tryz.prog.cellsOf 56 = 12 := by kernel_rfl
def vNote (x : Note) : List Value := [vI x.id] ++ [vI x.part] ++ [vI x.bar] ++ [vI x.voice] ++ [vI x.ossia] ++ vRat x.start ++ vRat x.len ++ vPitch x.pitch
theorem rdNote {cs : List Value} {y : DataW H × List MemPlace} (h : DataW.trod enc Tryz.prog W base spare held fuel 56 cs = some y) : ∃ x : Note, cs = vNote x := by
  obtain ⟨hlen, n, hf⟩ := struct_rd lkNote h
  rw [cnNote] at hlen
  match cs, hlen with
  | [u0, u1, u2, u3, u4, u5, u6, u7, u8, u9, u10, u11], _ =>
    obtain ⟨y0, h0⟩ := hf 0 3 0 1 rfl
    obtain ⟨y1, h1⟩ := hf 1 3 1 1 rfl
    obtain ⟨y2, h2⟩ := hf 2 3 2 1 rfl
    obtain ⟨y3, h3⟩ := hf 3 3 3 1 rfl
    obtain ⟨y4, h4⟩ := hf 4 3 4 1 rfl
    obtain ⟨y5, h5⟩ := hf 5 52 5 2 rfl
    obtain ⟨y6, h6⟩ := hf 6 52 7 2 rfl
    obtain ⟨y7, h7⟩ := hf 7 54 9 3 rfl
    rw [cn3] at h0 h1 h2 h3 h4
    rw [cnRat] at h5
    rw [cnRat] at h6
    rw [cnPitch] at h7
    obtain ⟨n0, e0, _⟩ := int_rd lk3 h0
    obtain ⟨n1, e1, _⟩ := int_rd lk3 h1
    obtain ⟨n2, e2, _⟩ := int_rd lk3 h2
    obtain ⟨n3, e3, _⟩ := int_rd lk3 h3
    obtain ⟨n4, e4, _⟩ := int_rd lk3 h4
    obtain ⟨n5, e5⟩ := rdRat h5
    obtain ⟨n6, e6⟩ := rdRat h6
    obtain ⟨n7, e7⟩ := rdPitch h7
    have g0 : u0 = vI n0 := by simpa using e0
    have g1 : u1 = vI n1 := by simpa using e1
    have g2 : u2 = vI n2 := by simpa using e2
    have g3 : u3 = vI n3 := by simpa using e3
    have g4 : u4 = vI n4 := by simpa using e4
    have g5 : [u5, u6] = vRat n5 := by simpa using e5
    have g6 : [u7, u8] = vRat n6 := by simpa using e6
    have g7 : [u9, u10, u11] = vPitch n7 := by simpa using e7
    refine ⟨⟨n0, n1, n2, n3, n4, n5, n6, n7⟩, ?_⟩
    subst g0
    subst g1
    subst g2
    subst g3
    subst g4
    unfold vNote
    rw [← g5]
    rw [← g6]
    rw [← g7]
    rfl
theorem relNote (x : Note) : ∀ (j : Nat) c, (encN x)[j]? = some c → VRel (memOf W) [] c ((vNote x).getD j undef) := fun j c hj => by
  match j, hj with
  | 0, hj | 1, hj | 2, hj | 3, hj | 4, hj | 5, hj | 6, hj | 7, hj | 8, hj | 9, hj | 10, hj | 11, hj => simp only [encN, List.getElem?_cons_succ, List.getElem?_cons_zero, Option.some.injEq] at hj; subst hj; exact .prim _
  | j + 12, hj => simp [encN] at hj
theorem lkSBar : LOk Tryz.prog 22 ⟨.slice 59, 1, 24, [.slice]⟩ := .of (tabOk.get rfl)
theorem cnSBar : Tryz.prog.cellsOf 22 = 1 := by kernel_rfl
theorem rdSBar {v : Value} {y : DataW H × List MemPlace} (hspot : ∀ a len cap, v = .slice (some a) len cap → a.spot = none) (h : DataW.trod enc Tryz.prog W base spare held fuel 22 [v] = some y) : ∃ l : List Bar, VRel (memOf W) [] (.sl 4 (l.map encB) .no) v ∧ l.length ≤ 9223372036854775807 := by
  obtain ⟨l, h1, h2, _⟩ := slice_rel (w := W) (enc := enc) (base := base) (held := held) (spare := spare) encB (fun _ => True) lkSBar.und_slice cnBar (by decide) (fun n cs y h => by
    obtain ⟨e, rfl⟩ := rdBar h
    exact ⟨e, rfl, relBar e, trivial⟩) hspot h
  exact ⟨l, h1, h2⟩
theorem lkSPart : LOk Tryz.prog 23 ⟨.slice 130, 1, 24, [.slice]⟩ := .of (tabOk.get rfl)
theorem cnSPart : Tryz.prog.cellsOf 23 = 1 := by kernel_rfl
theorem rdSPart {v : Value} {y : DataW H × List MemPlace} (hspot : ∀ a len cap, v = .slice (some a) len cap → a.spot = none) (h : DataW.trod enc Tryz.prog W base spare held fuel 23 [v] = some y) : ∃ l : List Part, VRel (memOf W) [] (.sl 13 (l.map encP) .no) v ∧ l.length ≤ 9223372036854775807 := by
  obtain ⟨l, h1, h2, _⟩ := slice_rel (w := W) (enc := enc) (base := base) (held := held) (spare := spare) encP (fun _ => True) lkSPart.und_slice cnPart (by decide) (fun n cs y h => by
    obtain ⟨e, rfl⟩ := rdPart h
    exact ⟨e, rfl, relPart e, trivial⟩) hspot h
  exact ⟨l, h1, h2⟩
theorem lkSNote : LOk Tryz.prog 24 ⟨.slice 56, 1, 24, [.slice]⟩ := .of (tabOk.get rfl)
theorem cnSNote : Tryz.prog.cellsOf 24 = 1 := by kernel_rfl
theorem rdSNote {v : Value} {y : DataW H × List MemPlace} (hspot : ∀ a len cap, v = .slice (some a) len cap → a.spot = none) (h : DataW.trod enc Tryz.prog W base spare held fuel 24 [v] = some y) : ∃ l : List Note, VRel (memOf W) [] (.sl 12 (l.map encN) .no) v ∧ l.length ≤ 9223372036854775807 := by
  obtain ⟨l, h1, h2, _⟩ := slice_rel (w := W) (enc := enc) (base := base) (held := held) (spare := spare) encN (fun _ => True) lkSNote.und_slice cnNote (by decide) (fun n cs y h => by
    obtain ⟨e, rfl⟩ := rdNote h
    exact ⟨e, rfl, relNote e, trivial⟩) hspot h
  exact ⟨l, h1, h2⟩
theorem lkScore : LOk Tryz.prog 26 ⟨.struct [(3, 0, 1), (22, 1, 1), (23, 2, 1), (24, 3, 1)], 4, 80, [.i .i64, .slice, .slice, .slice]⟩ := .of (tabOk.get rfl)
theorem cnScore : Tryz.prog.cellsOf 26 = 4 := by kernel_rfl
theorem ctScore : Tryz.prog.cellTypes Tryz.prog.depth 26 = some [3, 22, 23, 24] := by kernel_rfl
theorem argScore {r : Reach} {v : Value} {d : DataW H} {p : List MemPlace} (hval : Value.okWide Tryz.prog W r b0 26 v) (h : DataW.Trod enc Tryz.prog W base spare held 26 v d p) : ∃ s : Score, VRel (memOf W) [] (.agg (encS s)) v ∧ s.Sized := by
  obtain ⟨cs, rfl, hsz, hspot⟩ := struct_ok lkScore ctScore hval
  obtain ⟨fuel, hf⟩ := h
  obtain ⟨l, rfl⟩ : ∃ l, cs = List.toArray l := ⟨cs.toList, by simp⟩
  simp only [Value.cells] at hf
  obtain ⟨hlen, n, hff⟩ := struct_rd lkScore hf
  rw [cnScore] at hlen
  match l, hlen with
  | [u0, u1, u2, u3], _ =>
    obtain ⟨y0, h0⟩ := hff 0 3 0 1 rfl
    obtain ⟨y1, h1⟩ := hff 1 22 1 1 rfl
    obtain ⟨y2, h2⟩ := hff 2 23 2 1 rfl
    obtain ⟨y3, h3⟩ := hff 3 24 3 1 rfl
    rw [cn3] at h0
    rw [cnSBar] at h1
    rw [cnSPart] at h2
    rw [cnSNote] at h3
    obtain ⟨n0, e0, _⟩ := int_rd lk3 h0
    have g0 : u0 = vI n0 := by simpa using e0
    subst g0
    obtain ⟨a, r1, b1⟩ := rdSBar (v := u1) (fun ad len cap e => hspot 1 _ _ ad len cap (by decide) rfl lkSBar.und_slice (by subst e; rfl)) (by simpa using h1)
    obtain ⟨b, r2, b2⟩ := rdSPart (v := u2) (fun ad len cap e => hspot 2 _ _ ad len cap (by decide) rfl lkSPart.und_slice (by subst e; rfl)) (by simpa using h2)
    obtain ⟨c, r3, b3⟩ := rdSNote (v := u3) (fun ad len cap e => hspot 3 _ _ ad len cap (by decide) rfl lkSNote.und_slice (by subst e; rfl)) (by simpa using h3)
    refine ⟨⟨n0, a, b, c⟩, .agg _ _ rfl fun i c hi => ?_, b1, b2, b3⟩
    match i, hi with
    | 0, hi => simp [encS] at hi; subst hi; exact .prim _
    | 1, hi => simp [encS] at hi; subst hi; exact r1
    | 2, hi => simp [encS] at hi; subst hi; exact r2
    | 3, hi => simp [encS] at hi; subst hi; exact r3
    | i + 4, hi => simp [encS] at hi
end
theorem own : ownKnob Tryz.prog.godebug = none := by kernel_rfl
theorem laidOut : laidOutB Tryz.prog = true := by kernel_rfl
abbrev laid1 : List (String × DataW Unit) := [("partbook/pitch.naturals", Rows.laid_partbook_pitch_naturals)]
theorem door_met (os : Os) (args : Array Value) : laidMetH Tryz.prog laid1 ((World.doorLaid Tryz.prog 4000 os).forCall (fun _ _ => 0) ⟨#[], args, []⟩).memory :=
  laidMetH_of_parts3 (fuel := 8) (laidMet_of_run' 8 (by kernel_rfl) (by kernel_rfl)) (by kernel_rfl) (by kernel_rfl)
theorem gNat : Tryz.prog.globalNamed "partbook/pitch.naturals" = some 0 := by kernel_rfl
theorem tNat : (Tryz.prog.globals[0]?).map (·.type) = some 222 := by kernel_rfl
theorem uNat : Tryz.prog.underlying 222 = some (.array 7 3) := by kernel_rfl
theorem gam_laid {W : World} (h : laidMetH Tryz.prog laid1 W) : GamOk (memOf W) := by
  rw [MakeChecks.laidMetH_plain _ _ _ (by kernel_rfl)] at h
  obtain ⟨ps, ⟨g0, t0, cs0, f0, p0, q0, hg0, ht0, hv0, hd0, _⟩, _, _⟩ := h
  obtain rfl := Option.some.inj (gNat.symm.trans hg0)
  obtain rfl := Option.some.inj (tNat.symm.trans ht0)
  obtain ⟨xs, m1, hx0, hx1, hlen, hn3, hel⟩ := DataW.trod_array uNat hd0
  have hm : xs.map (·.1) = [.lit (.int .i64 0), .lit (.int .i64 2), .lit (.int .i64 4), .lit (.int .i64 5), .lit (.int .i64 7), .lit (.int .i64 9), .lit (.int .i64 11)] := by
    have := congrArg Prod.fst hx1
    simp only [Rows.laid_partbook_pitch_naturals, DataW.agg.injEq] at this
    exact this.symm
  have key : ∀ j, j < 7 → ∃ k, cs0[j]? = some (.int .i64 k) ∧ (xs.map (·.1))[j]? = some (.lit (.int .i64 k)) := fun j hj => by
    have h0 := hel j hj
    rw [cn3, Nat.mul_one, List.getElem?_eq_getElem (by omega)] at h0
    obtain ⟨k, e1, e2, _⟩ := DataW.trod_int lk3.und_int h0
    refine ⟨k, ?_, ?_⟩
    · have := congrArg (fun l => l[0]?) e1
      simpa using this
    · rw [List.getElem?_map, List.getElem?_eq_getElem (by omega), e2]; rfl
  intro p hp j v hv
  simp only [Gam, List.mem_singleton] at hp
  subst hp
  dsimp only at hv ⊢
  have hj : j < 7 := by
    rcases Nat.lt_or_ge j 7 with h | h
    · exact h
    · rw [List.getElem?_eq_none (by simpa using h)] at hv; cases hv
  obtain ⟨k, h1, h2⟩ := key j hj
  rw [hm] at h2
  have hk : v = .int .i64 k := by
    match j, hj, hv, h2 with
    | 0, _, hv, h2 | 1, _, hv, h2 | 2, _, hv, h2 | 3, _, hv, h2 | 4, _, hv, h2 | 5, _, hv, h2 | 6, _, hv, h2 => simp at hv h2; rw [← hv, ← h2]
  rw [hk]
  show W.cell? ⟨0, j, none⟩ = _
  rw [World.var?_cell hg0 hv0 j]; exact h1
end Go.Proofs.YtekfpcgagoidcaaGreatDoor


set_option maxRecDepth 20000
namespace Go.Proofs.YtekfpcgagoidcaaGreatDoor
open Go.Ab Go.ChangeShapes Go.WideShapes
section
variable {H : Type} {enc : TypeId × Value → H} {W : World} {base b0 fuel : Nat} {held : Bool} {spare : Nat → Bool}
theorem lkU8 : LOk Tryz.prog 5 ⟨.int .u8, 1, 1, [.i .u8]⟩ := .of (tabOk.get rfl)
theorem cnU8 : Tryz.prog.cellsOf 5 = 1 := by kernel_rfl
theorem lkBy : LOk Tryz.prog 45 ⟨.slice 5, 1, 24, [.slice]⟩ := .of (tabOk.get rfl)
theorem argBytes {r : Reach} {v : Value} {d : DataW H} {p : List MemPlace} (hval : Value.okWide Tryz.prog W r b0 45 v) (h : DataW.Trod enc Tryz.prog W base spare held 45 v d p) : ∃ b : List UInt8, VRel (memOf W) [] (.sl 1 (b.map by8) .no) v ∧ b.length ≤ 9223372036854775807 := by
  obtain ⟨fuel, hf⟩ := h
  rw [slice_val1 lkBy.und_slice hval] at hf
  obtain ⟨b, h1, h2, _⟩ := slice_rel (w := W) (enc := enc) (base := base) (held := held) (spare := spare) by8 (fun _ => True) lkBy.und_slice cnU8 (by decide) (fun n cs y h => by
    obtain ⟨k, e, hw⟩ := int_rd lkU8 h
    subst e
    have hk : 0 ≤ k ∧ k ≤ 255 := by
      simp only [Lit.wf, Bool.and_eq_true, dEt] at hw
      exact hw
    refine ⟨UInt8.ofNat k.toNat, rfl, fun j c hj => ?_, trivial⟩
    match j, hj with
    | 0, hj =>
      simp only [List.getElem?_cons_zero, Option.some.injEq] at hj; subst hj
      have : ((UInt8.ofNat k.toNat).toNat : Int) = k := by rw [UInt8.toNat_ofNat']; omega
      show VRel _ _ (.prim (.int .u8 ((UInt8.ofNat k.toNat).toNat : Int))) (.int .u8 k)
      rw [this]; exact .prim _
    | j + 1, hj => simp at hj) (slice_ok1 lkBy.und_slice hval) hf
  exact ⟨b, h1, h2⟩
end
end Go.Proofs.YtekfpcgagoidcaaGreatDoor

