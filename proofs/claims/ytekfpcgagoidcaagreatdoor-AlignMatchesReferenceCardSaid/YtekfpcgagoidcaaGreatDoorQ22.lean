/- Contracts by content: align: table, total.  Contracts by content: align: Notes. No statement is proved here. -/
import Derived.Test.YtekfpcgagoidcaaGreatDoorQ20
import Derived.Test.YtekfpcgagoidcaaGreatDoorQ21
set_option linter.unusedVariables false
set_option linter.unusedSimpArgs false
namespace Go.Proofs.YtekfpcgagoidcaaGreatDoor.Al
open Go.Ab Go.Sort
attribute [local irreducible] AWP AOps EStep AQ PStep PRun PCall TCall VCall
def tableQ (o0 o1 o2 : AObj) (a b : Score) (al : NL) (r : AV) (s : Store) : Prop :=
  r = .sl 1 ((tableL (costR a b) (a.bars.length + 1) (b.bars.length + 1)).map encRow) .no ∧ ∃ kn, KnOk a b kn ∧ s = PairS o0 o1 o2 a b al kn
theorem okOwn1 (m l n : Nat) (o : Store) : (o ++ [AObj.own l n]).all (okObj m) = o.all (okObj m) := by rw [List.all_append]; simp [okObj]
theorem rowE (c : Nat → Nat → Int) (i k : Nat) : (rowL c i (k + 1)).map encI = (rowL c i k).map encI ++ [[AV.int (T c i k)]] := by rw [rowL_succ, List.map_append]; rfl
theorem tabE (c : Nat → Nat → Int) (i w : Nat) : (tableL c (i + 1) w).map encRow = (tableL c i w).map encRow ++ [[AV.sl 1 ((rowL c i w).map encI) .no]] := by rw [tableL_succ, List.map_append]; rfl
set_option maxHeartbeats 8000000 in
set_option maxRecDepth 20000 in
theorem table_spec {o0 o1 o2 : AObj} (h3 : Pure3 o0 o1 o2) {a b : Score} (ha : Nts a) (hb : Nts b) {al : NL} (hg0 : Grp a b al) {kn : List (KeyP × Int)} (hkn : KnOk a b kn) :
    TCall Tryz.prog 48 [.ptr 7 0] (PairS o0 o1 o2 a b al kn) (tableQ o0 o1 o2 a b al) := by
  have ha1 := ha.bars
  have hb1 := hb.bars
  refine TCall.body Tryz.func48 rfl rfl Tryz.ntmps48 rfl rfl ?_
  repeat' (first | refine AOps.q rfl rfl rfl (fun hg => by first | exact std0 | exact std1) (by exact rfl) ?_ | refine AWP.seq ?_ | refine AWP.regionK (fun K' hK => ?_) | (refine AOps.nil (hK _ _ ?_); clear hK K') | refine AWP.block ?_)
  refine AWP.ownNil (d := 3) (sz := 1) rfl ?_
  refine AWP.loopD (ι := Nat × List (KeyP × Int)) (fun q => [(0, .ptr 7 0), (3, .sl 1 ((tableL (costR a b) q.1 (b.bars.length + 1)).map encRow) (.own 8)), (11, .int (a.bars.length + 1)), (12, .int q.1)]) (fun q => PairS o0 o1 o2 a b al q.2 ++ [.own 1 ((tableL (costR a b) q.1 (b.bars.length + 1)).map encRow).length])
    (fun q => q.1 ≤ a.bars.length + 1 ∧ KnOk a b q.2) (fun q => a.bars.length + 1 - q.1) 9 (fun _ => rfl) (0, kn) ⟨Nat.zero_le _, hkn⟩ ⟨rfl, rfl, rfl, rfl, True.intro⟩ rfl (fun _ _ => rfl) (fun q _ => by rw [okOwn1]; exact pairS_ok h3 (by decide) a b al _) ?_
  rintro ⟨i, kn1⟩ ⟨hi, hk1⟩
  dsimp only at hi hk1
  have l1 := tableL_len (costR a b) i (b.bars.length + 1)
  have et := tabE (costR a b) i (b.bars.length + 1)
  by_cases hlt : i < a.bars.length + 1
  · repeat' (first | refine AOps.q rfl rfl rfl (fun hg => by first | exact std0 | exact std1) (by exact rfl) ?_ | refine AWP.seq ?_ | refine AWP.regionK (fun K' hK => ?_) | (refine AOps.nil (hK _ _ ?_); clear hK K') | (refine AWP.condW rfl True.intro (fun hc => ?_) (fun hc => ?_) <;> (first | (simp only [dEt] at hc) | (simp only [dEf, iNl, iNe] at hc) | skip)) | refine AWP.block ?_ | refine AWP.exit ?_ | refine AWP.skip ?_ | refine AWP.ret ?_)
    all_goals (first | (exfalso; omega) | (exfalso; simp at hc; done) | (exfalso; simp at hc; omega) | (exfalso; simp only [dEf, dEt] at hc; omega) | (rename_i h0; exfalso; simp at h0; done) | (rename_i h0; exfalso; simp at h0; omega) | skip)
    refine AWP.ownNil (d := 4) (sz := 1) rfl ?_
    refine AWP.loopD (ι := Nat × List (KeyP × Int)) (fun q => [(0, .ptr 7 0), (3, .sl 1 ((tableL (costR a b) i (b.bars.length + 1)).map encRow) (.own 8)), (4, .sl 1 ((rowL (costR a b) i q.1).map encI) (.own 9)), (11, .int (a.bars.length + 1)), (12, .int i), (20, .int (b.bars.length + 1)), (21, .int q.1)])
      (fun q => PairS o0 o1 o2 a b al q.2 ++ [.own 1 ((tableL (costR a b) i (b.bars.length + 1)).map encRow).length] ++ [.own 1 ((rowL (costR a b) i q.1).map encI).length])
      (fun q => q.1 ≤ b.bars.length + 1 ∧ KnOk a b q.2) (fun q => b.bars.length + 1 - q.1) 10 (fun _ => rfl) (0, kn1) ⟨Nat.zero_le _, hk1⟩ ⟨rfl, rfl, rfl, rfl, rfl, rfl, rfl, True.intro⟩ rfl (fun _ _ => rfl) (fun q _ => by rw [okOwn1, okOwn1]; exact pairS_ok h3 (by decide) a b al _) ?_
    rintro ⟨k, kn2⟩ ⟨hk, hk2⟩
    dsimp only at hk hk2
    have l2 := rowL_len (costR a b) i k
    by_cases hlk : k < b.bars.length + 1
    · have er := rowE (costR a b) i k
      have hk3 : KnOk a b (if i = 0 then kn2 else if k = 0 then kn2 else knI a b kn2 (i - 1) (k - 1)) := by
        split
        · exact hk2
        · split
          · exact hk2
          · exact hk2.knI _ _
      have hl0 := TCall.frame (least_spec h3 ha hb hg0 hk2 (show i ≤ a.bars.length by omega) (show k ≤ b.bars.length by omega) (show k < b.bars.length + 1 from hlk)) ([.own 1 ((tableL (costR a b) i (b.bars.length + 1)).map encRow).length] ++ [.own 1 ((rowL (costR a b) i k).map encI).length]) (pairS_ok h3 (Nat.le_refl _) a b al _) rfl (fun rv s h => by rw [h.2]; rfl)
      have hl1 := TCall.args (avs' := [.ptr 7 0, .sl 1 ((tableL (costR a b) i (b.bars.length + 1)).map encRow) (.own 8), .sl 1 ((rowL (costR a b) i k).map encI) (.own 9)]) hl0 rfl (fun j u v hu hv => by
        match j, hu, hv with
        | 0, hu, hv => cases hu; cases hv; exact EntB.refl _
        | 1, hu, hv => cases hu; cases hv; exact EntB.no _ _ _
        | 2, hu, hv => cases hu; cases hv; exact EntB.no _ _ _
        | j + 3, hu, hv => cases hu)
      have hv1 := TCall.val (first := []) (caps := []) (avs := [.ptr 7 0, .sl 1 ((tableL (costR a b) i (b.bars.length + 1)).map encRow) (.own 8), .sl 1 ((rowL (costR a b) i k).map encI) (.own 9)]) hl1
      repeat' (first | refine AOps.q rfl rfl rfl (fun hg => by exact std0) (by exact rfl) ?_ | refine AWP.seq ?_ | refine AWP.regionK (fun K' hK => ?_) | (refine AOps.nil (hK _ _ ?_); clear hK K') | refine AOps.e (EStep.callT (hv1) rfl rfl rfl rfl rfl nd rfl rfl nds ?_) | (refine AWP.condW rfl True.intro (fun hc => ?_) (fun hc => ?_) <;> (first | (simp only [dEt] at hc) | (simp only [dEf, iNl, iNe] at hc) | skip)) | refine AWP.block ?_ | refine AWP.exit ?_ | refine AWP.skip ?_)
      all_goals (first | (exfalso; omega) | (exfalso; simp at hc; done) | (exfalso; simp at hc; omega) | (exfalso; simp only [dEf, dEt] at hc; omega) | (rename_i h0; exfalso; simp at h0; done) | (rename_i h0; exfalso; simp at h0; omega) | skip)
      rintro _ _ ⟨σ', rfl, rfl, rfl⟩
      repeat' (first | refine AOps.q rfl rfl rfl (fun hg => by first | exact std0 | exact PRun.buildSlW tabOk rfl rfl nds) (by exact rfl) ?_ | refine AWP.regionK (fun K' hK => ?_) | (refine AOps.nil (hK _ _ ?_); clear hK K') | refine AOps.e (EStep.appendOwn' tabOk rfl rfl rfl (by decide) (Rd.w rfl True.intro) rfl (Rd.w rfl True.intro) (.sl rfl (by first | (intro x hx; rcases List.mem_singleton.1 hx with rfl; rfl) | exact one_encN _)) (LOk.of (tabOk.get rfl)) (LOk.of (tabOk.get rfl)) rfl rfl (by simp only [List.length_map, List.length_append, List.length_cons, List.length_nil, List.length_take, List.length_drop]; omega) (by simp only [List.length_map, List.length_append, List.length_cons, List.length_nil, List.length_take, List.length_drop]; omega) ?_))
      refine ⟨(k + 1, if i = 0 then kn2 else if k = 0 then kn2 else knI a b kn2 (i - 1) (k - 1)), ⟨hlk, hk3⟩, by show b.bars.length + 1 - (k + 1) < b.bars.length + 1 - k; omega, ⟨rfl, rfl, ?_, rfl, rfl, rfl, rfl, True.intro⟩, ?_⟩
      · show _ = AV.sl 1 ((rowL (costR a b) i (k + 1)).map encI) (.own 9)
        rw [er]; rfl
      · show _ = PairS o0 o1 o2 a b al _ ++ [.own 1 ((tableL (costR a b) i (b.bars.length + 1)).map encRow).length] ++ [.own 1 ((rowL (costR a b) i (k + 1)).map encI).length]
        rw [er]; rfl
    · obtain rfl : k = b.bars.length + 1 := by omega
      repeat' (first | refine AOps.q rfl rfl rfl (fun hg => by first | exact std0 | exact PRun.buildSlW tabOk rfl rfl nds) (by exact rfl) ?_ | refine AWP.seq ?_ | refine AWP.regionK (fun K' hK => ?_) | (refine AOps.nil (hK _ _ ?_); clear hK K') | refine AOps.e (EStep.appendOwn' tabOk rfl rfl rfl (by decide) (Rd.w rfl True.intro) rfl (Rd.w rfl True.intro) (.sl rfl (by first | (intro x hx; rcases List.mem_singleton.1 hx with rfl; rfl) | exact one_encN _)) (LOk.of (tabOk.get rfl)) (LOk.of (tabOk.get rfl)) rfl rfl (by simp only [List.length_map, List.length_append, List.length_cons, List.length_nil, List.length_take, List.length_drop]; omega) (by simp only [List.length_map, List.length_append, List.length_cons, List.length_nil, List.length_take, List.length_drop]; omega) ?_) | (refine AWP.condW rfl True.intro (fun hc => ?_) (fun hc => ?_) <;> (first | (simp only [dEt] at hc) | (simp only [dEf, iNl, iNe] at hc) | skip)) | refine AWP.block ?_ | refine AWP.exit ?_ | refine AWP.skip ?_)
      all_goals (first | (exfalso; omega) | (exfalso; simp at hc; done) | (exfalso; simp at hc; omega) | (exfalso; simp only [dEf, dEt] at hc; omega) | (rename_i h0; exfalso; simp at h0; done) | (rename_i h0; exfalso; simp at h0; omega) | skip)
      refine ⟨(i + 1, kn2), ⟨hlt, hk2⟩, by show a.bars.length + 1 - (i + 1) < a.bars.length + 1 - i; omega, ⟨rfl, ?_, rfl, rfl, True.intro⟩, ?_⟩
      · show _ = AV.sl 1 ((tableL (costR a b) (i + 1) (b.bars.length + 1)).map encRow) (.own 8)
        rw [et]; rfl
      · show _ = PairS o0 o1 o2 a b al _ ++ [.own 1 ((tableL (costR a b) (i + 1) (b.bars.length + 1)).map encRow).length]
        rw [et]; rfl
  · obtain rfl : i = a.bars.length + 1 := by omega
    refine AWP.unownA 3 rfl ?_
    repeat' (first | refine AOps.q rfl rfl rfl (fun hg => by first | exact std0 | exact std1) (by exact rfl) ?_ | refine AWP.seq ?_ | refine AWP.regionK (fun K' hK => ?_) | (refine AOps.nil (hK _ _ ?_); clear hK K') | (refine AWP.condW rfl True.intro (fun hc => ?_) (fun hc => ?_) <;> (first | (simp only [dEt] at hc) | (simp only [dEf, iNl, iNe] at hc) | skip)) | refine AWP.block ?_ | refine AWP.exit ?_ | refine AWP.skip ?_ | refine AWP.ret ?_)
    all_goals (first | (exfalso; omega) | (exfalso; simp at hc; done) | (exfalso; simp at hc; omega) | (exfalso; simp only [dEf, dEt] at hc; omega) | (rename_i h0; exfalso; simp at h0; done) | (rename_i h0; exfalso; simp at h0; omega) | skip)
    exact ⟨.inr rfl, _, PairS o0 o1 o2 a b al kn1, ⟨rfl, kn1, hk1, rfl⟩, rfl, Nat.le_refl _, pairS_ok h3 (Nat.le_refl _) a b al _, rfl, rfl⟩
def knP (a b : Score) (kn : List (KeyP × Int)) (l : PL) : List (KeyP × Int) := l.foldl (fun kn p => knI a b kn p.1.toNat p.2.toNat) kn
theorem KnOk.knP {a b : Score} : ∀ {l : PL} {kn : List (KeyP × Int)}, KnOk a b kn → KnOk a b (knP a b kn l)
  | [], _, h => h
  | p :: r, _, h => KnOk.knP (l := r) (h.knI _ _)
theorem knP_take (a b : Score) (kn : List (KeyP × Int)) {l : PL} {k : Nat} (h : k < l.length) : knP a b kn (l.take (k + 1)) = knI a b (knP a b kn (l.take k)) (l.getD k default).1.toNat (l.getD k default).2.toNat := by
  rw [takeS h]; unfold knP; rw [List.foldl_append]; rfl
def totalQ (o0 o1 o2 : AObj) (a b : Score) (al : NL) (kn : List (KeyP × Int)) (l : PL) (r : AV) (s : Store) : Prop :=
  r = .int (totI (costR a b) a.bars.length b.bars.length l) ∧ s = PairS o0 o1 o2 a b al (knP a b kn l)
def sumK (c : Nat → Nat → Int) (l : PL) : Int := (l.map fun p => c p.1.toNat p.2.toNat).sum
theorem sumK_take (c : Nat → Nat → Int) {l : PL} {k : Nat} (h : k < l.length) : sumK c (l.take (k + 1)) = sumK c (l.take k) + c (l.getD k default).1.toNat (l.getD k default).2.toNat := by
  rw [takeS h]; simp [sumK]
theorem sumK_in (a b : Score) : ∀ l : PL, 0 ≤ sumK (costR a b) l ∧ sumK (costR a b) l ≤ 5 * l.length
  | [] => by simp [sumK]
  | p :: r => by
    have := sumK_in a b r
    have := costR_in a b p.1.toNat p.2.toNat
    unfold sumK at *
    simp only [List.map_cons, List.sum_cons, List.length_cons]
    omega
set_option maxHeartbeats 8000000 in
set_option maxRecDepth 20000 in
theorem total_spec {o0 o1 o2 : AObj} (h3 : Pure3 o0 o1 o2) {a b : Score} (ha : Nts a) (hb : Nts b) {al : NL} (hg0 : Grp a b al) {kn : List (KeyP × Int)} (hkn : KnOk a b kn) (l : PL) (hl : l.length ≤ 1000000) (hp : pOk a.bars.length b.bars.length (-1) (-1) l = true) :
    TCall Tryz.prog 54 [.ptr 7 0, .sl 2 (l.map encPr) .no] (PairS o0 o1 o2 a b al kn) (totalQ o0 o1 o2 a b al kn l) := by
  have ha1 := ha.bars
  have hb1 := hb.bars
  have hps := pOk_spec (by omega) (by omega) hp
  refine TCall.body Tryz.func54 rfl rfl Tryz.ntmps54 rfl rfl ?_
  repeat' (first | refine AOps.q rfl rfl rfl (fun hg => by first | exact std0 | exact std1) (by exact rfl) ?_ | refine AWP.seq ?_ | refine AWP.regionK (fun K' hK => ?_) | (refine AOps.nil (hK _ _ ?_); clear hK K') | refine AWP.block ?_ | refine AWP.drawK2 (by decide +kernel) (by kernel_rfl) (by decide +kernel) rfl (fun K' hK => ?_) | (refine AQ.nil (hK _ ?_); clear hK K') | refine AQ.q rfl rfl (fun hg => by first | exact std0 | exact std1) (by exact rfl) ?_)
  refine AWP.loopD (ι := Nat) (fun q => [(0, .ptr 7 0), (5, .int (2 * ((a.bars.length : Int) + b.bars.length - 2 * l.length) + sumK (costR a b) (l.take q))), (26, .sl 2 (l.map encPr) .no), (27, .int l.length), (28, .int q)]) (fun q => PairS o0 o1 o2 a b al (knP a b kn (l.take q)))
    (fun q => q ≤ l.length) (fun q => l.length - q) 8 (fun _ => rfl) 0 (Nat.zero_le _) ⟨rfl, ?_, rfl, rfl, rfl, True.intro⟩ rfl (fun _ _ => rfl) (fun q _ => pairS_ok h3 (Nat.le_refl _) a b al _) ?_
  · show AV.int _ = AV.int (_ + sumK (costR a b) [])
    exact congrArg AV.int (by rw [show sumK (costR a b) [] = 0 from rfl]; omega)
  intro k hk
  have hk1 : KnOk a b (knP a b kn (l.take k)) := hkn.knP
  have hsi := sumK_in a b (l.take k)
  rw [List.length_take] at hsi
  by_cases hlt : k < l.length
  · obtain ⟨z, hz⟩ : ∃ z, l.getD k default = z := ⟨_, rfl⟩
    have hzm : z ∈ l := by rw [← hz, getD_lt hlt]; exact List.getElem_mem hlt
    have hst := sumK_take (costR a b) hlt
    rw [hz] at hst
    have hkt := knP_take a b kn hlt
    rw [hz] at hkt
    obtain ⟨z1, z2, z3, z4⟩ := hps.2 (z.1.toNat, z.2.toNat) (List.mem_map.2 ⟨z, hzm, rfl⟩)
    have hzp : 0 ≤ z.1 ∧ 0 ≤ z.2 := by
      have h5 := ip_np (by omega) (by omega) hp
      have h6 : z ∈ ip (np l) := by rw [h5]; exact hzm
      obtain ⟨q, _, rfl⟩ := List.mem_map.1 h6
      exact ⟨Int.natCast_nonneg _, Int.natCast_nonneg _⟩
    dsimp only at z3 z4
    have c1 := costR_in a b z.1.toNat z.2.toNat
    have hv := TCall.frame (cost_spec h3 ha hb hg0 hk1 z3 z4) [.var (encPr z)] (pairS_ok h3 (Nat.le_refl _) a b al _) rfl (fun rv s h => by rw [h.2]; rfl)
    have hv1 := TCall.val (first := []) (caps := []) (avs := [.ptr 7 0, .int (z.1.toNat : Nat), .int (z.2.toNat : Nat)]) hv
    have n1 : AV.int z.1 = AV.int ((z.1.toNat : Nat) : Int) := congrArg AV.int (by omega)
    have n2 : AV.int z.2 = AV.int ((z.2.toNat : Nat) : Int) := congrArg AV.int (by omega)
    generalize knP a b kn (l.take k) = kn1 at *
    generalize sumK (costR a b) (l.take k) = sm at *
    repeat' (first | refine AOps.q rfl rfl rfl (fun hg => by first | exact PRun.eq (v := .int z.2) (PRun.step tabOk rfl sd) n2 | exact PRun.eq (v := .int z.1) (PRun.step tabOk rfl sd) n1 | exact iX encPr l ((k : Nat) : Int) hz (hb := by omega) | exact std0) (by exact rfl) ?_ | refine AWP.seq ?_ | refine AWP.regionK (fun K' hK => ?_) | (refine AOps.nil (hK _ _ ?_); clear hK K') | refine AOps.e (EStep.storeW tabOk rfl rfl rfl True.intro rfl rfl True.intro rfl rfl rfl rfl rfl rfl rfl ?_) | refine AOps.e (EStep.allocW tabOk rfl rfl rfl rfl rfl rfl ?_) | refine AOps.e (EStep.callT (hv1) rfl rfl rfl rfl rfl nd rfl rfl nds ?_) | (refine AWP.condW rfl True.intro (fun hc => ?_) (fun hc => ?_) <;> (first | (simp only [dEt] at hc) | (simp only [dEf, iNl, iNe] at hc) | skip)) | refine AWP.block ?_ | refine AWP.exit ?_ | refine AWP.skip ?_ | refine AWP.ret ?_)
    all_goals (first | (exfalso; omega) | (exfalso; simp at hc; done) | (exfalso; simp at hc; omega) | (exfalso; simp only [dEf, dEt] at hc; omega) | (rename_i h0; exfalso; simp at h0; done) | (rename_i h0; exfalso; simp at h0; omega) | skip)
    rintro _ _ ⟨σ', rfl, rfl, rfl⟩
    repeat' (first | refine AOps.q rfl rfl rfl (fun hg => by exact std0) (by exact rfl) ?_ | refine AWP.regionK (fun K' hK => ?_) | (refine AOps.nil (hK _ _ ?_); clear hK K'))
    refine ⟨k + 1, hlt, by show l.length - (k + 1) < l.length - k; omega, ⟨rfl, ?_, rfl, rfl, rfl, True.intro⟩, by show _ = PairS o0 o1 o2 a b al (knP a b kn (l.take (k + 1))); rw [hkt]; rfl⟩
    show _ = AV.int (2 * ((a.bars.length : Int) + b.bars.length - 2 * l.length) + sumK (costR a b) (l.take (k + 1)))
    rw [hst]
    exact congrArg AV.int (by omega)
  · repeat' (first | refine AOps.q rfl rfl rfl (fun hg => by first | exact std0 | exact std1) (by exact rfl) ?_ | refine AWP.seq ?_ | refine AWP.regionK (fun K' hK => ?_) | (refine AOps.nil (hK _ _ ?_); clear hK K') | refine AOps.e (EStep.storeW tabOk rfl rfl rfl True.intro rfl rfl True.intro rfl rfl rfl rfl rfl rfl rfl ?_) | refine AOps.e (EStep.allocW tabOk rfl rfl rfl rfl rfl rfl ?_) | (refine AWP.condW rfl True.intro (fun hc => ?_) (fun hc => ?_) <;> (first | (simp only [dEt] at hc) | (simp only [dEf, iNl, iNe] at hc) | skip)) | refine AWP.block ?_ | refine AWP.exit ?_ | refine AWP.skip ?_ | refine AWP.ret ?_)
    all_goals (first | (exfalso; omega) | (exfalso; simp at hc; done) | (exfalso; simp at hc; omega) | (exfalso; simp only [dEf, dEt] at hc; omega) | (rename_i h0; exfalso; simp at h0; done) | (rename_i h0; exfalso; simp at h0; omega) | skip)
    have et : l.take k = l := List.take_of_length_le (by omega)
    rw [et]
    exact ⟨.inr rfl, _, PairS o0 o1 o2 a b al (knP a b kn l), ⟨rfl, rfl⟩, rfl, Nat.le_refl _, pairS_ok h3 (Nat.le_refl _) a b al _, rfl, rfl⟩
end Go.Proofs.YtekfpcgagoidcaaGreatDoor.Al


namespace Go.Proofs.YtekfpcgagoidcaaGreatDoor.Al
open Go.Ab Go.Sort
attribute [local irreducible] AWP AOps EStep AQ PStep PRun PCall TCall VCall
structure Algn where
  pairs : PL
  cost : Int
  table : List (List Int)
  deriving Inhabited
def encA (x : Algn) : List AV := [.sl 2 (x.pairs.map encPr) .no, .int x.cost, .sl 1 (x.table.map encRow) .no]
structure Algn.Sized (x : Algn) : Prop where
  pairs : x.pairs.length ≤ 9223372036854775807
  table : x.table.length ≤ 9223372036854775807
  rows : ∀ r ∈ x.table, r.length ≤ 9223372036854775807
theorem notes1_spec (x y : Note) : PCall Tryz.prog 60 [.agg (encN x), .agg (encN y)] (.b (f1 x y)) := by
  refine PCall.body Tryz.func60 rfl rfl Tryz.ntmps60 rfl rfl ?_
  repeat' (first | refine AOps.q rfl rfl rfl (fun hg => by exact std0) (by exact rfl) ?_ | refine AWP.seq ?_ | refine AWP.regionK (fun K' hK => ?_) | (refine AOps.nil (hK _ _ ?_); clear hK K') | refine AOps.e (EStep.boxW rfl rfl rfl rfl rfl True.intro rfl rfl ?_) | refine AWP.ret ?_)
  exact ⟨.inr rfl, Ent.b rfl⟩
theorem notes2_spec (x y : Note) : PCall Tryz.prog 61 [.agg (encN x), .agg (encN y)] (.b (f2 x y)) := by
  refine PCall.body Tryz.func61 rfl rfl Tryz.ntmps61 rfl rfl ?_
  repeat' (first | refine AOps.q rfl rfl rfl (fun hg => by exact std0) (by exact rfl) ?_ | refine AWP.seq ?_ | refine AWP.regionK (fun K' hK => ?_) | (refine AOps.nil (hK _ _ ?_); clear hK K') | refine AOps.e (EStep.boxW rfl rfl rfl rfl rfl True.intro rfl rfl ?_) | refine AWP.ret ?_ | refine AWP.drawK2 (by decide +kernel) (by kernel_rfl) (by decide +kernel) rfl (fun K' hK => ?_) | (refine AQ.nil (hK _ ?_); clear hK K') | refine AQ.q rfl rfl (fun hg => by first | exact std0 | exact PRun.callW (bare_spec x) rfl rfl nd rfl nds | exact PRun.callW (bare_spec y) rfl rfl nd rfl nds | exact PRun.eqN flN rfl rfl nd rfl nd rfl) (by exact rfl) ?_)
  exact ⟨.inr rfl, Ent.b (by unfold f2 alike; exact eqNo_eq _ _)⟩
theorem notes3_spec (x y : Note) : PCall Tryz.prog 63 [.agg (encN x), .agg (encN y)] (.b (f3 x y)) := by
  refine PCall.body Tryz.func63 rfl rfl Tryz.ntmps63 rfl rfl ?_
  repeat' (first | refine AOps.q rfl rfl rfl (fun hg => by first | exact std0 | exact PRun.eqN flRtA rfl rfl nd rfl nd rfl) (by exact rfl) ?_ | refine AWP.seq ?_ | refine AWP.regionK (fun K' hK => ?_) | (refine AOps.nil (hK _ _ ?_); clear hK K') | refine AOps.e (EStep.boxW rfl rfl rfl rfl rfl True.intro rfl rfl ?_) | refine AWP.ret ?_)
  refine ⟨.inr rfl, Ent.b ?_⟩
  unfold f3
  rw [← eqRa_eq]
  simp only [Bool.and_assoc]; rfl
def outL (ps : PL) (l : List Note) : PL := l.filterMap fun n => (lk ps n.id).map fun y => (n.id, y)
theorem outL_yes {ps : PL} {l : List Note} {k : Nat} (h : k < l.length) {n : Note} (hn : l.getD k default = n) {v : Int} (hv : lk ps n.id = some v) : outL ps (l.take (k + 1)) = outL ps (l.take k) ++ [(n.id, v)] := by
  unfold outL; rw [takeS h, hn, List.filterMap_append]; simp [hv]
theorem outL_no {ps : PL} {l : List Note} {k : Nat} (h : k < l.length) {n : Note} (hn : l.getD k default = n) (hv : lk ps n.id = none) : outL ps (l.take (k + 1)) = outL ps (l.take k) := by
  unfold outL; rw [takeS h, hn, List.filterMap_append]; simp [hv]
theorem outL_len (ps : PL) (l : List Note) : (outL ps l).length ≤ l.length := List.length_filterMap_le _ _
def notesR (a b : Score) (x : Algn) : PL × Int := if scoreOk a && (scoreOk b && pOk a.bars.length b.bars.length (-1) (-1) x.pairs) then (notesM a b (np x.pairs), 0) else ([], 1)
def pOf (a b : Score) (x : Algn) (al : NL) : Nat → AObj := fun i => (PairS (.var (encS a)) (.var (encS b)) (.var (encA x)) a b al []).getD i .dead
theorem pOf_ok (a b : Score) (x : Algn) (al : NL) : PureP (pOf a b x al) := fun i m hm => by
  have h := pairS_ok (o0 := .var (encS a)) (o1 := .var (encS b)) (o2 := .var (encA x)) (fun _ => ⟨rfl, rfl, rfl⟩) hm a b al []
  rw [List.all_eq_true] at h
  unfold pOf
  rw [List.getD_eq_getElem?_getD]
  cases hh : (PairS (.var (encS a)) (.var (encS b)) (.var (encA x)) a b al [])[i]? with
  | none => rfl
  | some v => exact h v (List.mem_of_getElem? hh)
theorem pairsM_take (a b : Score) {l : PL} {k : Nat} (h : k < l.length) {z : Int × Int} (hz : l.getD k default = z) : pairsM a b (np (l.take (k + 1))) [] = three (inBar a (barI a z.1.toNat).id) (inBar b (barI b z.2.toNat).id) (pairsM a b (np (l.take k)) []) := by
  rw [takeS h, hz]
  unfold pairsM np
  rw [List.map_append, List.foldl_append]; rfl
set_option maxHeartbeats 16000000 in
set_option maxRecDepth 20000 in
theorem aNotes_spec (a b : Score) (ha : a.Small) (hb : b.Small) (x : Algn) (hx : x.pairs.length ≤ 1000000) :
    PCall Tryz.prog 24 [.agg (encS a), .agg (encS b), .agg (encA x)] (.tup [.sl 2 ((notesR a b x).1.map encPr) .no, .int (notesR a b x).2]) := by
  have h3 : Pure3 (.var (encS a)) (.var (encS b)) (.var (encA x)) := fun _ => ⟨rfl, rfl, rfl⟩
  have hv0 := TCall.val (first := []) (caps := []) (avs := [.agg (encS a), .agg (encS b)]) (newPair_spec h3 a b ha hb)
  have hp1 := fun u v => arePairs_spec a b u v ha hb x.pairs hx
  refine PCall.body Tryz.func24 rfl rfl Tryz.ntmps24 rfl rfl ?_
  repeat' (first | refine AOps.q rfl rfl rfl (fun hg => by exact std0) (by exact rfl) ?_ | refine AWP.seq ?_ | refine AWP.regionK (fun K' hK => ?_) | (refine AOps.nil (hK _ _ ?_); clear hK K') | refine AOps.e (EStep.boxW rfl rfl rfl rfl rfl True.intro rfl rfl ?_) | refine AOps.e (EStep.callT (hv0) rfl rfl rfl rfl rfl nd rfl rfl nds ?_))
  intro r s hr
  unfold npR at hr
  split at hr
  · rename_i hok
    obtain ⟨rfl, al, hg, rfl⟩ := hr
    simp only [Bool.and_eq_true] at hok
    cases hpk : pOk a.bars.length b.bars.length (-1) (-1) x.pairs with
    | false =>
      rw [hpk] at hp1
      repeat' (first | refine AOps.q rfl rfl rfl (fun hg => by first | exact std0 | exact PRun.callBW (hp1 _ _) rfl rfl nd rfl rfl nds) (by exact rfl) ?_ | refine AWP.seq ?_ | refine AWP.regionK (fun K' hK => ?_) | (refine AOps.nil (hK _ _ ?_); clear hK K') | (refine AWP.condW rfl True.intro (fun hc => ?_) (fun hc => ?_) <;> (first | (simp only [dEt] at hc) | (simp only [dEf, iNl, iNe] at hc) | skip)) | refine AWP.skip ?_ | refine AWP.ret ?_)
      all_goals (first | (exfalso; omega) | (exfalso; simp at hc; done) | (exfalso; simp at hc; omega) | (exfalso; simp only [dEf, dEt] at hc; omega) | (rename_i h0; exfalso; simp at h0; done) | (rename_i h0; exfalso; simp at h0; omega) | skip)
      have hR : notesR a b x = ([], 1) := by unfold notesR; rw [hpk]; simp
      rw [hR]
      exact ⟨.inr rfl, Ent.tup2 Ent.nil (Ent.rfl' _)⟩
    | true =>
      rw [hpk] at hp1
      have hR : notesR a b x = (notesM a b (np x.pairs), 0) := by unfold notesR; rw [hok.1, hok.2, hpk]; rfl
      have hps := pOk_spec (by omega) (by omega) hpk
      have hsa := ok_sc hok.1
      have hna := ok_nts hok.1
      have hnb := ok_nts hok.2
      have ha3 := hna.len
      repeat' (first | refine AOps.q rfl rfl rfl (fun hg => by first | exact std0 | exact PRun.callBW (hp1 _ _) rfl rfl nd rfl rfl nds | exact std1) (by exact rfl) ?_ | refine AWP.seq ?_ | refine AWP.regionK (fun K' hK => ?_) | (refine AOps.nil (hK _ _ ?_); clear hK K') | refine AOps.e (EStep.makeMapW rfl rfl rfl rfl ?_) | (refine AWP.condW rfl True.intro (fun hc => ?_) (fun hc => ?_) <;> (first | (simp only [dEt] at hc) | (simp only [dEf, iNl, iNe] at hc) | skip)) | refine AWP.block ?_ | refine AWP.skip ?_ | refine AWP.ret ?_)
      all_goals (first | (exfalso; omega) | (exfalso; simp at hc; done) | (exfalso; simp at hc; omega) | (exfalso; simp only [dEf, dEt] at hc; omega) | (rename_i h0; exfalso; simp at h0; done) | (rename_i h0; exfalso; simp at h0; omega) | skip)
      rw [hR]
      clear hp1 hc
      refine AWP.loopD (ι := Nat) (fun k => [(3, .ptr 0 0), (4, .ptr 1 0), (8, .ptr 7 0), (10, .map 8), (11, .map 9), (39, .sl 2 (x.pairs.map encPr) .no), (40, .int x.pairs.length), (41, .int k)]) (fun k => MB (pOf a b x al) (pairsM a b (np (x.pairs.take k)) [])) (fun k => k ≤ x.pairs.length) (fun k => x.pairs.length - k) 10 (fun _ => rfl) 0 (Nat.zero_le _) ⟨rfl, rfl, rfl, rfl, rfl, rfl, rfl, rfl, True.intro⟩ rfl (fun _ _ => rfl) (fun k _ => MB_ok (pOf_ok a b x al) (Nat.le_refl _) _) ?_
      intro k hk
      by_cases hlt : k < x.pairs.length
      · obtain ⟨z, hz⟩ : ∃ z, x.pairs.getD k default = z := ⟨_, rfl⟩
        have hzm : z ∈ x.pairs := by rw [← hz, getD_lt hlt]; exact List.getElem_mem hlt
        obtain ⟨z1, z2, z3, z4⟩ := hps.2 (z.1.toNat, z.2.toNat) (List.mem_map.2 ⟨z, hzm, rfl⟩)
        have hzp : 0 ≤ z.1 ∧ 0 ≤ z.2 := by
          have h5 := ip_np (by omega) (by omega) hpk
          have h6 : z ∈ ip (np x.pairs) := by rw [h5]; exact hzm
          obtain ⟨q, _, rfl⟩ := List.mem_map.1 h6
          exact ⟨Int.natCast_nonneg _, Int.natCast_nonneg _⟩
        dsimp only at z3 z4
        have n1 : AV.int z.1 = AV.int ((z.1.toNat : Nat) : Int) := congrArg AV.int (by omega)
        have n2 : AV.int z.2 = AV.int ((z.2.toNat : Nat) : Int) := congrArg AV.int (by omega)
        have hst := pairsM_take a b hlt hz
        obtain ⟨u, hu⟩ : ∃ u, barI a z.1.toNat = u := ⟨_, rfl⟩
        obtain ⟨v, hv⟩ : ∃ v, barI b z.2.toNat = v := ⟨_, rfl⟩
        have gx := (hg u.id).1
        have gy := (hg v.id).2
        rw [hu, hv] at hst
        have lx := (hna.inBar u.id).1
        have ly := (hnb.inBar v.id).1
        have hnd := inBar_nodup hsa.notes u.id
        generalize pairsM a b (np (x.pairs.take k)) [] = q at *
        have hM := fun (f : Note → Note → Bool) (g : Nat) (hf : ∀ x y, PCall Tryz.prog g [.agg (encN x), .agg (encN y)] (.b (f x y))) (q : PL) => TCall.val (first := []) (caps := []) (avs := [.sl 12 ((inBar a u.id).map encN) .no, .sl 12 ((inBar b v.id).map encN) .no, .map 8, .map 9, .fn (.func g) [] []]) (TCall.frame (match_spec (pOf_ok a b x al) hf (inBar a u.id) (inBar b v.id) (by omega) (by omega) hnd q) [.var (encPr z)] (MB_ok (pOf_ok a b x al) (Nat.le_refl _) _) rfl (fun rv s h => by rw [h.2]; rfl))
        have m1 := hM f1 _ notes1_spec q
        have m2 := hM f2 _ notes2_spec (matchL f1 (inBar a u.id) (inBar b v.id) q)
        have m3 := hM f3 _ notes3_spec (matchL f2 (inBar a u.id) (inBar b v.id) (matchL f1 (inBar a u.id) (inBar b v.id) q))
        clear hM
        repeat' (first | refine AOps.q rfl rfl rfl (fun hg => by first | exact iX encPr x.pairs ((k : Nat) : Int) hz (hb := by omega) | exact std0 | exact std1) (by exact rfl) ?_ | refine AWP.seq ?_ | refine AWP.regionK (fun K' hK => ?_) | (refine AOps.nil (hK _ _ ?_); clear hK K') | refine AOps.e (EStep.storeW tabOk rfl rfl rfl True.intro rfl rfl True.intro rfl rfl rfl rfl rfl rfl rfl ?_) | refine AOps.e (EStep.allocW tabOk rfl rfl rfl rfl rfl rfl ?_) | refine AOps.e (EStep.callT (m1) rfl rfl rfl rfl rfl nd rfl rfl nds ?_) | (refine AWP.condW rfl True.intro (fun hc => ?_) (fun hc => ?_) <;> (first | (simp only [dEt] at hc) | (simp only [dEf, iNl, iNe] at hc) | skip)) | refine AWP.block ?_ | refine AWP.exit ?_ | refine AWP.skip ?_ | refine AWP.drawK2 (by decide +kernel) (by kernel_rfl) (by decide +kernel) rfl (fun K' hK => ?_) | (refine AQ.nil (hK _ ?_); clear hK K') | refine AQ.q rfl rfl (fun hg => by first | exact PRun.eq (PRun.lookupN (ek := ekP) (sz := 12) (f := encN) (al := al) (key := ((1 : Int), v.id)) pairKA (LOk.of (tabOk.get rfl)) (LOk.of (tabOk.get rfl)) rfl rfl (Rd.w rfl nd) (Or.inr ⟨_, rfl, rfl⟩) (Rd.w rfl nd) rfl) (show AV.sl 12 (((lk al ((1 : Int), v.id)).getD []).map encN) .no = AV.sl 12 ((inBar b v.id).map encN) .no by rw [gy]) | exact PRun.eq (PRun.lookupN (ek := ekP) (sz := 12) (f := encN) (al := al) (key := ((0 : Int), u.id)) pairKA (LOk.of (tabOk.get rfl)) (LOk.of (tabOk.get rfl)) rfl rfl (Rd.w rfl nd) (Or.inr ⟨_, rfl, rfl⟩) (Rd.w rfl nd) rfl) (show AV.sl 12 (((lk al ((0 : Int), u.id)).getD []).map encN) .no = AV.sl 12 ((inBar a u.id).map encN) .no by rw [gx]) | exact iX encB b.bars ((z.2.toNat : Nat) : Int) hv (hb := by omega) | exact iX encB a.bars ((z.1.toNat : Nat) : Int) hu (hb := by omega) | exact PRun.eq (v := .int z.2) (PRun.step tabOk rfl sd) n2 | exact PRun.eq (v := .int z.1) (PRun.step tabOk rfl sd) n1 | exact std0 | exact PRun.buildAW tabOk rfl rfl nds | exact std1) (by exact rfl) ?_)
        all_goals (first | (exfalso; omega) | (exfalso; simp at hc; done) | (exfalso; simp at hc; omega) | (exfalso; simp only [dEf, dEt] at hc; omega) | (rename_i h0; exfalso; simp at h0; done) | (rename_i h0; exfalso; simp at h0; omega) | skip)
        rintro _ _ ⟨σ', rfl, rfl, rfl⟩
        clear m1
        repeat' (first | refine AOps.q rfl rfl rfl (fun hg => by exact std0) (by exact rfl) ?_ | refine AWP.seq ?_ | refine AWP.regionK (fun K' hK => ?_) | (refine AOps.nil (hK _ _ ?_); clear hK K') | refine AOps.e (EStep.callT (m2) rfl rfl rfl rfl rfl nd rfl rfl nds ?_))
        rintro _ _ ⟨σ', rfl, rfl, rfl⟩
        clear m2
        repeat' (first | refine AOps.q rfl rfl rfl (fun hg => by exact std0) (by exact rfl) ?_ | refine AWP.regionK (fun K' hK => ?_) | (refine AOps.nil (hK _ _ ?_); clear hK K') | refine AOps.e (EStep.callT (m3) rfl rfl rfl rfl rfl nd rfl rfl nds ?_))
        rintro _ _ ⟨σ', rfl, rfl, rfl⟩
        clear m3
        repeat' (first | refine AOps.q rfl rfl rfl (fun hg => by exact std0) (by exact rfl) ?_ | refine AWP.regionK (fun K' hK => ?_) | (refine AOps.nil (hK _ _ ?_); clear hK K'))
        exact ⟨k + 1, hlt, by omega, ⟨rfl, rfl, rfl, rfl, rfl, rfl, rfl, rfl, True.intro⟩, by show _ = MB _ (pairsM a b (np (x.pairs.take (k + 1))) []); rw [hst]; rfl⟩
      · obtain rfl : k = x.pairs.length := by omega
        rw [List.take_length]
        repeat' (first | refine AOps.q rfl rfl rfl (fun hg => by first | exact std0 | exact std1) (by exact rfl) ?_ | refine AWP.seq ?_ | refine AWP.regionK (fun K' hK => ?_) | (refine AOps.nil (hK _ _ ?_); clear hK K') | refine AOps.e (EStep.storeW tabOk rfl rfl rfl True.intro rfl rfl True.intro rfl rfl rfl rfl rfl rfl rfl ?_) | refine AOps.e (EStep.allocW tabOk rfl rfl rfl rfl rfl rfl ?_) | (refine AWP.condW rfl True.intro (fun hc => ?_) (fun hc => ?_) <;> (first | (simp only [dEt] at hc) | (simp only [dEf, iNl, iNe] at hc) | skip)) | refine AWP.block ?_ | refine AWP.exit ?_ | refine AWP.skip ?_ | refine AWP.drawK2 (by decide +kernel) (by kernel_rfl) (by decide +kernel) rfl (fun K' hK => ?_) | refine AQ.q rfl rfl (fun hg => by first | exact std0 | exact std1) (by exact rfl) ?_)
        all_goals (first | (exfalso; omega) | (exfalso; simp at hc; done) | (exfalso; simp at hc; omega) | (exfalso; simp only [dEf, dEt] at hc; omega) | (rename_i h0; exfalso; simp at h0; done) | (rename_i h0; exfalso; simp at h0; omega) | skip)
        have hM : notesM a b (np x.pairs) = outL (pairsM a b (np x.pairs) []) a.notes := rfl
        rw [hM]
        generalize pairsM a b (np x.pairs) [] = q
        clear hps hM hR hpk
        refine AWP.ownNil (d := 16) (sz := 2) rfl ?_
        refine AWP.loopD (ι := Nat) (fun k => [(10, .map 8), (16, .sl 2 ((outL q (a.notes.take k)).map encPr) (.own 10)), (88, .sl 12 (a.notes.map encN) .no), (89, .int a.notes.length), (90, .int k)]) (fun k => MB (pOf a b x al) q ++ [.own 2 ((outL q (a.notes.take k)).map encPr).length]) (fun k => k ≤ a.notes.length) (fun k => a.notes.length - k) 11 (fun _ => rfl) 0 (Nat.zero_le _) ⟨rfl, rfl, rfl, rfl, rfl, True.intro⟩ rfl (fun _ _ => rfl) (fun k _ => by rw [okOwn1]; exact MB_ok (pOf_ok a b x al) (by decide) _) ?_
        intro k hk
        have hlo := outL_len q (a.notes.take k)
        rw [List.length_take] at hlo
        by_cases hlt : k < a.notes.length
        · obtain ⟨n, hn⟩ : ∃ n, a.notes.getD k default = n := ⟨_, rfl⟩
          cases hl : lk q n.id with
          | none =>
            have ho := outL_no hlt hn hl
            repeat' (first | refine AOps.q rfl rfl rfl (fun hg => by first | exact PRun.eq (v := .tup [.int ((lk q n.id).getD 0), .b (lk q n.id).isSome]) (PRun.lookup (ok := true) (ek := ekI) (ev := AV.int) (al := q) (key := n.id) (zv := 0) (keyLaw_int (LOk.of (tabOk.get rfl))) (LOk.of (tabOk.get rfl)) (LOk.of (tabOk.get rfl)) rfl rfl (Rd.w rfl nd) (Or.inr ⟨_, rfl, rfl⟩) (Rd.w rfl nd) rfl) (show AV.tup [.int ((lk q n.id).getD 0), .b (lk q n.id).isSome] = AV.tup [.int 0, .b false] by rw [hl]; rfl) | exact iX encN a.notes ((k : Nat) : Int) hn (hb := by omega) | exact std0) (by exact rfl) ?_ | refine AWP.seq ?_ | refine AWP.regionK (fun K' hK => ?_) | (refine AOps.nil (hK _ _ ?_); clear hK K') | refine AOps.e (EStep.storeW tabOk rfl rfl rfl True.intro rfl rfl True.intro rfl rfl rfl rfl rfl rfl rfl ?_) | refine AOps.e (EStep.allocW tabOk rfl rfl rfl rfl rfl rfl ?_) | (refine AWP.condW rfl True.intro (fun hc => ?_) (fun hc => ?_) <;> (first | (simp only [dEt] at hc) | (simp only [dEf, iNl, iNe] at hc) | skip)) | refine AWP.block ?_ | refine AWP.exit ?_ | refine AWP.skip ?_ | refine AWP.ret ?_)
            all_goals (first | (exfalso; omega) | (exfalso; simp at hc; done) | (exfalso; simp at hc; omega) | (exfalso; simp only [dEf, dEt] at hc; omega) | (rename_i h0; exfalso; simp at h0; done) | (rename_i h0; exfalso; simp at h0; omega) | skip)
            exact ⟨k + 1, hlt, by omega, ⟨rfl, by rw [ho]; rfl, rfl, rfl, rfl, True.intro⟩, by show _ = _ ++ [AObj.own 2 ((outL q (a.notes.take (k + 1))).map encPr).length]; rw [ho]; rfl⟩
          | some w =>
            have ho := outL_yes hlt hn hl
            have hom2 : (List.map encPr (outL q (a.notes.take k)) ++ [[AV.int n.id, AV.int w]]).length = (List.map encPr (outL q (a.notes.take k))).length + 1 := by rw [List.length_append]; rfl
            have hom : ((outL q (a.notes.take k)) ++ [(n.id, w)]).map encPr = (outL q (a.notes.take k)).map encPr ++ [[AV.int n.id, AV.int w]] := by rw [List.map_append]; rfl
            repeat' (first | refine AOps.q rfl rfl rfl (fun hg => by first | exact PRun.eq (v := .tup [.int ((lk q n.id).getD 0), .b (lk q n.id).isSome]) (PRun.lookup (ok := true) (ek := ekI) (ev := AV.int) (al := q) (key := n.id) (zv := 0) (keyLaw_int (LOk.of (tabOk.get rfl))) (LOk.of (tabOk.get rfl)) (LOk.of (tabOk.get rfl)) rfl rfl (Rd.w rfl nd) (Or.inr ⟨_, rfl, rfl⟩) (Rd.w rfl nd) rfl) (show AV.tup [.int ((lk q n.id).getD 0), .b (lk q n.id).isSome] = AV.tup [.int w, .b true] by rw [hl]; rfl) | exact iX encN a.notes ((k : Nat) : Int) hn (hb := by omega) | exact std0 | exact PRun.buildW tabOk rfl rfl nds | exact PRun.buildSlW tabOk rfl rfl nds) (by exact rfl) ?_ | refine AWP.seq ?_ | refine AWP.regionK (fun K' hK => ?_) | (refine AOps.nil (hK _ _ ?_); clear hK K') | refine AOps.e (EStep.storeW tabOk rfl rfl rfl True.intro rfl rfl True.intro rfl rfl rfl rfl rfl rfl rfl ?_) | refine AOps.e (EStep.allocW tabOk rfl rfl rfl rfl rfl rfl ?_) | refine AOps.e (EStep.appendOwn tabOk rfl rfl rfl (by decide) (Rd.w rfl True.intro) rfl (Rd.w rfl True.intro) (.sl rfl (by first | (intro x hx; rcases List.mem_singleton.1 hx with rfl; rfl) | exact one_by8 _ | exact one_ints _)) (LOk.of (tabOk.get rfl)) (LOk.of (tabOk.get rfl)) rfl rfl (by simp only [List.length_map, List.length_append, List.length_cons, List.length_nil]; omega) (by simp only [List.length_map, List.length_append, List.length_cons, List.length_nil]; omega) ?_) | (refine AWP.condW rfl True.intro (fun hc => ?_) (fun hc => ?_) <;> (first | (simp only [dEt] at hc) | (simp only [dEf, iNl, iNe] at hc) | skip)) | refine AWP.block ?_ | refine AWP.exit ?_ | refine AWP.skip ?_ | refine AWP.ret ?_)
            all_goals (first | (exfalso; omega) | (exfalso; simp at hc; done) | (exfalso; simp at hc; omega) | (exfalso; simp only [dEf, dEt] at hc; omega) | (rename_i h0; exfalso; simp at h0; done) | (rename_i h0; exfalso; simp at h0; omega) | skip)
            exact ⟨k + 1, hlt, by omega, ⟨rfl, by rw [ho, hom]; rfl, rfl, rfl, rfl, True.intro⟩, by show _ = _ ++ [AObj.own 2 ((outL q (a.notes.take (k + 1))).map encPr).length]; rw [ho, hom, hom2]; rfl⟩
        · obtain rfl : k = a.notes.length := by omega
          rw [List.take_length]
          repeat' (first | refine AOps.q rfl rfl rfl (fun hg => by first | exact std0 | exact std1) (by exact rfl) ?_ | refine AWP.seq ?_ | refine AWP.regionK (fun K' hK => ?_) | (refine AOps.nil (hK _ _ ?_); clear hK K') | refine AOps.e (EStep.storeW tabOk rfl rfl rfl True.intro rfl rfl True.intro rfl rfl rfl rfl rfl rfl rfl ?_) | refine AOps.e (EStep.allocW tabOk rfl rfl rfl rfl rfl rfl ?_) | (refine AWP.condW rfl True.intro (fun hc => ?_) (fun hc => ?_) <;> (first | (simp only [dEt] at hc) | (simp only [dEf, iNl, iNe] at hc) | skip)) | refine AWP.block ?_ | refine AWP.exit ?_ | refine AWP.skip ?_ | refine AWP.ret ?_)
          all_goals (first | (exfalso; omega) | (exfalso; simp at hc; done) | (exfalso; simp at hc; omega) | (exfalso; simp only [dEf, dEt] at hc; omega) | (rename_i h0; exfalso; simp at h0; done) | (rename_i h0; exfalso; simp at h0; omega) | skip)
          exact ⟨.inr rfl, Ent.of rfl⟩
  · rename_i hok
    obtain ⟨rfl, rfl⟩ := hr
    repeat' (first | refine AOps.q rfl rfl rfl (fun hg => by first | exact std0 | exact (Bool.noConfusion (show false = true from hg) : PRun _ _ _ _ (.b false))) (by exact rfl) ?_ | refine AWP.seq ?_ | refine AWP.regionK (fun K' hK => ?_) | (refine AOps.nil (hK _ _ ?_); clear hK K') | (refine AWP.condW rfl True.intro (fun hc => ?_) (fun hc => ?_) <;> (first | (simp only [dEt] at hc) | (simp only [dEf, iNl, iNe] at hc) | skip)) | refine AWP.skip ?_ | refine AWP.ret ?_)
    all_goals (first | (exfalso; omega) | (exfalso; simp at hc; done) | (exfalso; simp at hc; omega) | (exfalso; simp only [dEf, dEt] at hc; omega) | (rename_i h0; exfalso; simp at h0; done) | (rename_i h0; exfalso; simp at h0; omega) | skip)
    have hR : notesR a b x = ([], 1) := by
      unfold notesR
      rw [if_neg (fun h => hok (by simp only [Bool.and_eq_true] at h ⊢; exact ⟨h.1, h.2.1⟩))]
    rw [hR]
    exact ⟨.inr rfl, Ent.tup2 Ent.nil (Ent.rfl' _)⟩
end Go.Proofs.YtekfpcgagoidcaaGreatDoor.Al

