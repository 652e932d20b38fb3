/- Contracts by content: the reference of align: long, Few, Pairs, Total, Cost, SamePairs, Same.  Contracts by content: the example of the laws over alignments.  Alignments in plain words: a table is looked at, cell by cell. No statement is proved here. -/
import Derived.Test.YtekfpcgagoidcaaGreatDoorQ19
import Derived.Test.YtekfpcgagoidcaaGreatDoorQ20
import Derived.Test.YtekfpcgagoidcaaGreatDoorQ22
set_option linter.unusedVariables false
set_option linter.unusedSimpArgs false
namespace Go.Proofs.YtekfpcgagoidcaaGreatDoor.Al
open Go.Ab Go.Sort
attribute [local irreducible] AWP AOps EStep AQ PStep PRun PCall TCall VCall
theorem long12_spec (a b : Score) (ha : a.Small) (hb : b.Small) : PCall Tryz.prog 51 [.agg (encS a), .agg (encS b)] (.b (decide (a.bars.length > 200 ∨ b.bars.length > 200))) := by
  have ha1 := ha.1
  have hb1 := hb.1
  refine PCall.body Tryz.func51 rfl rfl Tryz.ntmps51 rfl rfl ?_
  repeat' (first | refine AOps.q rfl rfl rfl (fun hg => by first | exact std0 | exact std1) (by exact rfl) ?_ | refine AWP.seq ?_ | refine AWP.regionK (fun K' hK => ?_) | (refine AOps.nil (hK _ _ ?_); clear hK K') | refine AOps.e (EStep.boxW rfl rfl rfl rfl rfl True.intro rfl rfl ?_) | refine AWP.ret ?_)
  refine ⟨.inr rfl, Ent.b ?_⟩
  rw [Bool.decide_or, decide_eq_decide.2 (show (a.bars.length : Int) > 200 ↔ a.bars.length > 200 by omega), decide_eq_decide.2 (show (b.bars.length : Int) > 200 ↔ b.bars.length > 200 by omega)]
def few12 (s : Score) : Bool := decide ((s.bars.length : Int) ≤ 12) && decide ((s.parts.length : Int) ≤ 70) && decide ((s.notes.length : Int) ≤ 60)
theorem few12_small {s : Score} (h : few12 s = true) : s.Small := by
  unfold few12 at h
  simp only [Bool.and_eq_true, dEt] at h
  exact ⟨by omega, by omega, by omega⟩
theorem few12_spec (s : Score) (hs : s.Sized) : PCall Tryz.prog 42 [.agg (encS s)] (.b (few12 s)) := by
  obtain ⟨h1, h2, h3⟩ := hs
  refine PCall.body Tryz.func42 rfl rfl Tryz.ntmps42 rfl rfl ?_
  repeat' (first | refine AOps.q rfl rfl rfl (fun hg => by first | exact std0 | exact std1) (by exact rfl) ?_ | refine AWP.seq ?_ | refine AWP.regionK (fun K' hK => ?_) | (refine AOps.nil (hK _ _ ?_); clear hK K') | refine AOps.e (EStep.boxW rfl rfl rfl rfl rfl True.intro rfl rfl ?_) | refine AWP.ret ?_)
  exact ⟨.inr rfl, Ent.b rfl⟩
theorem few2_spec (a b : Score) (ha : a.Sized) (hb : b.Sized) : PCall Tryz.prog 16 [.agg (encS a), .agg (encS b)] (.b (few12 a && few12 b)) := by
  have h1 := few12_spec a ha
  have h2 := few12_spec b hb
  refine PCall.body Tryz.func16 rfl rfl Tryz.ntmps16 rfl rfl ?_
  repeat' (first | refine AOps.q rfl rfl rfl (fun hg => by first | exact std0 | exact PRun.callW (h1) rfl rfl nd rfl nds | exact PRun.callW (h2) rfl rfl nd rfl nds) (by exact rfl) ?_ | refine AWP.seq ?_ | refine AWP.regionK (fun K' hK => ?_) | (refine AOps.nil (hK _ _ ?_); clear hK K') | refine AOps.e (EStep.boxW rfl rfl rfl rfl rfl True.intro rfl rfl ?_) | refine AWP.ret ?_)
  exact ⟨.inr rfl, Ent.b rfl⟩
theorem flPr : flatN Tryz.prog 48 = some [.int .i64, .int .i64] := by kernel_rfl
def eqPr (x y : Int × Int) : Bool := x.1 == y.1 && (x.2 == y.2 && true)
theorem eqPr_eq (x y : Int × Int) : eqPr x y = (x == y) := by
  unfold eqPr
  rw [Bool.and_true]; rfl
theorem samePairs_spec (a b : PL) (ha : a.length ≤ 9223372036854775807) (hb : b.length ≤ 9223372036854775807) : PCall Tryz.prog 26 [.sl 2 (a.map encPr) .no, .sl 2 (b.map encPr) .no] (.b (a == b)) := by
  refine PCall.body Tryz.func26 rfl rfl Tryz.ntmps26 rfl rfl ?_
  repeat' (first | refine AOps.q rfl rfl rfl (fun hg => by first | exact std0 | exact std1) (by exact rfl) ?_ | refine AWP.seq ?_ | refine AWP.regionK (fun K' hK => ?_) | (refine AOps.nil (hK _ _ ?_); clear hK K') | (refine AWP.condW rfl True.intro (fun hc => ?_) (fun hc => ?_) <;> (first | (simp only [dEt] at hc) | (simp only [dEf, iNl, iNe] at hc) | skip)) | refine AWP.block ?_ | refine AWP.skip ?_ | refine AWP.ret ?_)
  · refine ⟨.inr rfl, Ent.b (list_ne_len ?_).symm⟩
    simp only [Int.toNat_natCast, Bool.or_eq_true, Bool.and_eq_true, Bool.or_eq_false_iff, Bool.and_eq_false_iff, dEt, dEf, Bool.not_eq_true', Bool.not_eq_false', beq_iff_eq, beq_eq_false_iff_ne, bne_iff_ne, bne_eq_false_iff_eq, gt_iff_lt, ge_iff_le, ne_eq] at hc; omega
  have hlen : a.length = b.length := by simp only [Int.toNat_natCast, Bool.or_eq_true, Bool.and_eq_true, Bool.or_eq_false_iff, Bool.and_eq_false_iff, dEt, dEf, Bool.not_eq_true', Bool.not_eq_false', beq_iff_eq, beq_eq_false_iff_ne, bne_iff_ne, bne_eq_false_iff_eq, gt_iff_lt, ge_iff_le, ne_eq] at hc; omega
  refine AWP.loopW (ι := Nat) (fun k => [(0, .sl 2 (a.map encPr) .no), (1, .sl 2 (b.map encPr) .no), (5, .int k)]) (fun _ => []) (fun k => k ≤ a.length ∧ ∀ j, j < k → a.getD j default = b.getD j default) (fun k => a.length - k) 0 ⟨Nat.zero_le _, fun j h => absurd h (by omega)⟩ ⟨rfl, rfl, rfl, True.intro⟩ rfl ?_
  rintro k ⟨hk, hall⟩
  by_cases hlt : k < a.length
  · repeat' (first | refine AOps.q rfl rfl rfl (fun hg => by first | exact std0 | exact std1) (by exact rfl) ?_ | refine AWP.seq ?_ | refine AWP.regionK (fun K' hK => ?_) | (refine AOps.nil (hK _ _ ?_); clear hK K') | (refine AWP.condW rfl True.intro (fun hc => ?_) (fun hc => ?_) <;> (first | (simp only [dEt] at hc) | (simp only [dEf, iNl, iNe] at hc) | skip)) | refine AWP.block ?_ | refine AWP.exit ?_ | refine AWP.skip ?_ | refine AWP.ret ?_ | refine AWP.drawK2 (by decide +kernel) (by kernel_rfl) (by decide +kernel) rfl (fun K' hK => ?_) | (refine AQ.nil (hK _ ?_); clear hK K') | refine AQ.q rfl rfl (fun hg => by first | exact std0 | exact PRun.neN flPr rfl rfl nd rfl nd rfl | exact std1) (by exact rfl) ?_)
    · refine ⟨.inr rfl, Ent.b (list_ne_at (k := k) ?_).symm⟩
      have h1 : (!(eqPr (a.getD k default) (b.getD k default))) = true := hc
      rw [eqPr_eq] at h1
      simpa using h1
    · refine ⟨k + 1, ⟨by omega, fun j hj => lt_succ_cases hall ?_ hj⟩, by omega, ⟨rfl, rfl, rfl, True.intro⟩, rfl⟩
      have h1 : (!(eqPr (a.getD k default) (b.getD k default))) = false := hc
      rw [eqPr_eq] at h1
      simpa using h1
    · exfalso; omega
  · repeat' (first | refine AOps.q rfl rfl rfl (fun hg => by first | exact std0 | exact std1) (by exact rfl) ?_ | refine AWP.seq ?_ | refine AWP.regionK (fun K' hK => ?_) | (refine AOps.nil (hK _ _ ?_); clear hK K') | (refine AWP.condW rfl True.intro (fun hc => ?_) (fun hc => ?_) <;> (first | (simp only [dEt] at hc) | (simp only [dEf, iNl, iNe] at hc) | skip)) | refine AWP.block ?_ | refine AWP.exit ?_ | refine AWP.skip ?_ | refine AWP.ret ?_ | refine AWP.drawK2 (by decide +kernel) (by kernel_rfl) (by decide +kernel) rfl (fun K' hK => ?_) | refine AQ.q rfl rfl (fun hg => by first | exact std0 | exact std1) (by exact rfl) ?_)
    all_goals (first | (exfalso; omega) | skip)
    exact ⟨.inr rfl, Ent.b (list_eq_all hlen fun j hj => hall j (by omega)).symm⟩
end Go.Proofs.YtekfpcgagoidcaaGreatDoor.Al


namespace Go.Proofs.YtekfpcgagoidcaaGreatDoor.Al
open Go.Ab Go.Sort
attribute [local irreducible] AWP AOps EStep AQ PStep PRun PCall TCall VCall
theorem lrat12_spec (n d : Int) : PCall Tryz.prog 82 [.int n, .int d] (.agg [.int n, .int d]) := by
  refine PCall.bodyS tabOk Tryz.func82 rfl rfl Tryz.ntmps82 rfl ?_
  repeat' (first | refine AOps.q rfl rfl rfl (fun hg => by first | exact std0 | exact PRun.buildW tabOk rfl rfl nds) (by exact rfl) ?_ | refine AWP.seq ?_ | refine AWP.regionK (fun K' hK => ?_) | (refine AOps.nil (hK _ _ ?_); clear hK K') | refine AOps.e (EStep.storeW tabOk rfl rfl rfl True.intro rfl rfl True.intro rfl rfl rfl rfl rfl rfl rfl ?_) | refine AOps.e (EStep.allocW tabOk rfl rfl rfl rfl rfl rfl ?_) | refine AWP.ret ?_)
  exact ⟨.inr rfl, _, rfl, Ent.of rfl⟩
def exP : Part := ⟨1, 0, 0, 0, 1, ⟨0, 0⟩, ⟨0, 0, 0⟩, ⟨0, 0, 9⟩⟩
def exBar (x : Int × Int) : Bar := ⟨x.1, ⟨4, 1⟩, 0⟩
def exNote (x : Int × Int) : Note := ⟨100 + x.1, 1, x.1, 0, 0, ⟨0, 1⟩, ⟨1, 1⟩, ⟨x.2, 0, 4⟩⟩
def exS (v : Int) (l : List (Int × Int)) : Score := ⟨v, l.map exBar, [exP], l.map exNote⟩
def WS (v : Int) (B : List (List AV)) (nb : Nat) (N : List (List AV)) (nn : Nat) : Store := [.var [.int 0, .nils, .nils, .nils], .var [.int v, .sl 4 B (.own 2), .sl 13 [encP exP] .fresh, .sl 12 N (.own 3)], .own 4 nb, .own 12 nn]
def WZ (v : Int) (B : List (List AV)) (nb : Nat) (N : List (List AV)) (nn : Nat) (z : Int × Int) : Store := [.var [.int 0, .nils, .nils, .nils], .var [.int v, .sl 4 B (.own 2), .sl 13 [encP exP] .fresh, .sl 12 N (.own 3)], .own 4 nb, .own 12 nn, .var [.int z.1, .int z.2]]
set_option maxHeartbeats 8000000 in
set_option maxRecDepth 20000 in
theorem work_spec (v : Int) (l : List (Int × Int)) (hl : l.length ≤ 1000) (hin : ∀ x ∈ l, 0 ≤ x.1 ∧ x.1 ≤ 1000) : PCall Tryz.prog 41 [.int v, .sl 2 (l.map encPr) .no] (.agg (encS (exS v l))) := by
  have r1 := lrat12_spec 4 1
  have r2 := lrat12_spec 0 1
  have r3 := lrat12_spec 1 1
  refine PCall.bodyS tabOk Tryz.func41 rfl rfl Tryz.ntmps41 rfl ?_
  repeat' (first | refine AOps.q rfl rfl rfl (fun hg => by first | exact std0 | exact PRun.buildW tabOk rfl rfl nds | exact PRun.buildSlW tabOk rfl rfl nds | exact std1) (by exact rfl) ?_ | refine AWP.seq ?_ | refine AWP.regionK (fun K' hK => ?_) | (refine AOps.nil (hK _ _ ?_); clear hK K') | refine AOps.e (EStep.storeW tabOk rfl rfl rfl True.intro rfl rfl True.intro rfl rfl rfl rfl rfl rfl rfl ?_) | refine AOps.e (EStep.allocW tabOk rfl rfl rfl rfl rfl rfl ?_) | refine AWP.block ?_)
  refine AWP.ownNilV (v := 1) (i := 1) (sz := 4) rfl rfl ?_
  refine AWP.ownNilV (v := 1) (i := 3) (sz := 12) rfl rfl ?_
  refine AWP.loopD (ι := Nat) (fun k => [(4, .ptr 0 0), (5, .ptr 1 0), (13, .sl 2 (l.map encPr) .no), (14, .int l.length), (15, .int k)]) (fun k => WS v (((l.take k).map exBar).map encB) (((l.take k).map exBar).map encB).length (((l.take k).map exNote).map encN) (((l.take k).map exNote).map encN).length)
    (fun k => k ≤ l.length) (fun k => l.length - k) 4 (fun _ => rfl) 0 (Nat.zero_le _) ⟨rfl, rfl, rfl, rfl, rfl, True.intro⟩ rfl (fun _ _ => rfl) (fun _ _ => rfl) ?_
  intro k hk
  have hl1 : ((l.take k).map exBar).length ≤ 1000 := by rw [List.length_map, List.length_take]; omega
  have hl2 : ((l.take k).map exNote).length ≤ 1000 := by rw [List.length_map, List.length_take]; omega
  by_cases hlt : k < l.length
  · obtain ⟨z, hz⟩ : ∃ z, l.getD k default = z := ⟨_, rfl⟩
    obtain ⟨z1, z2⟩ := hin z (by rw [← hz, getD_lt hlt]; exact List.getElem_mem hlt)
    have e1 : (l.take (k + 1)).map exBar = (l.take k).map exBar ++ [exBar z] := by rw [takeS hlt, hz, List.map_append]; rfl
    have e2 : (l.take (k + 1)).map exNote = (l.take k).map exNote ++ [exNote z] := by rw [takeS hlt, hz, List.map_append]; rfl
    generalize (l.take k).map exBar = p1 at *
    generalize (l.take k).map exNote = p2 at *
    repeat' (first | refine AOps.q rfl rfl rfl (fun hg => by first | exact iX encPr l ((k : Nat) : Int) hz (hb := by omega) | exact std0) (by exact rfl) ?_ | refine AWP.seq ?_ | refine AWP.regionK (fun K' hK => ?_) | (refine AOps.nil (hK _ _ ?_); clear hK K') | refine AOps.e (EStep.storeW tabOk rfl rfl rfl True.intro rfl rfl True.intro rfl rfl rfl rfl rfl rfl rfl ?_) | refine AOps.e (EStep.allocW tabOk rfl rfl rfl rfl rfl rfl ?_) | (refine AWP.condW rfl True.intro (fun hc => ?_) (fun hc => ?_) <;> (first | (simp only [dEt] at hc) | (simp only [dEf, iNl, iNe] at hc) | skip)) | refine AWP.block ?_ | refine AWP.exit ?_ | refine AWP.skip ?_ | refine AWP.ret ?_)
    all_goals (first | (exfalso; omega) | (exfalso; simp at hc; done) | (exfalso; simp at hc; omega) | (exfalso; simp only [dEf, dEt] at hc; omega) | (rename_i h0; exfalso; simp at h0; done) | (rename_i h0; exfalso; simp at h0; omega) | skip)
    refine AWP.drawYM effOp (fun j => match j with | 0 => WZ v (p1.map encB) (p1.map encB).length (p2.map encN) (p2.map encN).length z | 1 => WZ v (p1.map encB) (p1.map encB ++ [encB (exBar z)]).length (p2.map encN) (p2.map encN).length z | _ => WZ v (p1.map encB ++ [encB (exBar z)]) (p1.map encB ++ [encB (exBar z)]).length (p2.map encN) (p2.map encN).length z) rfl (by kernel_rfl) (by decide +kernel) rfl (by decide +kernel) (fun K' hK => ?_)
    repeat' (first
      | refine YQ.q (a := 0) (b := 0) rfl (by decide +kernel) (by decide +kernel) rfl rfl rfl (fun k h1 h2 hg => by (have hk : k = 0 := (by omega)); (rcases hk with rfl) <;> (first | exact std0 | exact PRun.callW (r1) rfl rfl nd rfl nds | exact PRun.indexPA tabOk rfl rfl nd rfl nd rfl rfl ⟨by decide, by decide⟩ | exact PRun.buildW tabOk rfl rfl nds | exact PRun.buildSlW tabOk rfl rfl nds | exact std1)) (by exact rfl) ?_
      | refine YQ.q (a := 0) (b := 1) rfl (by decide +kernel) (by decide +kernel) rfl rfl rfl (fun k h1 h2 hg => by (have hk : k = 0 ∨ k = 1 := (by omega)); (rcases hk with rfl | rfl) <;> (first | exact std0 | exact PRun.callW (r1) rfl rfl nd rfl nds | exact PRun.indexPA tabOk rfl rfl nd rfl nd rfl rfl ⟨by decide, by decide⟩ | exact PRun.buildW tabOk rfl rfl nds | exact PRun.buildSlW tabOk rfl rfl nds | exact std1)) (by exact rfl) ?_
      | refine YQ.q (a := 1) (b := 1) rfl (by decide +kernel) (by decide +kernel) rfl rfl rfl (fun k h1 h2 hg => by (have hk : k = 1 := (by omega)); (rcases hk with rfl) <;> (first | exact std0 | exact PRun.callW (r1) rfl rfl nd rfl nds | exact PRun.indexPA tabOk rfl rfl nd rfl nd rfl rfl ⟨by decide, by decide⟩ | exact PRun.buildW tabOk rfl rfl nds | exact PRun.buildSlW tabOk rfl rfl nds | exact std1)) (by exact rfl) ?_
      | refine YQ.q (a := 0) (b := 2) rfl (by decide +kernel) (by decide +kernel) rfl rfl rfl (fun k h1 h2 hg => by (have hk : k = 0 ∨ k = 1 ∨ k = 2 := (by omega)); (rcases hk with rfl | rfl | rfl) <;> (first | exact std0 | exact PRun.callW (r1) rfl rfl nd rfl nds | exact PRun.indexPA tabOk rfl rfl nd rfl nd rfl rfl ⟨by decide, by decide⟩ | exact PRun.buildW tabOk rfl rfl nds | exact PRun.buildSlW tabOk rfl rfl nds | exact std1)) (by exact rfl) ?_
      | refine YQ.q (a := 1) (b := 2) rfl (by decide +kernel) (by decide +kernel) rfl rfl rfl (fun k h1 h2 hg => by (have hk : k = 1 ∨ k = 2 := (by omega)); (rcases hk with rfl | rfl) <;> (first | exact std0 | exact PRun.callW (r1) rfl rfl nd rfl nds | exact PRun.indexPA tabOk rfl rfl nd rfl nd rfl rfl ⟨by decide, by decide⟩ | exact PRun.buildW tabOk rfl rfl nds | exact PRun.buildSlW tabOk rfl rfl nds | exact std1)) (by exact rfl) ?_
      | refine YQ.q (a := 2) (b := 2) rfl (by decide +kernel) (by decide +kernel) rfl rfl rfl (fun k h1 h2 hg => by (have hk : k = 2 := (by omega)); (rcases hk with rfl) <;> (first | exact std0 | exact PRun.callW (r1) rfl rfl nd rfl nds | exact PRun.indexPA tabOk rfl rfl nd rfl nd rfl rfl ⟨by decide, by decide⟩ | exact PRun.buildW tabOk rfl rfl nds | exact PRun.buildSlW tabOk rfl rfl nds | exact std1)) (by exact rfl) ?_)
    refine YQ.e (v := .sl 4 (p1.map encB ++ [encB (exBar z)]) (.own 2)) (d := some 26) rfl rfl rfl ?_ ?_
    · intro env' he
      exact EStep.appendOwn' (l := 2) tabOk rfl rfl rfl (by decide) (Rd.w ((rdv_congr (he 20 (by decide +kernel))).trans rfl) (by rw [rdn_congr (he 20 (by decide +kernel))]; first | exact True.intro | exact rfl)) rfl (Rd.w ((rdv_congr (he 25 (by decide +kernel))).trans rfl) (by rw [rdn_congr (he 25 (by decide +kernel))]; first | exact True.intro | exact rfl)) (.sl rfl (by intro x hx; rcases List.mem_singleton.1 hx with rfl; rfl)) (LOk.of (tabOk.get rfl)) (LOk.of (tabOk.get rfl)) rfl rfl (by simp only [List.length_map, List.length_append, List.length_cons, List.length_nil]; omega) (by simp only [List.length_map, List.length_append, List.length_cons, List.length_nil]; omega) ⟨rfl, rfl⟩
    repeat' (first
      | refine YQ.q (a := 0) (b := 0) rfl (by decide +kernel) (by decide +kernel) rfl rfl rfl (fun k h1 h2 hg => by (have hk : k = 0 := (by omega)); (rcases hk with rfl) <;> (first | exact std0 | exact std1)) (by exact rfl) ?_
      | refine YQ.q (a := 0) (b := 1) rfl (by decide +kernel) (by decide +kernel) rfl rfl rfl (fun k h1 h2 hg => by (have hk : k = 0 ∨ k = 1 := (by omega)); (rcases hk with rfl | rfl) <;> (first | exact std0 | exact std1)) (by exact rfl) ?_
      | refine YQ.q (a := 1) (b := 1) rfl (by decide +kernel) (by decide +kernel) rfl rfl rfl (fun k h1 h2 hg => by (have hk : k = 1 := (by omega)); (rcases hk with rfl) <;> (first | exact std0 | exact std1)) (by exact rfl) ?_
      | refine YQ.q (a := 0) (b := 2) rfl (by decide +kernel) (by decide +kernel) rfl rfl rfl (fun k h1 h2 hg => by (have hk : k = 0 ∨ k = 1 ∨ k = 2 := (by omega)); (rcases hk with rfl | rfl | rfl) <;> (first | exact std0 | exact std1)) (by exact rfl) ?_
      | refine YQ.q (a := 1) (b := 2) rfl (by decide +kernel) (by decide +kernel) rfl rfl rfl (fun k h1 h2 hg => by (have hk : k = 1 ∨ k = 2 := (by omega)); (rcases hk with rfl | rfl) <;> (first | exact std0 | exact std1)) (by exact rfl) ?_
      | refine YQ.q (a := 2) (b := 2) rfl (by decide +kernel) (by decide +kernel) rfl rfl rfl (fun k h1 h2 hg => by (have hk : k = 2 := (by omega)); (rcases hk with rfl) <;> (first | exact std0 | exact std1)) (by exact rfl) ?_)
    refine YQ.e (v := .any) (d := none) rfl rfl rfl ?_ ?_
    · intro env' he
      exact EStep.storeW tabOk rfl rfl ((rdv_congr (he 27 (by decide +kernel))).trans rfl) (by rw [rdn_congr (he 27 (by decide +kernel))]; first | exact True.intro | exact rfl) rfl ((rdv_congr (he 26 (by decide +kernel))).trans rfl) (by rw [rdn_congr (he 26 (by decide +kernel))]; first | exact True.intro | exact rfl) rfl rfl rfl rfl rfl rfl rfl ⟨rfl, rfl⟩
    repeat' (first
      | refine YQ.q (a := 0) (b := 0) rfl (by decide +kernel) (by decide +kernel) rfl rfl rfl (fun k h1 h2 hg => by (have hk : k = 0 := (by omega)); (rcases hk with rfl) <;> (first | exact std0 | exact std1)) (by exact rfl) ?_
      | refine YQ.q (a := 0) (b := 1) rfl (by decide +kernel) (by decide +kernel) rfl rfl rfl (fun k h1 h2 hg => by (have hk : k = 0 ∨ k = 1 := (by omega)); (rcases hk with rfl | rfl) <;> (first | exact std0 | exact std1)) (by exact rfl) ?_
      | refine YQ.q (a := 1) (b := 1) rfl (by decide +kernel) (by decide +kernel) rfl rfl rfl (fun k h1 h2 hg => by (have hk : k = 1 := (by omega)); (rcases hk with rfl) <;> (first | exact std0 | exact std1)) (by exact rfl) ?_
      | refine YQ.q (a := 0) (b := 2) rfl (by decide +kernel) (by decide +kernel) rfl rfl rfl (fun k h1 h2 hg => by (have hk : k = 0 ∨ k = 1 ∨ k = 2 := (by omega)); (rcases hk with rfl | rfl | rfl) <;> (first | exact std0 | exact std1)) (by exact rfl) ?_
      | refine YQ.q (a := 1) (b := 2) rfl (by decide +kernel) (by decide +kernel) rfl rfl rfl (fun k h1 h2 hg => by (have hk : k = 1 ∨ k = 2 := (by omega)); (rcases hk with rfl | rfl) <;> (first | exact std0 | exact std1)) (by exact rfl) ?_
      | refine YQ.q (a := 2) (b := 2) rfl (by decide +kernel) (by decide +kernel) rfl rfl rfl (fun k h1 h2 hg => by (have hk : k = 2 := (by omega)); (rcases hk with rfl) <;> (first | exact std0 | exact std1)) (by exact rfl) ?_)
    refine YQ.nil (hK _ _ ?_)
    clear hK K'
    show AWP _ _ _ _ _ (WZ v (p1.map encB ++ [encB (exBar z)]) (p1.map encB ++ [encB (exBar z)]).length (p2.map encN) (p2.map encN).length z)
    skip
    refine AWP.drawYM effOp (fun j => match j with | 0 => WZ v (p1.map encB ++ [encB (exBar z)]) (p1.map encB ++ [encB (exBar z)]).length (p2.map encN) (p2.map encN).length z | 1 => WZ v (p1.map encB ++ [encB (exBar z)]) (p1.map encB ++ [encB (exBar z)]).length (p2.map encN) (p2.map encN ++ [encN (exNote z)]).length z | _ => WZ v (p1.map encB ++ [encB (exBar z)]) (p1.map encB ++ [encB (exBar z)]).length (p2.map encN ++ [encN (exNote z)]) (p2.map encN ++ [encN (exNote z)]).length z) rfl (by kernel_rfl) (by decide +kernel) rfl (by decide +kernel) (fun K' hK => ?_)
    repeat' (first
      | refine YQ.q (a := 0) (b := 0) rfl (by decide +kernel) (by decide +kernel) rfl rfl rfl (fun k h1 h2 hg => by (have hk : k = 0 := (by omega)); (rcases hk with rfl) <;> (first | exact std0 | exact PRun.callW (r2) rfl rfl nd rfl nds | exact PRun.callW (r3) rfl rfl nd rfl nds | exact PRun.indexPA tabOk rfl rfl nd rfl nd rfl rfl ⟨by decide, by decide⟩ | exact PRun.buildW tabOk rfl rfl nds | exact PRun.buildSlW tabOk rfl rfl nds | exact std1)) (by exact rfl) ?_
      | refine YQ.q (a := 0) (b := 1) rfl (by decide +kernel) (by decide +kernel) rfl rfl rfl (fun k h1 h2 hg => by (have hk : k = 0 ∨ k = 1 := (by omega)); (rcases hk with rfl | rfl) <;> (first | exact std0 | exact PRun.callW (r2) rfl rfl nd rfl nds | exact PRun.callW (r3) rfl rfl nd rfl nds | exact PRun.indexPA tabOk rfl rfl nd rfl nd rfl rfl ⟨by decide, by decide⟩ | exact PRun.buildW tabOk rfl rfl nds | exact PRun.buildSlW tabOk rfl rfl nds | exact std1)) (by exact rfl) ?_
      | refine YQ.q (a := 1) (b := 1) rfl (by decide +kernel) (by decide +kernel) rfl rfl rfl (fun k h1 h2 hg => by (have hk : k = 1 := (by omega)); (rcases hk with rfl) <;> (first | exact std0 | exact PRun.callW (r2) rfl rfl nd rfl nds | exact PRun.callW (r3) rfl rfl nd rfl nds | exact PRun.indexPA tabOk rfl rfl nd rfl nd rfl rfl ⟨by decide, by decide⟩ | exact PRun.buildW tabOk rfl rfl nds | exact PRun.buildSlW tabOk rfl rfl nds | exact std1)) (by exact rfl) ?_
      | refine YQ.q (a := 0) (b := 2) rfl (by decide +kernel) (by decide +kernel) rfl rfl rfl (fun k h1 h2 hg => by (have hk : k = 0 ∨ k = 1 ∨ k = 2 := (by omega)); (rcases hk with rfl | rfl | rfl) <;> (first | exact std0 | exact PRun.callW (r2) rfl rfl nd rfl nds | exact PRun.callW (r3) rfl rfl nd rfl nds | exact PRun.indexPA tabOk rfl rfl nd rfl nd rfl rfl ⟨by decide, by decide⟩ | exact PRun.buildW tabOk rfl rfl nds | exact PRun.buildSlW tabOk rfl rfl nds | exact std1)) (by exact rfl) ?_
      | refine YQ.q (a := 1) (b := 2) rfl (by decide +kernel) (by decide +kernel) rfl rfl rfl (fun k h1 h2 hg => by (have hk : k = 1 ∨ k = 2 := (by omega)); (rcases hk with rfl | rfl) <;> (first | exact std0 | exact PRun.callW (r2) rfl rfl nd rfl nds | exact PRun.callW (r3) rfl rfl nd rfl nds | exact PRun.indexPA tabOk rfl rfl nd rfl nd rfl rfl ⟨by decide, by decide⟩ | exact PRun.buildW tabOk rfl rfl nds | exact PRun.buildSlW tabOk rfl rfl nds | exact std1)) (by exact rfl) ?_
      | refine YQ.q (a := 2) (b := 2) rfl (by decide +kernel) (by decide +kernel) rfl rfl rfl (fun k h1 h2 hg => by (have hk : k = 2 := (by omega)); (rcases hk with rfl) <;> (first | exact std0 | exact PRun.callW (r2) rfl rfl nd rfl nds | exact PRun.callW (r3) rfl rfl nd rfl nds | exact PRun.indexPA tabOk rfl rfl nd rfl nd rfl rfl ⟨by decide, by decide⟩ | exact PRun.buildW tabOk rfl rfl nds | exact PRun.buildSlW tabOk rfl rfl nds | exact std1)) (by exact rfl) ?_)
    refine YQ.e (v := .sl 12 (p2.map encN ++ [encN (exNote z)]) (.own 3)) (d := some 42) rfl rfl rfl ?_ ?_
    · intro env' he
      exact EStep.appendOwn' (l := 3) tabOk rfl rfl rfl (by decide) (Rd.w ((rdv_congr (he 29 (by decide +kernel))).trans rfl) (by rw [rdn_congr (he 29 (by decide +kernel))]; first | exact True.intro | exact rfl)) rfl (Rd.w ((rdv_congr (he 41 (by decide +kernel))).trans rfl) (by rw [rdn_congr (he 41 (by decide +kernel))]; first | exact True.intro | exact rfl)) (.sl rfl (by intro x hx; rcases List.mem_singleton.1 hx with rfl; rfl)) (LOk.of (tabOk.get rfl)) (LOk.of (tabOk.get rfl)) rfl rfl (by simp only [List.length_map, List.length_append, List.length_cons, List.length_nil]; omega) (by simp only [List.length_map, List.length_append, List.length_cons, List.length_nil]; omega) ⟨rfl, rfl⟩
    repeat' (first
      | refine YQ.q (a := 0) (b := 0) rfl (by decide +kernel) (by decide +kernel) rfl rfl rfl (fun k h1 h2 hg => by (have hk : k = 0 := (by omega)); (rcases hk with rfl) <;> (first | exact std0 | exact std1)) (by exact rfl) ?_
      | refine YQ.q (a := 0) (b := 1) rfl (by decide +kernel) (by decide +kernel) rfl rfl rfl (fun k h1 h2 hg => by (have hk : k = 0 ∨ k = 1 := (by omega)); (rcases hk with rfl | rfl) <;> (first | exact std0 | exact std1)) (by exact rfl) ?_
      | refine YQ.q (a := 1) (b := 1) rfl (by decide +kernel) (by decide +kernel) rfl rfl rfl (fun k h1 h2 hg => by (have hk : k = 1 := (by omega)); (rcases hk with rfl) <;> (first | exact std0 | exact std1)) (by exact rfl) ?_
      | refine YQ.q (a := 0) (b := 2) rfl (by decide +kernel) (by decide +kernel) rfl rfl rfl (fun k h1 h2 hg => by (have hk : k = 0 ∨ k = 1 ∨ k = 2 := (by omega)); (rcases hk with rfl | rfl | rfl) <;> (first | exact std0 | exact std1)) (by exact rfl) ?_
      | refine YQ.q (a := 1) (b := 2) rfl (by decide +kernel) (by decide +kernel) rfl rfl rfl (fun k h1 h2 hg => by (have hk : k = 1 ∨ k = 2 := (by omega)); (rcases hk with rfl | rfl) <;> (first | exact std0 | exact std1)) (by exact rfl) ?_
      | refine YQ.q (a := 2) (b := 2) rfl (by decide +kernel) (by decide +kernel) rfl rfl rfl (fun k h1 h2 hg => by (have hk : k = 2 := (by omega)); (rcases hk with rfl) <;> (first | exact std0 | exact std1)) (by exact rfl) ?_)
    refine YQ.e (v := .any) (d := none) rfl rfl rfl ?_ ?_
    · intro env' he
      exact EStep.storeW tabOk rfl rfl ((rdv_congr (he 43 (by decide +kernel))).trans rfl) (by rw [rdn_congr (he 43 (by decide +kernel))]; first | exact True.intro | exact rfl) rfl ((rdv_congr (he 42 (by decide +kernel))).trans rfl) (by rw [rdn_congr (he 42 (by decide +kernel))]; first | exact True.intro | exact rfl) rfl rfl rfl rfl rfl rfl rfl ⟨rfl, rfl⟩
    repeat' (first
      | refine YQ.q (a := 0) (b := 0) rfl (by decide +kernel) (by decide +kernel) rfl rfl rfl (fun k h1 h2 hg => by (have hk : k = 0 := (by omega)); (rcases hk with rfl) <;> (first | exact std0 | exact std1)) (by exact rfl) ?_
      | refine YQ.q (a := 0) (b := 1) rfl (by decide +kernel) (by decide +kernel) rfl rfl rfl (fun k h1 h2 hg => by (have hk : k = 0 ∨ k = 1 := (by omega)); (rcases hk with rfl | rfl) <;> (first | exact std0 | exact std1)) (by exact rfl) ?_
      | refine YQ.q (a := 1) (b := 1) rfl (by decide +kernel) (by decide +kernel) rfl rfl rfl (fun k h1 h2 hg => by (have hk : k = 1 := (by omega)); (rcases hk with rfl) <;> (first | exact std0 | exact std1)) (by exact rfl) ?_
      | refine YQ.q (a := 0) (b := 2) rfl (by decide +kernel) (by decide +kernel) rfl rfl rfl (fun k h1 h2 hg => by (have hk : k = 0 ∨ k = 1 ∨ k = 2 := (by omega)); (rcases hk with rfl | rfl | rfl) <;> (first | exact std0 | exact std1)) (by exact rfl) ?_
      | refine YQ.q (a := 1) (b := 2) rfl (by decide +kernel) (by decide +kernel) rfl rfl rfl (fun k h1 h2 hg => by (have hk : k = 1 ∨ k = 2 := (by omega)); (rcases hk with rfl | rfl) <;> (first | exact std0 | exact std1)) (by exact rfl) ?_
      | refine YQ.q (a := 2) (b := 2) rfl (by decide +kernel) (by decide +kernel) rfl rfl rfl (fun k h1 h2 hg => by (have hk : k = 2 := (by omega)); (rcases hk with rfl) <;> (first | exact std0 | exact std1)) (by exact rfl) ?_)
    refine YQ.nil (hK _ _ ?_)
    clear hK K'
    show AWP _ _ _ _ _ (WZ v (p1.map encB ++ [encB (exBar z)]) (p1.map encB ++ [encB (exBar z)]).length (p2.map encN ++ [encN (exNote z)]) (p2.map encN ++ [encN (exNote z)]).length z)
    repeat' (first | refine AOps.q rfl rfl rfl (fun hg => by exact std0) (by exact rfl) ?_ | refine AWP.regionK (fun K' hK => ?_) | (refine AOps.nil (hK _ _ ?_); clear hK K'))
    refine ⟨k + 1, hlt, by show l.length - (k + 1) < l.length - k; omega, ⟨rfl, rfl, rfl, rfl, rfl, True.intro⟩, ?_⟩
    show _ = WS v (((l.take (k + 1)).map exBar).map encB) (((l.take (k + 1)).map exBar).map encB).length (((l.take (k + 1)).map exNote).map encN) (((l.take (k + 1)).map exNote).map encN).length
    rw [e1, e2, List.map_append, List.map_append]; rfl
  · obtain rfl : k = l.length := by omega
    rw [List.take_length] at *
    repeat' (first | refine AOps.q rfl rfl rfl (fun hg => by first | exact std0 | exact std1) (by exact rfl) ?_ | refine AWP.seq ?_ | refine AWP.regionK (fun K' hK => ?_) | (refine AOps.nil (hK _ _ ?_); clear hK K') | refine AOps.e (EStep.storeW tabOk rfl rfl rfl True.intro rfl rfl True.intro rfl rfl rfl rfl rfl rfl rfl ?_) | refine AOps.e (EStep.allocW tabOk rfl rfl rfl rfl rfl rfl ?_) | (refine AWP.condW rfl True.intro (fun hc => ?_) (fun hc => ?_) <;> (first | (simp only [dEt] at hc) | (simp only [dEf, iNl, iNe] at hc) | skip)) | refine AWP.block ?_ | refine AWP.exit ?_ | refine AWP.skip ?_ | refine AWP.ret ?_)
    all_goals (first | (exfalso; omega) | (exfalso; simp at hc; done) | (exfalso; simp at hc; omega) | (exfalso; simp only [dEf, dEt] at hc; omega) | (rename_i h0; exfalso; simp at h0; done) | (rename_i h0; exfalso; simp at h0; omega) | skip)
    exact ⟨.inr rfl, _, rfl, Ent.of rfl⟩
end Go.Proofs.YtekfpcgagoidcaaGreatDoor.Al


namespace Go.Proofs.YtekfpcgagoidcaaGreatDoor.Al
open Go.Ab Go.Sort
abbrev KL := List (KeyP × Int)
def cellT (t : List (List Int)) (i k : Nat) : Bool := decide (0 ≤ get2 t i k) && (decide (get2 t i k ≤ 1000) && ((i == 0 || decide (get2 t i k ≤ get2 t (i - 1) k + 2)) && (k == 0 || decide (get2 t i k ≤ get2 t i (k - 1) + 2))))
def visRow (a b : Score) (t : List (List Int)) (i : Nat) : Nat → Nat → KL → KL × Bool
  | 0, _, kn => (kn, true)
  | r + 1, k, kn => if cellT t i k then (if i = 0 ∨ k = 0 then visRow a b t i r (k + 1) kn else if get2 t i k ≤ get2 t (i - 1) (k - 1) + costR a b (i - 1) (k - 1) then visRow a b t i r (k + 1) (knI a b kn (i - 1) (k - 1)) else (knI a b kn (i - 1) (k - 1), false)) else (kn, false)
def visT (a b : Score) (m : Nat) (t : List (List Int)) : Nat → Nat → KL → KL × Bool
  | 0, _, kn => (kn, true)
  | q + 1, i, kn => if (t.getD i []).length = m + 1 then (if (visRow a b t i (m + 1) 0 kn).2 then visT a b m t q (i + 1) (visRow a b t i (m + 1) 0 kn).1 else ((visRow a b t i (m + 1) 0 kn).1, false)) else (kn, false)
theorem cellT_iff {t : List (List Int)} {i k : Nat} : cellT t i k = true ↔ (0 ≤ get2 t i k ∧ get2 t i k ≤ 1000 ∧ (i = 0 ∨ get2 t i k ≤ get2 t (i - 1) k + 2) ∧ (k = 0 ∨ get2 t i k ≤ get2 t i (k - 1) + 2)) := by
  unfold cellT
  simp only [Bool.and_eq_true, Bool.or_eq_true, dEt, beq_iff_eq]
theorem cell_split (c : Nat → Nat → Int) (t : List (List Int)) (i k : Nat) : cellOk c t i k = (cellT t i k && (i == 0 || (k == 0 || decide (get2 t i k ≤ get2 t (i - 1) (k - 1) + c (i - 1) (k - 1))))) := by
  unfold cellOk cellT
  simp only [Bool.and_assoc]
theorem visRow_ok (a b : Score) (t : List (List Int)) (i : Nat) : ∀ (r k : Nat) (kn : KL), KnOk a b kn → KnOk a b (visRow a b t i r k kn).1 ∧ (visRow a b t i r k kn).2 = (List.range' k r).all (cellOk (costR a b) t i)
  | 0, k, kn, h => ⟨h, rfl⟩
  | r + 1, k, kn, h => by
    have hk := h.knI (i - 1) (k - 1)
    rw [List.range'_succ, List.all_cons, cell_split]
    unfold visRow
    cases hb : cellT t i k with
    | false => exact ⟨h, rfl⟩
    | true =>
      rw [if_pos rfl, Bool.true_and]
      by_cases h0 : i = 0 ∨ k = 0
      · rw [if_pos h0]
        obtain ⟨h1, h2⟩ := visRow_ok a b t i r (k + 1) kn h
        refine ⟨h1, ?_⟩
        rw [h2]
        rcases h0 with h0 | h0 <;> subst h0 <;> simp
      · rw [if_neg h0]
        have e : (i == 0 || (k == 0 || decide (get2 t i k ≤ get2 t (i - 1) (k - 1) + costR a b (i - 1) (k - 1)))) = decide (get2 t i k ≤ get2 t (i - 1) (k - 1) + costR a b (i - 1) (k - 1)) := by
          have h1 : (i == 0) = false := beq_eq_false_iff_ne.2 (by omega)
          have h2 : (k == 0) = false := beq_eq_false_iff_ne.2 (by omega)
          rw [h1, h2]; rfl
        rw [e]
        by_cases hl : get2 t i k ≤ get2 t (i - 1) (k - 1) + costR a b (i - 1) (k - 1)
        · rw [if_pos hl, decide_eq_true hl, Bool.true_and]
          exact visRow_ok a b t i r (k + 1) _ hk
        · rw [if_neg hl, decide_eq_false hl]; exact ⟨hk, rfl⟩
theorem visT_ok (a b : Score) (m : Nat) (t : List (List Int)) : ∀ (q i : Nat) (kn : KL), KnOk a b kn → KnOk a b (visT a b m t q i kn).1 ∧ (visT a b m t q i kn).2 = (List.range' i q).all (rowOk (costR a b) m t)
  | 0, i, kn, h => ⟨h, rfl⟩
  | q + 1, i, kn, h => by
    rw [List.range'_succ, List.all_cons]
    have er : rowOk (costR a b) m t i = (decide ((t.getD i []).length = m + 1) && (List.range (m + 1)).all (cellOk (costR a b) t i)) := rfl
    rw [er]
    unfold visT
    by_cases hl : (t.getD i []).length = m + 1
    · rw [if_pos hl, decide_eq_true hl, Bool.true_and, List.range_eq_range']
      obtain ⟨h1, h2⟩ := visRow_ok a b t i (m + 1) 0 kn h
      rw [← h2]
      cases hv : (visRow a b t i (m + 1) 0 kn).2 with
      | false => exact ⟨h1, rfl⟩
      | true =>
        rw [if_pos rfl, Bool.true_and]
        exact visT_ok a b m t q (i + 1) _ h1
    · rw [if_neg hl, decide_eq_false hl]; exact ⟨h, rfl⟩
def knTab (a b : Score) (kn : KL) (t : List (List Int)) : KL := if t.length = a.bars.length + 1 then (visT a b b.bars.length t (a.bars.length + 1) 0 kn).1 else kn
theorem KnOk.knTab {a b : Score} {kn : KL} (h : KnOk a b kn) (t : List (List Int)) : KnOk a b (knTab a b kn t) := by
  unfold Al.knTab; split
  · exact (visT_ok _ _ _ _ _ _ _ h).1
  · exact h
theorem tab_is {a b : Score} {kn : KL} (h : KnOk a b kn) {t : List (List Int)} (hl : t.length = a.bars.length + 1) {x : KL} {r : Bool} (hv : visT a b b.bars.length t (a.bars.length + 1) 0 kn = (x, r)) :
    knTab a b kn t = x ∧ tabOkB (costR a b) a.bars.length b.bars.length t = (r && (get2 t 0 0 == 0)) := by
  unfold knTab tabOkB
  have h2 := (visT_ok a b b.bars.length t (a.bars.length + 1) 0 kn h).2
  rw [if_pos hl, decide_eq_true hl, Bool.true_and, List.range_eq_range', ← h2, hv]
  exact ⟨rfl, rfl⟩
theorem visRow_bad {a b : Score} {m : Nat} {t : List (List Int)} {i k : Nat} {kn : KL} (hk : k < m + 1) (hb : cellT t i k = false) : visRow a b t i (m + 1 - k) k kn = (kn, false) := by
  rw [show m + 1 - k = (m - k) + 1 by omega, visRow, hb]; rfl
theorem visRow_edge {a b : Score} {m : Nat} {t : List (List Int)} {i k : Nat} {kn : KL} (hk : k < m + 1) (hb : cellT t i k = true) (h0 : i = 0 ∨ k = 0) : visRow a b t i (m + 1 - k) k kn = visRow a b t i (m + 1 - (k + 1)) (k + 1) kn := by
  rw [show m + 1 - k = (m + 1 - (k + 1)) + 1 by omega, visRow, hb, if_pos rfl, if_pos h0]
theorem visRow_last {a b : Score} {m : Nat} {t : List (List Int)} {i k : Nat} {kn : KL} (hk : k + 1 < m + 1) (hb : cellT t (i + 1) (k + 1) = true) (hl : ¬ get2 t (i + 1) (k + 1) ≤ get2 t i k + costR a b i k) : visRow a b t (i + 1) (m + 1 - (k + 1)) (k + 1) kn = (knI a b kn i k, false) := by
  rw [show m + 1 - (k + 1) = (m + 1 - (k + 1 + 1)) + 1 by omega, visRow, hb, if_pos rfl, if_neg (by omega)]
  show (if get2 t (i + 1) (k + 1) ≤ get2 t i k + costR a b i k then _ else _) = _
  rw [if_neg hl]; rfl
theorem visRow_next {a b : Score} {m : Nat} {t : List (List Int)} {i k : Nat} {kn : KL} (hk : k + 1 < m + 1) (hb : cellT t (i + 1) (k + 1) = true) (hl : get2 t (i + 1) (k + 1) ≤ get2 t i k + costR a b i k) : visRow a b t (i + 1) (m + 1 - (k + 1)) (k + 1) kn = visRow a b t (i + 1) (m + 1 - (k + 1 + 1)) (k + 1 + 1) (knI a b kn i k) := by
  rw [show m + 1 - (k + 1) = (m + 1 - (k + 1 + 1)) + 1 by omega, visRow, hb, if_pos rfl, if_neg (by omega)]
  show (if get2 t (i + 1) (k + 1) ≤ get2 t i k + costR a b i k then _ else _) = _
  rw [if_pos hl]; rfl
theorem visT_bad {a b : Score} {n m : Nat} {t : List (List Int)} {i : Nat} {kn : KL} (hi : i < n) (hl : (t.getD i []).length ≠ m + 1) : visT a b m t (n - i) i kn = (kn, false) := by
  rw [show n - i = (n - (i + 1)) + 1 by omega, visT, if_neg hl]
theorem visT_no {a b : Score} {n m : Nat} {t : List (List Int)} {i : Nat} {kn x : KL} (hi : i < n) (hl : (t.getD i []).length = m + 1) (hr : visRow a b t i (m + 1) 0 kn = (x, false)) : visT a b m t (n - i) i kn = (x, false) := by
  rw [show n - i = (n - (i + 1)) + 1 by omega, visT, if_pos hl, hr]; rfl
theorem visT_next {a b : Score} {n m : Nat} {t : List (List Int)} {i : Nat} {kn x : KL} (hi : i < n) (hl : (t.getD i []).length = m + 1) (hr : visRow a b t i (m + 1) 0 kn = (x, true)) : visT a b m t (n - i) i kn = visT a b m t (n - (i + 1)) (i + 1) x := by
  rw [show n - i = (n - (i + 1)) + 1 by omega, visT, if_pos hl, hr]; rfl
end Go.Proofs.YtekfpcgagoidcaaGreatDoor.Al

