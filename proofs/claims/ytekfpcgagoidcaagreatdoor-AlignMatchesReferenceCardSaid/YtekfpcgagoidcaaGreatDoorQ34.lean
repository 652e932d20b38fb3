/- Contracts by content: the reference of align: Notes, Same.  The law AlignMatchesReference by content. No statement is proved here. -/
import Derived.Test.YtekfpcgagoidcaaGreatDoorQ28
import Derived.Test.YtekfpcgagoidcaaGreatDoorQ30
import Derived.Test.YtekfpcgagoidcaaGreatDoorQ33
set_option linter.unusedVariables false
set_option linter.unusedSimpArgs false
namespace Go.Proofs.YtekfpcgagoidcaaGreatDoor.Al
open Go.Ab Go.Sort
attribute [local irreducible] AWP AOps EStep AQ PStep PRun PCall TCall VCall
def tog (a b : Score) (q : Nat × Nat) : PL := three (inBar a (barI a q.1).id) (inBar b (barI b q.2).id) []
def flA (a b : Score) (l : List (Nat × Nat)) : PL := (l.map (tog a b)).flatten
theorem flA_all {a b : Score} (ha : Sc a) (hb : Sc b) {l : List (Nat × Nat)} (hp : Pairs a b l) : flA a b l = pairsM a b l [] := (pairsM_spec ha hb hp).flat.symm
theorem tog_len (a b : Score) (q : Nat × Nat) : (tog a b q).length ≤ 3 * a.notes.length := by
  have h1 := tgR_len (inBar a (barI a q.1).id) (inBar b (barI b q.2).id) 3
  have h2 : (inBar a (barI a q.1).id).length ≤ a.notes.length := List.length_filter_le _ _
  unfold tog
  rw [← tgR_three]; omega
theorem flA_len (a b : Score) : ∀ l : List (Nat × Nat), (flA a b l).length ≤ l.length * (3 * a.notes.length)
  | [] => by simp [flA]
  | q :: l => by
    have h1 := flA_len a b l
    have h2 := tog_len a b q
    show (tog a b q ++ flA a b l).length ≤ _
    rw [List.length_append, List.length_cons, Nat.add_mul]; omega
theorem flA_take (a b : Score) {l : PL} {k : Nat} (h : k < l.length) {z : Int × Int} (hz : l.getD k default = z) : flA a b (np (l.take (k + 1))) = flA a b (np (l.take k)) ++ tog a b (z.1.toNat, z.2.toNat) := by
  rw [takeS h, hz]
  unfold flA np
  simp
def outF (ps : PL) (l : List Note) : PL := (l.map fun n => ps.filter fun p => p.1 == n.id).flatten
theorem outF_take (ps : PL) {l : List Note} {k : Nat} (h : k < l.length) {n : Note} (hn : l.getD k default = n) : outF ps (l.take (k + 1)) = outF ps (l.take k) ++ ps.filter fun p => p.1 == n.id := by
  rw [takeS h, hn]
  unfold outF
  simp
theorem outF_len (ps : PL) : ∀ l : List Note, (outF ps l).length ≤ l.length * ps.length
  | [] => by simp [outF]
  | n :: l => by
    have h1 := outF_len ps l
    have h2 := List.length_filter_le (fun p : Int × Int => p.1 == n.id) ps
    show (ps.filter _ ++ outF ps l).length ≤ _
    rw [List.length_append, List.length_cons, Nat.add_mul]; omega
theorem filt_yes {ps : PL} {id : Int} {k : Nat} (h : k < ps.length) {z : Int × Int} (hz : ps.getD k default = z) (e : (z.1 == id) = true) : (ps.take (k + 1)).filter (fun p => p.1 == id) = (ps.take k).filter (fun p => p.1 == id) ++ [z] := by
  rw [takeS h, hz, List.filter_append, List.filter_cons_of_pos (p := fun p : Int × Int => p.1 == id) e]; rfl
theorem filt_no {ps : PL} {id : Int} {k : Nat} (h : k < ps.length) {z : Int × Int} (hz : ps.getD k default = z) (e : (z.1 == id) = false) : (ps.take (k + 1)).filter (fun p => p.1 == id) = (ps.take k).filter (fun p => p.1 == id) := by
  rw [takeS h, hz, List.filter_append, List.filter_cons_of_neg (p := fun p : Int × Int => p.1 == id) (by rw [e]; decide)]; simp
set_option maxHeartbeats 16000000 in
set_option maxRecDepth 20000 in
theorem rNotes_spec (a b : Score) (ha : a.Small) (hb : b.Small) (hna : a.notes.length ≤ 60) (hnb : b.notes.length ≤ 60) (x : Algn) (hx : x.pairs.length ≤ 40) :
    PCall Tryz.prog 25 [.agg (encS a), .agg (encS b), .agg (encA x)] (.tup [.sl 2 ((notesR a b x).1.map encPr) .no, .int (notesR a b x).2]) := by
  have ha1 := ha.1
  have hb1 := hb.1
  have v1 := valid8_spec a ha
  have v2 := valid8_spec b hb
  have v3 := rPairs_spec a b ha hb x.pairs (by omega)
  refine PCall.body Tryz.func25 rfl rfl Tryz.ntmps25 rfl rfl ?_
  by_cases hok : (scoreOk a && (scoreOk b && pOk a.bars.length b.bars.length (-1) (-1) x.pairs)) = true
  · have hR : notesR a b x = (notesM a b (np x.pairs), 0) := if_pos hok
    rw [hR]
    simp only [Bool.and_eq_true] at hok
    obtain ⟨o1, o2, o3⟩ := hok
    rw [o1] at v1
    rw [o2] at v2
    rw [o3] at v3
    have hps := pOk_spec (by omega) (by omega) o3
    have hall := flA_all (ok_sc o1) (ok_sc o2) (pairsOk_of o3)
    have hfst := (pairsM_spec (ok_sc o1) (ok_sc o2) (pairsOk_of o3)).fst
    repeat' (first | refine AOps.q rfl rfl rfl (fun hg => by first | exact std0 | exact PRun.callW (v1) rfl rfl nd rfl nds | exact PRun.callW (v2) rfl rfl nd rfl nds | exact PRun.callW (v3) rfl rfl nd rfl nds) (by exact rfl) ?_ | refine AWP.seq ?_ | refine AWP.regionK (fun K' hK => ?_) | (refine AOps.nil (hK _ _ ?_); clear hK K') | refine AOps.e (EStep.boxW rfl rfl rfl rfl rfl True.intro rfl rfl ?_) | (refine AWP.condW rfl True.intro (fun hc => ?_) (fun hc => ?_) <;> (first | (simp only [dEt] at hc) | (simp only [dEf, iNl, iNe] at hc) | skip)) | refine AWP.block ?_ | refine AWP.skip ?_ | refine AWP.ret ?_)
    all_goals (first | (exfalso; omega) | (exfalso; simp at hc; done) | (exfalso; simp at hc; omega) | (exfalso; simp only [dEf, dEt] at hc; omega) | (rename_i h0; exfalso; simp at h0; done) | (rename_i h0; exfalso; simp at h0; omega) | skip)
    refine AWP.ownNil (d := 8) (sz := 2) rfl ?_
    skip
    refine AWP.loopD (ι := Nat) (fun k => [(3, .ptr 0 0), (4, .ptr 1 0), (5, .ptr 2 0), (8, .sl 2 ((flA a b (np (x.pairs.take k))).map encPr) (.own 3)), (9, .int k)]) (fun k => [.var (encS a), .var (encS b), .var (encA x), .own 2 ((flA a b (np (x.pairs.take k))).map encPr).length])
      (fun k => k ≤ x.pairs.length) (fun k => x.pairs.length - k) 4 (fun _ => rfl) 0 (Nat.zero_le _) ⟨rfl, rfl, rfl, rfl, rfl, True.intro⟩ rfl (fun _ _ => rfl) (fun _ _ => rfl) ?_
    intro k hk
    have hl1 := flA_len a b (np (x.pairs.take k))
    have hl2 : (np (x.pairs.take k)).length * (3 * a.notes.length) ≤ 40 * 180 := Nat.mul_le_mul (by unfold np; rw [List.length_map, List.length_take]; omega) (by omega)
    by_cases hlt : k < x.pairs.length
    · obtain ⟨z, hz⟩ : ∃ z, x.pairs.getD k default = z := ⟨_, rfl⟩
      have hzm : z ∈ x.pairs := by rw [← hz, getD_lt hlt]; exact List.getElem_mem hlt
      obtain ⟨z1, z2, z3, z4⟩ := hps.2 (z.1.toNat, z.2.toNat) (List.mem_map.2 ⟨z, hzm, rfl⟩)
      have hzp : 0 ≤ z.1 ∧ 0 ≤ z.2 := by
        have h5 := ip_np (by omega) (by omega) o3
        have h6 : z ∈ ip (np x.pairs) := by rw [h5]; exact hzm
        obtain ⟨q, _, rfl⟩ := List.mem_map.1 h6
        exact ⟨Int.natCast_nonneg _, Int.natCast_nonneg _⟩
      dsimp only at z3 z4
      have n1 : AV.int z.1 = AV.int ((z.1.toNat : Nat) : Int) := congrArg AV.int (by omega)
      have n2 : AV.int z.2 = AV.int ((z.2.toNat : Nat) : Int) := congrArg AV.int (by omega)
      have i1 := in12_spec a ha z.1.toNat z3
      have i2 := in12_spec b hb z.2.toNat z4
      have m1 : (inBar a (barI a z.1.toNat).id).length ≤ a.notes.length := List.length_filter_le _ _
      have m2 : (inBar b (barI b z.2.toNat).id).length ≤ b.notes.length := List.length_filter_le _ _
      have tg := together_spec (inBar a (barI a z.1.toNat).id) (inBar b (barI b z.2.toNat).id) (by omega) (by omega)
      have ht := flA_take a b hlt hz
      have hl3 := tog_len a b (z.1.toNat, z.2.toNat)
      rw [show three (inBar a (barI a z.1.toNat).id) (inBar b (barI b z.2.toNat).id) [] = tog a b (z.1.toNat, z.2.toNat) from rfl] at tg
      generalize tog a b (z.1.toNat, z.2.toNat) = tq at *
      generalize flA a b (np (x.pairs.take k)) = p1 at *
      clear hall hfst
      repeat' (first | refine AOps.q rfl rfl rfl (fun hg => by first | exact std0 | exact std1) (by exact rfl) ?_ | refine AWP.seq ?_ | refine AWP.regionK (fun K' hK => ?_) | (refine AOps.nil (hK _ _ ?_); clear hK K') | (refine AWP.condW rfl True.intro (fun hc => ?_) (fun hc => ?_) <;> (first | (simp only [dEt] at hc) | (simp only [dEf, iNl, iNe] at hc) | skip)) | refine AWP.block ?_ | refine AWP.exit ?_ | refine AWP.skip ?_)
      all_goals (first | (exfalso; omega) | (exfalso; simp at hc; done) | (exfalso; simp at hc; omega) | (exfalso; simp only [dEf, dEt] at hc; omega) | (rename_i h0; exfalso; simp at h0; done) | (rename_i h0; exfalso; simp at h0; omega) | skip)
      refine AWP.drawYM effOp (fun j => match j with | 0 => [.var (encS a), .var (encS b), .var (encA x), .own 2 (p1.map encPr).length] | _ => [.var (encS a), .var (encS b), .var (encA x), .own 2 (p1.map encPr ++ tq.map encPr).length]) rfl (by kernel_rfl) (by decide +kernel) rfl (by decide +kernel) (fun K' hK => ?_)
      repeat' (first
        | refine YQ.q (a := 0) (b := 0) rfl (by decide +kernel) (by decide +kernel) rfl rfl rfl (fun k h1 h2 hg => by (have hk : k = 0 := (by omega)); (rcases hk with rfl) <;> (first | exact PRun.eq (v := .int z.2) (PRun.step tabOk rfl sd) n2 | exact PRun.eq (v := .int z.1) (PRun.step tabOk rfl sd) n1 | exact iX encPr x.pairs ((k : Nat) : Int) hz (hb := by omega) | exact std0 | exact PRun.callW (i1) rfl rfl nd rfl nds | exact PRun.callW (i2) rfl rfl nd rfl nds | exact PRun.callW (tg) rfl rfl nd rfl nds | exact std1)) (by exact rfl) ?_
        | refine YQ.q (a := 0) (b := 1) rfl (by decide +kernel) (by decide +kernel) rfl rfl rfl (fun k h1 h2 hg => by (have hk : k = 0 ∨ k = 1 := (by omega)); (rcases hk with rfl | rfl) <;> (first | exact PRun.eq (v := .int z.2) (PRun.step tabOk rfl sd) n2 | exact PRun.eq (v := .int z.1) (PRun.step tabOk rfl sd) n1 | exact iX encPr x.pairs ((k : Nat) : Int) hz (hb := by omega) | exact std0 | exact PRun.callW (i1) rfl rfl nd rfl nds | exact PRun.callW (i2) rfl rfl nd rfl nds | exact PRun.callW (tg) rfl rfl nd rfl nds | exact std1)) (by exact rfl) ?_
        | refine YQ.q (a := 1) (b := 1) rfl (by decide +kernel) (by decide +kernel) rfl rfl rfl (fun k h1 h2 hg => by (have hk : k = 1 := (by omega)); (rcases hk with rfl) <;> (first | exact PRun.eq (v := .int z.2) (PRun.step tabOk rfl sd) n2 | exact PRun.eq (v := .int z.1) (PRun.step tabOk rfl sd) n1 | exact iX encPr x.pairs ((k : Nat) : Int) hz (hb := by omega) | exact std0 | exact PRun.callW (i1) rfl rfl nd rfl nds | exact PRun.callW (i2) rfl rfl nd rfl nds | exact PRun.callW (tg) rfl rfl nd rfl nds | exact std1)) (by exact rfl) ?_
        | refine YQ.q (a := 0) (b := 2) rfl (by decide +kernel) (by decide +kernel) rfl rfl rfl (fun k h1 h2 hg => by (have hk : k = 0 ∨ k = 1 ∨ k = 2 := (by omega)); (rcases hk with rfl | rfl | rfl) <;> (first | exact PRun.eq (v := .int z.2) (PRun.step tabOk rfl sd) n2 | exact PRun.eq (v := .int z.1) (PRun.step tabOk rfl sd) n1 | exact iX encPr x.pairs ((k : Nat) : Int) hz (hb := by omega) | exact std0 | exact PRun.callW (i1) rfl rfl nd rfl nds | exact PRun.callW (i2) rfl rfl nd rfl nds | exact PRun.callW (tg) rfl rfl nd rfl nds | exact std1)) (by exact rfl) ?_
        | refine YQ.q (a := 1) (b := 2) rfl (by decide +kernel) (by decide +kernel) rfl rfl rfl (fun k h1 h2 hg => by (have hk : k = 1 ∨ k = 2 := (by omega)); (rcases hk with rfl | rfl) <;> (first | exact PRun.eq (v := .int z.2) (PRun.step tabOk rfl sd) n2 | exact PRun.eq (v := .int z.1) (PRun.step tabOk rfl sd) n1 | exact iX encPr x.pairs ((k : Nat) : Int) hz (hb := by omega) | exact std0 | exact PRun.callW (i1) rfl rfl nd rfl nds | exact PRun.callW (i2) rfl rfl nd rfl nds | exact PRun.callW (tg) rfl rfl nd rfl nds | exact std1)) (by exact rfl) ?_
        | refine YQ.q (a := 2) (b := 2) rfl (by decide +kernel) (by decide +kernel) rfl rfl rfl (fun k h1 h2 hg => by (have hk : k = 2 := (by omega)); (rcases hk with rfl) <;> (first | exact PRun.eq (v := .int z.2) (PRun.step tabOk rfl sd) n2 | exact PRun.eq (v := .int z.1) (PRun.step tabOk rfl sd) n1 | exact iX encPr x.pairs ((k : Nat) : Int) hz (hb := by omega) | exact std0 | exact PRun.callW (i1) rfl rfl nd rfl nds | exact PRun.callW (i2) rfl rfl nd rfl nds | exact PRun.callW (tg) rfl rfl nd rfl nds | exact std1)) (by exact rfl) ?_)
      refine YQ.e (v := .sl 2 (p1.map encPr ++ tq.map encPr) (.own 3)) (d := some 54) rfl rfl rfl ?_ ?_
      · intro env' he
        exact EStep.appendOwn' (l := 3) tabOk rfl rfl rfl (by decide) (Rd.w ((rdv_congr (he 36 (by decide +kernel))).trans rfl) (by rw [rdn_congr (he 36 (by decide +kernel))]; first | exact True.intro | exact rfl)) rfl (Rd.w ((rdv_congr (he 53 (by decide +kernel))).trans rfl) (by rw [rdn_congr (he 53 (by decide +kernel))]; first | exact True.intro | exact rfl)) (.sl rfl (one_encPr _)) (LOk.of (tabOk.get rfl)) (LOk.of (tabOk.get rfl)) rfl rfl (by simp only [List.length_map, List.length_append, List.length_cons, List.length_nil]; omega) (by simp only [List.length_map, List.length_append, List.length_cons, List.length_nil]; omega) ⟨rfl, rfl⟩
      repeat' (first
        | refine YQ.q (a := 0) (b := 0) rfl (by decide +kernel) (by decide +kernel) rfl rfl rfl (fun k h1 h2 hg => by (have hk : k = 0 := (by omega)); (rcases hk with rfl) <;> (first | exact std0 | exact std1)) (by exact rfl) ?_
        | refine YQ.q (a := 0) (b := 1) rfl (by decide +kernel) (by decide +kernel) rfl rfl rfl (fun k h1 h2 hg => by (have hk : k = 0 ∨ k = 1 := (by omega)); (rcases hk with rfl | rfl) <;> (first | exact std0 | exact std1)) (by exact rfl) ?_
        | refine YQ.q (a := 1) (b := 1) rfl (by decide +kernel) (by decide +kernel) rfl rfl rfl (fun k h1 h2 hg => by (have hk : k = 1 := (by omega)); (rcases hk with rfl) <;> (first | exact std0 | exact std1)) (by exact rfl) ?_
        | refine YQ.q (a := 0) (b := 2) rfl (by decide +kernel) (by decide +kernel) rfl rfl rfl (fun k h1 h2 hg => by (have hk : k = 0 ∨ k = 1 ∨ k = 2 := (by omega)); (rcases hk with rfl | rfl | rfl) <;> (first | exact std0 | exact std1)) (by exact rfl) ?_
        | refine YQ.q (a := 1) (b := 2) rfl (by decide +kernel) (by decide +kernel) rfl rfl rfl (fun k h1 h2 hg => by (have hk : k = 1 ∨ k = 2 := (by omega)); (rcases hk with rfl | rfl) <;> (first | exact std0 | exact std1)) (by exact rfl) ?_
        | refine YQ.q (a := 2) (b := 2) rfl (by decide +kernel) (by decide +kernel) rfl rfl rfl (fun k h1 h2 hg => by (have hk : k = 2 := (by omega)); (rcases hk with rfl) <;> (first | exact std0 | exact std1)) (by exact rfl) ?_)
      refine YQ.nil (hK _ _ ?_)
      clear hK K'
      show AWP _ _ _ _ _ [.var (encS a), .var (encS b), .var (encA x), .own 2 (p1.map encPr ++ tq.map encPr).length]
      repeat' (first | refine AOps.q rfl rfl rfl (fun hg => by exact std0) (by exact rfl) ?_ | refine AWP.regionK (fun K' hK => ?_) | (refine AOps.nil (hK _ _ ?_); clear hK K'))
      all_goals (first | (exfalso; omega) | (exfalso; simp at hc; done) | (exfalso; simp at hc; omega) | (exfalso; simp only [dEf, dEt] at hc; omega) | (rename_i h0; exfalso; simp at h0; done) | (rename_i h0; exfalso; simp at h0; omega) | skip)
      exact ⟨k + 1, hlt, by omega, ⟨rfl, rfl, rfl, (by rw [ht, List.map_append]; rfl), rfl, True.intro⟩, (by rw [ht, List.map_append]; rfl)⟩
    · obtain rfl : k = x.pairs.length := by omega
      rw [List.take_length] at *
      rw [hall] at *
      have hN : notesM a b (np x.pairs) = outF (pairsM a b (np x.pairs) []) a.notes := (outM_flat hfst).symm
      rw [hN]
      generalize pairsM a b (np x.pairs) [] = p1 at *
      clear hps hall
      repeat' (first | refine AOps.q rfl rfl rfl (fun hg => by first | exact std0 | exact std1) (by exact rfl) ?_ | refine AWP.seq ?_ | refine AWP.regionK (fun K' hK => ?_) | (refine AOps.nil (hK _ _ ?_); clear hK K') | (refine AWP.condW rfl True.intro (fun hc => ?_) (fun hc => ?_) <;> (first | (simp only [dEt] at hc) | (simp only [dEf, iNl, iNe] at hc) | skip)) | refine AWP.block ?_ | refine AWP.exit ?_ | refine AWP.skip ?_)
      all_goals (first | (exfalso; omega) | (exfalso; simp at hc; done) | (exfalso; simp at hc; omega) | (exfalso; simp only [dEf, dEt] at hc; omega) | (rename_i h0; exfalso; simp at h0; done) | (rename_i h0; exfalso; simp at h0; omega) | skip)
      refine AWP.ownNil (d := 10) (sz := 2) rfl ?_
      skip
      refine AWP.loopD (ι := Nat) (fun i => [(3, .ptr 0 0), (8, .sl 2 (p1.map encPr) (.own 3)), (10, .sl 2 ((outF p1 (a.notes.take i)).map encPr) (.own 4)), (11, .int i)]) (fun i => [.var (encS a), .var (encS b), .var (encA x), .own 2 (p1.map encPr).length, .own 2 ((outF p1 (a.notes.take i)).map encPr).length])
        (fun i => i ≤ a.notes.length) (fun i => a.notes.length - i) 5 (fun _ => rfl) 0 (Nat.zero_le _) ⟨rfl, rfl, rfl, rfl, True.intro⟩ rfl (fun _ _ => rfl) (fun _ _ => rfl) ?_
      intro i hi
      have hl4 := outF_len p1 (a.notes.take i)
      have hl5 : (a.notes.take i).length * p1.length ≤ 60 * 7200 := Nat.mul_le_mul (by rw [List.length_take]; omega) (by omega)
      by_cases hlt : i < a.notes.length
      · obtain ⟨n, hn⟩ : ∃ n, a.notes.getD i default = n := ⟨_, rfl⟩
        have ho := outF_take p1 hlt hn
        generalize outF p1 (a.notes.take i) = p2 at *
        repeat' (first | refine AOps.q rfl rfl rfl (fun hg => by first | exact std0 | exact std1) (by exact rfl) ?_ | refine AWP.seq ?_ | refine AWP.regionK (fun K' hK => ?_) | (refine AOps.nil (hK _ _ ?_); clear hK K') | (refine AWP.condW rfl True.intro (fun hc => ?_) (fun hc => ?_) <;> (first | (simp only [dEt] at hc) | (simp only [dEf, iNl, iNe] at hc) | skip)) | refine AWP.block ?_ | refine AWP.exit ?_ | refine AWP.skip ?_ | refine AWP.ret ?_)
        all_goals (first | (exfalso; omega) | (exfalso; simp at hc; done) | (exfalso; simp at hc; omega) | (exfalso; simp only [dEf, dEt] at hc; omega) | (rename_i h0; exfalso; simp at h0; done) | (rename_i h0; exfalso; simp at h0; omega) | skip)
        refine AWP.loopD (ι := Nat) (fun k => [(3, .ptr 0 0), (8, .sl 2 (p1.map encPr) (.own 3)), (10, .sl 2 ((p2 ++ (p1.take k).filter (fun p => p.1 == n.id)).map encPr) (.own 4)), (11, .int i), (12, .int k)]) (fun k => [.var (encS a), .var (encS b), .var (encA x), .own 2 (p1.map encPr).length, .own 2 ((p2 ++ (p1.take k).filter (fun p => p.1 == n.id)).map encPr).length])
          (fun k => k ≤ p1.length) (fun k => p1.length - k) 5 (fun _ => rfl) 0 (Nat.zero_le _) ⟨rfl, rfl, (by rw [List.take_zero, List.filter_nil, List.append_nil]; rfl), rfl, rfl, True.intro⟩ (by show _ = [_, _, _, _, AObj.own 2 ((p2 ++ []).map encPr).length]; rw [List.append_nil]) (fun _ _ => rfl) (fun _ _ => rfl) ?_
        intro k hk
        have hl6 := List.length_filter_le (fun p : Int × Int => p.1 == n.id) (p1.take k)
        rw [List.length_take] at hl6
        by_cases hlk : k < p1.length
        · obtain ⟨z, hz⟩ : ∃ z, p1.getD k default = z := ⟨_, rfl⟩
          have fy := filt_yes (id := n.id) hlk hz
          have fn := filt_no (id := n.id) hlk hz
          have hl7 : (p2 ++ (p1.take k).filter (fun p => p.1 == n.id)).length ≤ 1000000 := by rw [List.length_append]; omega
          have ey : (z.1 == n.id) = true → p2 ++ (p1.take (k + 1)).filter (fun p => p.1 == n.id) = (p2 ++ (p1.take k).filter (fun p => p.1 == n.id)) ++ [z] := fun e => by rw [fy e, List.append_assoc]
          have en : (z.1 == n.id) = false → p2 ++ (p1.take (k + 1)).filter (fun p => p.1 == n.id) = p2 ++ (p1.take k).filter (fun p => p.1 == n.id) := fun e => by rw [fn e]
          generalize p2 ++ (p1.take k).filter (fun p => p.1 == n.id) = p3 at *
          repeat' (first | refine AOps.q rfl rfl rfl (fun hg => by first | exact iX encPr p1 ((k : Nat) : Int) hz (hb := by omega) | exact std0 | exact PRun.buildSlW tabOk rfl rfl nds | exact std1) (by exact rfl) ?_ | refine AWP.seq ?_ | refine AWP.regionK (fun K' hK => ?_) | (refine AOps.nil (hK _ _ ?_); clear hK K') | refine AOps.e (EStep.appendOwn' tabOk rfl rfl rfl (by decide) (Rd.w rfl True.intro) rfl (Rd.w rfl True.intro) (.sl rfl (by first | (intro x hx; rcases List.mem_singleton.1 hx with rfl; rfl) | exact one_encPr [z])) (LOk.of (tabOk.get rfl)) (LOk.of (tabOk.get rfl)) rfl rfl (by simp only [List.length_map, List.length_append, List.length_cons, List.length_nil, List.length_take, List.length_drop]; omega) (by simp only [List.length_map, List.length_append, List.length_cons, List.length_nil, List.length_take, List.length_drop]; omega) ?_) | (refine AWP.condW rfl True.intro (fun hc => ?_) (fun hc => ?_) <;> (first | (simp only [dEt] at hc) | (simp only [dEf, iNl, iNe] at hc) | skip)) | refine AWP.block ?_ | refine AWP.exit ?_ | refine AWP.skip ?_ | refine AWP.drawK2 (by decide +kernel) (by kernel_rfl) (by decide +kernel) rfl (fun K' hK => ?_) | (refine AQ.nil (hK _ ?_); clear hK K') | refine AQ.q rfl rfl (fun hg => by first | exact iX encN a.notes ((i : Nat) : Int) hn (hb := by omega) | exact iX encPr p1 ((k : Nat) : Int) hz (hb := by omega) | exact std0) (by exact rfl) ?_)
          all_goals (first | (exfalso; omega) | (exfalso; simp at hc; done) | (exfalso; simp at hc; omega) | (exfalso; simp only [dEf, dEt] at hc; omega) | (rename_i h0; exfalso; simp at h0; done) | (rename_i h0; exfalso; simp at h0; omega) | skip)
          · have e := ey (by simp only [Int.toNat_natCast, Bool.or_eq_true, Bool.and_eq_true, Bool.or_eq_false_iff, Bool.and_eq_false_iff, dEt, dEf, Bool.not_eq_true', Bool.not_eq_false', beq_iff_eq, beq_eq_false_iff_ne, bne_iff_ne, bne_eq_false_iff_eq, gt_iff_lt, ge_iff_le, ne_eq] at hc; simpa using hc)
            exact ⟨k + 1, hlk, by omega, ⟨rfl, rfl, (by rw [e, List.map_append]; rfl), rfl, rfl, True.intro⟩, (by rw [e, List.map_append]; rfl)⟩
          · have e := en (by simp only [Int.toNat_natCast, Bool.or_eq_true, Bool.and_eq_true, Bool.or_eq_false_iff, Bool.and_eq_false_iff, dEt, dEf, Bool.not_eq_true', Bool.not_eq_false', beq_iff_eq, beq_eq_false_iff_ne, bne_iff_ne, bne_eq_false_iff_eq, gt_iff_lt, ge_iff_le, ne_eq] at hc; simpa using hc)
            exact ⟨k + 1, hlk, by omega, ⟨rfl, rfl, (by rw [e]; rfl), rfl, rfl, True.intro⟩, (by rw [e]; rfl)⟩
        · obtain rfl : k = p1.length := by omega
          rw [List.take_length] at *
          repeat' (first | refine AOps.q rfl rfl rfl (fun hg => by first | exact std0 | exact std1) (by exact rfl) ?_ | refine AWP.seq ?_ | refine AWP.regionK (fun K' hK => ?_) | (refine AOps.nil (hK _ _ ?_); clear hK K') | (refine AWP.condW rfl True.intro (fun hc => ?_) (fun hc => ?_) <;> (first | (simp only [dEt] at hc) | (simp only [dEf, iNl, iNe] at hc) | skip)) | refine AWP.block ?_ | refine AWP.exit ?_ | refine AWP.skip ?_ | refine AWP.drawK2 (by decide +kernel) (by kernel_rfl) (by decide +kernel) rfl (fun K' hK => ?_) | (refine AQ.nil (hK _ ?_); clear hK K') | refine AQ.q rfl rfl (fun hg => by first | exact std0 | exact std1) (by exact rfl) ?_)
          all_goals (first | (exfalso; omega) | (exfalso; simp at hc; done) | (exfalso; simp at hc; omega) | (exfalso; simp only [dEf, dEt] at hc; omega) | (rename_i h0; exfalso; simp at h0; done) | (rename_i h0; exfalso; simp at h0; omega) | skip)
          exact ⟨i + 1, hlt, by omega, ⟨rfl, rfl, (by rw [ho]; rfl), rfl, True.intro⟩, (by rw [ho]; rfl)⟩
      · obtain rfl : i = a.notes.length := by omega
        rw [List.take_length] at *
        repeat' (first | refine AOps.q rfl rfl rfl (fun hg => by first | exact std0 | exact std1) (by exact rfl) ?_ | refine AWP.seq ?_ | refine AWP.regionK (fun K' hK => ?_) | (refine AOps.nil (hK _ _ ?_); clear hK K') | (refine AWP.condW rfl True.intro (fun hc => ?_) (fun hc => ?_) <;> (first | (simp only [dEt] at hc) | (simp only [dEf, iNl, iNe] at hc) | skip)) | refine AWP.block ?_ | refine AWP.exit ?_ | refine AWP.skip ?_ | refine AWP.ret ?_)
        all_goals (first | (exfalso; omega) | (exfalso; simp at hc; done) | (exfalso; simp at hc; omega) | (exfalso; simp only [dEf, dEt] at hc; omega) | (rename_i h0; exfalso; simp at h0; done) | (rename_i h0; exfalso; simp at h0; omega) | skip)
        exact ⟨.inr rfl, Ent.of rfl⟩
  · have hR : notesR a b x = ([], 1) := if_neg hok
    rw [hR]
    generalize scoreOk a = s1 at *
    generalize scoreOk b = s2 at *
    generalize pOk a.bars.length b.bars.length (-1) (-1) x.pairs = s3 at *
    repeat' (first | refine AOps.q rfl rfl rfl (fun hg => by first | exact std0 | exact PRun.callW (v1) rfl rfl nd rfl nds | exact PRun.callW (v2) rfl rfl nd rfl nds | exact PRun.callW (v3) rfl rfl nd rfl nds) (by exact rfl) ?_ | refine AWP.seq ?_ | refine AWP.regionK (fun K' hK => ?_) | (refine AOps.nil (hK _ _ ?_); clear hK K') | refine AOps.e (EStep.boxW rfl rfl rfl rfl rfl True.intro rfl rfl ?_) | (refine AWP.condW rfl True.intro (fun hc => ?_) (fun hc => ?_) <;> (first | (simp only [dEt] at hc) | (simp only [dEf, iNl, iNe] at hc) | skip)) | refine AWP.block ?_ | refine AWP.skip ?_ | refine AWP.ret ?_)
    all_goals (first | (exact ⟨.inr rfl, Ent.tup2 Ent.nil (Ent.rfl' _)⟩) | (exfalso; cases s1 <;> cases s2 <;> cases s3 <;> simp at hc <;> exact hok rfl) | (rename_i h0; exfalso; cases s1 <;> cases s2 <;> cases s3 <;> simp at h0 <;> exact hok rfl))
set_option maxHeartbeats 16000000 in
set_option maxRecDepth 20000 in
theorem rSame_spec (x : Algn) (hx : x.Sized) : PCall Tryz.prog 21 [.agg (encA x), .agg (encA x)] (.b true) := by
  obtain ⟨q1, q2, q3⟩ := hx
  have v := samePairs_spec x.pairs x.pairs q1 q1
  rw [beq_self_eq_true] at v
  refine PCall.body Tryz.func21 rfl rfl Tryz.ntmps21 rfl rfl ?_
  repeat' (first | refine AOps.q rfl rfl rfl (fun hg => by first | exact std0 | exact PRun.callW (v) rfl rfl nd rfl nds | exact std1) (by exact rfl) ?_ | refine AWP.seq ?_ | refine AWP.regionK (fun K' hK => ?_) | (refine AOps.nil (hK _ _ ?_); clear hK K') | refine AOps.e (EStep.boxW rfl rfl rfl rfl rfl True.intro rfl rfl ?_) | (refine AWP.condW rfl True.intro (fun hc => ?_) (fun hc => ?_) <;> (first | (simp only [dEt] at hc) | (simp only [dEf, iNl, iNe] at hc) | skip)) | refine AWP.block ?_ | refine AWP.skip ?_ | refine AWP.ret ?_)
  all_goals (first | (exfalso; omega) | (exfalso; simp at hc; done) | (exfalso; simp at hc; omega) | (exfalso; simp only [dEf, dEt] at hc; omega) | (rename_i h0; exfalso; simp at h0; done) | (rename_i h0; exfalso; simp at h0; omega) | skip)
  refine AWP.loopD (ι := Nat) (fun i => [(2, .ptr 0 0), (3, .ptr 1 0), (5, .int i)]) (fun _ => [.var (encA x), .var (encA x)]) (fun i => i ≤ x.table.length) (fun i => x.table.length - i) 2 (fun _ => rfl) 0 (Nat.zero_le _) ⟨rfl, rfl, rfl, True.intro⟩ rfl (fun _ _ => rfl) (fun _ _ => rfl) ?_
  intro i hi
  by_cases hlt : i < x.table.length
  · obtain ⟨r, hr⟩ : ∃ r, x.table.getD i default = r := ⟨_, rfl⟩
    have hrl : r.length ≤ 9223372036854775807 := by rw [← hr, getD_lt hlt]; exact q3 _ (List.getElem_mem hlt)
    repeat' (first | refine AOps.q rfl rfl rfl (fun hg => by first | exact std0 | exact std1) (by exact rfl) ?_ | refine AWP.seq ?_ | refine AWP.regionK (fun K' hK => ?_) | (refine AOps.nil (hK _ _ ?_); clear hK K') | (refine AWP.condW rfl True.intro (fun hc => ?_) (fun hc => ?_) <;> (first | (simp only [dEt] at hc) | (simp only [dEf, iNl, iNe] at hc) | skip)) | refine AWP.block ?_ | refine AWP.exit ?_ | refine AWP.skip ?_ | refine AWP.ret ?_ | refine AWP.drawK2 (by decide +kernel) (by kernel_rfl) (by decide +kernel) rfl (fun K' hK => ?_) | (refine AQ.nil (hK _ ?_); clear hK K') | refine AQ.q rfl rfl (fun hg => by first | exact iX encRow x.table ((i : Nat) : Int) hr (hb := by omega) | exact std0 | exact std1) (by exact rfl) ?_)
    all_goals (first | (exfalso; omega) | (exfalso; simp at hc; done) | (exfalso; simp at hc; omega) | (exfalso; simp only [dEf, dEt] at hc; omega) | (rename_i h0; exfalso; simp at h0; done) | (rename_i h0; exfalso; simp at h0; omega) | skip)
    refine AWP.loopD (ι := Nat) (fun k => [(2, .ptr 0 0), (3, .ptr 1 0), (5, .int i), (6, .int k)]) (fun _ => [.var (encA x), .var (encA x)]) (fun k => k ≤ r.length) (fun k => r.length - k) 2 (fun _ => rfl) 0 (Nat.zero_le _) ⟨rfl, rfl, rfl, rfl, True.intro⟩ rfl (fun _ _ => rfl) (fun _ _ => rfl) ?_
    intro k hk
    by_cases hlk : k < r.length
    · obtain ⟨v, hv⟩ : ∃ v, r.getD k default = v := ⟨_, rfl⟩
      repeat' (first | refine AOps.q rfl rfl rfl (fun hg => by first | exact iX encRow x.table ((i : Nat) : Int) hr (hb := by omega) | exact std0 | exact std1) (by exact rfl) ?_ | refine AWP.seq ?_ | refine AWP.regionK (fun K' hK => ?_) | (refine AOps.nil (hK _ _ ?_); clear hK K') | (refine AWP.condW rfl True.intro (fun hc => ?_) (fun hc => ?_) <;> (first | (simp only [dEt] at hc) | (simp only [dEf, iNl, iNe] at hc) | skip)) | refine AWP.block ?_ | refine AWP.exit ?_ | refine AWP.skip ?_ | refine AWP.ret ?_ | refine AWP.drawK2 (by decide +kernel) (by kernel_rfl) (by decide +kernel) rfl (fun K' hK => ?_) | (refine AQ.nil (hK _ ?_); clear hK K') | refine AQ.q rfl rfl (fun hg => by first | exact iX encI r ((k : Nat) : Int) hv (hb := by omega) | exact iX encRow x.table ((i : Nat) : Int) hr (hb := by omega) | exact std0) (by exact rfl) ?_)
      all_goals (first | (exfalso; omega) | (exfalso; simp at hc; done) | (exfalso; simp at hc; omega) | (exfalso; simp only [dEf, dEt] at hc; omega) | (rename_i h0; exfalso; simp at h0; done) | (rename_i h0; exfalso; simp at h0; omega) | skip)
      exact ⟨k + 1, hlk, by omega, ⟨rfl, rfl, rfl, rfl, True.intro⟩, rfl⟩
    · repeat' (first | refine AOps.q rfl rfl rfl (fun hg => by first | exact iX encRow x.table ((i : Nat) : Int) hr (hb := by omega) | exact std0 | exact std1) (by exact rfl) ?_ | refine AWP.seq ?_ | refine AWP.regionK (fun K' hK => ?_) | (refine AOps.nil (hK _ _ ?_); clear hK K') | (refine AWP.condW rfl True.intro (fun hc => ?_) (fun hc => ?_) <;> (first | (simp only [dEt] at hc) | (simp only [dEf, iNl, iNe] at hc) | skip)) | refine AWP.block ?_ | refine AWP.exit ?_ | refine AWP.skip ?_ | refine AWP.ret ?_ | refine AWP.drawK2 (by decide +kernel) (by kernel_rfl) (by decide +kernel) rfl (fun K' hK => ?_) | (refine AQ.nil (hK _ ?_); clear hK K') | refine AQ.q rfl rfl (fun hg => by first | exact iX encRow x.table ((i : Nat) : Int) hr (hb := by omega) | exact std0 | exact std1) (by exact rfl) ?_)
      all_goals (first | (exfalso; omega) | (exfalso; simp at hc; done) | (exfalso; simp at hc; omega) | (exfalso; simp only [dEf, dEt] at hc; omega) | (rename_i h0; exfalso; simp at h0; done) | (rename_i h0; exfalso; simp at h0; omega) | skip)
      exact ⟨i + 1, hlt, by omega, ⟨rfl, rfl, rfl, True.intro⟩, rfl⟩
  · repeat' (first | refine AOps.q rfl rfl rfl (fun hg => by first | exact std0 | exact std1) (by exact rfl) ?_ | refine AWP.seq ?_ | refine AWP.regionK (fun K' hK => ?_) | (refine AOps.nil (hK _ _ ?_); clear hK K') | (refine AWP.condW rfl True.intro (fun hc => ?_) (fun hc => ?_) <;> (first | (simp only [dEt] at hc) | (simp only [dEf, iNl, iNe] at hc) | skip)) | refine AWP.block ?_ | refine AWP.exit ?_ | refine AWP.skip ?_ | refine AWP.ret ?_ | refine AWP.drawK2 (by decide +kernel) (by kernel_rfl) (by decide +kernel) rfl (fun K' hK => ?_) | (refine AQ.nil (hK _ ?_); clear hK K') | refine AQ.q rfl rfl (fun hg => by first | exact std0 | exact std1) (by exact rfl) ?_)
    all_goals (first | (exfalso; omega) | (exfalso; simp at hc; done) | (exfalso; simp at hc; omega) | (exfalso; simp only [dEf, dEt] at hc; omega) | (rename_i h0; exfalso; simp at h0; done) | (rename_i h0; exfalso; simp at h0; omega) | skip)
    exact ⟨.inr rfl, Ent.b rfl⟩
end Go.Proofs.YtekfpcgagoidcaaGreatDoor.Al


namespace Go.Proofs.YtekfpcgagoidcaaGreatDoor.Al
open Go.Ab Go.Sort
attribute [local irreducible] AWP AOps EStep AQ PStep PRun PCall TCall VCall
theorem barsR_sized {a b : Score} (ha : a.Small) (hb : b.Small) : (barsR a b).1.Sized := by
  have ha1 := ha.1
  have hb1 := hb.1
  have hno : noA.Sized := ⟨Nat.zero_le _, Nat.zero_le _, fun r hr => by cases hr⟩
  unfold barsR
  split
  · split
    · exact hno
    · have h1 := alignR_len (costR a b) a.bars.length b.bars.length
      refine ⟨by show (alignR _ _ _).length ≤ _; omega, by show (tableL _ _ _).length ≤ _; rw [tableL_len]; omega, fun r hr => ?_⟩
      obtain ⟨i, _, rfl⟩ := List.mem_map.1 (show r ∈ tableL (costR a b) (a.bars.length + 1) (b.bars.length + 1) from hr)
      rw [rowL_len]; omega
  · exact hno
theorem notesR_len (a b : Score) (x : Algn) : (notesR a b x).1.length ≤ a.notes.length := by
  unfold notesR
  split
  · exact outL_len _ _
  · exact Nat.zero_le _
set_option maxHeartbeats 16000000 in
set_option maxRecDepth 20000 in
theorem amatches_law (a : Score) (ha : a.Sized) (b : Score) (hb : b.Sized) (i k : Int) (x : Algn) (hx : x.Sized) :
    PCall Tryz.prog 3 [.agg (encS a), .agg (encS b), .int i, .int k, .agg (encA x)] (.b true) := by
  have hh := head12_spec
  have hf := few2_spec a b ha hb
  have q1 := hx.pairs
  have q2 := hx.table
  by_cases hg : (few12 a && few12 b) = true ∧ x.pairs.length ≤ 40 ∧ x.table.length ≤ 40
  · obtain ⟨g1, g2, g3⟩ := hg
    rw [g1] at hf
    have hs : few12 a = true ∧ few12 b = true := by simpa using g1
    have sa := few12_small hs.1
    have sb := few12_small hs.2
    have na := few12_notes hs.1
    have nb := few12_notes hs.2
    have c1 := aCost_spec a b sa sb i k
    have c2 := rCost_spec a b sa sb i k
    have b1 := aBars_spec a b sa sb
    have b2 := rBars_spec a b sa sb
    have s1 := rSame_spec (barsR a b).1 (barsR_sized sa sb)
    have k1 := aCheck_spec a b sa sb x (by omega) q2
    have k2 := rCheck_spec a b sa sb x (by omega) q2
    have n1 := aNotes_spec a b sa sb x (by omega)
    have n2 := rNotes_spec a b sa sb na.2 nb.2 x g2
    have s2 := sameY (notesR a b x).1 (by have := notesR_len a b x; omega)
    generalize costI a b i k = y1 at *
    generalize barsR a b = y2 at *
    generalize checkR a b x = y3 at *
    generalize notesR a b x = y4 at *
    refine PCall.body Tryz.func3 rfl rfl Tryz.ntmps3 rfl rfl ?_
    repeat' (first | refine AOps.q rfl rfl rfl (fun hg => by first | exact std0 | exact PRun.callW (hh) rfl rfl nd rfl nds | exact PRun.callW (hf) rfl rfl nd rfl nds | exact PRun.callW (c1) rfl rfl nd rfl nds | exact PRun.callW (c2) rfl rfl nd rfl nds | exact PRun.callW (b1) rfl rfl nd rfl nds | exact PRun.callW (b2) rfl rfl nd rfl nds | exact PRun.callW (s1) rfl rfl nd rfl nds | exact PRun.callW (k1) rfl rfl nd rfl nds | exact PRun.callW (k2) rfl rfl nd rfl nds | exact PRun.callW (n1) rfl rfl nd rfl nds | exact PRun.callW (n2) rfl rfl nd rfl nds | exact PRun.callW (s2) rfl rfl nd rfl nds | exact std1) (by exact rfl) ?_ | refine AWP.seq ?_ | refine AWP.regionK (fun K' hK => ?_) | (refine AOps.nil (hK _ _ ?_); clear hK K') | refine AOps.e (EStep.boxW rfl rfl rfl rfl rfl True.intro rfl rfl ?_) | refine AOps.e (EStep.storeW tabOk rfl rfl rfl True.intro rfl rfl True.intro rfl rfl rfl rfl rfl rfl rfl ?_) | refine AOps.e (EStep.allocW tabOk rfl rfl rfl rfl rfl rfl ?_) | (refine AWP.condW rfl True.intro (fun hc => ?_) (fun hc => ?_) <;> (first | (simp only [dEt] at hc) | (simp only [dEf, iNl, iNe] at hc) | skip)) | refine AWP.skip ?_ | refine AWP.ret ?_)
    · exfalso; simp at hc; omega
    exact ⟨.inr rfl, Ent.b (by simp)⟩
  · cases g1 : (few12 a && few12 b) with
    | false =>
      rw [g1] at hf
      refine PCall.body Tryz.func3 rfl rfl Tryz.ntmps3 rfl rfl ?_
      repeat' (first | refine AOps.q rfl rfl rfl (fun hg => by first | exact std0 | exact PRun.callW (hh) rfl rfl nd rfl nds | exact PRun.callW (hf) rfl rfl nd rfl nds | exact (Bool.noConfusion (show false = true from hg) : PRun _ _ _ _ (.b false)) | fail) (by exact rfl) ?_ | refine AWP.seq ?_ | refine AWP.regionK (fun K' hK => ?_) | (refine AOps.nil (hK _ _ ?_); clear hK K') | refine AOps.e (EStep.boxW rfl rfl rfl rfl rfl True.intro rfl rfl ?_) | (refine AWP.condW rfl True.intro (fun hc => ?_) (fun hc => ?_) <;> (first | (simp only [dEt] at hc) | (simp only [dEf, iNl, iNe] at hc) | skip)) | refine AWP.skip ?_ | refine AWP.ret ?_)
      · exact ⟨.inr rfl, Ent.b rfl⟩
      all_goals (exfalso; simp at hc)
    | true =>
      rw [g1] at hf
      refine PCall.body Tryz.func3 rfl rfl Tryz.ntmps3 rfl rfl ?_
      repeat' (first | refine AOps.q rfl rfl rfl (fun hg => by first | exact std0 | exact PRun.callW (hh) rfl rfl nd rfl nds | exact PRun.callW (hf) rfl rfl nd rfl nds | exact std1) (by exact rfl) ?_ | refine AWP.seq ?_ | refine AWP.regionK (fun K' hK => ?_) | (refine AOps.nil (hK _ _ ?_); clear hK K') | refine AOps.e (EStep.boxW rfl rfl rfl rfl rfl True.intro rfl rfl ?_) | (refine AWP.condW rfl True.intro (fun hc => ?_) (fun hc => ?_) <;> (first | (simp only [dEt] at hc) | (simp only [dEf, iNl, iNe] at hc) | skip)) | refine AWP.skip ?_ | refine AWP.ret ?_)
      · exact ⟨.inr rfl, Ent.b rfl⟩
      all_goals (exfalso; apply hg; simp at hc; exact ⟨g1, by omega, by omega⟩)
end Go.Proofs.YtekfpcgagoidcaaGreatDoor.Al

