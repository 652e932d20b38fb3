/- Contracts by content: score.played, an iterator. No statement is proved here. -/
import Derived.Test.YtnmdmmfdnnmdfaaGreatDoorCQ
set_option linter.unusedVariables false
set_option linter.unusedSimpArgs false
namespace Go.Proofs.YtnmdmmfdnnmdfaaGreatDoor
open Go.Ab
attribute [local irreducible] AWP AOps EStep AQ PStep PRun PCall TCall VCall

def playN (p : Part) (n : Note) : Note := { n with part := p.id, pitch := { n.pitch with oct := n.pitch.oct + p.octave } }
def srcOf (p : Part) : Int := if p.of_ == 0 then p.id else p.of_
/-- What a part plays. -/
def playedL (l : List Note) (p : Part) : List Note := (l.filter fun n => n.part == srcOf p).map (playN p)
theorem played_spec (s : Score) (p : Part) : PCall Tryz.prog 45 [.agg (encS s), .agg (encP p)] (.fn (.func 87) [] [.iptr (encS s), .iptr [.int (srcOf p)], .iptr (encP p)]) := by
  refine PCall.body Tryz.func45 rfl rfl Tryz.ntmps45 rfl rfl ?_
  repeat' (first | refine AOps.q rfl rfl rfl (fun hg => by first | exact std0 | exact std1) (by exact rfl) ?_ | refine AWP.seq ?_ | refine AWP.regionK (fun K' hK => ?_) | (refine AOps.nil (hK _ _ ?_); clear hK K') | refine AOps.e (EStep.boxW rfl rfl rfl rfl rfl True.intro rfl rfl ?_) | refine AOps.e (EStep.storeW tabOk rfl rfl rfl True.intro rfl rfl True.intro rfl rfl rfl rfl rfl rfl rfl ?_) | refine AOps.e (EStep.allocW tabOk rfl rfl rfl rfl rfl rfl ?_) | (refine AWP.condW rfl True.intro (fun hc => ?_) (fun hc => ?_) <;> (first | (simp only [decide_eq_true_eq] at hc) | (simp only [decide_eq_false_iff_not, Int.not_lt, Int.not_le] at hc) | skip)) | refine AWP.block ?_ | refine AWP.exit ?_ | refine AWP.skip ?_ | refine AWP.drawK2 (by decide +kernel) (by kernel_rfl) (by decide +kernel) rfl (fun K' hK => ?_) | refine AWP.drawL2 (by kernel_rfl) (by decide +kernel) rfl (fun K' hK => ?_) | (refine AQ.nil (hK _ ?_); clear hK K') | refine AQ.nil ?_ | refine AQ.q rfl rfl (fun hg => by first | exact std0 | exact std1) (by exact rfl) ?_)
  all_goals
    refine AWP.freezeV 0 rfl rfl ?_
    refine AWP.freezeV 1 rfl rfl ?_
    refine AWP.freezeV 2 rfl rfl ?_
  · refine AWP.ret ⟨.inr rfl, ?_⟩
    have e : srcOf p = p.id := if_pos hc
    rw [e]
    exact fun _ _ h => h
  · refine AWP.ret ⟨.inr rfl, ?_⟩
    have e : srcOf p = p.of_ := if_neg (by rw [hc]; decide)
    rw [e]
    exact fun _ _ h => h
theorem played_len (l : List Note) (p : Part) : (playedL l p).length ≤ l.length := by
  unfold playedL; rw [List.length_map]; exact List.length_filter_le _ _
theorem played_yes {l : List Note} {p : Part} {k : Nat} (h : k < l.length) (hp : ((l.getD k default).part == srcOf p) = true) :
    (playedL l p)[(playedL (l.take k) p).length]? = some (playN p (l.getD k default)) ∧ (playedL (l.take (k + 1)) p).length = (playedL (l.take k) p).length + 1 := by
  have e1 : l = l.take k ++ (l.getD k default :: l.drop (k + 1)) := by
    rw [getD_lt h, ← List.drop_eq_getElem_cons h, List.take_append_drop]
  have e2 : l.take (k + 1) = l.take k ++ [l.getD k default] := by
    rw [List.take_add_one, getD_lt h]; simp [h]
  constructor
  · have e3 : playedL l p = playedL (l.take k) p ++ (playN p (l.getD k default) :: playedL (l.drop (k + 1)) p) := by
      conv => lhs; rw [e1]
      unfold playedL
      rw [List.filter_append, List.filter_cons_of_pos (by exact hp), List.map_append, List.map_cons]
    rw [e3]; simp
  · rw [e2]; unfold playedL
    rw [List.filter_append, List.filter_cons_of_pos (by exact hp)]; simp
theorem played_no {l : List Note} {p : Part} {k : Nat} (h : k < l.length) (hp : ((l.getD k default).part == srcOf p) = false) : (playedL (l.take (k + 1)) p).length = (playedL (l.take k) p).length := by
  have e2 : l.take (k + 1) = l.take k ++ [l.getD k default] := by
    rw [List.take_add_one, getD_lt h]; simp [h]
  rw [e2]; unfold playedL
  rw [List.filter_append, List.filter_cons_of_neg (by rw [hp]; decide)]; simp
theorem bne_f {a b : Int} (h : (a != b) = false) : (a == b) = true := by simpa using h
theorem bne_t {a b : Int} (h : (a != b) = true) : (a == b) = false := by simpa using h
def octIn (l : List Note) : Prop := ∀ n ∈ l, -1000 ≤ n.pitch.oct ∧ n.pitch.oct ≤ 1000
theorem ex4 {σ : Store} (h : σ.length = 4) : σ = [σ.getD 0 .dead, σ.getD 1 .dead, σ.getD 2 .dead, σ.getD 3 .dead] := by
  match σ, h with
  | [a, b, c, d], _ => rfl
set_option maxHeartbeats 1000000 in
set_option maxRecDepth 20000 in
theorem played_iter (s : Score) (p : Part) (hl : s.notes.length ≤ 1000000000) (ho : octIn s.notes) (hp : -1000 ≤ p.octave ∧ p.octave ≤ 1000) :
    IterL Tryz.prog 87 [] [.iptr (encS s), .iptr [.int (srcOf p)], .iptr (encP p)] ((playedL s.notes p).map fun n => [.agg (encN n)]) 4 := by
  intro yv S R hS hR hy hyield
  rw [List.length_map] at *
  have hcnt : ∀ k, (playedL (s.notes.take k) p).length ≤ (playedL s.notes p).length := fun k => by
    unfold playedL
    rw [List.length_map, List.length_map]
    exact (List.Sublist.filter _ (List.take_sublist k s.notes)).length_le
  have ex : ∀ j, j ≤ (playedL s.notes p).length → S j = [(S j).getD 0 .dead, (S j).getD 1 .dead, (S j).getD 2 .dead, (S j).getD 3 .dead] := fun j hj => ex4 (hS j hj).1
  have hok : ∀ j, j ≤ (playedL s.notes p).length → [(S j).getD 0 .dead, (S j).getD 1 .dead, (S j).getD 2 .dead, (S j).getD 3 .dead].all (okObj 4) = true := fun j hj => by rw [← ex j hj]; exact (hS j hj).2
  show TCall _ _ [.opq yv, .iptr (encS s), .iptr [.int (srcOf p)], .iptr (encP p)] (S 0) _
  rw [ex 0 (Nat.zero_le _)]
  refine TCall.body Tryz.func87 rfl rfl Tryz.ntmps87 rfl rfl ?_
  repeat' (first | refine AOps.q rfl rfl rfl (fun hg => by first | exact std0 | exact std1) (by exact rfl) ?_ | refine AWP.seq ?_ | refine AWP.regionK (fun K' hK => ?_) | (refine AOps.nil (hK _ _ ?_); clear hK K') | refine AOps.e (EStep.boxW rfl rfl rfl rfl rfl True.intro rfl rfl ?_) | refine AOps.e (EStep.storeW tabOk rfl rfl rfl True.intro rfl rfl True.intro rfl rfl rfl rfl rfl rfl rfl ?_) | refine AOps.e (EStep.allocW tabOk rfl rfl rfl rfl rfl rfl ?_) | (refine AWP.condW rfl True.intro (fun hc => ?_) (fun hc => ?_) <;> (first | (simp only [decide_eq_true_eq] at hc) | (simp only [decide_eq_false_iff_not, Int.not_lt, Int.not_le] at hc) | skip)) | refine AWP.block ?_ | refine AWP.exit ?_ | refine AWP.skip ?_ | refine AWP.ret ?_ | refine AWP.drawK2 (by decide +kernel) (by kernel_rfl) (by decide +kernel) rfl (fun K' hK => ?_) | refine AWP.drawL2 (by kernel_rfl) (by decide +kernel) rfl (fun K' hK => ?_) | (refine AQ.nil (hK _ ?_); clear hK K') | refine AQ.nil ?_ | refine AQ.q rfl rfl (fun hg => by first | exact std0 | exact std1) (by exact rfl) ?_)
  refine AWP.loopD (ι := Nat) (fun k => [(0, .opq yv), (2, .iptr [.int (srcOf p)]), (3, .iptr (encP p)), (8, .sl 12 (s.notes.map encN) .no), (9, .int s.notes.length), (10, .int k)])
    (fun k => [(S (playedL (s.notes.take k) p).length).getD 0 .dead, (S (playedL (s.notes.take k) p).length).getD 1 .dead, (S (playedL (s.notes.take k) p).length).getD 2 .dead, (S (playedL (s.notes.take k) p).length).getD 3 .dead])
    (fun k => k ≤ s.notes.length) (fun k => s.notes.length - k) 4 (fun _ => rfl) 0 (Nat.zero_le _) ⟨rfl, rfl, rfl, rfl, rfl, rfl, True.intro⟩ rfl (fun k _ => by
      simp only [List.all_cons, List.all_nil, Bool.and_true, Bool.and_eq_true]
      exact ⟨hy, rfl, rfl, rfl, rfl, rfl⟩) (fun k _ => hok _ (hcnt k)) ?_
  intro k hk
  by_cases hlt : k < s.notes.length
  · have hq := ho (s.notes.getD k default) (by rw [getD_lt hlt]; exact List.getElem_mem hlt)
    cases hpart : ((s.notes.getD k default).part == srcOf p) with
    | false =>
      have h1 := played_no hlt hpart
      clear ex hok
      repeat' (first | refine AOps.q rfl rfl rfl (fun hg => by first | exact std0 | exact std1) (by exact rfl) ?_ | refine AWP.seq ?_ | refine AWP.regionK (fun K' hK => ?_) | (refine AOps.nil (hK _ _ ?_); clear hK K') | refine AOps.e (EStep.boxW rfl rfl rfl rfl rfl True.intro rfl rfl ?_) | refine AOps.e (EStep.storeW tabOk rfl rfl rfl True.intro rfl rfl True.intro rfl rfl rfl rfl rfl rfl rfl ?_) | refine AOps.e (EStep.allocW tabOk rfl rfl rfl rfl rfl rfl ?_) | (refine AWP.condW rfl True.intro (fun hc => ?_) (fun hc => ?_) <;> (first | (simp only [decide_eq_true_eq] at hc) | (simp only [decide_eq_false_iff_not, Int.not_lt, Int.not_le] at hc) | skip)) | refine AWP.block ?_ | refine AWP.exit ?_ | refine AWP.skip ?_ | refine AWP.ret ?_ | refine AWP.drawK2 (by decide +kernel) (by kernel_rfl) (by decide +kernel) rfl (fun K' hK => ?_) | refine AWP.drawL2 (by kernel_rfl) (by decide +kernel) rfl (fun K' hK => ?_) | (refine AQ.nil (hK _ ?_); clear hK K') | refine AQ.nil ?_ | refine AQ.q rfl rfl (fun hg => by first | exact std0 | exact std1) (by exact rfl) ?_)
      all_goals (first | (exfalso; omega) | skip)
      · refine ⟨k + 1, by omega, by omega, ⟨rfl, rfl, rfl, rfl, rfl, rfl, True.intro⟩, ?_⟩
        rw [h1]; rfl
      all_goals
        exfalso
        have h5 := bne_f hc
        rw [Int.toNat_natCast, hpart] at h5
        cases h5
    | true =>
      obtain ⟨h1, h2⟩ := played_yes hlt hpart
      have hj : (playedL (s.notes.take k) p).length < (playedL s.notes p).length := by
        have := hcnt (k + 1); omega
      have hc1 := hcnt (k + 1)
      rw [h2] at hc1
      have hv := VCall.frame (hyield (playedL (s.notes.take k) p).length [.agg (encN (playN p (s.notes.getD k default)))] (by rw [List.getElem?_map, h1]; rfl)) [.var (encN (playN p (s.notes.getD k default)))]
        (by rw [(hS _ (by omega)).1]; exact (hS _ (by omega)).2) (by rw [(hS _ (by omega)).1]; exact hy) rfl (by
          rintro rv s' (⟨_, rfl⟩ | ⟨_, hh⟩)
          · rw [(hS _ (by omega)).1, (hS _ (by omega)).1]
          · rw [(hS _ (by omega)).1, (hR _ _ hh).1])
      have hv2 : VCall Tryz.prog (.opq yv) [.agg (encN (playN p (s.notes.getD k default)))] [(S (playedL (s.notes.take k) p).length).getD 0 .dead, (S (playedL (s.notes.take k) p).length).getD 1 .dead, (S (playedL (s.notes.take k) p).length).getD 2 .dead, (S (playedL (s.notes.take k) p).length).getD 3 .dead, .var (encN (playN p (s.notes.getD k default)))]
          (fun r t => (r = .b true ∧ t = [(S (playedL (s.notes.take (k + 1)) p).length).getD 0 .dead, (S (playedL (s.notes.take (k + 1)) p).length).getD 1 .dead, (S (playedL (s.notes.take (k + 1)) p).length).getD 2 .dead, (S (playedL (s.notes.take (k + 1)) p).length).getD 3 .dead, .var (encN (playN p (s.notes.getD k default)))]) ∨ (r = .b false ∧ ∃ t', t = t' ++ [.var (encN (playN p (s.notes.getD k default)))] ∧ R (playedL (s.notes.take k) p).length t')) := by
        have e1 := ex (playedL (s.notes.take k) p).length (by omega)
        have e2 := ex ((playedL (s.notes.take k) p).length + 1) hc1
        rw [e1] at hv
        refine VCall.mono hv ?_
        rintro r t ⟨t', rfl, (⟨rfl, rfl⟩ | ⟨rfl, hh⟩)⟩
        · refine .inl ⟨rfl, ?_⟩
          rw [h2]
          conv => lhs; rw [e2]
          rfl
        · exact .inr ⟨rfl, t', rfl, hh⟩
      clear hv ex hok
      repeat' (first | refine AOps.q rfl rfl rfl (fun hg => by first | exact std0 | exact std1) (by exact rfl) ?_ | refine AWP.seq ?_ | refine AWP.regionK (fun K' hK => ?_) | (refine AOps.nil (hK _ _ ?_); clear hK K') | refine AOps.e (EStep.boxW rfl rfl rfl rfl rfl True.intro rfl rfl ?_) | refine AOps.e (EStep.storeW tabOk rfl rfl rfl True.intro rfl rfl True.intro rfl rfl rfl rfl rfl rfl rfl ?_) | refine AOps.e (EStep.allocW tabOk rfl rfl rfl rfl rfl rfl ?_) | refine AOps.e (EStep.callT (hv2) rfl rfl rfl rfl rfl nd rfl rfl nds ?_) | (refine AWP.condW rfl True.intro (fun hc => ?_) (fun hc => ?_) <;> (first | (simp only [decide_eq_true_eq] at hc) | (simp only [decide_eq_false_iff_not, Int.not_lt, Int.not_le] at hc) | skip)) | refine AWP.block ?_ | refine AWP.exit ?_ | refine AWP.skip ?_ | refine AWP.ret ?_ | refine AWP.drawK2 (by decide +kernel) (by kernel_rfl) (by decide +kernel) rfl (fun K' hK => ?_) | refine AWP.drawL2 (by kernel_rfl) (by decide +kernel) rfl (fun K' hK => ?_) | (refine AQ.nil (hK _ ?_); clear hK K') | refine AQ.nil ?_ | refine AQ.q rfl rfl (fun hg => by first | exact std0 | exact std1) (by exact rfl) ?_)
      all_goals (first | (exfalso; omega) | skip)
      · exfalso
        have h5 := bne_t hc
        rw [Int.toNat_natCast, hpart] at h5
        cases h5
      · rintro r t (⟨rfl, rfl⟩ | ⟨rfl, t', rfl, hh⟩)
        · repeat' (first | refine AOps.q rfl rfl rfl (fun hg => by first | exact std0 | exact std1) (by exact rfl) ?_ | refine AWP.seq ?_ | refine AWP.regionK (fun K' hK => ?_) | (refine AOps.nil (hK _ _ ?_); clear hK K') | refine AOps.e (EStep.boxW rfl rfl rfl rfl rfl True.intro rfl rfl ?_) | refine AOps.e (EStep.storeW tabOk rfl rfl rfl True.intro rfl rfl True.intro rfl rfl rfl rfl rfl rfl rfl ?_) | refine AOps.e (EStep.allocW tabOk rfl rfl rfl rfl rfl rfl ?_) | (refine AWP.condW rfl True.intro (fun hc => ?_) (fun hc => ?_) <;> (first | (simp only [decide_eq_true_eq] at hc) | (simp only [decide_eq_false_iff_not, Int.not_lt, Int.not_le] at hc) | skip)) | refine AWP.block ?_ | refine AWP.exit ?_ | refine AWP.skip ?_ | refine AWP.ret ?_ | refine AWP.drawK2 (by decide +kernel) (by kernel_rfl) (by decide +kernel) rfl (fun K' hK => ?_) | refine AWP.drawL2 (by kernel_rfl) (by decide +kernel) rfl (fun K' hK => ?_) | (refine AQ.nil (hK _ ?_); clear hK K') | refine AQ.nil ?_ | refine AQ.q rfl rfl (fun hg => by first | exact std0 | exact std1) (by exact rfl) ?_)
          · exfalso; simp at hc
          · exact ⟨k + 1, by omega, by omega, ⟨rfl, rfl, rfl, rfl, rfl, rfl, True.intro⟩, rfl⟩
        · repeat' (first | refine AOps.q rfl rfl rfl (fun hg => by first | exact std0 | exact std1) (by exact rfl) ?_ | refine AWP.seq ?_ | refine AWP.regionK (fun K' hK => ?_) | (refine AOps.nil (hK _ _ ?_); clear hK K') | refine AOps.e (EStep.boxW rfl rfl rfl rfl rfl True.intro rfl rfl ?_) | refine AOps.e (EStep.storeW tabOk rfl rfl rfl True.intro rfl rfl True.intro rfl rfl rfl rfl rfl rfl rfl ?_) | refine AOps.e (EStep.allocW tabOk rfl rfl rfl rfl rfl rfl ?_) | (refine AWP.condW rfl True.intro (fun hc => ?_) (fun hc => ?_) <;> (first | (simp only [decide_eq_true_eq] at hc) | (simp only [decide_eq_false_iff_not, Int.not_lt, Int.not_le] at hc) | skip)) | refine AWP.block ?_ | refine AWP.exit ?_ | refine AWP.skip ?_ | refine AWP.ret ?_ | refine AWP.drawK2 (by decide +kernel) (by kernel_rfl) (by decide +kernel) rfl (fun K' hK => ?_) | refine AWP.drawL2 (by kernel_rfl) (by decide +kernel) rfl (fun K' hK => ?_) | (refine AQ.nil (hK _ ?_); clear hK K') | refine AQ.nil ?_ | refine AQ.q rfl rfl (fun hg => by first | exact std0 | exact std1) (by exact rfl) ?_)
          · obtain ⟨k1, k2⟩ := hR _ _ hh
            exact ⟨.inr rfl, .tup [], t', .inr ⟨_, hj, hh⟩, by simp, by rw [k1]; exact Nat.le_refl _, by rw [k1]; exact k2, rfl, rfl⟩
          · exfalso; simp at hc
  · repeat' (first | refine AOps.q rfl rfl rfl (fun hg => by first | exact std0 | exact std1) (by exact rfl) ?_ | refine AWP.seq ?_ | refine AWP.regionK (fun K' hK => ?_) | (refine AOps.nil (hK _ _ ?_); clear hK K') | refine AOps.e (EStep.boxW rfl rfl rfl rfl rfl True.intro rfl rfl ?_) | refine AOps.e (EStep.storeW tabOk rfl rfl rfl True.intro rfl rfl True.intro rfl rfl rfl rfl rfl rfl rfl ?_) | refine AOps.e (EStep.allocW tabOk rfl rfl rfl rfl rfl rfl ?_) | (refine AWP.condW rfl True.intro (fun hc => ?_) (fun hc => ?_) <;> (first | (simp only [decide_eq_true_eq] at hc) | (simp only [decide_eq_false_iff_not, Int.not_lt, Int.not_le] at hc) | skip)) | refine AWP.block ?_ | refine AWP.exit ?_ | refine AWP.skip ?_ | refine AWP.ret ?_ | refine AWP.drawK2 (by decide +kernel) (by kernel_rfl) (by decide +kernel) rfl (fun K' hK => ?_) | refine AWP.drawL2 (by kernel_rfl) (by decide +kernel) rfl (fun K' hK => ?_) | (refine AQ.nil (hK _ ?_); clear hK K') | refine AQ.nil ?_ | refine AQ.q rfl rfl (fun hg => by first | exact std0 | exact std1) (by exact rfl) ?_)
    all_goals (first | (exfalso; omega) | skip)
    have htk : s.notes.take k = s.notes := List.take_of_length_le (by omega)
    refine ⟨.inl rfl, .tup [], S (playedL s.notes p).length, .inl rfl, ?_, ?_, ?_, rfl, rfl⟩
    · rw [(hS _ (Nat.le_refl _)).1]
      conv => rhs; rw [ex _ (Nat.le_refl _)]
      rw [htk]; rfl
    · rw [(hS _ (Nat.le_refl _)).1]; exact Nat.le_refl _
    · rw [(hS _ (Nat.le_refl _)).1]; exact (hS _ (Nat.le_refl _)).2
end Go.Proofs.YtnmdmmfdnnmdfaaGreatDoor
