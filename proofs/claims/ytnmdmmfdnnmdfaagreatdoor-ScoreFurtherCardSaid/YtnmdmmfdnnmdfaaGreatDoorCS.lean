/- Contracts by content: score.Plays. No statement is proved here. -/
import Derived.Test.YtnmdmmfdnnmdfaaGreatDoorCR
set_option linter.unusedVariables false
set_option linter.unusedSimpArgs false
namespace Go.Proofs.YtnmdmmfdnnmdfaaGreatDoor
open Go.Ab
attribute [local irreducible] AWP AOps EStep AQ PStep PRun PCall TCall VCall

/-- The numbers of a valid score are small. -/
theorem scoreOk_oct {s : Score} (h : scoreOk s = true) : octIn s.notes ∧ ∀ p ∈ s.parts, -1000 ≤ p.octave ∧ p.octave ≤ 1000 := by
  unfold scoreOk scoreBad at h
  simp only [Bool.and_eq_true, Bool.not_eq_true', Bool.or_eq_false_iff, Bool.not_eq_false'] at h
  obtain ⟨⟨⟨⟨⟨h1, h2⟩, h3⟩, h4⟩, h5⟩, h6⟩ := h
  constructor
  · intro n hn
    unfold notesOk at h4
    simp only [Bool.and_eq_true, List.all_eq_true] at h4
    have h7 := h4.1.2 n hn
    unfold noteOk at h7
    split at h7
    · unfold nformed noteForm noteP at h7
      simp only [Bool.and_eq_true] at h7
      have := h7.2.2.2
      simp only [inB, Bool.and_eq_true, decide_eq_true_eq] at this
      omega
    · cases h7
  · intro p hp
    unfold partsOk at h3
    simp only [Bool.and_eq_true, List.all_eq_true] at h3
    have h7 := h3.1.2 p hp
    unfold partOk partBad partNums at h7
    simp only [Bool.and_eq_true, Bool.not_eq_true', Bool.or_eq_false_iff, Bool.not_eq_false'] at h7
    have := h7.1.1.1.1.1.2
    simp only [inB, Bool.and_eq_true, decide_eq_true_eq] at this
    omega
def playsR (s : Score) (id : Int) : List Note × Int := if scoreOk s then (if findI (fun x : Part => x.id == id) s.parts ≥ 0 then (playedL s.notes (s.parts.getD (findI (fun x : Part => x.id == id) s.parts).toNat default), 0) else ([], 22)) else ([], 1)
theorem plays_spec (s : Score) (hs : s.Small) (id : Int) : PCall Tryz.prog 9 [.agg (encS s), .int id] (.tup [.sl 12 ((playsR s id).1.map encN) .no, .int (playsR s id).2]) := by
  have hv := svalid_spec s hs
  obtain ⟨h1, h2, h3⟩ := hs
  have hi := indexPart_spec s.parts id (by omega)
  by_cases hok : scoreOk s = true
  · by_cases hf : findI (fun x : Part => x.id == id) s.parts ≥ 0
    · obtain ⟨k, e1, e2, e3, e4⟩ := findI_lt hf
      have er : playsR s id = (playedL s.notes (s.parts.getD k default), 0) := by unfold playsR; rw [if_pos hok, if_pos hf, e1]; rfl
      rw [er]
      rw [e1] at hi
      have hmx : (idxR (k : Int)).1 = k := by unfold idxR; simp
      rw [hmx] at hi
      have hpl := played_spec s (s.parts.getD k default)
      obtain ⟨o1, o2⟩ := scoreOk_oct hok
      have hit := played_iter s (s.parts.getD k default) h3 o1 (o2 _ (by rw [getD_lt e2]; exact List.getElem_mem e2))
      have hpn := played_len s.notes (s.parts.getD k default)
      generalize hP : s.parts.getD k default = p at *
      refine PCall.body Tryz.func9 rfl rfl Tryz.ntmps9 rfl rfl ?_
      repeat' (first | refine AOps.q rfl rfl rfl (fun hg => by first | exact PRun.indexMW tabOk rfl rfl nd rfl nd rfl rfl ⟨Int.natCast_nonneg _, Int.ofNat_lt.2 e2⟩ | exact std0 | exact PRun.callW (hv) rfl rfl nd rfl nds | exact PRun.callW (hi) rfl rfl nd rfl nds | exact PRun.callW hpl rfl rfl nd (by simp only [Int.toNat_natCast]; rw [hP]; rfl) nds | exact std1) (by exact rfl) ?_ | refine AWP.seq ?_ | refine AWP.regionK (fun K' hK => ?_) | (refine AOps.nil (hK _ _ ?_); clear hK K') | refine AOps.e (EStep.boxW rfl rfl rfl rfl rfl True.intro rfl rfl ?_) | refine AOps.e (EStep.storeW tabOk rfl rfl rfl True.intro rfl rfl True.intro rfl rfl rfl rfl rfl rfl rfl ?_) | refine AOps.e (EStep.allocW tabOk rfl rfl rfl rfl rfl rfl ?_) | (refine AWP.condW rfl True.intro (fun hc => ?_) (fun hc => ?_) <;> (first | (simp only [decide_eq_true_eq] at hc) | (simp only [decide_eq_false_iff_not, Int.not_lt, Int.not_le] at hc) | skip)) | refine AWP.block ?_ | refine AWP.exit ?_ | refine AWP.skip ?_ | refine AWP.ret ?_ | refine AWP.drawK2 (by decide +kernel) (by kernel_rfl) (by decide +kernel) rfl (fun K' hK => ?_) | refine AWP.drawL2 (by kernel_rfl) (by decide +kernel) rfl (fun K' hK => ?_) | (refine AQ.nil (hK _ ?_); clear hK K') | refine AQ.nil ?_ | refine AQ.q rfl rfl (fun hg => by first | exact PRun.indexMW tabOk rfl rfl nd rfl nd rfl rfl ⟨Int.natCast_nonneg _, Int.ofNat_lt.2 e2⟩ | exact std0 | exact PRun.callW (hv) rfl rfl nd rfl nds | exact PRun.callW (hi) rfl rfl nd rfl nds | exact PRun.callW hpl rfl rfl nd (by simp only [Int.toNat_natCast]; rw [hP]; rfl) nds | exact std1) (by exact rfl) ?_)
      · exfalso; rw [hok] at hc; cases hc
      · exfalso; simp [idxR] at hc
      refine AWP.ownNilV (v := 1) (i := 0) (sz := 12) (cs := [.nils]) rfl rfl ?_
      refine AWP.rangeFunc (k := 87) (first := []) (caps := [.iptr (encS s), .iptr [.int (srcOf p)], .iptr (encP p)]) ((playedL s.notes p).map fun n => [.agg (encN n)]) [(8, .ptr 1 0)] (fun j => [.var (encS s), .var [.sl 12 (((playedL s.notes p).take j).map encN) (.own 2)], .own 12 (((playedL s.notes p).take j).map encN).length]) (fun _ _ _ => False)
        hit rfl True.intro ?_ ?_ rfl ⟨rfl, True.intro⟩ rfl rfl (fun j _ => ⟨rfl, rfl⟩) (fun _ _ _ h => h.elim) ?_ ?_ (fun _ _ _ _ h => h.elim)
      · intro x hx
        obtain ⟨n, _, rfl⟩ := List.mem_map.1 hx; rfl
      · intro x hx
        obtain ⟨n, _, rfl⟩ := List.mem_map.1 hx; rfl
      · intro j x hx
        simp only [List.getElem?_map, Option.map_eq_some_iff] at hx
        obtain ⟨n, hn, rfl⟩ := hx
        have hj : j < (playedL s.notes p).length := by
          rcases Nat.lt_or_ge j (playedL s.notes p).length with h | h
          · exact h
          · simp [List.getElem?_eq_none h] at hn
        repeat' (first | refine AOps.q rfl rfl rfl (fun hg => by first | exact std0 | exact std1) (by exact rfl) ?_ | refine AWP.seq ?_ | refine AWP.regionK (fun K' hK => ?_) | (refine AOps.nil (hK _ _ ?_); clear hK K') | refine AOps.e (EStep.boxW rfl rfl rfl rfl rfl True.intro rfl rfl ?_) | refine AOps.e (EStep.storeW tabOk rfl rfl rfl True.intro rfl rfl True.intro rfl rfl rfl rfl rfl rfl rfl ?_) | refine AOps.e (EStep.allocW tabOk rfl rfl rfl rfl rfl rfl ?_) | (refine AWP.condW rfl True.intro (fun hc => ?_) (fun hc => ?_) <;> (first | (simp only [decide_eq_true_eq] at hc) | (simp only [decide_eq_false_iff_not, Int.not_lt, Int.not_le] at hc) | skip)) | refine AWP.block ?_ | refine AWP.exit ?_ | refine AWP.skip ?_ | refine AWP.ret ?_ | refine AWP.drawK2 (by decide +kernel) (by kernel_rfl) (by decide +kernel) rfl (fun K' hK => ?_) | refine AWP.drawL2 (by kernel_rfl) (by decide +kernel) rfl (fun K' hK => ?_) | (refine AQ.nil (hK _ ?_); clear hK K') | refine AQ.nil ?_ | refine AQ.q rfl rfl (fun hg => by first | exact std0 | exact std1) (by exact rfl) ?_)
        refine ⟨rfl, ?_⟩
        repeat' (first | refine AOps.q rfl rfl rfl (fun hg => by first | exact std0 | exact PRun.buildSlW tabOk rfl rfl nds | exact std1) (by exact rfl) ?_ | refine AWP.seq ?_ | refine AWP.regionK (fun K' hK => ?_) | (refine AOps.nil (hK _ _ ?_); clear hK K') | refine AOps.e (EStep.boxW rfl rfl rfl rfl rfl True.intro rfl rfl ?_) | refine AOps.e (EStep.storeW tabOk rfl rfl rfl True.intro rfl rfl True.intro rfl rfl rfl rfl rfl rfl rfl ?_) | refine AOps.e (EStep.allocW tabOk rfl rfl rfl rfl rfl rfl ?_) | refine AOps.e (EStep.appendOwn' tabOk rfl rfl rfl (by decide) (Rd.w rfl True.intro) rfl (Rd.w rfl True.intro) (.sl rfl (by first | (intro x hx; rcases List.mem_singleton.1 hx with rfl; rfl) | exact one_encN _)) (LOk.of (tabOk.get rfl)) (LOk.of (tabOk.get rfl)) rfl rfl (by simp only [List.length_map, List.length_append, List.length_cons, List.length_nil, List.length_take, List.length_drop]; omega) (by simp only [List.length_map, List.length_append, List.length_cons, List.length_nil, List.length_take, List.length_drop]; omega) ?_) | (refine AWP.condW rfl True.intro (fun hc => ?_) (fun hc => ?_) <;> (first | (simp only [decide_eq_true_eq] at hc) | (simp only [decide_eq_false_iff_not, Int.not_lt, Int.not_le] at hc) | skip)) | refine AWP.block ?_ | refine AWP.exit ?_ | refine AWP.skip ?_ | refine AWP.ret ?_ | refine AWP.drawK2 (by decide +kernel) (by kernel_rfl) (by decide +kernel) rfl (fun K' hK => ?_) | refine AWP.drawL2 (by kernel_rfl) (by decide +kernel) rfl (fun K' hK => ?_) | (refine AQ.nil (hK _ ?_); clear hK K') | refine AQ.nil ?_ | refine AQ.q rfl rfl (fun hg => by first | exact std0 | exact PRun.buildSlW tabOk rfl rfl nds | exact std1) (by exact rfl) ?_)
        show [_, _, _] = [_, _, _]
        have e : (playedL s.notes p).take (j + 1) = (playedL s.notes p).take j ++ [n] := by
          rw [List.take_add_one, hn]; rfl
        rw [e, List.map_append]; rfl
      · repeat' (first | refine AOps.q rfl rfl rfl (fun hg => by first | exact std0 | exact std1) (by exact rfl) ?_ | refine AWP.seq ?_ | refine AWP.regionK (fun K' hK => ?_) | (refine AOps.nil (hK _ _ ?_); clear hK K') | refine AOps.e (EStep.boxW rfl rfl rfl rfl rfl True.intro rfl rfl ?_) | refine AOps.e (EStep.storeW tabOk rfl rfl rfl True.intro rfl rfl True.intro rfl rfl rfl rfl rfl rfl rfl ?_) | refine AOps.e (EStep.allocW tabOk rfl rfl rfl rfl rfl rfl ?_) | (refine AWP.condW rfl True.intro (fun hc => ?_) (fun hc => ?_) <;> (first | (simp only [decide_eq_true_eq] at hc) | (simp only [decide_eq_false_iff_not, Int.not_lt, Int.not_le] at hc) | skip)) | refine AWP.block ?_ | refine AWP.exit ?_ | refine AWP.skip ?_ | refine AWP.ret ?_ | refine AWP.drawK2 (by decide +kernel) (by kernel_rfl) (by decide +kernel) rfl (fun K' hK => ?_) | refine AWP.drawL2 (by kernel_rfl) (by decide +kernel) rfl (fun K' hK => ?_) | (refine AQ.nil (hK _ ?_); clear hK K') | refine AQ.nil ?_ | refine AQ.q rfl rfl (fun hg => by first | exact std0 | exact std1) (by exact rfl) ?_)
        refine ⟨.inr rfl, Ent.of ?_⟩
        rw [List.length_map, List.take_length]; rfl
    · have er : playsR s id = ([], 22) := by unfold playsR; rw [if_pos hok, if_neg hf]
      rw [er]
      have hm : (idxR (findI (fun x : Part => x.id == id) s.parts)).2 = false := by unfold idxR; simpa using hf
      rw [hm] at hi
      have dead : ∀ {b : Bool}, b = (!false) → b = false → False := fun h1 h2 => by rw [h2] at h1; cases h1
      refine PCall.body Tryz.func9 rfl rfl Tryz.ntmps9 rfl rfl ?_
      repeat' (first | refine AOps.q rfl rfl rfl (fun hg => by first | exact std0 | exact PRun.callW (hv) rfl rfl nd rfl nds | exact PRun.callW (hi) rfl rfl nd rfl nds | exact std1) (by exact rfl) ?_ | refine AWP.seq ?_ | refine AWP.regionK (fun K' hK => ?_) | (refine AOps.nil (hK _ _ ?_); clear hK K') | refine AOps.e (EStep.boxW rfl rfl rfl rfl rfl True.intro rfl rfl ?_) | refine AOps.e (EStep.storeW tabOk rfl rfl rfl True.intro rfl rfl True.intro rfl rfl rfl rfl rfl rfl rfl ?_) | refine AOps.e (EStep.allocW tabOk rfl rfl rfl rfl rfl rfl ?_) | (refine AWP.condW rfl True.intro (fun hc => ?_) (fun hc => ?_) <;> (first | (simp only [decide_eq_true_eq] at hc) | (simp only [decide_eq_false_iff_not, Int.not_lt, Int.not_le] at hc) | skip)) | refine AWP.block ?_ | refine AWP.exit ?_ | refine AWP.skip ?_ | refine AWP.ret ?_ | (refine AQ.nil (hK _ ?_); clear hK K') | refine AQ.nil ?_ | refine AQ.q rfl rfl (fun hg => by first | exact std0 | exact PRun.callW (hv) rfl rfl nd rfl nds | exact PRun.callW (hi) rfl rfl nd rfl nds | exact std1) (by exact rfl) ?_)
      · exfalso; rw [hok] at hc; cases hc
      · exact ⟨.inr rfl, Ent.tup2 Ent.nil (Ent.rfl' _)⟩
      · exfalso; simp at hc
  · have er : playsR s id = ([], 1) := by unfold playsR; rw [if_neg hok]
    rw [er]
    refine PCall.body Tryz.func9 rfl rfl Tryz.ntmps9 rfl rfl ?_
    repeat' (first | refine AOps.q rfl rfl rfl (fun hg => by first | exact std0 | exact PRun.callW (hv) rfl rfl nd rfl nds | exact PRun.callW (hi) rfl rfl nd rfl nds | exact std1) (by exact rfl) ?_ | refine AWP.seq ?_ | refine AWP.regionK (fun K' hK => ?_) | (refine AOps.nil (hK _ _ ?_); clear hK K') | refine AOps.e (EStep.boxW rfl rfl rfl rfl rfl True.intro rfl rfl ?_) | refine AOps.e (EStep.storeW tabOk rfl rfl rfl True.intro rfl rfl True.intro rfl rfl rfl rfl rfl rfl rfl ?_) | refine AOps.e (EStep.allocW tabOk rfl rfl rfl rfl rfl rfl ?_) | (refine AWP.condW rfl True.intro (fun hc => ?_) (fun hc => ?_) <;> (first | (simp only [decide_eq_true_eq] at hc) | (simp only [decide_eq_false_iff_not, Int.not_lt, Int.not_le] at hc) | skip)) | refine AWP.block ?_ | refine AWP.exit ?_ | refine AWP.skip ?_ | refine AWP.ret ?_ | (refine AQ.nil (hK _ ?_); clear hK K') | refine AQ.nil ?_ | refine AQ.q rfl rfl (fun hg => by first | exact std0 | exact PRun.callW (hv) rfl rfl nd rfl nds | exact PRun.callW (hi) rfl rfl nd rfl nds | exact std1) (by exact rfl) ?_)
    · exact ⟨.inr rfl, Ent.tup2 Ent.nil (Ent.rfl' _)⟩
    all_goals (exfalso; rename_i hc0; exact hok (by simpa using hc0))
end Go.Proofs.YtnmdmmfdnnmdfaaGreatDoor
