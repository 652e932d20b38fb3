/- Marks: plain laws of a further mark; the law MarksFurther by content. -/
import Derived.Test.YthfcafcjkaemiaaGreatDoorMO2
import Derived.Test.YthfcafcjkaemiaaGreatDoorFV
import Derived.Test.YthfcafcjkaemiaaGreatDoorFX
set_option linter.unusedVariables false
set_option linter.unusedSimpArgs false
namespace Go.Proofs.YthfcafcjkaemiaaGreatDoor.Mk
open Go.Ab Go.Jo

/-- What of the marks that were seen stays (the loop of the law), and whether the further one still counts. -/
def stepD (m : Jo.Mark) (a : List Jo.Mark × Bool) (old : Jo.Mark) : List Jo.Mark × Bool :=
  if ((old.note != m.note || old.kind != m.kind) || !a.2) = true then (a.1 ++ [old], a.2) else if cnt old m = true then (a.1 ++ [old], false) else a
def foldD (m : Jo.Mark) (c : Bool) (x : List Jo.Mark) : List Jo.Mark × Bool := x.foldl (stepD m) ([], c)
theorem foldD_snoc (m : Jo.Mark) (c : Bool) (x : List Jo.Mark) (o : Jo.Mark) : foldD m c (x ++ [o]) = stepD m (foldD m c x) o := by
  unfold foldD; rw [List.foldl_append]; rfl
theorem foldD_len (m : Jo.Mark) (c : Bool) (x : List Jo.Mark) : (foldD m c x).1.length ≤ x.length := by
  have gen : ∀ (x : List Jo.Mark) (a : List Jo.Mark × Bool), (x.foldl (stepD m) a).1.length ≤ a.1.length + x.length := by
    intro x
    induction x with
    | nil => intro a; simp
    | cons o t ih =>
      intro a
      rw [List.foldl_cons]
      refine Nat.le_trans (ih _) ?_
      have : (stepD m a o).1.length ≤ a.1.length + 1 := by
        unfold stepD
        split
        · simp
        · split
          · simp
          · omega
      rw [List.length_cons]; omega
  have := gen x ([], c)
  simp only [List.length_nil, Nat.zero_add] at this
  exact this
/-- What stays, as a choice. -/
def stayP (m : Jo.Mark) (c : Bool) (o : Jo.Mark) : Bool := !((keyM o == keyM m && c) && !cnt o m)
theorem keyM_beq (o m : Jo.Mark) : (keyM o == keyM m) = !(o.note != m.note || o.kind != m.kind) := by
  rw [Bool.eq_iff_iff]; simp [keyM]
theorem foldD_eq (m : Jo.Mark) (c : Bool) {x : List Jo.Mark} (hn : (x.map keyM).Nodup) : ∀ k, k ≤ x.length → (foldD m c (x.take k)).1 = (x.take k).filter (stayP m c) ∧ (foldD m c (x.take k)).2 = (c && !((x.take k).any fun o => keyM o == keyM m && cnt o m))
  | 0, _ => by simp [foldD]
  | k + 1, hk => by
    obtain ⟨ih1, ih2⟩ := foldD_eq m c hn k (by omega)
    have hkl : k < x.length := by omega
    have h1 : ((x.take (k + 1)).map keyM).Nodup := by
      rw [← List.take_append_drop (k + 1) x, List.map_append] at hn
      exact (List.nodup_append.1 hn).1
    rw [take_snoc hkl, List.map_append, List.nodup_append] at h1
    rw [take_snoc hkl, foldD_snoc, List.filter_append, List.any_append]
    generalize x.getD k default = o at *
    have hnew : keyM o ∉ (x.take k).map keyM := fun h => h1.2.2 _ h _ (by simp) rfl
    by_cases hk : keyM o = keyM m
    · have hany : ((x.take k).any fun o => keyM o == keyM m && cnt o m) = false := by
        rw [List.any_eq_false]
        intro w hw h
        simp only [Bool.and_eq_true, beq_iff_eq] at h
        exact hnew (List.mem_map.2 ⟨w, hw, h.1.trans hk.symm⟩)
      rw [hany] at ih2 ⊢
      have hkb : (keyM o == keyM m) = true := by simpa using hk
      have hko : (o.note != m.note || o.kind != m.kind) = false := by
        rw [keyM_beq] at hkb
        revert hkb
        cases (o.note != m.note || o.kind != m.kind) <;> simp
      simp only [Bool.not_false, Bool.and_true] at ih2
      unfold stepD
      rw [ih2, hko, Bool.false_or]
      cases c with
      | false =>
        have hs : stayP m false o = true := by unfold stayP; simp
        rw [if_pos (by rfl), List.filter_cons_of_pos hs]
        exact ⟨by rw [ih1]; rfl, by simp [ih2]⟩
      | true =>
        rw [if_neg (by decide)]
        by_cases hc : cnt o m = true
        · have hs : stayP m true o = true := by unfold stayP; rw [hc]; simp
          rw [if_pos hc, List.filter_cons_of_pos hs]
          exact ⟨by rw [ih1]; rfl, by simp [hkb, hc]⟩
        · have hs : ¬ stayP m true o = true := by unfold stayP; rw [hkb, show cnt o m = false by simpa using hc]; decide
          rw [if_neg hc, List.filter_cons_of_neg hs]
          exact ⟨by rw [ih1]; simp, by rw [ih2]; simp [hc]⟩
    · have hkb : (keyM o == keyM m) = false := by simpa using hk
      have hko : (o.note != m.note || o.kind != m.kind) = true := by
        rw [keyM_beq] at hkb
        revert hkb
        cases (o.note != m.note || o.kind != m.kind) <;> simp
      have hs : stayP m c o = true := by unfold stayP; rw [hkb]; simp
      unfold stepD
      rw [hko, Bool.true_or, if_pos rfl, List.filter_cons_of_pos hs]
      exact ⟨by rw [ih1]; rfl, by rw [ih2]; simp [hkb]⟩
theorem filterMap_filter {g h : Int → Option Jo.Mark} {P Q : Jo.Mark → Bool} : ∀ ks : List Int, (∀ k ∈ ks, (g k).toList.filter P = (h k).toList.filter Q) → (ks.filterMap g).filter P = (ks.filterMap h).filter Q
  | [], _ => rfl
  | k :: t, H => by
    have e : ∀ f : Int → Option Jo.Mark, (k :: t).filterMap f = (f k).toList ++ t.filterMap f := fun f => by
      rw [List.filterMap_cons]; cases f k <;> rfl
    rw [e, e, List.filter_append, List.filter_append, H k (List.mem_cons_self ..), filterMap_filter t fun k hk => H k (List.mem_cons_of_mem _ hk)]
theorem shownL_filter {F G : Int → Int → Option Jo.Mark} {P Q : Jo.Mark → Bool} : ∀ ns : List Note, (∀ n ∈ ns, ∀ k ∈ kinds, (G n.id k).toList.filter P = (F n.id k).toList.filter Q) → (shownL G ns).filter P = (shownL F ns).filter Q
  | [], _ => rfl
  | n :: t, H => by
    have e : ∀ f : Int → Int → Option Jo.Mark, shownL f (n :: t) = kinds.filterMap (f n.id) ++ shownL f t := fun f => by unfold shownL; rw [List.flatMap_cons]
    rw [e, e, List.filter_append, List.filter_append, filterMap_filter kinds (H n (List.mem_cons_self ..)), shownL_filter t fun n hn => H n (List.mem_cons_of_mem _ hn)]
/-- Whether the further mark can be seen at all. -/
def liveM (s : Score) (p : Part) (r : Rdr) (ns : List Note) (m : Jo.Mark) : Bool := (forM m p.section_ r && decide (m.note ∈ ns.map (·.id))) && m.version == s.version
theorem shownF_snoc (s : Score) (l : List Jo.Mark) (p : Part) (r : Rdr) (m : Jo.Mark) (n k : Int) : shownF s (l ++ [m]) p r n k = if okFor s.version n k p.section_ r m then better (shownF s l p r n k) m else shownF s l p r n k := bestM_snoc _ _ _
theorem okFor_split {v n k sec : Int} {r : Rdr} {m : Jo.Mark} (h : okFor v n k sec r m = true) : m.version = v ∧ m.note = n ∧ m.kind = k ∧ forM m sec r = true := by
  unfold okFor at h
  simp only [Bool.not_eq_true', Bool.or_eq_false_iff, bne_eq_false_iff_eq, Bool.not_eq_false'] at h
  exact ⟨h.1.1.1, h.1.1.2, h.1.2, h.2⟩
theorem further_filter {s : Score} {l : List Jo.Mark} {p : Part} {r : Rdr} {ns : List Note} {m : Jo.Mark} (hn : (l.map (·.id)).Nodup) (hid : ∀ w ∈ l, w.id ≠ m.id) :
    (shownL (shownF s (l ++ [m]) p r) ns).filter (fun o => o != m) = (shownL (shownF s l p r) ns).filter (stayP m (liveM s p r ns m)) := by
  have hne : ∀ w ∈ l, w ≠ m := fun w hw e => hid w hw (by rw [e])
  refine shownL_filter ns fun n hnn k hk => ?_
  rw [shownF_snoc]
  by_cases hq : okFor s.version n.id k p.section_ r m = true
  · obtain ⟨a1, a2, a3, a4⟩ := okFor_split hq
    have hlive : liveM s p r ns m = true := by
      unfold liveM
      rw [a4, a1, decide_eq_true (by rw [a2]; exact List.mem_map.2 ⟨n, hnn, rfl⟩)]; simp
    rw [if_pos hq, hlive]
    cases hF : shownF s l p r n.id k with
    | none => simp [better]
    | some w =>
      obtain ⟨w1, w2, _, _⟩ := shownF_some hn hF
      have hkw : (keyM w == keyM m) = true := by simp [keyM, w2.1, w2.2, a2, a3]
      simp only [better]
      have htot := cnt_total (hid w w1)
      cases hc : cnt m w with
      | true =>
        rw [if_pos rfl]
        have hP : stayP m true w = false := by unfold stayP; rw [hkw, htot, hc]; decide
        simp [hP]
      | false =>
        rw [if_neg (by decide)]
        have hP : stayP m true w = true := by unfold stayP; rw [htot, hc]; simp
        have := hne w w1
        simp [hP, this]
  · rw [if_neg hq]
    cases hF : shownF s l p r n.id k with
    | none => simp
    | some w =>
      obtain ⟨w1, w2, _, _⟩ := shownF_some hn hF
      have hP : stayP m (liveM s p r ns m) w = true := by
        unfold stayP
        by_cases hkw : keyM w = keyM m
        · have hl : liveM s p r ns m = false := by
            cases hl : liveM s p r ns m with
            | false => rfl
            | true =>
              exfalso
              unfold liveM at hl
              simp only [Bool.and_eq_true, beq_iff_eq] at hl
              have e1 : w.note = m.note := congrArg Prod.fst hkw
              have e2 : w.kind = m.kind := congrArg Prod.snd hkw
              rw [w2.1] at e1
              rw [w2.2] at e2
              refine hq ?_
              rw [e1, e2]
              exact okFor_own hl.2 hl.1.1
          rw [hl]; simp
        · rw [show (keyM w == keyM m) = false by simpa using hkw]; simp
      have := hne w w1
      simp [hP, this]
theorem further_mem {s : Score} {l : List Jo.Mark} {p : Part} {r : Rdr} {ns : List Note} {m : Jo.Mark} (hn : (l.map (·.id)).Nodup) (hid : ∀ w ∈ l, w.id ≠ m.id) (hk : m.kind ∈ kinds) :
    m ∈ shownL (shownF s (l ++ [m]) p r) ns ↔ (liveM s p r ns m && !((shownL (shownF s l p r) ns).any fun o => keyM o == keyM m && cnt o m)) = true := by
  have hne : ∀ w ∈ l, w ≠ m := fun w hw e => hid w hw (by rw [e])
  rw [mem_shownL]
  constructor
  · rintro ⟨n, hnn, k, hkk, e⟩
    rw [shownF_snoc] at e
    by_cases hq : okFor s.version n.id k p.section_ r m = true
    · obtain ⟨a1, a2, a3, a4⟩ := okFor_split hq
      rw [if_pos hq] at e
      have hlive : liveM s p r ns m = true := by
        unfold liveM
        rw [a4, a1, decide_eq_true (by rw [a2]; exact List.mem_map.2 ⟨n, hnn, rfl⟩)]; simp
      rw [hlive, Bool.true_and, Bool.not_eq_true', List.any_eq_false]
      intro w hw h
      simp only [Bool.and_eq_true, beq_iff_eq] at h
      obtain ⟨n', _, k', _, e'⟩ := mem_shownL.1 hw
      obtain ⟨w1, w2, _, _⟩ := shownF_some hn e'
      have e1 : w.note = m.note := congrArg Prod.fst h.1
      have e2 : w.kind = m.kind := congrArg Prod.snd h.1
      have e3 : shownF s l p r n.id k = some w := by
        rw [← a2, ← a3, ← e1, ← e2, w2.1, w2.2]; exact e'
      rw [e3] at e
      simp only [better] at e
      have htot := cnt_total (hid w w1)
      rw [h.2] at htot
      rw [show cnt m w = false by simpa using htot.symm] at e
      simp at e
      exact hne w w1 e
    · rw [if_neg hq] at e
      exact absurd rfl (hne m (shownF_some hn e).1)
  · intro h
    simp only [Bool.and_eq_true, Bool.not_eq_true', List.any_eq_false] at h
    obtain ⟨h1, h2⟩ := h
    unfold liveM at h1
    simp only [Bool.and_eq_true, beq_iff_eq, decide_eq_true_eq] at h1
    obtain ⟨⟨h3, h4⟩, h5⟩ := h1
    obtain ⟨n, hnn, en⟩ := List.mem_map.1 h4
    have en' : n.id = m.note := en
    refine ⟨n, hnn, m.kind, hk, ?_⟩
    rw [shownF_snoc, en', if_pos (okFor_own h5 h3)]
    cases hF : shownF s l p r m.note m.kind with
    | none => rfl
    | some w =>
      obtain ⟨w1, w2, _, _⟩ := shownF_some hn hF
      have hw : w ∈ shownL (shownF s l p r) ns := mem_shownL.2 ⟨n, hnn, m.kind, hk, by rw [en']; exact hF⟩
      have h9 := h2 w hw
      have hkw : (keyM w == keyM m) = true := by simp [keyM, w2.1, w2.2]
      rw [hkw] at h9
      have hcw : cnt w m = false := by simpa using h9
      have htot := cnt_total (hid w w1)
      rw [hcw] at htot
      simp only [better]
      rw [show cnt m w = true by simpa using htot.symm]; rfl
theorem filter_at {α : Type} [Inhabited α] (P : α → Bool) {l : List α} {j : Nat} (h : j < l.length) (hp : P (l.getD j default) = true) :
    (l.filter P).getD ((l.take j).filter P).length default = l.getD j default ∧ ((l.take j).filter P).length < (l.filter P).length ∧ ((l.take (j + 1)).filter P).length = ((l.take j).filter P).length + 1 := by
  have e1 : l = l.take j ++ (l.getD j default :: l.drop (j + 1)) := by
    rw [getD_lt h, ← List.drop_eq_getElem_cons h, List.take_append_drop]
  have e3 : l.filter P = (l.take j).filter P ++ (l.getD j default :: (l.drop (j + 1)).filter P) := by
    conv => lhs; rw [e1]
    rw [List.filter_append, List.filter_cons_of_pos hp]
  refine ⟨?_, ?_, ?_⟩
  · rw [e3]; simp [List.getD]
  · rw [e3]; simp
  · rw [take_snoc h, List.filter_append, List.filter_cons_of_pos hp]; simp
theorem filter_no {α : Type} [Inhabited α] (P : α → Bool) {l : List α} {j : Nat} (h : j < l.length) (hp : P (l.getD j default) = false) : ((l.take (j + 1)).filter P).length = ((l.take j).filter P).length := by
  rw [take_snoc h, List.filter_append, List.filter_cons_of_neg (by rw [hp]; decide)]; simp
end Go.Proofs.YthfcafcjkaemiaaGreatDoor.Mk
namespace Go.Ab
theorem AWP.newOwnM {P : Program} {n : Nat} {c : Code} {K : Exit → Env → Store → Prop} {env : Env} {σ : Store} (sz : Nat) (hk : AWP P n c K env (σ ++ [.own sz 0])) : AWP P n c K env σ := by
  intro G a w hr
  have hle : G.Le { G with B := G.B ++ [.own none 0 0] } := .upB (BLe.append _ _)
  refine wpIn_mono (hk { G with B := G.B ++ [GB.own none 0 0] } a w (hr.later hle (hr.st.ownNil sz))) ?_
  rintro x a' w' ⟨e, s, G', h1, h2, h3⟩
  exact ⟨e, s, G', h1, Gh.Le.trans hle h2, h3⟩
end Go.Ab
namespace Go.Proofs.YthfcafcjkaemiaaGreatDoor.Mk
open Go.Ab Go.Jo
attribute [local irreducible] AWP AOps EStep AQ PStep PRun PCall TCall VCall DStep TDies AWD DCall

def cntO (a b k : Nat) : Nat := match k with
  | 0 => 0
  | 1 => a
  | _ => b
def clsP (o : Oper) : Nat := match o.op with
  | .call { callee := .builtin .append, args := _, argTypes := _ } => 1
  | _ => 0
theorem marksOk_app {l : List Jo.Mark} {m : Jo.Mark} (h : marksOk (l ++ [m]) = true) : marksOk l = true ∧ markOk m = true ∧ (∀ w ∈ l, w.id ≠ m.id) := by
  have hn := marksOk_nodup h
  rw [List.map_append, List.nodup_append] at hn
  refine ⟨?_, marksOk_mem h (by simp), fun w hw e => hn.2.2 _ (List.mem_map.2 ⟨w, hw, rfl⟩) m.id (by simp) e⟩
  have h2 : (l ++ [m]).length ≤ 20000 := by
    unfold marksOk at h
    simp only [Bool.and_eq_true, decide_eq_true_eq] at h
    exact h.2
  rw [List.length_append] at h2
  unfold marksOk
  simp only [Bool.and_eq_true, decide_eq_true_eq, List.all_eq_true]
  exact ⟨⟨fun w hw => marksOk_mem h (List.mem_append_left _ hw), hn.1⟩, by omega⟩
set_option maxHeartbeats 32000000 in
set_option maxRecDepth 40000 in
theorem further_law (s : Score) (hz : s.Sized) (l : List Jo.Mark) (hl : l.length * 88 ≤ 140737488351232) (ht : TextsIn l) (m : Jo.Mark) (hmt : m.text.length ≤ 9223372036854775807) (r : Rdr) :
    PCall Tryz.prog 10 [.agg (encS s), .sl 10 (l.map encMk) .no, .agg (encMk m), .agg (encRd r)] (.b true) := by
  have hh := mhead_spec
  have hta : TextsIn (l ++ [m]) := fun w hw => by
    rcases List.mem_append.1 hw with h | h
    · exact ht w h
    · have : w = m := by simpa using h
      rw [this]; exact hmt
  have hla : (l ++ [m]).length ≤ 9223372036854775807 := by rw [List.length_append, List.length_singleton]; omega
  have hu := usable_spec s hz (l ++ [m]) hla hta
  have hm1 : (l ++ [m]).map encMk = l.map encMk ++ [encMk m] := by rw [List.map_append]; rfl
  rw [hm1] at hu
  refine PCall.body Tryz.func10 rfl rfl Tryz.ntmps10 rfl rfl ?_
  repeat' (first | refine AOps.q rfl rfl rfl (fun hg => by first | exact std0 | exact PRun.callW (hh) rfl rfl nd rfl nds | exact std1) (by exact rfl) ?_ | refine AWP.seq ?_ | refine AWP.regionK (fun K' hK => ?_) | (refine AOps.nil (hK _ _ ?_); clear hK K') | refine AOps.e (EStep.boxW rfl rfl rfl rfl rfl True.intro rfl rfl ?_) | refine AOps.e (EStep.storeW tabOk rfl rfl rfl True.intro rfl rfl True.intro rfl rfl rfl rfl rfl rfl rfl ?_) | refine AOps.e (EStep.allocW tabOk rfl rfl rfl rfl rfl rfl ?_) | (refine AWP.condW rfl True.intro (fun hc => ?_) (fun hc => ?_) <;> (first | (simp only [decide_eq_true_eq] at hc) | (simp only [decide_eq_false_iff_not, Int.not_lt, Int.not_le] at hc) | skip)) | refine AWP.block ?_ | refine AWP.exit ?_ | refine AWP.skip ?_ | refine AWP.ret ?_ | refine AWP.drawK2 (by decide +kernel) (by kernel_rfl) (by decide +kernel) rfl (fun K' hK => ?_) | refine AWP.drawL2 (by kernel_rfl) (by decide +kernel) rfl (fun K' hK => ?_) | (refine AQ.nil (hK _ ?_); clear hK K') | refine AQ.nil ?_ | refine AQ.q rfl rfl (fun hg => by first | exact std0 | exact PRun.callW (hh) rfl rfl nd rfl nds | exact std1) (by exact rfl) ?_)
  refine AWP.newOwnM 10 ?_
  refine AWP.drawV 1 clsP (fun J => [.var (encS s), .var (encMk m), .var (encRd r)] ++ [.own 10 (cntO (List.map encMk l).length (List.map encMk l ++ [encMk m]).length (J 1))]) rfl (by kernel_rfl) (by decide +kernel) rfl (by decide +kernel) (fun K' hK => ?_)
  repeat' (first
    | refine VQ.q rfl (by decide +kernel) rfl rfl (fun J' hg => by first | exact std0 | exact PRun.buildSl0 tabOk rfl rfl | exact std1) (by exact rfl) ?_)
  refine VQ.e 1 0 (v := (.sl 10 (List.map encMk l) (if l = [] then .fresh else .own 3))) (d := some 36) rfl (by decide +kernel) rfl ?_ ?_
  · intro env' he J' hJ
    show EStep _ _ _ _ (fun e s' => _ ∧ s' = [.var (encS s), .var (encMk m), .var (encRd r)] ++ [.own 10 (cntO (List.map encMk l).length (List.map encMk l ++ [encMk m]).length (J' 1 + 1))]) env' ([.var (encS s), .var (encMk m), .var (encRd r)] ++ [.own 10 (cntO (List.map encMk l).length (List.map encMk l ++ [encMk m]).length (J' 1))])
    rw [hJ]
    by_cases hne : l = []
    · exact EStep.appendE tabOk rfl rfl rfl (by decide) (Rd.w ((rdv_congr (he 34 (by decide +kernel))).trans rfl) (by rw [rdn_congr (he 34 (by decide +kernel))]; first | exact True.intro | exact rfl)) (Rd.w ((rdv_congr (he 35 (by decide +kernel))).trans (congrArg (fun x => some (AV.sl 10 (List.map encMk x) Tok.no)) hne)) (by rw [rdn_congr (he 35 (by decide +kernel))]; first | exact True.intro | exact rfl)) (.sl rfl (one_encMk [])) (LOk.of (tabOk.get rfl)) (LOk.of (tabOk.get rfl)) rfl ⟨(by show env'.put 36 (.sl 10 [] .fresh) = env'.put 36 (.sl 10 (List.map encMk l) (if l = [] then .fresh else .own 3)); rw [if_pos hne, hne]; rfl), (by show [_, _, _, AObj.own 10 0] = [_, _, _, AObj.own 10 (List.map encMk l).length]; rw [hne]; rfl)⟩
    · exact EStep.appendAt (l := 3) tabOk rfl rfl rfl (by decide) (Rd.w ((rdv_congr (he 34 (by decide +kernel))).trans rfl) (by rw [rdn_congr (he 34 (by decide +kernel))]; first | exact True.intro | exact rfl)) rfl (Rd.w ((rdv_congr (he 35 (by decide +kernel))).trans rfl) (by rw [rdn_congr (he 35 (by decide +kernel))]; first | exact True.intro | exact rfl)) (.sl rfl (one_encMk _)) (by rw [List.length_map]; exact List.length_pos_iff.2 hne) (LOk.of (tabOk.get rfl)) (LOk.of (tabOk.get rfl)) rfl rfl (by simp only [List.length_map, List.length_append, List.length_cons, List.length_nil]; omega) (by simp only [List.length_map, List.length_append, List.length_cons, List.length_nil]; omega) ⟨(by show env'.put 36 (.sl 10 (List.map encMk l) (.own 3)) = env'.put 36 (.sl 10 (List.map encMk l) (if l = [] then .fresh else .own 3)); rw [if_neg hne]), rfl⟩
  repeat' (first
    | refine VQ.q rfl (by decide +kernel) rfl rfl (fun J' hg => by first | exact std0 | exact PRun.buildSlW tabOk rfl rfl nds | exact std1) (by exact rfl) ?_)
  refine VQ.e 1 1 (v := (.sl 10 (List.map encMk l ++ [encMk m]) (.own 3))) (d := some 39) rfl (by decide +kernel) rfl ?_ ?_
  · intro env' he J' hJ
    show EStep _ _ _ _ (fun e s' => _ ∧ s' = [.var (encS s), .var (encMk m), .var (encRd r)] ++ [.own 10 (cntO (List.map encMk l).length (List.map encMk l ++ [encMk m]).length (J' 1 + 1))]) env' ([.var (encS s), .var (encMk m), .var (encRd r)] ++ [.own 10 (cntO (List.map encMk l).length (List.map encMk l ++ [encMk m]).length (J' 1))])
    rw [hJ]
    by_cases hne : l = []
    · exact EStep.appendAt (l := 3) tabOk rfl rfl rfl (by decide) (Rd.w ((rdv_congr (he 36 (by decide +kernel))).trans (by show some (.sl 10 (List.map encMk l) (if l = [] then .fresh else .own 3)) = some (AV.sl 10 [] .fresh); rw [if_pos hne, hne]; rfl)) (by rw [rdn_congr (he 36 (by decide +kernel))]; first | exact True.intro | exact rfl)) (by show some (AObj.own 10 (List.map encMk l).length) = some (AObj.own 10 0); rw [hne]; rfl) (Rd.w ((rdv_congr (he 38 (by decide +kernel))).trans rfl) (by rw [rdn_congr (he 38 (by decide +kernel))]; first | exact True.intro | exact rfl)) (.sl rfl (by intro x hx; rcases List.mem_singleton.1 hx with rfl; rfl)) (Nat.succ_pos _) (LOk.of (tabOk.get rfl)) (LOk.of (tabOk.get rfl)) rfl rfl (by simp only [List.length_map, List.length_append, List.length_cons, List.length_nil]; omega) (by simp only [List.length_map, List.length_append, List.length_cons, List.length_nil]; omega) ⟨(by show env'.put 39 (.sl 10 [encMk m] (.own 3)) = env'.put 39 (.sl 10 (List.map encMk l ++ [encMk m]) (.own 3)); rw [hne]; rfl), (by show [_, _, _, AObj.own 10 1] = [_, _, _, AObj.own 10 (List.map encMk l ++ [encMk m]).length]; rw [hne]; rfl)⟩
    · exact EStep.appendOwn' (l := 3) tabOk rfl rfl rfl (by decide) (Rd.w ((rdv_congr (he 36 (by decide +kernel))).trans (by show some (.sl 10 (List.map encMk l) (if l = [] then .fresh else .own 3)) = some (AV.sl 10 (List.map encMk l) (.own 3)); rw [if_neg hne])) (by rw [rdn_congr (he 36 (by decide +kernel))]; first | exact True.intro | exact rfl)) rfl (Rd.w ((rdv_congr (he 38 (by decide +kernel))).trans rfl) (by rw [rdn_congr (he 38 (by decide +kernel))]; first | exact True.intro | exact rfl)) (.sl rfl (by intro x hx; rcases List.mem_singleton.1 hx with rfl; rfl)) (LOk.of (tabOk.get rfl)) (LOk.of (tabOk.get rfl)) rfl rfl (by simp only [List.length_map, List.length_append, List.length_cons, List.length_nil]; omega) (by simp only [List.length_map, List.length_append, List.length_cons, List.length_nil]; omega) ⟨rfl, rfl⟩
  repeat' (first
    | refine VQ.q rfl (by decide +kernel) rfl rfl (fun J' hg => by first | exact std0 | exact std1) (by exact rfl) ?_)
  refine VQ.nil (hK _ _ ?_)
  clear hK K'
  show AWP _ _ _ _ _ ([.var (encS s), .var (encMk m), .var (encRd r)] ++ [.own 10 (List.map encMk l ++ [encMk m]).length])
  refine AWP.keep [(1, .sl 10 (l.map encMk) .no), (4, .ptr 0 0), (6, .ptr 1 0), (7, .ptr 2 0), (9, .b true), (10, (.sl 10 (List.map encMk l ++ [encMk m]) (.own 3)))] ⟨rfl, rfl, rfl, rfl, rfl, rfl, True.intro⟩ ?_
  clear hh
  cases hus : usableR s (l ++ [m]) with
  | false =>
    rw [hus] at hu
    repeat' (first | refine AOps.q rfl rfl rfl (fun hg => by first | exact std0 | exact PRun.callW (hu) rfl rfl nd rfl nds | exact std1) (by exact rfl) ?_ | refine AWP.seq ?_ | refine AWP.regionK (fun K' hK => ?_) | (refine AOps.nil (hK _ _ ?_); clear hK K') | refine AOps.e (EStep.boxW rfl rfl rfl rfl rfl True.intro rfl rfl ?_) | refine AOps.e (EStep.storeW tabOk rfl rfl rfl True.intro rfl rfl True.intro rfl rfl rfl rfl rfl rfl rfl ?_) | refine AOps.e (EStep.allocW tabOk rfl rfl rfl rfl rfl rfl ?_) | (refine AWP.condW rfl True.intro (fun hc => ?_) (fun hc => ?_) <;> (first | (simp only [decide_eq_true_eq] at hc) | (simp only [decide_eq_false_iff_not, Int.not_lt, Int.not_le] at hc) | skip)) | refine AWP.block ?_ | refine AWP.exit ?_ | refine AWP.skip ?_ | refine AWP.ret ?_ | (refine AQ.nil (hK _ ?_); clear hK K') | refine AQ.nil ?_ | refine AQ.q rfl rfl (fun hg => by first | exact std0 | exact PRun.callW (hu) rfl rfl nd rfl nds | exact std1) (by exact rfl) ?_)
    · exact ⟨.inr rfl, Ent.b rfl⟩
    all_goals (exfalso; simp at hc)
  | true =>
    rw [hus] at hu
    obtain ⟨u1, u2, u3, u4⟩ := usableR_split hus
    have hs := Score.few_small u1
    have hn := few_notes u1
    cases hrd : readsI s r with
    | false =>
      have hr := reads_no s hs r hrd
      repeat' (first | refine AOps.q rfl rfl rfl (fun hg => by first | exact std0 | exact PRun.callW (hu) rfl rfl nd rfl nds | exact PRun.callW (hr) rfl rfl nd rfl nds | exact std1) (by exact rfl) ?_ | refine AWP.seq ?_ | refine AWP.regionK (fun K' hK => ?_) | (refine AOps.nil (hK _ _ ?_); clear hK K') | refine AOps.e (EStep.boxW rfl rfl rfl rfl rfl True.intro rfl rfl ?_) | refine AOps.e (EStep.storeW tabOk rfl rfl rfl True.intro rfl rfl True.intro rfl rfl rfl rfl rfl rfl rfl ?_) | refine AOps.e (EStep.allocW tabOk rfl rfl rfl rfl rfl rfl ?_) | (refine AWP.condW rfl True.intro (fun hc => ?_) (fun hc => ?_) <;> (first | (simp only [decide_eq_true_eq] at hc) | (simp only [decide_eq_false_iff_not, Int.not_lt, Int.not_le] at hc) | skip)) | refine AWP.block ?_ | refine AWP.exit ?_ | refine AWP.skip ?_ | refine AWP.ret ?_ | (refine AQ.nil (hK _ ?_); clear hK K') | refine AQ.nil ?_ | refine AQ.q rfl rfl (fun hg => by first | exact std0 | exact PRun.callW (hu) rfl rfl nd rfl nds | exact PRun.callW (hr) rfl rfl nd rfl nds | exact std1) (by exact rfl) ?_)
      · exfalso; simp at hc
      · exact ⟨.inr rfl, Ent.b rfl⟩
      all_goals (exfalso; simp at hc)
    | true =>
      obtain ⟨hr1, k, e1, e2, e3, e4⟩ := reads_split hrd
      obtain ⟨p, hP⟩ : ∃ p, s.parts.getD k default = p := ⟨_, rfl⟩
      rw [hP] at e3 e4
      have hr := reads_yes s hs r hr1 e1 e2 hP e3
      obtain ⟨v1, hmk, hid⟩ := marksOk_app u4
      have hlen : (l ++ [m]).length = l.length + 1 := by simp
      have hsx := shown_spec s hs (by omega) l (by omega) ht r
      have hsy := shown_spec s hs (by omega) (l ++ [m]) (by omega) hta r
      rw [shownR_yes u3 v1 hr1 e1 hP e3] at hsx
      rw [shownR_yes u3 u4 hr1 e1 hP e3, hm1] at hsy
      have hme := meant_spec m p r hmt
      rw [meant_ok hmk hr1 e4.symm] at hme
      have hpl := plays_spec s hs r.part
      rw [playsR_yes u3 e1 hP] at hpl
      have hln := marksOk_nodup v1
      have hlan := marksOk_nodup u4
      have hnn := played_nodup (scoreOk_nodup u3) p
      have hpn := played_len s.notes p
      have hxl := fun o h => (shownF_some (s := s) (p := p) (r := r) hln (mem_shownL (f := shownF s l p r) (ns := playedL s.notes p) (m := o) |>.1 h).choose_spec.2.choose_spec.2).1
      have hxlen := shownL_len (shownF s l p r) (playedL s.notes p)
      have hylen := shownL_len (shownF s (l ++ [m]) p r) (playedL s.notes p)
      have hxk := shown_nodup_key (fun n k w h => (shownF_some (s := s) (p := p) (r := r) hln h).2.1) (playedL s.notes p) hnn
      have hyk := shown_nodup_key (fun n k w h => (shownF_some (s := s) (p := p) (r := r) hlan h).2.1) (playedL s.notes p) hnn
      have hff := further_filter (s := s) (p := p) (r := r) (ns := playedL s.notes p) hln hid
      have hfm := further_mem (s := s) (p := p) (r := r) (ns := playedL s.notes p) hln hid (markOk_kind hmk)
      have hlm : ∀ o ∈ l, markOk o = true := fun o ho => marksOk_mem v1 ho
      generalize playedL s.notes p = ns at *
      obtain ⟨live, hlive⟩ : ∃ b, liveM s p r ns m = b := ⟨_, rfl⟩
      rw [hlive] at hff hfm
      have hfd := foldD_eq m live hxk (shownL (shownF s l p r) ns).length (Nat.le_refl _)
      rw [List.take_length] at hfd
      have hwant : (foldD m live (shownL (shownF s l p r) ns)).1 = (shownL (shownF s (l ++ [m]) p r) ns).filter (fun o => o != m) := by rw [hfd.1, hff]
      have hcs : m ∈ shownL (shownF s (l ++ [m]) p r) ns ↔ (foldD m live (shownL (shownF s l p r) ns)).2 = true := by rw [hfm, hfd.2]
      have hyn : True := True.intro
      clear hff hfm hfd hxk
      generalize shownL (shownF s l p r) ns = x at *
      generalize shownL (shownF s (l ++ [m]) p r) ns = y at *
      repeat' (first | refine AOps.q rfl rfl rfl (fun hg => by first | exact std0 | exact PRun.callW (hu) rfl rfl nd rfl nds | exact PRun.callW (hr) rfl rfl nd rfl nds | exact PRun.callW (hsx) rfl rfl nd rfl nds | exact PRun.callW (hsy) rfl rfl nd rfl nds | exact PRun.callW (hme) rfl rfl nd rfl nds | exact PRun.callW (hpl) rfl rfl nd rfl nds | exact std1) (by exact rfl) ?_ | refine AWP.seq ?_ | refine AWP.regionK (fun K' hK => ?_) | (refine AOps.nil (hK _ _ ?_); clear hK K') | refine AOps.e (EStep.boxW rfl rfl rfl rfl rfl True.intro rfl rfl ?_) | refine AOps.e (EStep.storeW tabOk rfl rfl rfl True.intro rfl rfl True.intro rfl rfl rfl rfl rfl rfl rfl ?_) | refine AOps.e (EStep.allocW tabOk rfl rfl rfl rfl rfl rfl ?_) | (refine AWP.condW rfl True.intro (fun hc => ?_) (fun hc => ?_) <;> (first | (simp only [decide_eq_true_eq] at hc) | (simp only [decide_eq_false_iff_not, Int.not_lt, Int.not_le] at hc) | skip)) | refine AWP.block ?_ | refine AWP.exit ?_ | refine AWP.skip ?_ | refine AWP.ret ?_ | refine AWP.drawK2 (by decide +kernel) (by kernel_rfl) (by decide +kernel) rfl (fun K' hK => ?_) | refine AWP.drawL2 (by kernel_rfl) (by decide +kernel) rfl (fun K' hK => ?_) | (refine AQ.nil (hK _ ?_); clear hK K') | refine AQ.nil ?_ | refine AQ.q rfl rfl (fun hg => by first | exact std0 | exact PRun.callW (hu) rfl rfl nd rfl nds | exact PRun.callW (hr) rfl rfl nd rfl nds | exact PRun.callW (hsx) rfl rfl nd rfl nds | exact PRun.callW (hsy) rfl rfl nd rfl nds | exact PRun.callW (hme) rfl rfl nd rfl nds | exact PRun.callW (hpl) rfl rfl nd rfl nds | exact std1) (by exact rfl) ?_)
      · exfalso; simp at hc
      · exfalso; simp at hc
      · exfalso; simp at hc
      clear hu hr hsx hsy hme hpl
      refine AWP.loopD (ι := Nat) (fun j => [(4, .ptr 0 0), (6, .ptr 1 0), (9, .b true), (13, .sl 10 (x.map encMk) .no), (15, .sl 10 (y.map encMk) .no), (17, .b (forM m p.section_ r)), (20, .int 0), (21, .b (decide (m.note ∈ (ns.take j).map (fun n : Note => n.id)))), (92, .sl 12 (ns.map encN) .no), (93, .int ns.length), (94, .int j)]) (fun _ => [.var (encS s), .var (encMk m), .var (encRd r), .own 10 (List.map encMk l ++ [encMk m]).length, .var (encP p)])
        (fun j => j ≤ ns.length) (fun j => ns.length - j) 5 (fun _ => rfl) 0 (Nat.zero_le _) ⟨rfl, rfl, rfl, rfl, rfl, rfl, rfl, rfl, rfl, rfl, rfl, True.intro⟩ rfl (fun _ _ => rfl) (fun _ _ => rfl) ?_
      intro j hj
      by_cases hjl : j < ns.length
      · obtain ⟨n, hn1⟩ : ∃ n, ns.getD j default = n := ⟨_, rfl⟩
        have hsuc : decide (m.note ∈ (ns.take (j + 1)).map (fun n : Note => n.id)) = (decide (m.note ∈ (ns.take j).map (fun n : Note => n.id)) || (n.id == m.note)) := by
          rw [take_snoc hjl, hn1, List.map_append, Bool.eq_iff_iff]
          simp only [List.mem_append, List.map_cons, List.map_nil, List.mem_singleton, decide_eq_true_eq, Bool.or_eq_true, beq_iff_eq]
          exact ⟨fun h => h.elim .inl fun e => .inr e.symm, fun h => h.elim .inl fun e => .inr e.symm⟩
        generalize decide (m.note ∈ (ns.take j).map (fun n : Note => n.id)) = d at *
        repeat' (first | refine AOps.q rfl rfl rfl (fun hg => by first | exact PRun.eq (v := .iptr (encN (ns.getD ((j : Nat) : Int).toNat default))) (PRun.indexMW tabOk rfl rfl nd rfl nd rfl rfl (by omega)) (congrArg (fun x => AV.iptr (encN x)) hn1) | exact std0 | exact std1) (by exact rfl) ?_ | refine AWP.seq ?_ | refine AWP.regionK (fun K' hK => ?_) | (refine AOps.nil (hK _ _ ?_); clear hK K') | refine AOps.e (EStep.boxW rfl rfl rfl rfl rfl True.intro rfl rfl ?_) | refine AOps.e (EStep.storeW tabOk rfl rfl rfl True.intro rfl rfl True.intro rfl rfl rfl rfl rfl rfl rfl ?_) | refine AOps.e (EStep.allocW tabOk rfl rfl rfl rfl rfl rfl ?_) | (refine AWP.condW rfl True.intro (fun hc => ?_) (fun hc => ?_) <;> (first | (simp only [decide_eq_true_eq] at hc) | (simp only [decide_eq_false_iff_not, Int.not_lt, Int.not_le] at hc) | skip)) | refine AWP.block ?_ | refine AWP.exit ?_ | refine AWP.skip ?_ | refine AWP.ret ?_ | refine AWP.drawK2 (by decide +kernel) (by kernel_rfl) (by decide +kernel) rfl (fun K' hK => ?_) | refine AWP.drawL2 (by kernel_rfl) (by decide +kernel) rfl (fun K' hK => ?_) | (refine AQ.nil (hK _ ?_); clear hK K') | refine AQ.nil ?_ | refine AQ.q rfl rfl (fun hg => by first | exact PRun.eq (v := .iptr (encN (ns.getD ((j : Nat) : Int).toNat default))) (PRun.indexMW tabOk rfl rfl nd rfl nd rfl rfl (by omega)) (congrArg (fun x => AV.iptr (encN x)) hn1) | exact std0 | exact std1) (by exact rfl) ?_)
        all_goals (first | (exfalso; omega) | skip)
        refine ⟨j + 1, by omega, by omega, ⟨rfl, rfl, rfl, rfl, rfl, rfl, rfl, ?_, rfl, rfl, rfl, True.intro⟩, rfl⟩
        rw [hsuc]; rfl
      obtain rfl : j = ns.length := by omega
      rw [List.take_length]
      repeat' (first | refine AOps.q rfl rfl rfl (fun hg => by first | exact std0 | exact std1) (by exact rfl) ?_ | refine AWP.seq ?_ | refine AWP.regionK (fun K' hK => ?_) | (refine AOps.nil (hK _ _ ?_); clear hK K') | refine AOps.e (EStep.boxW rfl rfl rfl rfl rfl True.intro rfl rfl ?_) | refine AOps.e (EStep.storeW tabOk rfl rfl rfl True.intro rfl rfl True.intro rfl rfl rfl rfl rfl rfl rfl ?_) | refine AOps.e (EStep.allocW tabOk rfl rfl rfl rfl rfl rfl ?_) | (refine AWP.condW rfl True.intro (fun hc => ?_) (fun hc => ?_) <;> (first | (simp only [decide_eq_true_eq] at hc) | (simp only [decide_eq_false_iff_not, Int.not_lt, Int.not_le] at hc) | skip)) | refine AWP.block ?_ | refine AWP.exit ?_ | refine AWP.skip ?_ | refine AWP.ret ?_ | refine AWP.drawK2 (by decide +kernel) (by kernel_rfl) (by decide +kernel) rfl (fun K' hK => ?_) | refine AWP.drawL2 (by kernel_rfl) (by decide +kernel) rfl (fun K' hK => ?_) | (refine AQ.nil (hK _ ?_); clear hK K') | refine AQ.nil ?_ | refine AQ.q rfl rfl (fun hg => by first | exact std0 | exact std1) (by exact rfl) ?_)
      all_goals (first | (exfalso; omega) | skip)
      have hlv : ((forM m p.section_ r && decide (m.note ∈ ns.map (fun n : Note => n.id))) && m.version == s.version) = live := hlive
      refine AWP.keep [(6, .ptr 1 0), (9, .b true), (13, .sl 10 (x.map encMk) .no), (15, .sl 10 (y.map encMk) .no), (20, .int 0), (24, .b live), (25, .nils), (118, .sl 10 (x.map encMk) .no), (119, .int x.length), (120, .int ((0 : Nat) : Int))] ⟨rfl, rfl, rfl, rfl, rfl, (by rw [← hlv]; rfl), rfl, rfl, rfl, rfl, True.intro⟩ ?_
      refine AWP.ownNil (d := 25) (sz := 10) rfl ?_
      refine AWP.loopD (ι := Nat) (fun j => [(6, .ptr 1 0), (9, .b true), (15, .sl 10 (y.map encMk) .no), (20, .int 0), (24, .b (foldD m live (x.take j)).2), (25, .sl 10 ((foldD m live (x.take j)).1.map encMk) (.own 5)), (118, .sl 10 (x.map encMk) .no), (119, .int x.length), (120, .int j)]) (fun j => [.var (encS s), .var (encMk m), .var (encRd r), .own 10 (List.map encMk l ++ [encMk m]).length, .var (encP p), .own 10 ((foldD m live (x.take j)).1.map encMk).length])
        (fun j => j ≤ x.length) (fun j => x.length - j) 6 (fun _ => rfl) 0 (Nat.zero_le _) ⟨rfl, rfl, rfl, rfl, rfl, rfl, rfl, rfl, rfl, True.intro⟩ rfl (fun _ _ => rfl) (fun _ _ => rfl) ?_
      intro j hj
      by_cases hjx : j < x.length
      · have hol := foldD_len m live (x.take j)
        rw [List.length_take] at hol
        have hxm := hxl (x.getD j default) (by rw [getD_lt hjx]; exact List.getElem_mem hjx)
        have hst : foldD m live (x.take (j + 1)) = stepD m (foldD m live (x.take j)) (x.getD j default) := by rw [take_snoc hjx, foldD_snoc]
        obtain ⟨o, ho⟩ : ∃ o, x.getD j default = o := ⟨_, rfl⟩
        rw [ho] at hst hxm
        have hbe := before_spec o m (ht o hxm) hmt
        rw [before_ok (hlm o hxm) hmk] at hbe
        generalize foldD m live (x.take j) = a at *
        clear hyn hyk
        repeat' (first | refine AOps.q rfl rfl rfl (fun hg => by first | exact PRun.eq (v := .iptr (encMk (x.getD ((j : Nat) : Int).toNat default))) (PRun.indexMW tabOk rfl rfl nd rfl nd rfl rfl (by omega)) (congrArg (fun x => AV.iptr (encMk x)) ho) | exact std0 | exact PRun.callW (hbe) rfl rfl nd rfl nds | exact PRun.buildSlW tabOk rfl rfl nds | exact std1) (by exact rfl) ?_ | refine AWP.seq ?_ | refine AWP.regionK (fun K' hK => ?_) | (refine AOps.nil (hK _ _ ?_); clear hK K') | refine AOps.e (EStep.boxW rfl rfl rfl rfl rfl True.intro rfl rfl ?_) | refine AOps.e (EStep.storeW tabOk rfl rfl rfl True.intro rfl rfl True.intro rfl rfl rfl rfl rfl rfl rfl ?_) | refine AOps.e (EStep.allocW tabOk rfl rfl rfl rfl rfl rfl ?_) | refine AOps.e (EStep.appendOwn' tabOk rfl rfl rfl (by decide) (Rd.w rfl True.intro) rfl (Rd.w rfl True.intro) (.sl rfl (by first | (intro x hx; rcases List.mem_singleton.1 hx with rfl; rfl) | exact one_encMk [o])) (LOk.of (tabOk.get rfl)) (LOk.of (tabOk.get rfl)) rfl rfl (by simp only [List.length_map, List.length_append, List.length_cons, List.length_nil, List.length_take, List.length_drop]; omega) (by simp only [List.length_map, List.length_append, List.length_cons, List.length_nil, List.length_take, List.length_drop]; omega) ?_) | (refine AWP.condW rfl True.intro (fun hc => ?_) (fun hc => ?_) <;> (first | (simp only [decide_eq_true_eq] at hc) | (simp only [decide_eq_false_iff_not, Int.not_lt, Int.not_le] at hc) | skip)) | refine AWP.block ?_ | refine AWP.exit ?_ | refine AWP.skip ?_ | refine AWP.ret ?_ | refine AWP.drawK2 (by decide +kernel) (by kernel_rfl) (by decide +kernel) rfl (fun K' hK => ?_) | refine AWP.drawL2 (by kernel_rfl) (by decide +kernel) rfl (fun K' hK => ?_) | (refine AQ.nil (hK _ ?_); clear hK K') | refine AQ.nil ?_ | refine AQ.q rfl rfl (fun hg => by first | exact PRun.eq (v := .iptr (encMk (x.getD ((j : Nat) : Int).toNat default))) (PRun.indexMW tabOk rfl rfl nd rfl nd rfl rfl (by omega)) (congrArg (fun x => AV.iptr (encMk x)) ho) | exact std0 | exact PRun.callW (hbe) rfl rfl nd rfl nds | exact PRun.buildSlW tabOk rfl rfl nds | exact std1) (by exact rfl) ?_)
        all_goals (first | (exfalso; omega) | skip)
        · exfalso; simp at hc
        · have h9 : ((o.note != m.note || o.kind != m.kind) || !a.2) = true := hc
          unfold stepD at hst
          rw [if_pos h9] at hst
          refine ⟨j + 1, by omega, by omega, ⟨rfl, rfl, rfl, rfl, ?_, ?_, rfl, rfl, rfl, True.intro⟩, ?_⟩
          · rw [hst]; rfl
          · rw [hst, List.map_append]; rfl
          · rw [hst, List.map_append]; rfl
        · rename_i h1
          have h9 : ((o.note != m.note || o.kind != m.kind) || !a.2) = false := h1
          unfold stepD at hst
          rw [if_neg (by rw [h9]; decide), if_pos hc] at hst
          refine ⟨j + 1, by omega, by omega, ⟨rfl, rfl, rfl, rfl, ?_, ?_, rfl, rfl, rfl, True.intro⟩, ?_⟩
          · rw [hst]; rfl
          · rw [hst, List.map_append]; rfl
          · rw [hst, List.map_append]; rfl
        · rename_i h1
          have h9 : ((o.note != m.note || o.kind != m.kind) || !a.2) = false := h1
          unfold stepD at hst
          rw [if_neg (by rw [h9]; decide), if_neg (by rw [hc]; decide)] at hst
          refine ⟨j + 1, by omega, by omega, ⟨rfl, rfl, rfl, rfl, ?_, ?_, rfl, rfl, rfl, True.intro⟩, ?_⟩
          · rw [hst]; rfl
          · rw [hst]; rfl
          · rw [hst]; rfl
      obtain rfl : j = x.length := by omega
      rw [List.take_length]
      obtain ⟨w, hw⟩ : ∃ w, foldD m live x = w := ⟨_, rfl⟩
      rw [hw] at hwant hcs ⊢
      have hwl : w.1.length ≤ y.length := by rw [hwant]; exact List.length_filter_le _ _
      repeat' (first | refine AOps.q rfl rfl rfl (fun hg => by first | exact std0 | exact std1) (by exact rfl) ?_ | refine AWP.seq ?_ | refine AWP.regionK (fun K' hK => ?_) | (refine AOps.nil (hK _ _ ?_); clear hK K') | refine AOps.e (EStep.boxW rfl rfl rfl rfl rfl True.intro rfl rfl ?_) | refine AOps.e (EStep.storeW tabOk rfl rfl rfl True.intro rfl rfl True.intro rfl rfl rfl rfl rfl rfl rfl ?_) | refine AOps.e (EStep.allocW tabOk rfl rfl rfl rfl rfl rfl ?_) | (refine AWP.condW rfl True.intro (fun hc => ?_) (fun hc => ?_) <;> (first | (simp only [decide_eq_true_eq] at hc) | (simp only [decide_eq_false_iff_not, Int.not_lt, Int.not_le] at hc) | skip)) | refine AWP.block ?_ | refine AWP.exit ?_ | refine AWP.skip ?_ | refine AWP.ret ?_ | refine AWP.drawK2 (by decide +kernel) (by kernel_rfl) (by decide +kernel) rfl (fun K' hK => ?_) | refine AWP.drawL2 (by kernel_rfl) (by decide +kernel) rfl (fun K' hK => ?_) | (refine AQ.nil (hK _ ?_); clear hK K') | refine AQ.nil ?_ | refine AQ.q rfl rfl (fun hg => by first | exact std0 | exact std1) (by exact rfl) ?_)
      all_goals (first | (exfalso; omega) | skip)
      refine AWP.loopD (ι := Nat) (fun j => [(6, .ptr 1 0), (9, .b true), (20, .int 0), (24, .b (w.2 && !decide (m ∈ y.take j))), (25, .sl 10 (w.1.map encMk) (.own 5)), (30, .int ((y.take j).filter (fun o => o != m)).length), (158, .sl 10 (y.map encMk) .no), (159, .int y.length), (160, .int j)]) (fun _ => [.var (encS s), .var (encMk m), .var (encRd r), .own 10 (List.map encMk l ++ [encMk m]).length, .var (encP p), .own 10 (w.1.map encMk).length])
        (fun j => j ≤ y.length) (fun j => y.length - j) 6 (fun _ => rfl) 0 (Nat.zero_le _) ⟨rfl, rfl, rfl, (by show AV.b w.2 = AV.b (w.2 && !decide (m ∈ y.take 0)); simp), rfl, rfl, rfl, rfl, rfl, True.intro⟩ rfl (fun _ _ => rfl) (fun _ _ => rfl) ?_
      intro j hj
      by_cases hjy : j < y.length
      · have hnew := (keyAL_succ hyk hjy).1
        have hym : y.getD j default ∈ y := by rw [getD_lt hjy]; exact List.getElem_mem hjy
        have hfa := filter_at (fun o : Jo.Mark => o != m) hjy
        have hfn := filter_no (fun o : Jo.Mark => o != m) hjy
        have hts := take_snoc hjy
        obtain ⟨o, ho⟩ : ∃ o, y.getD j default = o := ⟨_, rfl⟩
        rw [ho] at hnew hym hfa hfn hts
        have hfl : ((y.take j).filter (fun o => o != m)).length ≤ y.length := Nat.le_trans (List.length_filter_le _ _) (by rw [List.length_take]; omega)
        by_cases hom : o = m
        · subst hom
          have hc1 : w.2 = true := hcs.1 hym
          have hc2 : decide (o ∈ y.take j) = false := decide_eq_false fun h => hnew (List.mem_map.2 ⟨o, h, rfl⟩)
          have hc3 : decide (o ∈ y.take (j + 1)) = true := decide_eq_true (by rw [hts]; simp)
          have hk := hfn (by simp)
          rw [hc1, hc2]
          generalize ((y.take j).filter (fun o' => o' != o)).length = kk at *
          repeat' (first | refine AOps.q rfl rfl rfl (fun hg => by first | exact PRun.eq (v := .iptr (encMk (y.getD ((j : Nat) : Int).toNat default))) (PRun.indexMW tabOk rfl rfl nd rfl nd rfl rfl (by omega)) (congrArg (fun x => AV.iptr (encMk x)) ho) | exact std0 | exact PRun.eqN flM rfl rfl nd rfl nd rfl | exact std1) (by exact rfl) ?_ | refine AWP.seq ?_ | refine AWP.regionK (fun K' hK => ?_) | (refine AOps.nil (hK _ _ ?_); clear hK K') | refine AOps.e (EStep.boxW rfl rfl rfl rfl rfl True.intro rfl rfl ?_) | refine AOps.e (EStep.storeW tabOk rfl rfl rfl True.intro rfl rfl True.intro rfl rfl rfl rfl rfl rfl rfl ?_) | refine AOps.e (EStep.allocW tabOk rfl rfl rfl rfl rfl rfl ?_) | (refine AWP.condW rfl True.intro (fun hc => ?_) (fun hc => ?_) <;> (first | (simp only [decide_eq_true_eq] at hc) | (simp only [decide_eq_false_iff_not, Int.not_lt, Int.not_le] at hc) | skip)) | refine AWP.block ?_ | refine AWP.exit ?_ | refine AWP.skip ?_ | refine AWP.ret ?_ | refine AWP.drawK2 (by decide +kernel) (by kernel_rfl) (by decide +kernel) rfl (fun K' hK => ?_) | refine AWP.drawL2 (by kernel_rfl) (by decide +kernel) rfl (fun K' hK => ?_) | (refine AQ.nil (hK _ ?_); clear hK K') | refine AQ.nil ?_ | refine AQ.q rfl rfl (fun hg => by first | exact PRun.eq (v := .iptr (encMk (y.getD ((j : Nat) : Int).toNat default))) (PRun.indexMW tabOk rfl rfl nd rfl nd rfl rfl (by omega)) (congrArg (fun x => AV.iptr (encMk x)) ho) | exact std0 | exact PRun.eqN flM rfl rfl nd rfl nd rfl | exact std1) (by exact rfl) ?_)
          all_goals (first | (exfalso; omega) | skip)
          · refine ⟨j + 1, by omega, by omega, ⟨rfl, rfl, rfl, ?_, rfl, ?_, rfl, rfl, rfl, True.intro⟩, rfl⟩
            · rw [hc3]; simp; rfl
            · rw [hk]; rfl
          all_goals
            exfalso
            first
              | (have h9 : eqM o o = false := hc; rw [eqM_eq] at h9; simp at h9; done)
              | (rename_i h8; have h9 : eqM o o = false := h8; rw [eqM_eq] at h9; simp at h9; done)
              | (rename_i h8 _; have h9 : eqM o o = false := h8; rw [eqM_eq] at h9; simp at h9; done)
        · obtain ⟨f1, f2, f3⟩ := hfa (by simpa using hom)
          rw [← hwant] at f1 f2
          have hd : decide (m ∈ y.take (j + 1)) = decide (m ∈ y.take j) := by
            rw [hts, Bool.eq_iff_iff]; simp [Ne.symm hom]
          generalize ((y.take j).filter (fun o' => o' != m)).length = kk at *
          generalize decide (m ∈ y.take j) = dd at *
          repeat' (first | refine AOps.q rfl rfl rfl (fun hg => by first | exact PRun.eq (v := .iptr (encMk (w.1.getD ((kk : Nat) : Int).toNat default))) (PRun.indexMW tabOk rfl rfl nd rfl nd rfl rfl (by omega)) (congrArg (fun x => AV.iptr (encMk x)) f1) | exact PRun.eq (v := .iptr (encMk (y.getD ((j : Nat) : Int).toNat default))) (PRun.indexMW tabOk rfl rfl nd rfl nd rfl rfl (by omega)) (congrArg (fun x => AV.iptr (encMk x)) ho) | exact std0 | exact PRun.eqN flM rfl rfl nd rfl nd rfl | exact PRun.neN flM rfl rfl nd rfl nd rfl | exact std1) (by exact rfl) ?_ | refine AWP.seq ?_ | refine AWP.regionK (fun K' hK => ?_) | (refine AOps.nil (hK _ _ ?_); clear hK K') | refine AOps.e (EStep.boxW rfl rfl rfl rfl rfl True.intro rfl rfl ?_) | refine AOps.e (EStep.storeW tabOk rfl rfl rfl True.intro rfl rfl True.intro rfl rfl rfl rfl rfl rfl rfl ?_) | refine AOps.e (EStep.allocW tabOk rfl rfl rfl rfl rfl rfl ?_) | (refine AWP.condW rfl True.intro (fun hc => ?_) (fun hc => ?_) <;> (first | (simp only [decide_eq_true_eq] at hc) | (simp only [decide_eq_false_iff_not, Int.not_lt, Int.not_le] at hc) | skip)) | refine AWP.block ?_ | refine AWP.exit ?_ | refine AWP.skip ?_ | refine AWP.ret ?_ | refine AWP.drawK2 (by decide +kernel) (by kernel_rfl) (by decide +kernel) rfl (fun K' hK => ?_) | refine AWP.drawL2 (by kernel_rfl) (by decide +kernel) rfl (fun K' hK => ?_) | (refine AQ.nil (hK _ ?_); clear hK K') | refine AQ.nil ?_ | refine AQ.q rfl rfl (fun hg => by first | exact PRun.eq (v := .iptr (encMk (w.1.getD ((kk : Nat) : Int).toNat default))) (PRun.indexMW tabOk rfl rfl nd rfl nd rfl rfl (by omega)) (congrArg (fun x => AV.iptr (encMk x)) f1) | exact PRun.eq (v := .iptr (encMk (y.getD ((j : Nat) : Int).toNat default))) (PRun.indexMW tabOk rfl rfl nd rfl nd rfl rfl (by omega)) (congrArg (fun x => AV.iptr (encMk x)) ho) | exact std0 | exact PRun.eqN flM rfl rfl nd rfl nd rfl | exact PRun.neN flM rfl rfl nd rfl nd rfl | exact std1) (by exact rfl) ?_)
          all_goals (first | (exfalso; omega) | skip)
          · exfalso
            have h9 : eqM o m = true := hc
            rw [eqM_eq] at h9
            exact hom (by simpa using h9)
          · exfalso
            have h9 : (decide ((kk : Int) ≥ (w.1.length : Int)) || !eqM o o) = true := hc
            rw [eqM_eq, decide_eq_false (by omega)] at h9
            simp at h9
          · refine ⟨j + 1, by omega, by omega, ⟨rfl, rfl, rfl, ?_, rfl, ?_, rfl, rfl, rfl, True.intro⟩, rfl⟩
            · rw [hd]; rfl
            · rw [f3]; show AV.int _ = AV.int _; congr 1
      obtain rfl : j = y.length := by omega
      rw [List.take_length, ← hwant]
      have hfin : (w.2 && !decide (m ∈ y)) = false := by
        cases h : w.2 with
        | false => rfl
        | true => rw [decide_eq_true (hcs.2 h)]; rfl
      rw [hfin]
      repeat' (first | refine AOps.q rfl rfl rfl (fun hg => by first | exact std0 | exact std1) (by exact rfl) ?_ | refine AWP.seq ?_ | refine AWP.regionK (fun K' hK => ?_) | (refine AOps.nil (hK _ _ ?_); clear hK K') | refine AOps.e (EStep.boxW rfl rfl rfl rfl rfl True.intro rfl rfl ?_) | refine AOps.e (EStep.storeW tabOk rfl rfl rfl True.intro rfl rfl True.intro rfl rfl rfl rfl rfl rfl rfl ?_) | refine AOps.e (EStep.allocW tabOk rfl rfl rfl rfl rfl rfl ?_) | (refine AWP.condW rfl True.intro (fun hc => ?_) (fun hc => ?_) <;> (first | (simp only [decide_eq_true_eq] at hc) | (simp only [decide_eq_false_iff_not, Int.not_lt, Int.not_le] at hc) | skip)) | refine AWP.block ?_ | refine AWP.exit ?_ | refine AWP.skip ?_ | refine AWP.ret ?_ | refine AWP.drawK2 (by decide +kernel) (by kernel_rfl) (by decide +kernel) rfl (fun K' hK => ?_) | refine AWP.drawL2 (by kernel_rfl) (by decide +kernel) rfl (fun K' hK => ?_) | (refine AQ.nil (hK _ ?_); clear hK K') | refine AQ.nil ?_ | refine AQ.q rfl rfl (fun hg => by first | exact std0 | exact std1) (by exact rfl) ?_)
      all_goals (first | (exfalso; omega) | skip)
      exact ⟨.inr rfl, Ent.b (by simp)⟩
end Go.Proofs.YthfcafcjkaemiaaGreatDoor.Mk
