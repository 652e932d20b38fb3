/- The law NotesFewer by content. -/
import Derived.Test.YtnmdmmfdnnmdfaaDoorNK
import Derived.Test.YtnmdmmfdnnmdfaaDoorFW
set_option linter.unusedVariables false
set_option linter.unusedSimpArgs false
namespace Go.Proofs.YtnmdmmfdnnmdfaaDoor.Nt
open Go.Ab
attribute [local irreducible] AWP AOps EStep AQ PStep PRun PCall TCall VCall

/-- All but one. -/
def lessL (l : List Note) (k : Nat) : List Note := l.take k ++ l.drop (k + 1)
theorem less_sub (l : List Note) (k : Nat) : (lessL l k).Sublist l := by
  unfold lessL
  have : l = l.take k ++ l.drop k := (List.take_append_drop k l).symm
  conv => rhs; rw [this]
  refine List.Sublist.append (List.Sublist.refl _) ?_
  rw [← List.drop_drop]
  exact List.drop_sublist _ _
theorem less_ok {bars : List Bar} {l : List Note} (h : notesOk bars l = true) (k : Nat) : notesOk bars (lessL l k) = true := by
  have hs := less_sub l k
  unfold notesOk at h ⊢
  simp only [Bool.and_eq_true, decide_eq_true_eq, List.all_eq_true] at h ⊢
  obtain ⟨⟨⟨h1, h2⟩, h3⟩, h4⟩ := h
  exact ⟨⟨⟨h1, by have := hs.length_le; omega⟩, fun x hx => h3 x (hs.subset hx)⟩, h4.sublist (hs.map _)⟩
theorem less_cov {l : List Note} {k : Nat} (hk : k < l.length) (t : Int) : cov ((l.filter (isOf (l.getD k default).part (l.getD k default).bar)).map iv) t = (cov (((lessL l k).filter (isOf (l.getD k default).part (l.getD k default).bar)).map iv) t || (decide ((iv (l.getD k default)).1 ≤ t) && decide (t < (iv (l.getD k default)).2))) := by
  have e : l = l.take k ++ (l.getD k default :: l.drop (k + 1)) := by rw [getD_lt hk, ← List.drop_eq_getElem_cons hk, List.take_append_drop]
  obtain ⟨n, hn⟩ : ∃ n, l.getD k default = n := ⟨_, rfl⟩
  rw [hn] at e ⊢
  have hself : isOf n.part n.bar n = true := by unfold isOf; simp
  have h2 : l.filter (isOf n.part n.bar) = (l.take k).filter (isOf n.part n.bar) ++ (n :: (l.drop (k + 1)).filter (isOf n.part n.bar)) := by
    conv => lhs; rw [e]
    rw [List.filter_append, List.filter_cons_of_pos hself]
  rw [h2]
  unfold lessL cov
  rw [List.filter_append, List.map_append, List.map_append, List.any_append, List.any_append, List.map_cons, List.any_cons]
  rw [Bool.or_assoc]
  congr 1
  exact Bool.or_comm _ _
theorem eqQ_iff {x y : Iv} (hx : (0 ≤ x.1 ∧ x.1 ≤ 1000000) ∧ 0 ≤ x.2 ∧ x.2 ≤ 1000000) (hy : (0 ≤ y.1 ∧ y.1 ≤ 1000000) ∧ 0 ≤ y.2 ∧ y.2 ≤ 1000000) : eqQ x y = true ↔ x = y := by
  unfold eqQ
  simp only [Bool.and_eq_true, beq_iff_eq, and_true]
  constructor
  · rintro ⟨h1, h2, h3, h4⟩
    have a1 : ratQ x.1 = ratQ y.1 := by cases hq : ratQ x.1; cases hr : ratQ y.1; rw [hq, hr] at h1 h2; simp_all
    have a2 : ratQ x.2 = ratQ y.2 := by cases hq : ratQ x.2; cases hr : ratQ y.2; rw [hq, hr] at h3 h4; simp_all
    exact Prod.ext (ratQ_inj hx.1 hy.1 a1) (ratQ_inj hx.2 hy.2 a2)
  · rintro rfl; exact ⟨rfl, rfl, rfl, rfl⟩
theorem sameS_iff {a c : List Iv} (ha : Small a) (hc : Small c) : (decide (a.length = c.length) && (List.range a.length).all fun i => eqQ (a.getD i default) (c.getD i default)) = decide (a = c) := by
  rw [Bool.eq_iff_iff, decide_eq_true_eq, Bool.and_eq_true, decide_eq_true_eq, List.all_eq_true]
  constructor
  · rintro ⟨h1, h2⟩
    refine List.ext_getElem h1 fun i h3 h4 => ?_
    have := h2 i (List.mem_range.2 h3)
    rw [getD_lt h3, getD_lt h4] at this
    exact (eqQ_iff (ha _ (List.getElem_mem h3)) (hc _ (List.getElem_mem h4))).1 this
  · rintro rfl
    refine ⟨rfl, fun i hi => ?_⟩
    have hi := List.mem_range.1 hi
    exact (eqQ_iff (ha _ (getD_mem hi)) (ha _ (getD_mem hi))).2 rfl
/-- What one note the less does to the spans. -/
theorem fewer_facts {xs ys : List Iv} {f u : Int} (hfu : f < u) (hx : Canon (-1) xs) (hy : Canon (-1) ys) (hc : ∀ t, cov xs t = (cov ys t || (decide (f ≤ t) && decide (t < u)))) :
    (∀ s ∈ ys, s.1 ≤ f → u ≤ s.2 → xs = ys) ∧ ((∀ s ∈ ys, ¬ (s.1 ≤ f ∧ u ≤ s.2)) → xs ≠ ys) := by
  constructor
  · intro s hs h1 h2
    refine canon_unique hx hy fun t => ?_
    rw [hc]
    cases h : (decide (f ≤ t) && decide (t < u)) with
    | false => rw [Bool.or_false]
    | true =>
      simp only [Bool.and_eq_true, decide_eq_true_eq] at h
      rw [Bool.or_true, cov_iff.2 ⟨s, hs, by omega, by omega⟩]
  · intro h he
    subst he
    obtain ⟨s, hs, h1, h2⟩ := canon_within hy hfu (fun t h1 h2 => by
      rw [hc, decide_eq_true h1, decide_eq_true h2]; simp)
    exact h s hs ⟨h1, h2⟩
set_option maxHeartbeats 16000000 in
set_option maxRecDepth 40000 in
theorem fewer_law (bars : List Bar) (hb : bars.length ≤ 9223372036854775807) (l : List Note) (hl : l.length ≤ 9223372036854775807) (w : Int) (hw : 0 ≤ w ∧ w ≤ 255) (a : Int) (ha : 0 ≤ a ∧ a ≤ 65535) :
    PCall Tryd.prog 8 [.sl 4 (bars.map encB) .no, .sl 12 (l.map encN) .no, .prim (.int .u8 w), .prim (.int .u16 a)] (.b true) := by
  have hh := head_spec
  have hu := usable7_spec bars l hb hl
  by_cases hg0 : ((decide ((bars.length : Int) ≤ 60) && decide ((l.length : Int) ≤ 60)) && notesOk bars l) = true ∧ 0 < l.length
  · obtain ⟨hg, hpos⟩ := hg0
    obtain ⟨hb60, hl60, hn⟩ := usable_iff hg
    rw [hg] at hu
    obtain ⟨hbo, hno⟩ := notesOk_bars hn
    obtain ⟨k, hj⟩ : ∃ j : Nat, w.tmod (l.length : Nat) = (j : Int) := ⟨(w.tmod (l.length : Nat)).toNat, by have := tmod_in hw.1 (w := (l.length : Nat)) (by omega); omega⟩
    have hkl : k < l.length := by have := (tmod_in hw.1 (w := (l.length : Nat)) (by omega)).2; omega
    have hl0 : ((l.length : Nat) : Int) ≠ 0 := by omega
    have hlc := less_cov hkl
    have hlo := less_ok hn k
    have hll : (lessL l k).length ≤ 60 := by have := (less_sub l k).length_le; omega
    obtain ⟨n, hnk⟩ : ∃ n, l.getD k default = n := ⟨_, rfl⟩
    rw [hnk] at hlc
    have hnm : n ∈ l := by rw [← hnk]; exact getD_mem hkl
    have hno1 := hno n hnm
    obtain ⟨b, hbm, hbi⟩ : ∃ b ∈ bars, b.id = n.bar := by
      unfold noteOk at hno1
      split at hno1
      · rename_i i hi
        obtain ⟨j, j1, j2, j3, j4⟩ := lk_some hbo (b := n.bar) (by rw [hi]; rfl)
        exact ⟨_, getD_mem j3, j4⟩
      · cases hno1
    have hpn : 1 ≤ n.part ∧ n.part ≤ 1000000 := by
      have := notesOk_in hn n hnm
      exact this.2.1
    have h0 := ofR_some hn hpn hbm
    have h1 := ofR_some hlo hpn hbm
    rw [hbi] at h0 h1
    have c1 := busy_spec bars l (by omega) (by omega) n.part n.bar
    have c2 := busy_spec bars (lessL l k) (by omega) (by omega) n.part n.bar
    have e1 : busyR bars l n.part n.bar = (spansP ((ofR bars l n.part n.bar).1.map iv), 0) := by unfold busyR; rw [h0]
    have e2 : busyR bars (lessL l k) n.part n.bar = (spansP ((ofR bars (lessL l k) n.part n.bar).1.map iv), 0) := by unfold busyR; rw [h1]
    have l1 := busyR_len bars l n.part n.bar
    have l2 := busyR_len bars (lessL l k) n.part n.bar
    rw [e1] at c1 l1
    rw [e2] at c2 l2
    have hcx := (ofR_facts h0).canon.1
    have hcy := (ofR_facts h1).canon.1
    have hsx : Small (spansP ((ofR bars l n.part n.bar).1.map iv)) := fun x hx => busy_bound h0 x hx
    have hsy : Small (spansP ((ofR bars (lessL l k) n.part n.bar).1.map iv)) := fun x hx => busy_bound h1 x hx
    have hcv : ∀ t, cov (spansP ((ofR bars l n.part n.bar).1.map iv)) t = (cov (spansP ((ofR bars (lessL l k) n.part n.bar).1.map iv)) t || (decide ((iv n).1 ≤ t) && decide (t < (iv n).2))) := fun t => by
      rw [ofR_cov h0, ofR_cov h1, hlc]
    have hiv := note_iv hbo hno1
    obtain ⟨f1, f2⟩ := fewer_facts hiv.2.1 hcx hcy hcv
    obtain ⟨d1, d2⟩ := durOk_note hn n hnm
    have q1 := ticksR_in n.start
    have q2 := ticksR_in n.len
    have k1 := ticks6_spec n.start
    have k2 := ticks6_spec n.len
    rw [ticksX_ok d1] at k1
    rw [ticksX_ok d2] at k2
    have i1 : (iv n).1 = (ticksR n.start).1 := rfl
    have i2 : (iv n).2 = (ticksR n.start).1 + (ticksR n.len).1 := rfl
    rw [i1, i2] at hcv f1 f2
    have k3 := ticks6_spec ⟨24, 1⟩
    rw [show ticksX ⟨24, 1⟩ = 40320 from by decide +kernel] at k3
    rw [show (lessL l k).map encN = (l.take k).map encN ++ (l.drop (k + 1)).map encN from by unfold lessL; rw [List.map_append]] at c2
    clear e1 e2 hlc hiv i1 i2
    dsimp only at c1 c2 l1 l2
    generalize spansP ((ofR bars l n.part n.bar).1.map iv) = xs at *
    generalize spansP ((ofR bars (lessL l k) n.part n.bar).1.map iv) = ys at *
    clear h0 h1
    obtain ⟨t, htt⟩ : ∃ t, a.tmod 40320 = t := ⟨_, rfl⟩
    have v1 := covers_spec xs hsx (by omega) t
    have v2 := covers_spec ys hsy (by omega) t
    have v3 := sameS_spec xs ys (by omega) (by omega)
    rw [sameS_iff hsx hsy] at v3
    have hct := hcv t
    have hrd : ∀ k, k < ys.length → PCall Tryd.prog 31 [.agg (encR (ratQ (ys.getD k default).1))] (.int (ys.getD k default).1) ∧ PCall Tryd.prog 31 [.agg (encR (ratQ (ys.getD k default).2))] (.int (ys.getD k default).2) := fun k hk =>
      ⟨tickQ (hsy _ (getD_mem hk)).1, tickQ (hsy _ (getD_mem hk)).2⟩
    have hX1 : k = 0 → ((l.take ((k : Nat) : Int).toNat).map encN) = [] := fun h => by rw [h]; rfl
    have hX2 : l.length = 1 → ((l.drop (((k : Nat) : Int) + 1).toNat).map encN) = [] := fun h => by
      rw [List.map_eq_nil_iff]; exact List.drop_eq_nil_of_le (by omega)
    have hkt : ((k : Nat) : Int).toNat = k := Int.toNat_natCast k
    have hkd : (((k : Nat) : Int) + 1).toNat = k + 1 := by omega
    clear hcv
    refine PCall.body Tryd.func8 rfl rfl Tryd.ntmps8 rfl rfl ?_
    repeat' (first | refine AOps.q rfl rfl rfl (fun hg => by first | exact PRun.eq (v := .iptr (encN (l.getD ((k : Nat) : Int).toNat default))) (PRun.indexMW tabOk rfl rfl nd rfl nd rfl rfl ⟨Int.natCast_nonneg _, Int.ofNat_lt.2 hkl⟩) (congrArg (fun x => AV.iptr (encN x)) hnk) | exact PRun.convV tabOk (wrap64 ⟨by omega, by omega⟩) rfl rfl nd rfl rfl | exact PRun.remV hj hl0 rfl rfl nd rfl nd | exact std0 | exact PRun.callW (hh) rfl rfl nd rfl nds | exact PRun.callW (hu) rfl rfl nd rfl nds | exact std1) (by exact rfl) ?_ | refine AWP.seq ?_ | refine AWP.regionK (fun K' hK => ?_) | (refine AOps.nil (hK _ _ ?_); clear hK K') | refine AOps.e (EStep.boxW rfl rfl rfl rfl rfl True.intro rfl rfl ?_) | refine AOps.e (EStep.storeW tabOk rfl rfl rfl True.intro rfl rfl True.intro rfl rfl rfl rfl rfl rfl rfl ?_) | refine AOps.e (EStep.allocW tabOk rfl rfl rfl rfl rfl rfl ?_) | (refine AWP.condW rfl True.intro (fun hc => ?_) (fun hc => ?_) <;> (first | (simp only [decide_eq_true_eq] at hc) | (simp only [decide_eq_false_iff_not, Int.not_lt, Int.not_le] at hc) | skip)) | refine AWP.block ?_ | refine AWP.exit ?_ | refine AWP.skip ?_ | refine AWP.ret ?_ | (refine AQ.nil (hK _ ?_); clear hK K') | refine AQ.nil ?_ | refine AQ.q rfl rfl (fun hg => by first | exact PRun.eq (v := .iptr (encN (l.getD ((k : Nat) : Int).toNat default))) (PRun.indexMW tabOk rfl rfl nd rfl nd rfl rfl ⟨Int.natCast_nonneg _, Int.ofNat_lt.2 hkl⟩) (congrArg (fun x => AV.iptr (encN x)) hnk) | exact PRun.convV tabOk (wrap64 ⟨by omega, by omega⟩) rfl rfl nd rfl rfl | exact PRun.remV hj hl0 rfl rfl nd rfl nd | exact std0 | exact PRun.callW (hh) rfl rfl nd rfl nds | exact PRun.callW (hu) rfl rfl nd rfl nds | exact std1) (by exact rfl) ?_)
    all_goals (first | (exfalso; simp at hc; omega) | (exfalso; simp at hc; done) | (exfalso; simp at hc; subst hc; simp at hpos; done) | skip)
    refine AWP.newOwn 12 ?_
    refine AWP.drawW clsA (fun j1 _ => [.var (encN n)] ++ [.own 12 (match j1 with | 0 => 0 | 1 => ((l.take ((k : Nat) : Int).toNat).map encN).length | _ => (((l.take ((k : Nat) : Int).toNat).map encN) ++ ((l.drop (((k : Nat) : Int) + 1).toNat).map encN)).length)]) rfl (by kernel_rfl) (by decide +kernel) rfl (by decide +kernel) (fun K' hK => ?_)
    repeat' (first
      | refine WQ.q rfl (by decide +kernel) rfl rfl (fun k1 k2 h1 h2 hg => by first | (first | exact std0 | exact PRun.buildSl0 tabOk rfl rfl | exact PRun.sliceLoM tabOk rfl rfl nd rfl nd rfl (by omega) | exact PRun.sliceHiM tabOk rfl rfl nd rfl nd rfl (by omega) | exact PRun.sliceM tabOk rfl rfl nd rfl nd rfl nd rfl (by omega) | exact std1) | ((have a1 : k1 = 0 ∨ k1 = 1 ∨ k1 = 2 := (by omega)); (rcases a1 with rfl | rfl | rfl) <;> (first | exact std0 | exact PRun.buildSl0 tabOk rfl rfl | exact PRun.sliceLoM tabOk rfl rfl nd rfl nd rfl (by omega) | exact PRun.sliceHiM tabOk rfl rfl nd rfl nd rfl (by omega) | exact PRun.sliceM tabOk rfl rfl nd rfl nd rfl nd rfl (by omega) | exact std1)) | ((have a1 : k1 = 0 ∨ k1 = 1 ∨ k1 = 2 := (by omega)); (have a2 : k2 = 0 ∨ k2 = 1 ∨ k2 = 2 := (by omega)); (rcases a1 with rfl | rfl | rfl) <;> (rcases a2 with rfl | rfl | rfl) <;> (first | exact std0 | exact PRun.buildSl0 tabOk rfl rfl | exact PRun.sliceLoM tabOk rfl rfl nd rfl nd rfl (by omega) | exact PRun.sliceHiM tabOk rfl rfl nd rfl nd rfl (by omega) | exact PRun.sliceM tabOk rfl rfl nd rfl nd rfl nd rfl (by omega) | exact std1))) (by exact rfl) ?_)
    refine WQ.e1 0 (v := (.sl 12 ((l.take ((k : Nat) : Int).toNat).map encN) (if k = 0 then .fresh else .own 1))) (d := some 46) rfl (by decide +kernel) rfl ?_ ?_
    · intro env' he j2 hj2
      by_cases hk0 : k = 0
      · exact EStep.appendE tabOk rfl rfl rfl (by decide) (Rd.w ((rdv_congr (he 42 (by decide +kernel))).trans rfl) (by rw [rdn_congr (he 42 (by decide +kernel))]; first | exact True.intro | exact rfl)) (Rd.w ((rdv_congr (he 45 (by decide +kernel))).trans (congrArg (fun x => some (AV.sl 12 x Tok.no)) (hX1 hk0))) (by rw [rdn_congr (he 45 (by decide +kernel))]; first | exact True.intro | exact rfl)) (.sl (es := []) rfl (one_encN [])) (LOk.of (tabOk.get rfl)) (LOk.of (tabOk.get rfl)) rfl ⟨(by show env'.put 46 (.sl 12 [] .fresh) = env'.put 46 (.sl 12 ((l.take ((k : Nat) : Int).toNat).map encN) (if k = 0 then .fresh else .own 1)); rw [if_pos hk0, hX1 hk0]), (by show [_, AObj.own 12 0] = [_, AObj.own 12 ((l.take ((k : Nat) : Int).toNat).map encN).length]; rw [hX1 hk0]; rfl)⟩
      · exact EStep.appendAt (l := 1) tabOk rfl rfl rfl (by decide) (Rd.w ((rdv_congr (he 42 (by decide +kernel))).trans rfl) (by rw [rdn_congr (he 42 (by decide +kernel))]; first | exact True.intro | exact rfl)) rfl (Rd.w ((rdv_congr (he 45 (by decide +kernel))).trans rfl) (by rw [rdn_congr (he 45 (by decide +kernel))]; first | exact True.intro | exact rfl)) (.sl rfl (one_encN _)) (by rw [List.length_map, List.length_take]; omega) (LOk.of (tabOk.get rfl)) (LOk.of (tabOk.get rfl)) rfl rfl (by simp only [List.length_map, List.length_append, List.length_cons, List.length_nil, List.length_take, List.length_drop]; omega) (by simp only [List.length_map, List.length_append, List.length_cons, List.length_nil, List.length_take, List.length_drop]; omega) ⟨(by show env'.put 46 (.sl 12 ((l.take ((k : Nat) : Int).toNat).map encN) (.own 1)) = env'.put 46 (.sl 12 ((l.take ((k : Nat) : Int).toNat).map encN) (if k = 0 then .fresh else .own 1)); rw [if_neg hk0]), rfl⟩
    repeat' (first
      | refine WQ.q rfl (by decide +kernel) rfl rfl (fun k1 k2 h1 h2 hg => by first | (first | exact std0 | exact PRun.sliceLoM tabOk rfl rfl nd rfl nd rfl (by omega) | exact PRun.sliceHiM tabOk rfl rfl nd rfl nd rfl (by omega) | exact PRun.sliceM tabOk rfl rfl nd rfl nd rfl nd rfl (by omega) | exact std1) | ((have a1 : k1 = 0 ∨ k1 = 1 ∨ k1 = 2 := (by omega)); (rcases a1 with rfl | rfl | rfl) <;> (first | exact std0 | exact PRun.sliceLoM tabOk rfl rfl nd rfl nd rfl (by omega) | exact PRun.sliceHiM tabOk rfl rfl nd rfl nd rfl (by omega) | exact PRun.sliceM tabOk rfl rfl nd rfl nd rfl nd rfl (by omega) | exact std1)) | ((have a1 : k1 = 0 ∨ k1 = 1 ∨ k1 = 2 := (by omega)); (have a2 : k2 = 0 ∨ k2 = 1 ∨ k2 = 2 := (by omega)); (rcases a1 with rfl | rfl | rfl) <;> (rcases a2 with rfl | rfl | rfl) <;> (first | exact std0 | exact PRun.sliceLoM tabOk rfl rfl nd rfl nd rfl (by omega) | exact PRun.sliceHiM tabOk rfl rfl nd rfl nd rfl (by omega) | exact PRun.sliceM tabOk rfl rfl nd rfl nd rfl nd rfl (by omega) | exact std1))) (by exact rfl) ?_)
    refine WQ.e1 0 (v := (.sl 12 (((l.take ((k : Nat) : Int).toNat).map encN) ++ ((l.drop (((k : Nat) : Int) + 1).toNat).map encN)) (if k = 0 ∧ l.length = 1 then .fresh else .own 1))) (d := some 51) rfl (by decide +kernel) rfl ?_ ?_
    · intro env' he j2 hj2
      by_cases hk0 : k = 0
      · by_cases h1l : l.length = 1
        · exact EStep.appendE tabOk rfl rfl rfl (by decide) (Rd.w ((rdv_congr (he 46 (by decide +kernel))).trans (by show some (.sl 12 ((l.take ((k : Nat) : Int).toNat).map encN) (if k = 0 then .fresh else .own 1)) = some (AV.sl 12 [] .fresh); rw [if_pos hk0, hX1 hk0])) (by rw [rdn_congr (he 46 (by decide +kernel))]; first | exact True.intro | exact rfl)) (Rd.w ((rdv_congr (he 50 (by decide +kernel))).trans (congrArg (fun x => some (AV.sl 12 x Tok.no)) (hX2 h1l))) (by rw [rdn_congr (he 50 (by decide +kernel))]; first | exact True.intro | exact rfl)) (.sl (es := []) rfl (one_encN [])) (LOk.of (tabOk.get rfl)) (LOk.of (tabOk.get rfl)) rfl ⟨(by show env'.put 51 (.sl 12 [] .fresh) = env'.put 51 (.sl 12 (((l.take ((k : Nat) : Int).toNat).map encN) ++ ((l.drop (((k : Nat) : Int) + 1).toNat).map encN)) (if k = 0 ∧ l.length = 1 then .fresh else .own 1)); rw [if_pos ⟨hk0, h1l⟩, hX1 hk0, hX2 h1l]; rfl), (by show [_, AObj.own 12 ((l.take ((k : Nat) : Int).toNat).map encN).length] = [_, AObj.own 12 (((l.take ((k : Nat) : Int).toNat).map encN) ++ ((l.drop (((k : Nat) : Int) + 1).toNat).map encN)).length]; rw [hX1 hk0, hX2 h1l]; rfl)⟩
        · exact EStep.appendAt (l := 1) tabOk rfl rfl rfl (by decide) (Rd.w ((rdv_congr (he 46 (by decide +kernel))).trans (by show some (.sl 12 ((l.take ((k : Nat) : Int).toNat).map encN) (if k = 0 then .fresh else .own 1)) = some (AV.sl 12 [] .fresh); rw [if_pos hk0, hX1 hk0])) (by rw [rdn_congr (he 46 (by decide +kernel))]; first | exact True.intro | exact rfl)) (by show some (AObj.own 12 ((l.take ((k : Nat) : Int).toNat).map encN).length) = some (AObj.own 12 0); rw [hX1 hk0]; rfl) (Rd.w ((rdv_congr (he 50 (by decide +kernel))).trans rfl) (by rw [rdn_congr (he 50 (by decide +kernel))]; first | exact True.intro | exact rfl)) (.sl rfl (one_encN _)) (by rw [List.length_map, List.length_drop]; omega) (LOk.of (tabOk.get rfl)) (LOk.of (tabOk.get rfl)) rfl rfl (by simp only [List.length_map, List.length_append, List.length_cons, List.length_nil, List.length_take, List.length_drop]; omega) (by simp only [List.length_map, List.length_append, List.length_cons, List.length_nil, List.length_take, List.length_drop]; omega) ⟨(by show env'.put 51 (.sl 12 ((l.drop (((k : Nat) : Int) + 1).toNat).map encN) (.own 1)) = env'.put 51 (.sl 12 (((l.take ((k : Nat) : Int).toNat).map encN) ++ ((l.drop (((k : Nat) : Int) + 1).toNat).map encN)) (if k = 0 ∧ l.length = 1 then .fresh else .own 1)); rw [if_neg (fun h => h1l h.2), hX1 hk0]; rfl), (by show [_, AObj.own 12 ((l.drop (((k : Nat) : Int) + 1).toNat).map encN).length] = [_, AObj.own 12 (((l.take ((k : Nat) : Int).toNat).map encN) ++ ((l.drop (((k : Nat) : Int) + 1).toNat).map encN)).length]; rw [hX1 hk0]; rfl)⟩
      · exact EStep.appendOwn' (l := 1) tabOk rfl rfl rfl (by decide) (Rd.w ((rdv_congr (he 46 (by decide +kernel))).trans (by show some (.sl 12 ((l.take ((k : Nat) : Int).toNat).map encN) (if k = 0 then .fresh else .own 1)) = some (AV.sl 12 ((l.take ((k : Nat) : Int).toNat).map encN) (.own 1)); rw [if_neg hk0])) (by rw [rdn_congr (he 46 (by decide +kernel))]; first | exact True.intro | exact rfl)) rfl (Rd.w ((rdv_congr (he 50 (by decide +kernel))).trans rfl) (by rw [rdn_congr (he 50 (by decide +kernel))]; first | exact True.intro | exact rfl)) (.sl rfl (one_encN _)) (LOk.of (tabOk.get rfl)) (LOk.of (tabOk.get rfl)) rfl rfl (by simp only [List.length_map, List.length_append, List.length_cons, List.length_nil, List.length_take, List.length_drop]; omega) (by simp only [List.length_map, List.length_append, List.length_cons, List.length_nil, List.length_take, List.length_drop]; omega) ⟨(by show env'.put 51 (.sl 12 (((l.take ((k : Nat) : Int).toNat).map encN) ++ ((l.drop (((k : Nat) : Int) + 1).toNat).map encN)) (.own 1)) = env'.put 51 (.sl 12 (((l.take ((k : Nat) : Int).toNat).map encN) ++ ((l.drop (((k : Nat) : Int) + 1).toNat).map encN)) (if k = 0 ∧ l.length = 1 then .fresh else .own 1)); rw [if_neg (fun h => hk0 h.1)]), rfl⟩
    repeat' (first
      | refine WQ.q rfl (by decide +kernel) rfl rfl (fun k1 k2 h1 h2 hg => by first | (first | exact std0 | exact PRun.sliceLoM tabOk rfl rfl nd rfl nd rfl (by omega) | exact PRun.sliceHiM tabOk rfl rfl nd rfl nd rfl (by omega) | exact PRun.sliceM tabOk rfl rfl nd rfl nd rfl nd rfl (by omega) | exact std1) | ((have a1 : k1 = 0 ∨ k1 = 1 ∨ k1 = 2 := (by omega)); (rcases a1 with rfl | rfl | rfl) <;> (first | exact std0 | exact PRun.sliceLoM tabOk rfl rfl nd rfl nd rfl (by omega) | exact PRun.sliceHiM tabOk rfl rfl nd rfl nd rfl (by omega) | exact PRun.sliceM tabOk rfl rfl nd rfl nd rfl nd rfl (by omega) | exact std1)) | ((have a1 : k1 = 0 ∨ k1 = 1 ∨ k1 = 2 := (by omega)); (have a2 : k2 = 0 ∨ k2 = 1 ∨ k2 = 2 := (by omega)); (rcases a1 with rfl | rfl | rfl) <;> (rcases a2 with rfl | rfl | rfl) <;> (first | exact std0 | exact PRun.sliceLoM tabOk rfl rfl nd rfl nd rfl (by omega) | exact PRun.sliceHiM tabOk rfl rfl nd rfl nd rfl (by omega) | exact PRun.sliceM tabOk rfl rfl nd rfl nd rfl nd rfl (by omega) | exact std1))) (by exact rfl) ?_)
    refine WQ.nil (hK _ _ _ ?_)
    clear hK K'
    show AWP _ _ _ _ _ _
    refine AWP.keep [(0, .sl 4 (bars.map encB) .no), (1, .sl 12 (l.map encN) .no), (3, .prim (.int .u16 a)), (9, .b true), (11, .ptr 0 0), (12, (.sl 12 (((l.take ((k : Nat) : Int).toNat).map encN) ++ ((l.drop (((k : Nat) : Int) + 1).toNat).map encN)) (if k = 0 ∧ l.length = 1 then .fresh else .own 1)))] ⟨rfl, rfl, rfl, rfl, rfl, rfl, True.intro⟩ ?_
    have c2' : PCall Tryd.prog 24 [.sl 4 (bars.map encB) .no, .sl 12 (((l.take ((k : Nat) : Int).toNat).map encN) ++ ((l.drop (((k : Nat) : Int) + 1).toNat).map encN)) .no, .int n.part, .int n.bar] (.tup [.sl 4 (ys.map encQ) .no, .int 0]) := by rw [hkt, hkd]; exact c2
    clear c2
    have hct2 : ((cov ys t && !cov xs t) || ((cov xs t && !cov ys t) && (decide (t < (ticksR n.start).1) || decide (t ≥ (ticksR n.start).1 + (ticksR n.len).1)))) = false := by
      rw [hct]
      cases cov ys t with
      | true => simp
      | false =>
        simp only [Bool.false_or, Bool.not_false, Bool.and_true, Bool.false_and]
        refine Bool.eq_false_iff.2 fun h => ?_
        simp only [Bool.and_eq_true, Bool.or_eq_true, decide_eq_true_eq] at h
        omega
    generalize (ticksR n.start).1 = f at *
    generalize (ticksR n.len).1 = d at *
    repeat' (first | refine AOps.q rfl rfl rfl (fun hg => by first | exact PRun.remV htt (by decide) rfl rfl nd rfl nd | exact PRun.convV tabOk (wrap64 ⟨by omega, by omega⟩) rfl rfl nd rfl rfl | exact std0 | exact PRun.callW (c1) rfl rfl nd rfl nds | exact PRun.callW (c2') rfl rfl nd rfl nds | exact PRun.callW (k1) rfl rfl nd rfl nds | exact PRun.callW (k2) rfl rfl nd rfl nds | exact PRun.callW (k3) rfl rfl nd rfl nds | exact PRun.callW (v1) rfl rfl nd rfl nds | exact PRun.callW (v2) rfl rfl nd rfl nds | exact PRun.buildW tabOk rfl rfl nds | exact std1) (by exact rfl) ?_ | refine AWP.seq ?_ | refine AWP.regionK (fun K' hK => ?_) | (refine AOps.nil (hK _ _ ?_); clear hK K') | refine AOps.e (EStep.boxW rfl rfl rfl rfl rfl True.intro rfl rfl ?_) | refine AOps.e (EStep.storeW tabOk rfl rfl rfl True.intro rfl rfl True.intro rfl rfl rfl rfl rfl rfl rfl ?_) | refine AOps.e (EStep.allocW tabOk rfl rfl rfl rfl rfl rfl ?_) | (refine AWP.condW rfl True.intro (fun hc => ?_) (fun hc => ?_) <;> (first | (simp only [decide_eq_true_eq] at hc) | (simp only [decide_eq_false_iff_not, Int.not_lt, Int.not_le] at hc) | skip)) | refine AWP.block ?_ | refine AWP.exit ?_ | refine AWP.skip ?_ | refine AWP.ret ?_ | refine AWP.drawK2 (by decide +kernel) (by kernel_rfl) (by decide +kernel) rfl (fun K' hK => ?_) | refine AWP.drawL2 (by kernel_rfl) (by decide +kernel) rfl (fun K' hK => ?_) | (refine AQ.nil (hK _ ?_); clear hK K') | refine AQ.nil ?_ | refine AQ.q rfl rfl (fun hg => by first | exact PRun.remV htt (by decide) rfl rfl nd rfl nd | exact PRun.convV tabOk (wrap64 ⟨by omega, by omega⟩) rfl rfl nd rfl rfl | exact std0 | exact PRun.callW (c1) rfl rfl nd rfl nds | exact PRun.callW (c2') rfl rfl nd rfl nds | exact PRun.callW (k1) rfl rfl nd rfl nds | exact PRun.callW (k2) rfl rfl nd rfl nds | exact PRun.callW (k3) rfl rfl nd rfl nds | exact PRun.callW (v1) rfl rfl nd rfl nds | exact PRun.callW (v2) rfl rfl nd rfl nds | exact PRun.buildW tabOk rfl rfl nds | exact std1) (by exact rfl) ?_)
    all_goals (first | (exfalso; simp at hc; done) | (exact absurd (hct2.symm.trans hc) (by decide)) | skip)
    clear c1 c2' k1 k2 k3 v1 v2
    refine AWP.loopD (ι := Nat) (fun i => [(9, .b true), (13, .sl 4 (xs.map encQ) .no), (15, .sl 4 (ys.map encQ) .no), (17, .int f), (18, .int (f + d)), (121, .sl 4 (ys.map encQ) .no), (122, .int ys.length), (123, .int i)]) (fun _ => [.var (encN n), .own 12 (((l.take ((k : Nat) : Int).toNat).map encN) ++ ((l.drop (((k : Nat) : Int) + 1).toNat).map encN)).length])
      (fun i => i ≤ ys.length ∧ ∀ j, j < i → ¬ ((ys.getD j default).1 ≤ f ∧ f + d ≤ (ys.getD j default).2)) (fun i => ys.length - i) 2 (fun _ => rfl) 0 ⟨Nat.zero_le _, fun j h => absurd h (by omega)⟩ ⟨rfl, rfl, rfl, rfl, rfl, rfl, rfl, rfl, True.intro⟩ rfl (fun _ _ => rfl) (fun _ _ => rfl) ?_
    rintro i ⟨hi, hall⟩
    by_cases hlt : i < ys.length
    · obtain ⟨r1, r2⟩ := hrd i hlt
      have hym : ys.getD i default ∈ ys := getD_mem hlt
      obtain ⟨x, hx⟩ : ∃ x, ys.getD i default = x := ⟨_, rfl⟩
      rw [hx] at r1 r2 hym
      by_cases hin : x.1 ≤ f ∧ f + d ≤ x.2
      · have he := f1 x hym hin.1 hin.2
        rw [decide_eq_true he] at v3
        repeat' (first | refine AOps.q rfl rfl rfl (fun hg => by first | exact PRun.eq (v := .iptr (encQ (ys.getD ((i : Nat) : Int).toNat default))) (PRun.indexMW tabOk rfl rfl nd rfl nd rfl rfl (by omega)) (congrArg (fun x => AV.iptr (encQ x)) hx) | exact std0 | exact PRun.indexPA tabOk rfl rfl nd rfl nd rfl rfl ⟨by decide, by decide⟩ | exact PRun.callW (r1) rfl rfl nd rfl nds | exact PRun.callW (r2) rfl rfl nd rfl nds | exact PRun.callW (v3) rfl rfl nd rfl nds | exact std1) (by exact rfl) ?_ | refine AWP.seq ?_ | refine AWP.regionK (fun K' hK => ?_) | (refine AOps.nil (hK _ _ ?_); clear hK K') | refine AOps.e (EStep.boxW rfl rfl rfl rfl rfl True.intro rfl rfl ?_) | refine AOps.e (EStep.storeW tabOk rfl rfl rfl True.intro rfl rfl True.intro rfl rfl rfl rfl rfl rfl rfl ?_) | refine AOps.e (EStep.allocW tabOk rfl rfl rfl rfl rfl rfl ?_) | (refine AWP.condW rfl True.intro (fun hc => ?_) (fun hc => ?_) <;> (first | (simp only [decide_eq_true_eq] at hc) | (simp only [decide_eq_false_iff_not, Int.not_lt, Int.not_le] at hc) | skip)) | refine AWP.block ?_ | refine AWP.exit ?_ | refine AWP.skip ?_ | refine AWP.ret ?_ | refine AWP.drawK2 (by decide +kernel) (by kernel_rfl) (by decide +kernel) rfl (fun K' hK => ?_) | refine AWP.drawL2 (by kernel_rfl) (by decide +kernel) rfl (fun K' hK => ?_) | (refine AQ.nil (hK _ ?_); clear hK K') | refine AQ.nil ?_ | refine AQ.q rfl rfl (fun hg => by first | exact PRun.eq (v := .iptr (encQ (ys.getD ((i : Nat) : Int).toNat default))) (PRun.indexMW tabOk rfl rfl nd rfl nd rfl rfl (by omega)) (congrArg (fun x => AV.iptr (encQ x)) hx) | exact std0 | exact PRun.indexPA tabOk rfl rfl nd rfl nd rfl rfl ⟨by decide, by decide⟩ | exact PRun.callW (r1) rfl rfl nd rfl nds | exact PRun.callW (r2) rfl rfl nd rfl nds | exact PRun.callW (v3) rfl rfl nd rfl nds | exact std1) (by exact rfl) ?_)
        all_goals (first | (exact ⟨.inr rfl, Ent.b rfl⟩) | (exfalso; omega) | (exfalso; simp at hc; omega) | (rename_i h0; exfalso; simp at h0; omega) | skip)
      · repeat' (first | refine AOps.q rfl rfl rfl (fun hg => by first | exact PRun.eq (v := .iptr (encQ (ys.getD ((i : Nat) : Int).toNat default))) (PRun.indexMW tabOk rfl rfl nd rfl nd rfl rfl (by omega)) (congrArg (fun x => AV.iptr (encQ x)) hx) | exact std0 | exact PRun.indexPA tabOk rfl rfl nd rfl nd rfl rfl ⟨by decide, by decide⟩ | exact PRun.callW (r1) rfl rfl nd rfl nds | exact PRun.callW (r2) rfl rfl nd rfl nds | exact PRun.callW (v3) rfl rfl nd rfl nds | exact std1) (by exact rfl) ?_ | refine AWP.seq ?_ | refine AWP.regionK (fun K' hK => ?_) | (refine AOps.nil (hK _ _ ?_); clear hK K') | refine AOps.e (EStep.boxW rfl rfl rfl rfl rfl True.intro rfl rfl ?_) | refine AOps.e (EStep.storeW tabOk rfl rfl rfl True.intro rfl rfl True.intro rfl rfl rfl rfl rfl rfl rfl ?_) | refine AOps.e (EStep.allocW tabOk rfl rfl rfl rfl rfl rfl ?_) | (refine AWP.condW rfl True.intro (fun hc => ?_) (fun hc => ?_) <;> (first | (simp only [decide_eq_true_eq] at hc) | (simp only [decide_eq_false_iff_not, Int.not_lt, Int.not_le] at hc) | skip)) | refine AWP.block ?_ | refine AWP.exit ?_ | refine AWP.skip ?_ | refine AWP.ret ?_ | (refine AQ.nil (hK _ ?_); clear hK K') | refine AQ.nil ?_ | refine AQ.q rfl rfl (fun hg => by first | exact PRun.eq (v := .iptr (encQ (ys.getD ((i : Nat) : Int).toNat default))) (PRun.indexMW tabOk rfl rfl nd rfl nd rfl rfl (by omega)) (congrArg (fun x => AV.iptr (encQ x)) hx) | exact std0 | exact PRun.indexPA tabOk rfl rfl nd rfl nd rfl rfl ⟨by decide, by decide⟩ | exact PRun.callW (r1) rfl rfl nd rfl nds | exact PRun.callW (r2) rfl rfl nd rfl nds | exact PRun.callW (v3) rfl rfl nd rfl nds | exact std1) (by exact rfl) ?_)
        all_goals (first | (exfalso; simp only [Bool.and_eq_true, decide_eq_true_eq] at hc; exact hin hc) | (exfalso; omega) | (exfalso; simp at hc; omega) | (rename_i h0; exfalso; simp at h0; omega) | skip)
        exact ⟨i + 1, ⟨hlt, fun j hj => by
          rcases Nat.lt_or_ge j i with h1 | h1
          · exact hall j h1
          · have : j = i := by omega
            subst this; rw [hx]; exact hin⟩, by omega, ⟨rfl, rfl, rfl, rfl, rfl, rfl, rfl, rfl, True.intro⟩, rfl⟩
    · have he := f2 (fun s hs => by
        obtain ⟨j, hj, rfl⟩ := List.mem_iff_getElem.1 hs
        have := hall j (by omega)
        rwa [getD_lt hj] at this)
      rw [decide_eq_false he] at v3
      repeat' (first | refine AOps.q rfl rfl rfl (fun hg => by first | exact std0 | exact PRun.callW (v3) rfl rfl nd rfl nds | exact std1) (by exact rfl) ?_ | refine AWP.seq ?_ | refine AWP.regionK (fun K' hK => ?_) | (refine AOps.nil (hK _ _ ?_); clear hK K') | refine AOps.e (EStep.boxW rfl rfl rfl rfl rfl True.intro rfl rfl ?_) | refine AOps.e (EStep.storeW tabOk rfl rfl rfl True.intro rfl rfl True.intro rfl rfl rfl rfl rfl rfl rfl ?_) | refine AOps.e (EStep.allocW tabOk rfl rfl rfl rfl rfl rfl ?_) | (refine AWP.condW rfl True.intro (fun hc => ?_) (fun hc => ?_) <;> (first | (simp only [decide_eq_true_eq] at hc) | (simp only [decide_eq_false_iff_not, Int.not_lt, Int.not_le] at hc) | skip)) | refine AWP.block ?_ | refine AWP.exit ?_ | refine AWP.skip ?_ | refine AWP.ret ?_ | refine AWP.drawK2 (by decide +kernel) (by kernel_rfl) (by decide +kernel) rfl (fun K' hK => ?_) | refine AWP.drawL2 (by kernel_rfl) (by decide +kernel) rfl (fun K' hK => ?_) | (refine AQ.nil (hK _ ?_); clear hK K') | refine AQ.nil ?_ | refine AQ.q rfl rfl (fun hg => by first | exact std0 | exact PRun.callW (v3) rfl rfl nd rfl nds | exact std1) (by exact rfl) ?_)
      all_goals (first | (exact ⟨.inr rfl, Ent.b rfl⟩) | (exfalso; omega) | (exfalso; simp at hc; omega) | skip)
  · refine PCall.body Tryd.func8 rfl rfl Tryd.ntmps8 rfl rfl ?_
    repeat' (first | refine AOps.q rfl rfl rfl (fun hg => by first | exact std0 | exact PRun.callW (hh) rfl rfl nd rfl nds | exact PRun.callW (hu) rfl rfl nd rfl nds | exact (Bool.noConfusion (show false = true from hg) : PRun _ _ _ _ (.b false)) | exact std1) (by exact rfl) ?_ | refine AWP.seq ?_ | refine AWP.regionK (fun K' hK => ?_) | (refine AOps.nil (hK _ _ ?_); clear hK K') | refine AOps.e (EStep.boxW rfl rfl rfl rfl rfl True.intro rfl rfl ?_) | refine AOps.e (EStep.storeW tabOk rfl rfl rfl True.intro rfl rfl True.intro rfl rfl rfl rfl rfl rfl rfl ?_) | refine AOps.e (EStep.allocW tabOk rfl rfl rfl rfl rfl rfl ?_) | fail | refine AWP.block ?_ | refine AWP.exit ?_ | refine AWP.skip ?_ | refine AWP.ret ?_ | (refine AQ.nil (hK _ ?_); clear hK K') | refine AQ.nil ?_ | refine AQ.q rfl rfl (fun hg => by first | exact std0 | exact PRun.callW (hh) rfl rfl nd rfl nds | exact PRun.callW (hu) rfl rfl nd rfl nds | exact (Bool.noConfusion (show false = true from hg) : PRun _ _ _ _ (.b false)) | exact std1) (by exact rfl) ?_)
    refine AWP.condW rfl True.intro (fun hc => ?_) (fun hc => ?_)
    · repeat' (first | refine AOps.q rfl rfl rfl (fun hg => by first | exact std0 | exact std1) (by exact rfl) ?_ | refine AWP.seq ?_ | refine AWP.regionK (fun K' hK => ?_) | (refine AOps.nil (hK _ _ ?_); clear hK K') | refine AOps.e (EStep.boxW rfl rfl rfl rfl rfl True.intro rfl rfl ?_) | refine AOps.e (EStep.storeW tabOk rfl rfl rfl True.intro rfl rfl True.intro rfl rfl rfl rfl rfl rfl rfl ?_) | refine AOps.e (EStep.allocW tabOk rfl rfl rfl rfl rfl rfl ?_) | (refine AWP.condW rfl True.intro (fun hc => ?_) (fun hc => ?_) <;> (first | (simp only [decide_eq_true_eq] at hc) | (simp only [decide_eq_false_iff_not, Int.not_lt, Int.not_le] at hc) | skip)) | refine AWP.block ?_ | refine AWP.exit ?_ | refine AWP.skip ?_ | refine AWP.ret ?_ | (refine AQ.nil (hK _ ?_); clear hK K') | refine AQ.nil ?_ | refine AQ.q rfl rfl (fun hg => by first | exact std0 | exact std1) (by exact rfl) ?_)
      exact ⟨.inr rfl, Ent.b rfl⟩
    · exfalso
      apply hg0
      simp only [Bool.or_eq_false_iff, Bool.not_eq_false'] at hc
      refine ⟨hc.1, ?_⟩
      have := hc.2
      simp at this
      exact List.length_pos_iff.2 this
end Go.Proofs.YtnmdmmfdnnmdfaaDoor.Nt
