/- The law CarryOnce by content. No statement is proved here. -/
import Derived.Test.YtekfpcgagoidcaaGreatDoorV32
set_option linter.unusedVariables false
set_option linter.unusedSimpArgs false
namespace Go.Proofs.YtekfpcgagoidcaaGreatDoor.Cy
open Go.Ab Go.Sort Al Mk
attribute [local irreducible] AWP AOps EStep AQ PStep PRun PCall TCall VCall
section
variable {f : Jo.Mark → Option Jo.Mark} {l : List Jo.Mark}
theorem placed_rev : placedL f l.reverse = (placedL f l).reverse := by unfold placedL; rw [List.filterMap_reverse]
theorem held_rev : heldL f l.reverse = (heldL f l).reverse := by unfold heldL; rw [List.filter_reverse]
theorem both_len : ∀ l : List Jo.Mark, (placedL f l).length + (heldL f l).length = l.length
  | [] => rfl
  | m :: l => by
    have ih := both_len l
    unfold placedL heldL at ih ⊢
    cases h : f m with
    | none => rw [List.filterMap_cons_none h, zBa (by rw [h]; rfl), zAd, zAd]; omega
    | some x => rw [List.filterMap_cons_some h, zBh (by rw [h]; simp), zAd, zAd]; omega
theorem placed_at {k : Nat} (hk : k < l.length) {m x : Jo.Mark} (hm : l.getD k default = m) (hx : f m = some x) : (placedL f (l.take k)).length < (placedL f l).length ∧ (placedL f l).getD (placedL f (l.take k)).length default = x := by
  have e : placedL f l = placedL f (l.take k) ++ x :: placedL f (l.drop (k + 1)) := by
    have h1 : l = l.take k ++ m :: l.drop (k + 1) := by
      rw [← hm, getD_lt hk, List.getElem_cons_drop hk, zDd]
    conv => lhs; rw [h1]
    unfold placedL
    rw [zC8, List.filterMap_cons_some hx]
  rw [e]
  refine ⟨by rw [lLa, zAd]; omega, ?_⟩
  rw [zBe, zA7 (nLr _)]; simp
theorem held_at {k : Nat} (hk : k < l.length) {m : Jo.Mark} (hm : l.getD k default = m) (hx : f m = none) : (heldL f (l.take k)).length < (heldL f l).length ∧ (heldL f l).getD (heldL f (l.take k)).length default = m := by
  have e : heldL f l = heldL f (l.take k) ++ m :: heldL f (l.drop (k + 1)) := by
    have h1 : l = l.take k ++ m :: l.drop (k + 1) := by
      rw [← hm, getD_lt hk, List.getElem_cons_drop hk, zDd]
    conv => lhs; rw [h1]
    unfold heldL
    rw [zCb, zBa (by rw [hx]; rfl)]
  rw [e]
  refine ⟨by rw [lLa, zAd]; omega, ?_⟩
  rw [zBe, zA7 (nLr _)]; simp
theorem placed_not {k : Nat} (hk : k < l.length) {m : Jo.Mark} (hm : l.getD k default = m) (hx : f m = none) (hn : (l.map (·.id)).Nodup) (hid : ∀ a b, f a = some b → b.id = a.id) (hi : (placedL f (l.take k)).length < (placedL f l).length) :
    ((placedL f l).getD (placedL f (l.take k)).length default).id ≠ m.id := by
  have h1 : l = l.take k ++ m :: l.drop (k + 1) := by
    rw [← hm, getD_lt hk, List.getElem_cons_drop hk, zDd]
  have e : placedL f l = placedL f (l.take k) ++ placedL f (l.drop (k + 1)) := by
    conv => lhs; rw [h1]
    unfold placedL
    rw [zC8, List.filterMap_cons_none hx]
  rw [e, lLa] at hi
  rw [e, zBe, zA7 (nLr _), Nat.sub_self]
  cases hd : placedL f (l.drop (k + 1)) with
  | nil => rw [hd] at hi; simp at hi
  | cons x r =>
    have hxm : x ∈ placedL f (l.drop (k + 1)) := by rw [hd]; exact zAk ..
    unfold placedL at hxm
    obtain ⟨a, ha, e2⟩ := List.mem_filterMap.1 hxm
    have e3 := hid a x e2
    simp only [zCg, zBq]
    rw [e3]
    intro e4
    rw [h1, zAu, zBi, zCz] at hn
    exact (zCk.1 hn.2.1).1 (zAp.2 ⟨a, ha, e4⟩)
theorem rev_at {α : Type} [Inhabited α] {l : List α} {i : Nat} (h : i < l.length) : l.reverse.getD ((l.reverse.length : Int) - 1 - (i : Int)).toNat default = l.getD i default := by
  have e : ((l.reverse.length : Int) - 1 - (i : Int)).toNat = l.length - 1 - i := by rw [zBp]; omega
  rw [e, getD_lt h, getD_lt (by rw [zBp]; omega), List.getElem_reverse]
  congr 1; omega
theorem placedLen_yes {k : Nat} (hk : k < l.length) {m x : Jo.Mark} (hm : l.getD k default = m) (hx : f m = some x) : (placedL f (l.take (k + 1))).length = (placedL f (l.take k)).length + 1 ∧ (heldL f (l.take (k + 1))).length = (heldL f (l.take k)).length := by
  obtain ⟨h1, h2⟩ := placedL_yes hk hm hx
  rw [h1, h2, lLa]; exact ⟨rfl, rfl⟩
theorem placedLen_no {k : Nat} (hk : k < l.length) {m : Jo.Mark} (hm : l.getD k default = m) (hx : f m = none) : (placedL f (l.take (k + 1))).length = (placedL f (l.take k)).length ∧ (heldL f (l.take (k + 1))).length = (heldL f (l.take k)).length + 1 := by
  obtain ⟨h1, h2⟩ := placedL_no hk hm hx
  rw [h1, h2, lLa]; exact ⟨rfl, rfl⟩
end
theorem carryM_id (l : List Score) (v : Int) (to : Score) (a b : Jo.Mark) (h : carryM l v to a = some b) : b.id = a.id ∧ b.version = to.version := by
  rw [carryM_eq] at h
  cases hx : toN l v to a.version a.note with
  | none => rw [hx] at h; cases h
  | some n => rw [hx] at h; cases h; exact ⟨rfl, rfl⟩
def rvC (l : List Jo.Mark) (k : Nat) : List Jo.Mark := (l.drop (l.length - k)).reverse
theorem rvC_succ {l : List Jo.Mark} {k : Nat} (h : k < l.length) : rvC l (k + 1) = rvC l k ++ [l.getD (l.length - 1 - k) default] := by
  unfold rvC
  rw [show l.length - (k + 1) = l.length - 1 - k by omega, zBl (by omega : l.length - 1 - k < l.length), List.reverse_cons, getD_lt (by omega), show l.length - 1 - k + 1 = l.length - k by omega]
theorem rv_all (l : List Jo.Mark) : rvC l l.length = l.reverse := by unfold rvC; simp
theorem marksOk_rev {l : List Jo.Mark} (h : marksOk l = true) : marksOk l.reverse = true := by
  unfold marksOk at h ⊢
  simp only [zA2, dEt, zA5] at h ⊢
  refine ⟨⟨fun m hm => h.1.1 m (zDh.1 hm), ?_⟩, by rw [zBp]; exact h.2⟩
  rw [List.map_reverse]
  have := h.1.2
  unfold List.Nodup at this ⊢
  rw [List.pairwise_reverse]
  exact this.imp fun h => Ne.symm h
theorem rvC_len (l : List Jo.Mark) (k : Nat) : (rvC l k).length ≤ l.length := by unfold rvC; simp
set_option maxHeartbeats 16000000 in
set_option maxRecDepth 20000 in
theorem once_law (l : List Score) (hl : l.length ≤ 9223372036854775807) (hsz : ∀ s ∈ l, s.Sized) (ms : List Jo.Mark) (hms : ms.length ≤ 9223372036854775807) (ht : TextsIn ms) (w : Int) (hw : 0 ≤ w ∧ w ≤ 255) :
    PCall Tryz.prog 10 [.sl 4 (l.map encS) .no, .sl 10 (ms.map encMk) .no, .prim (.int .u8 w)] (.b true) := by
  have hh := head21_spec
  have hu := usable21_spec l hl hsz ms hms ht
  cases g1 : usab21 l ms with
  | false =>
    rw [g1] at hu
    refine PCall.body Tryz.func10 rfl rfl Tryz.ntmps10 rfl rfl ?_
    repeat' (first | refine aoQ rfl rfl rfl (fun hg => by first | exact std0 | exact pcW (hh) rfl rfl nd rfl nds | exact pcW (hu) rfl rfl nd rfl nds | exact std1) (by exact rfl) ?_ | refine sqW ?_ | refine rgK (fun K' hK => ?_) | (refine aoN (hK _ _ ?_); clear hK K') | (refine cdW rfl tI (fun hc => ?_) (fun hc => ?_) <;> (first | (simp only [dEt] at hc) | (simp only [dEf, zA0, zA1] at hc) | skip)) | refine skW ?_ | refine rtW ?_)
    · exact ⟨.inr rfl, Ent.b rfl⟩
    all_goals (exfalso; simp at hc)
  | true =>
    rw [g1] at hu
    obtain ⟨hf, hlen, hpos, hvo, hgd, hmo, hml, k, hj, hkl⟩ := usab_at g1 hw.1
    have hl0 : ((l.length : Nat) : Int) ≠ 0 := by omega
    have hso : scoreOk (atS l k) = true := hgd _ (getD_mem hkl)
    have hnd := marksOk_ids hmo
    have hfv := findV_self hvo hkl
    have htr : TextsIn (rvC ms ms.length) := fun m hm => ht m (zDh.1 (by rw [← rv_all]; exact hm))
    have a1 := All_spec l (by omega) hf ms (by omega) ht (atS l k).version
    have a2 := All_spec l (by omega) hf (rvC ms ms.length) (by have := rvC_len ms ms.length; omega) htr (atS l k).version
    rw [allR_ok hvo hmo (ver_num hso) hfv] at a1
    rw [allR_ok hvo (by rw [rv_all]; exact marksOk_rev hmo) (ver_num hso) hfv] at a2
    rw [show placedL (carryM l (atS l k).version (atS l k)) (rvC ms ms.length) = (placedL (carryM l (atS l k).version (atS l k)) ms).reverse by rw [rv_all, placed_rev], show heldL (carryM l (atS l k).version (atS l k)) (rvC ms ms.length) = (heldL (carryM l (atS l k).version (atS l k)) ms).reverse by rw [rv_all, held_rev]] at a2
    obtain ⟨s, hs⟩ : ∃ s, l.getD k default = s := ⟨_, rfl⟩
    rw [show atS l k = s from hs] at a1 a2
    have hid := carryM_id l s.version s
    generalize carryM l s.version s = f at *
    have hpa := fun j (h : j < ms.length) m x hm hx => placed_at (f := f) (l := ms) (k := j) h (m := m) (x := x) hm hx
    have hha := fun j (h : j < ms.length) m hm hx => held_at (f := f) (l := ms) (k := j) h (m := m) hm hx
    have hpn := fun j (h : j < ms.length) m hm hx => placed_not (f := f) (l := ms) (k := j) h (m := m) hm hx hnd (fun a b e => (hid a b e).1)
    have hbl := both_len (f := f) ms
    have hly := fun j (h : j < ms.length) m x hm hx => placedLen_yes (f := f) (l := ms) (k := j) h (m := m) (x := x) hm hx
    have hln := fun j (h : j < ms.length) m hm hx => placedLen_no (f := f) (l := ms) (k := j) h (m := m) hm hx
    have hid' := fun a b e => (hid a b e).1
    have hpv : ∀ x ∈ placedL f ms, x.version = s.version := fun x hx => by
      unfold placedL at hx
      obtain ⟨a, _, e⟩ := List.mem_filterMap.1 hx
      exact (hid a x e).2
    obtain ⟨pi, hpi⟩ : ∃ g : Nat → Nat, (fun j => (placedL f (ms.take j)).length) = g := ⟨_, rfl⟩
    obtain ⟨hi, hhi⟩ : ∃ g : Nat → Nat, (fun j => (heldL f (ms.take j)).length) = g := ⟨_, rfl⟩
    have hpi2 : ∀ j, (placedL f (ms.take j)).length = pi j := fun j => by rw [← hpi]
    have hhi2 : ∀ j, (heldL f (ms.take j)).length = hi j := fun j => by rw [← hhi]
    have p0 : pi 0 = 0 := by rw [← hpi2]; rfl
    have h0 : hi 0 = 0 := by rw [← hhi2]; rfl
    simp only [hpi2, hhi2] at hpa hha hpn hly hln
    clear hpi hhi hpi2 hhi2
    unfold tupA at a1 a2
    dsimp only at a1 a2
    generalize placedL f ms = P at *
    generalize heldL f ms = H at *
    obtain ⟨P', hP'⟩ : ∃ x, P.reverse = x := ⟨_, rfl⟩
    obtain ⟨H', hH'⟩ : ∃ x, H.reverse = x := ⟨_, rfl⟩
    have lP : P'.length = P.length := by rw [← hP', zBp]
    have lH : H'.length = H.length := by rw [← hH', zBp]
    have rP := fun i (h : i < P.length) => rev_at h
    have rH := fun i (h : i < H.length) => rev_at h
    rw [hP'] at rP a2
    rw [hH'] at rH a2
    clear hP' hH' hid hnd htr hfv hso hgd hvo hf hsz ht
    refine PCall.body Tryz.func10 rfl rfl Tryz.ntmps10 rfl rfl ?_
    repeat' (first | refine aoQ rfl rfl rfl (fun hg => by first | exact iX encS l ((k : Nat) : Int) hs (hb := by omega) | exact PRun.convV tabOk (wrap64a ⟨by omega, by omega⟩) rfl rfl nd rfl rfl | exact PRun.remV hj hl0 rfl rfl nd rfl nd | exact std0 | exact pcW (hh) rfl rfl nd rfl nds | exact pcW (hu) rfl rfl nd rfl nds | exact pcW (a1) rfl rfl nd rfl nds | exact std1) (by exact rfl) ?_ | refine sqW ?_ | refine rgK (fun K' hK => ?_) | (refine aoN (hK _ _ ?_); clear hK K') | (refine cdW rfl tI (fun hc => ?_) (fun hc => ?_) <;> (first | (simp only [dEt] at hc) | (simp only [dEf, zA0, zA1] at hc) | skip)) | refine blK ?_ | refine skW ?_ | refine rtW ?_)
    all_goals (first | (exfalso; simp at hc; done) | skip)
    refine AWP.ownNil (d := 12) (sz := 10) rfl ?_
    refine lpD (ι := Nat) (fun j => [(0, .sl 4 (l.map encS) .no), (1, .sl 10 (ms.map encMk) .no), (7, .b true), (8, .int s.version), (9, .sl 10 (P.map encMk) .no), (10, .sl 10 (H.map encMk) .no), (11, .int 0), (12, .sl 10 ((rvC ms j).map encMk) (.own 0)), (44, .sl 10 (ms.map encMk) .no), (45, .int ms.length), (46, .int j)])
      (fun j => [.own 10 ((rvC ms j).map encMk).length])
      (fun j => j ≤ ms.length) (fun j => ms.length - j) 1 (fun _ => rfl) 0 (nZl _) ⟨rfl, rfl, rfl, rfl, rfl, rfl, rfl, (by show AV.sl 10 [] (.own 0) = AV.sl 10 (List.map encMk (rvC ms 0)) (.own 0); unfold rvC; simp), rfl, rfl, rfl, tI⟩ (by show [AObj.own 10 0] = [AObj.own 10 (List.map encMk (rvC ms 0)).length]; unfold rvC; simp) (fun _ _ => rfl) (fun _ _ => rfl) ?_
    intro j hjl
    by_cases hlt : j < ms.length
    · obtain ⟨m, hm⟩ : ∃ m, ms.getD ((ms.length : Int) - 1 - (j : Int)).toNat default = m := ⟨_, rfl⟩
      have hm2 : ms.getD (ms.length - 1 - j) default = m := by rw [← hm]; congr 1; omega
      have hsu := rvC_succ hlt
      rw [hm2] at hsu
      have hrl := rvC_len ms j
      clear hpa hha hpn hly hln rP rH
      repeat' (first | refine aoQ rfl rfl rfl (fun hg => by first | exact iX encMk ms ((ms.length : Int) - 1 - (j : Int)) hm (hb := by omega) | exact std0 | exact pbS tabOk rfl rfl nds | exact std1) (by exact rfl) ?_ | refine sqW ?_ | refine rgK (fun K' hK => ?_) | (refine aoN (hK _ _ ?_); clear hK K') | refine aoE (apO tabOk rfl rfl rfl (by decide) (Rd.w rfl tI) rfl (Rd.w rfl tI) (.sl rfl (by first | (intro x hx; rcases zAo.1 hx with rfl; rfl) | exact one_encMk [m])) (LOk.of (tabOk.get rfl)) (LOk.of (tabOk.get rfl)) rfl rfl (by simp only [lLm, lLa, zAd, zAi, zB3, zBj]; omega) (by simp only [lLm, lLa, zAd, zAi, zB3, zBj]; omega) ?_) | (refine cdW rfl tI (fun hc => ?_) (fun hc => ?_) <;> (first | (simp only [dEt] at hc) | (simp only [dEf, zA0, zA1] at hc) | skip)) | refine blK ?_ | refine exW ?_ | refine skW ?_)
      all_goals (first | (exfalso; omega) | skip)
      refine ⟨j + 1, hlt, by show ms.length - (j + 1) < ms.length - j; omega, ⟨rfl, rfl, rfl, rfl, rfl, rfl, rfl, ?_, rfl, rfl, rfl, tI⟩, ?_⟩
      · rw [hsu, zAu]; rfl
      · rw [hsu, zAu]; rfl
    · obtain rfl : j = ms.length := by omega
      have hrl := rvC_len ms ms.length
      repeat' (first | refine aoQ rfl rfl rfl (fun hg => by first | exact std0 | exact pcW (a2) rfl rfl nd rfl nds | exact std1) (by exact rfl) ?_ | refine sqW ?_ | refine rgK (fun K' hK => ?_) | (refine aoN (hK _ _ ?_); clear hK K') | (refine cdW rfl tI (fun hc => ?_) (fun hc => ?_) <;> (first | (simp only [dEt] at hc) | (simp only [dEf, zA0, zA1] at hc) | skip)) | refine blK ?_ | refine exW ?_ | refine skW ?_ | refine rtW ?_)
      all_goals (first | (exfalso; omega) | (exfalso; simp at hc; omega) | skip)
      generalize rvC ms ms.length = back at *
      clear hh hu a1 a2
      refine lpD (ι := Nat) (fun j => [(1, .sl 10 (ms.map encMk) .no), (7, .b true), (8, .int s.version), (9, .sl 10 (P.map encMk) .no), (10, .sl 10 (H.map encMk) .no), (14, .sl 10 (P'.map encMk) .no), (15, .sl 10 (H'.map encMk) .no), (17, .int (pi j : Nat)), (18, .int (hi j : Nat)), (99, .sl 10 (ms.map encMk) .no), (100, .int ms.length), (101, .int j)])
        (fun _ => [.own 10 (back.map encMk).length])
        (fun j => j ≤ ms.length) (fun j => ms.length - j) 1 (fun _ => rfl) 0 (nZl _) ⟨rfl, rfl, rfl, rfl, rfl, rfl, rfl, (by rw [p0]; rfl), (by rw [h0]; rfl), rfl, rfl, rfl, tI⟩ rfl (fun _ _ => rfl) (fun _ _ => rfl) ?_
      intro j hjl
      by_cases hlt : j < ms.length
      · obtain ⟨m, hm⟩ : ∃ m, ms.getD j default = m := ⟨_, rfl⟩
        cases hx : f m with
        | some x =>
          obtain ⟨x1, x2⟩ := hpa j hlt m x hm hx
          obtain ⟨y1, y2⟩ := hly j hlt m x hm hx
          have z1 := rP (pi j) x1
          rw [x2] at z1
          have xv := hpv x (by rw [← x2]; exact getD_mem x1)
          have xi := hid' m x hx
          clear hpa hha hpn hly hln rP rH hpv hid'
          generalize pi j = pj at *
          generalize hi j = hj at *
          repeat' (first | refine aoQ rfl rfl rfl (fun hg => by first | exact iX encMk ms ((j : Nat) : Int) hm (hb := by omega) | exact std0) (by exact rfl) ?_ | refine sqW ?_ | refine rgK (fun K' hK => ?_) | (refine aoN (hK _ _ ?_); clear hK K') | refine aoE (stW tabOk rfl rfl rfl tI rfl rfl tI rfl rfl rfl rfl rfl rfl rfl ?_) | refine aoE (alW tabOk rfl rfl rfl rfl rfl rfl ?_) | (refine cdW rfl tI (fun hc => ?_) (fun hc => ?_) <;> (first | (simp only [dEt] at hc) | (simp only [dEf, zA0, zA1] at hc) | skip)) | refine blK ?_ | refine exW ?_ | refine skW ?_ | refine rtW ?_ | refine dK2 (by decide +kernel) (by kernel_rfl) (by decide +kernel) rfl (fun K' hK => ?_) | (refine aqN (hK _ ?_); clear hK K') | refine aqQ rfl rfl (fun hg => by first | exact iX encMk (P') ((P'.length : Int) - 1 - (pj : Int)) z1 (hb := by omega) | exact iX encMk P ((pj : Nat) : Int) x2 (hb := by omega) | exact std0 | exact PRun.eqN Mk.flM rfl rfl nd rfl nd rfl | exact std1) (by exact rfl) ?_)
          all_goals (first | (exfalso; omega) | (exfalso; simp [xi, xv] at hc; omega) | skip)
          refine ⟨j + 1, hlt, by show ms.length - (j + 1) < ms.length - j; omega, ⟨rfl, ?_, rfl, rfl, rfl, rfl, rfl, ?_, ?_, rfl, rfl, rfl, tI⟩, rfl⟩
          · show AV.b _ = AV.b true; simp [bs_beq]
          · rw [y1]; rfl
          · rw [y2]; rfl
        | none =>
          obtain ⟨x1, x2⟩ := hha j hlt m hm hx
          obtain ⟨y1, y2⟩ := hln j hlt m hm hx
          have z1 := rH (hi j) x1
          rw [x2] at z1
          have hpn1 := hpn j hlt m hm hx
          clear hpa hha hpn hly hln rP rH hpv hid'
          generalize pi j = pj at *
          generalize hi j = hj at *
          by_cases hpp : pj < P.length
          · obtain ⟨q, hq⟩ : ∃ q, P.getD pj default = q := ⟨_, rfl⟩
            have hne := hpn1 hpp
            rw [hq] at hne
            clear hpn1
            repeat' (first | refine aoQ rfl rfl rfl (fun hg => by first | exact iX encMk ms ((j : Nat) : Int) hm (hb := by omega) | exact std0) (by exact rfl) ?_ | refine sqW ?_ | refine rgK (fun K' hK => ?_) | (refine aoN (hK _ _ ?_); clear hK K') | refine aoE (stW tabOk rfl rfl rfl tI rfl rfl tI rfl rfl rfl rfl rfl rfl rfl ?_) | refine aoE (alW tabOk rfl rfl rfl rfl rfl rfl ?_) | (refine cdW rfl tI (fun hc => ?_) (fun hc => ?_) <;> (first | (simp only [dEt] at hc) | (simp only [dEf, zA0, zA1] at hc) | skip)) | refine blK ?_ | refine exW ?_ | refine skW ?_ | refine rtW ?_ | refine dK2 (by decide +kernel) (by kernel_rfl) (by decide +kernel) rfl (fun K' hK => ?_) | (refine aqN (hK _ ?_); clear hK K') | refine aqQ rfl rfl (fun hg => by first | exact iX encMk (H') ((H'.length : Int) - 1 - (hj : Int)) z1 (hb := by omega) | exact iX encMk H ((hj : Nat) : Int) x2 (hb := by omega) | exact iX encMk P ((pj : Nat) : Int) hq (hb := by omega) | exact std0 | exact PRun.eqN Mk.flM rfl rfl nd rfl nd rfl | exact std1) (by exact rfl) ?_)
            all_goals (first | (exfalso; omega) | (exfalso; simp [hne] at hc; done) | (exfalso; simp [bs_beq] at hc; omega) | skip)
            refine ⟨j + 1, hlt, by show ms.length - (j + 1) < ms.length - j; omega, ⟨rfl, ?_, rfl, rfl, rfl, rfl, rfl, ?_, ?_, rfl, rfl, rfl, tI⟩, rfl⟩
            · show AV.b _ = AV.b true; simp [bs_beq]
            · rw [y1]; rfl
            · rw [y2]; rfl
          · clear hpn1
            have hdf : decide ((pj : Int) < ((P.length : Nat) : Int)) = false := decide_eq_false (by omega)
            repeat' (first | refine aoQ rfl rfl rfl (fun hg => by first | exact iX encMk ms ((j : Nat) : Int) hm (hb := by omega) | exact std0) (by exact rfl) ?_ | refine sqW ?_ | refine rgK (fun K' hK => ?_) | (refine aoN (hK _ _ ?_); clear hK K') | refine aoE (stW tabOk rfl rfl rfl tI rfl rfl tI rfl rfl rfl rfl rfl rfl rfl ?_) | refine aoE (alW tabOk rfl rfl rfl rfl rfl rfl ?_) | (refine cdW rfl tI (fun hc => ?_) (fun hc => ?_) <;> (first | (simp only [dEt] at hc) | (simp only [dEf, zA0, zA1] at hc) | skip)) | refine blK ?_ | refine exW ?_ | refine skW ?_ | refine rtW ?_ | refine dK2 (by decide +kernel) (by kernel_rfl) (by decide +kernel) rfl (fun K' hK => ?_) | (refine aqN (hK _ ?_); clear hK K') | refine aqQ rfl rfl (fun hg => by first | exact iX encMk (H') ((H'.length : Int) - 1 - (hj : Int)) z1 (hb := by omega) | exact iX encMk H ((hj : Nat) : Int) x2 (hb := by omega) | exact PRun.eq (v := AV.b (decide ((pj : Int) < ((P.length : Nat) : Int)))) (PRun.binW rfl rfl nd rfl nd rfl) (congrArg AV.b hdf) | exact std0 | exact PRun.eqN Mk.flM rfl rfl nd rfl nd rfl | exact (Bool.noConfusion (show false = true from hg) : PRun _ _ _ _ (.b false)) | exact std1) (by exact rfl) ?_)
            all_goals (first | (exfalso; omega) | (exfalso; simp at hc; done) | (exfalso; simp [bs_beq] at hc; omega) | skip)
            refine ⟨j + 1, hlt, by show ms.length - (j + 1) < ms.length - j; omega, ⟨rfl, ?_, rfl, rfl, rfl, rfl, rfl, ?_, ?_, rfl, rfl, rfl, tI⟩, rfl⟩
            · show AV.b _ = AV.b true; simp [bs_beq]
            · rw [y1]; rfl
            · rw [y2]; rfl
      · obtain rfl : j = ms.length := by omega
        clear hpa hha hpn hly hln rP rH hpv hid'
        repeat' (first | refine aoQ rfl rfl rfl (fun hg => by first | exact std0 | exact std1) (by exact rfl) ?_ | refine sqW ?_ | refine rgK (fun K' hK => ?_) | (refine aoN (hK _ _ ?_); clear hK K') | refine aoE (stW tabOk rfl rfl rfl tI rfl rfl tI rfl rfl rfl rfl rfl rfl rfl ?_) | refine aoE (alW tabOk rfl rfl rfl rfl rfl rfl ?_) | (refine cdW rfl tI (fun hc => ?_) (fun hc => ?_) <;> (first | (simp only [dEt] at hc) | (simp only [dEf, zA0, zA1] at hc) | skip)) | refine blK ?_ | refine exW ?_ | refine skW ?_ | refine rtW ?_ | refine dK2 (by decide +kernel) (by kernel_rfl) (by decide +kernel) rfl (fun K' hK => ?_) | (refine aqN (hK _ ?_); clear hK K') | refine aqQ rfl rfl (fun hg => by first | exact std0 | exact std1) (by exact rfl) ?_)
        all_goals (first | (exfalso; omega) | skip)
        exact ⟨.inr rfl, Ent.b rfl⟩
end Go.Proofs.YtekfpcgagoidcaaGreatDoor.Cy
