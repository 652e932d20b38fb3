/- The law CarryDirect by content. No statement is proved here. -/
import Derived.Test.YtekfpcgagoidcaaGreatDoorV32
set_option linter.unusedVariables false
set_option linter.unusedSimpArgs false
namespace Go.Proofs.YtekfpcgagoidcaaGreatDoor.Cy
open Go.Ab Go.Sort Al Mk
attribute [local irreducible] AWP AOps EStep AQ PStep PRun PCall TCall VCall
theorem one_encS (l : List Score) : ∀ x ∈ l.map encS, x.all oneAV = true := fun x hx => by
  obtain ⟨c, _, rfl⟩ := zAp.1 hx; rfl
def keepV (b : Nat → Score → Bool) (l : List Score) (k : Nat) : List Score := ((List.range k).filter fun j => b j (atS l j)).map (atS l)
theorem keepV_succ (b : Nat → Score → Bool) (l : List Score) (k : Nat) : keepV b l (k + 1) = if b k (atS l k) then keepV b l k ++ [atS l k] else keepV b l k := by
  unfold keepV
  rw [zCn, zCb]
  split
  · rename_i h; rw [zBa (by exact h), zAu]; rfl
  · rename_i h; rw [zBh (by exact h)]; simp
theorem keepV_len (b : Nat → Score → Bool) (l : List Score) (k : Nat) : (keepV b l k).length ≤ k := by
  unfold keepV
  rw [lLm]
  have := zCu (fun j => b j (atS l j)) (List.range k)
  rwa [List.length_range] at this
theorem keepV_mem {b : Nat → Score → Bool} {l : List Score} {k : Nat} (hk : k ≤ l.length) {s : Score} : s ∈ keepV b l k ↔ ∃ j, j < k ∧ b j (atS l j) = true ∧ s = atS l j := by
  unfold keepV
  rw [lMm]
  constructor
  · rintro ⟨j, hj, rfl⟩
    obtain ⟨h1, h2⟩ := zC0.1 hj
    exact ⟨j, zAt.1 h1, h2, rfl⟩
  · rintro ⟨j, h1, h2, rfl⟩
    exact ⟨j, zC0.2 ⟨zAt.2 h1, h2⟩, rfl⟩
theorem vers_iff {l : List Score} : versOk l = true ↔ 1 ≤ l.length ∧ l.length ≤ 100 ∧ (∀ s ∈ l, scoreOk s = true) ∧ l.Pairwise fun a b => a.version < b.version := by
  constructor
  · intro h
    have h4 := h
    unfold versOk at h4
    simp only [zA2, dEt] at h4
    refine ⟨by omega, by omega, vers_all h, ?_⟩
    rw [zBu]
    intro i j hi hj hij
    have := vers_lt h hij hj
    unfold atS at this
    rwa [getD_lt hi, getD_lt hj] at this
  · rintro ⟨h1, h2, h3, h4⟩
    unfold versOk
    simp only [zA2, dEt, zA5]
    refine ⟨⟨by omega, by omega⟩, fun k hk => ?_⟩
    have hk := zAt.1 hk
    unfold stepV
    rw [show scoreOk (atS l k) = true from h3 _ (getD_mem hk), zCf]
    rw [zBu] at h4
    cases k with
    | zero => rfl
    | succ k =>
      have := h4 k (k + 1) (by omega) hk (by omega)
      unfold atS
      rw [getD_lt hk, zCa, getD_lt (by omega)]
      simp [this]
theorem keepV_vers {b : Nat → Score → Bool} {l : List Score} (h : versOk l = true) (hne : ∃ j, j < l.length ∧ b j (atS l j) = true) : versOk (keepV b l l.length) = true := by
  obtain ⟨h1, h2, h3, h4⟩ := vers_iff.1 h
  refine vers_iff.2 ⟨?_, zD8 (keepV_len b l _) h2, fun s hs => ?_, ?_⟩
  · obtain ⟨j, hj, hb⟩ := hne
    exact List.length_pos_of_mem ((keepV_mem (nLr _)).2 ⟨j, hj, hb, rfl⟩)
  · obtain ⟨j, hj, _, rfl⟩ := (keepV_mem (nLr _)).1 hs
    exact h3 _ (getD_mem hj)
  · unfold keepV
    rw [List.pairwise_map]
    refine List.Pairwise.filter _ ?_
    refine List.pairwise_lt_range.imp_of_mem fun {x y} hx hy hxy => vers_lt h hxy (zAt.1 hy)
theorem findV_mem {l : List Score} (h : versOk l = true) {s : Score} (hs : s ∈ l) : ∃ k : Nat, findV l s.version = k ∧ k < l.length ∧ atS l k = s := by
  obtain ⟨k, hk, rfl⟩ := zAz.1 hs
  have e : atS l k = l[k] := getD_lt hk
  exact ⟨k, by rw [← e]; exact findV_self h hk, hk, e⟩
theorem findV_not {l : List Score} {v : Int} (h : ∀ s ∈ l, s.version ≠ v) : findV l v < 0 := by
  apply Decidable.byContradiction
  intro hn
  obtain ⟨k, _, hk, e⟩ := findV_lt hn
  exact h _ (getD_mem hk) e
theorem toN_keep {l l' : List Score} (h : versOk l = true) (h' : versOk l' = true) {v w : Int} {to : Score} (hsub : ∀ s ∈ l', s ∈ l) (hw : ∀ s ∈ l, s.version = w → s ∈ l') (id : Int) : toN l' v to w id = toN l v to w id := by
  by_cases hv : w = v
  · subst hv; unfold toN mapF; rw [if_pos rfl, if_pos rfl]
  · by_cases hf : findV l w < 0
    · rw [toN_no hv hf, toN_no hv]
      refine findV_not fun s hs e => ?_
      obtain ⟨k, hk, _, _⟩ := findV_mem h (hsub s hs)
      rw [e] at hk; omega
    · obtain ⟨k, hk, hkl, ek⟩ := findV_lt hf
      obtain ⟨k', hk', _, ek'⟩ := findV_mem h' (s := atS l k) (hw _ (getD_mem hkl) ek)
      rw [ek] at hk'
      rw [toN_at hv hk, toN_at hv hk', ek']
def bitJ (x : Int) (j : Nat) : Bool := bits .and .u8 (x.fdiv (2 ^ (Min.min ((j : Nat) : Int).toNat IntKind.u8.bits))) 1 == 1
def keepB (v w x : Int) (j : Nat) (s : Score) : Bool := (s.version == v || s.version == w) || bitJ x j
set_option maxHeartbeats 16000000 in
set_option maxRecDepth 20000 in
theorem direct_law (l : List Score) (hl : l.length ≤ 9223372036854775807) (hsz : ∀ s ∈ l, s.Sized) (m : Jo.Mark) (hm : m.text.length ≤ 9223372036854775807) (w : Int) (hw : 0 ≤ w ∧ w ≤ 255) (x : Int) (hx : 0 ≤ x ∧ x ≤ 255) :
    PCall Tryz.prog 12 [.sl 4 (l.map encS) .no, .agg (encMk m), .prim (.int .u8 w), .prim (.int .u8 x)] (.b true) := by
  have hh := head21_spec
  have hu := usab_spec0 l hl hsz
  have v1 := valid19_spec m hm
  by_cases hbad : ((!usab21 l []) || !Jo.markOk m) = true
  · refine PCall.body Tryz.func12 rfl rfl Tryz.ntmps12 rfl rfl ?_
    repeat' (first | refine aoQ rfl rfl rfl (fun hg => by first | exact std0 | exact pcW (hh) rfl rfl nd rfl nds | exact pcW (hu) rfl rfl nd rfl nds | exact pcW (v1) rfl rfl nd rfl nds | exact std1) (by exact rfl) ?_ | refine sqW ?_ | refine rgK (fun K' hK => ?_) | (refine aoN (hK _ _ ?_); clear hK K') | refine aoE (bxW rfl rfl rfl rfl rfl tI rfl rfl ?_) | (refine cdW rfl tI (fun hc => ?_) (fun hc => ?_) <;> (first | (simp only [dEt] at hc) | (simp only [dEf, zA0, zA1] at hc) | skip)) | refine skW ?_ | refine rtW ?_)
    · exact ⟨.inr rfl, Ent.b rfl⟩
    all_goals (exfalso; first | (rw [hbad] at hc; cases hc) | (rename_i h9; rw [hbad] at h9; cases h9) | (rename_i h9 _; rw [hbad] at h9; cases h9))
  · have hb := zD3 _ ▸ hbad
    simp only [zAh, zAr] at hb
    obtain ⟨g1, g2⟩ := hb
    obtain ⟨hf, hlen, hpos, hvo, hgd, _, _, k, hj, hkl⟩ := usab_at g1 hw.1
    have hl0 : ((l.length : Nat) : Int) ≠ 0 := by omega
    have ht : scoreOk (atS l k) = true := hgd _ (getD_mem hkl)
    have c1 := Carry_spec l (by omega) hf m hm (atS l k).version
    have hfv := findV_self hvo hkl
    rw [carryR_ok hvo g2 (ver_num ht) hfv, carryM_eq] at c1
    obtain ⟨s, hs⟩ : ∃ s, l.getD k default = s := ⟨_, rfl⟩
    have hs' : atS l k = s := hs
    rw [hs'] at c1
    rw [hs'] at ht
    obtain ⟨B, hB⟩ : ∃ B, keepB s.version m.version x = B := ⟨_, rfl⟩
    have hkn := keepV_len B l
    have hmem := fun y => keepV_mem (b := B) (s := y) (nLr l.length)
    have hv' : versOk (keepV B l l.length) = true := keepV_vers hvo ⟨k, hkl, by rw [← hB, hs']; unfold keepB; simp⟩
    have hsin : s ∈ keepV B l l.length := (hmem s).2 ⟨k, hkl, by rw [← hB, hs']; unfold keepB; simp, hs'.symm⟩
    obtain ⟨k', hk', hkl', ek'⟩ := findV_mem hv' hsin
    have c2 := Carry_spec (keepV B l l.length) (by have := hkn l.length; omega) (fun y hy => by
      obtain ⟨j, h1, _, rfl⟩ := (hmem y).1 hy
      exact hf _ (getD_mem h1)) m hm s.version
    rw [carryR_ok hv' g2 (ver_num ht) hk', carryM_eq, ek', toN_keep hvo hv' (fun y hy => by
      obtain ⟨j, h1, _, rfl⟩ := (hmem y).1 hy
      exact getD_mem h1) (fun y hy e => by
      obtain ⟨j, h1, rfl⟩ := zAz.1 hy
      have e2 : atS l j = l[j] := getD_lt h1
      exact (hmem _).2 ⟨j, h1, by rw [← hB, e2]; unfold keepB; simp [e], e2.symm⟩)] at c2
    clear hmem hsin hv' hk' hkl' ek' hfv ht
    generalize ((toN l s.version s m.version m.note).map fun n => { m with version := s.version, note := n }) = r at *
    unfold tupC at c1 c2
    dsimp only at c1 c2
    rw [g1] at hu
    rw [g2] at v1
    refine PCall.body Tryz.func12 rfl rfl Tryz.ntmps12 rfl rfl ?_
    repeat' (first | refine aoQ rfl rfl rfl (fun hg => by first | exact iX encS l ((k : Nat) : Int) hs (hb := by omega) | exact PRun.convV tabOk (wrap64a ⟨by omega, by omega⟩) rfl rfl nd rfl rfl | exact PRun.remV hj hl0 rfl rfl nd rfl nd | exact std0 | exact pcW (hh) rfl rfl nd rfl nds | exact pcW (hu) rfl rfl nd rfl nds | exact pcW (v1) rfl rfl nd rfl nds | exact std1) (by exact rfl) ?_ | refine sqW ?_ | refine rgK (fun K' hK => ?_) | (refine aoN (hK _ _ ?_); clear hK K') | refine aoE (bxW rfl rfl rfl rfl rfl tI rfl rfl ?_) | (refine cdW rfl tI (fun hc => ?_) (fun hc => ?_) <;> (first | (simp only [dEt] at hc) | (simp only [dEf, zA0, zA1] at hc) | skip)) | refine blK ?_ | refine skW ?_ | refine rtW ?_)
    all_goals (first | (exfalso; simp at hc; done) | (exfalso; exact hbad hc) | skip)
    refine AWP.ownNil (d := 11) (sz := 4) rfl ?_
    refine lpD (ι := Nat) (fun j => [(0, .sl 4 (l.map encS) .no), (3, .prim (.int .u8 x)), (5, .ptr 0 0), (9, .b true), (10, .int s.version), (11, .sl 4 ((keepV B l j).map encS) (.own 1)), (39, .sl 4 (l.map encS) .no), (40, .int l.length), (41, .int j)])
      (fun j => [.var (encMk m), .own 4 ((keepV B l j).map encS).length])
      (fun j => j ≤ l.length) (fun j => l.length - j) 2 (fun _ => rfl) 0 (nZl _) ⟨rfl, rfl, rfl, rfl, rfl, rfl, rfl, rfl, rfl, tI⟩ rfl (fun _ _ => rfl) (fun _ _ => rfl) ?_
    intro j hjl
    have hkj := hkn j
    have hks := keepV_succ B l j
    by_cases hlt : j < l.length
    · obtain ⟨u, hu2⟩ : ∃ u, l.getD j default = u := ⟨_, rfl⟩
      rw [show atS l j = u from hu2] at hks
      repeat' (first | refine aoQ rfl rfl rfl (fun hg => by first | exact iX encS l ((j : Nat) : Int) hu2 (hb := by omega) | exact std0 | exact PRun.bitsW rfl rfl nd rfl nd rfl | exact PRun.shrW rfl rfl nd rfl nd (by omega) | exact pbS tabOk rfl rfl nds) (by exact rfl) ?_ | refine sqW ?_ | refine rgK (fun K' hK => ?_) | (refine aoN (hK _ _ ?_); clear hK K') | refine aoE (stW tabOk rfl rfl rfl tI rfl rfl tI rfl rfl rfl rfl rfl rfl rfl ?_) | refine aoE (alW tabOk rfl rfl rfl rfl rfl rfl ?_) | refine aoE (apO tabOk rfl rfl rfl (by decide) (Rd.w rfl tI) rfl (Rd.w rfl tI) (.sl rfl (by first | (intro x hx; rcases zAo.1 hx with rfl; rfl) | exact one_encS [u])) (LOk.of (tabOk.get rfl)) (LOk.of (tabOk.get rfl)) rfl rfl (by simp only [lLm, lLa, zAd, zAi, zB3, zBj]; omega) (by simp only [lLm, lLa, zAd, zAi, zB3, zBj]; omega) ?_) | (refine cdW rfl tI (fun hc => ?_) (fun hc => ?_) <;> (first | (simp only [dEt] at hc) | (simp only [dEf, zA0, zA1] at hc) | skip)) | refine blK ?_ | refine exW ?_ | refine skW ?_)
      all_goals (first | (exfalso; omega) | skip)
      · have hk9 : B j u = true := by rw [← hB]; exact hc
        rw [if_pos hk9] at hks
        refine ⟨j + 1, hlt, by show l.length - (j + 1) < l.length - j; omega, ⟨rfl, rfl, rfl, rfl, rfl, ?_, rfl, rfl, rfl, tI⟩, ?_⟩
        · rw [hks, zAu]; rfl
        · rw [hks, zAu]; rfl
      · have hk9 : B j u = false := by rw [← hB]; exact hc
        rw [if_neg (by rw [hk9]; decide)] at hks
        refine ⟨j + 1, hlt, by show l.length - (j + 1) < l.length - j; omega, ⟨rfl, rfl, rfl, rfl, rfl, ?_, rfl, rfl, rfl, tI⟩, ?_⟩
        · rw [hks]; rfl
        · rw [hks]; rfl
    · obtain rfl : j = l.length := by omega
      repeat' (first | refine aoQ rfl rfl rfl (fun hg => by first | exact std0 | exact pcW (c1) rfl rfl nd rfl nds | exact pcW (c2) rfl rfl nd rfl nds | exact PRun.eqN Mk.flM rfl rfl nd rfl nd rfl | exact std1) (by exact rfl) ?_ | refine sqW ?_ | refine rgK (fun K' hK => ?_) | (refine aoN (hK _ _ ?_); clear hK K') | refine aoE (stW tabOk rfl rfl rfl tI rfl rfl tI rfl rfl rfl rfl rfl rfl rfl ?_) | refine aoE (alW tabOk rfl rfl rfl rfl rfl rfl ?_) | (refine cdW rfl tI (fun hc => ?_) (fun hc => ?_) <;> (first | (simp only [dEt] at hc) | (simp only [dEf, zA0, zA1] at hc) | skip)) | refine blK ?_ | refine exW ?_ | refine skW ?_ | refine rtW ?_)
      all_goals (first | (exfalso; omega) | skip)
      exact ⟨.inr rfl, Ent.b (by simp [bs_beq])⟩
end Go.Proofs.YtekfpcgagoidcaaGreatDoor.Cy
