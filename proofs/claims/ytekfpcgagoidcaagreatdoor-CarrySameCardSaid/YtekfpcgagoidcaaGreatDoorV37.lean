/- The law CarrySame by content. No statement is proved here. -/
import Derived.Test.YtekfpcgagoidcaaGreatDoorV16
import Derived.Test.YtekfpcgagoidcaaGreatDoorV36
set_option linter.unusedVariables false
set_option linter.unusedSimpArgs false
namespace Go.Proofs.YtekfpcgagoidcaaGreatDoor.Cy
open Go.Ab Go.Sort Al Mk
attribute [local irreducible] AWP AOps EStep AQ PStep PRun PCall TCall VCall
theorem pairsN_ver (s : Score) (v : Int) : pairsN s { s with version := v } = pairsN s s := rfl
theorem pairsN_self {s : Score} (h : scoreOk s = true) : pairsN s s = s.notes.map fun n => (n.id, n.id) := same_notes h
theorem ok_ver {s : Score} (h : scoreOk s = true) {v : Int} (hv : 1 ≤ v ∧ v ≤ 1000000) : scoreOk { s with version := v } = true := by
  rw [scoreOk_eq] at h ⊢
  unfold scoreX scoreBad at h ⊢
  simp only [zA2, zB0, zAh, zAr] at h ⊢
  refine ⟨⟨⟨⟨⟨?_, h.1.1.1.1.2⟩, h.1.1.1.2⟩, h.1.1.2⟩, h.1.2⟩, h.2⟩
  unfold inB; simp; omega
theorem again_vers {l : List Score} (h : versOk l = true) (h3 : l.length ≤ 3) {s : Score} (hs : s ∈ l) (hv : (atS l (l.length - 1)).version + 1 ≤ 1000000) : versOk (l ++ [{ s with version := (atS l (l.length - 1)).version + 1 }]) = true := by
  obtain ⟨h1, _, h4, h5⟩ := vers_iff.1 h
  have hlast : atS l (l.length - 1) ∈ l := getD_mem (by omega)
  have hp := (ok_parts (h4 _ hlast)).1
  unfold inB at hp
  simp only [zA2, dEt] at hp
  refine vers_iff.2 ⟨by rw [lLa]; omega, by rw [lLa]; simp; omega, fun x hx => ?_, ?_⟩
  · rcases zBr.1 hx with hx | hx
    · exact h4 x hx
    · rw [zAo] at hx
      subst hx
      exact ok_ver (h4 s hs) (by omega)
  · rw [List.pairwise_append]
    refine ⟨h5, List.pairwise_singleton _ _, fun x hx y hy => ?_⟩
    rw [zAo] at hy
    subst hy
    show x.version < (atS l (l.length - 1)).version + 1
    obtain ⟨k, hk, _, ek⟩ := findV_mem h hx
    rename_i hkl
    rcases nLg k (l.length - 1) with g | g
    · have := vers_lt h g (by omega); rw [ek] at this; omega
    · have : k = l.length - 1 := by omega
      rw [← this, ek]; omega
theorem same_carry {l : List Score} (h : versOk l = true) (h3 : l.length ≤ 3) {k : Nat} (hk : k < l.length) {s : Score} (hs : atS l k = s) (hv : (atS l (l.length - 1)).version + 1 ≤ 1000000) {n : Note} (hn : n ∈ s.notes) {m : Jo.Mark} (hm : Jo.markOk m = true) :
    carryR (l ++ [{ s with version := (atS l (l.length - 1)).version + 1 }]) { m with version := s.version, note := n.id } ((atS l (l.length - 1)).version + 1) = (some { m with version := (atS l (l.length - 1)).version + 1, note := n.id }, 0) := by
  have hsl : s ∈ l := by rw [← hs]; exact getD_mem hk
  have h4 := vers_all h
  have hso := h4 s hsl
  have ha := again_vers h h3 hsl hv
  have hlast : atS l (l.length - 1) ∈ l := getD_mem (by omega)
  have hpl := (ok_parts (h4 _ hlast)).1
  have hps := (ok_parts hso).1
  unfold inB at hpl hps
  simp only [zA2, dEt] at hpl hps
  obtain ⟨L, hL⟩ : ∃ L, (atS l (l.length - 1)).version = L := ⟨_, rfl⟩
  rw [hL] at hv ha hpl ⊢
  have hsv : s.version ≤ L := by
    rcases nLg k (l.length - 1) with g | g
    · have := vers_lt h g (by omega); rw [hs, hL] at this; omega
    · have : k = l.length - 1 := by omega
      rw [← hs, this, hL]; omega
  obtain ⟨i, hi, hil, ei⟩ := findV_mem ha (s := { s with version := L + 1 }) (zC2 _ (by simp))
  obtain ⟨j, hj, hjl, ej⟩ := findV_mem ha (s := s) (zCd _ hsl)
  have hid : 1 ≤ n.id ∧ n.id ≤ 1000000 := by
    obtain ⟨_, _, _, h5, _⟩ := ok_parts hso
    obtain ⟨_, _, h6⟩ := notesOk_all h5
    obtain ⟨_, _, _, h7⟩ := note_bar (h6 n hn)
    unfold nformed fits noteForm noteP pitchOk inB at h7
    simp only [zA2, dEt] at h7
    omega
  have hmo : Jo.markOk { m with version := s.version, note := n.id } = true := by
    unfold Jo.markOk Jo.isId Jo.inR at hm ⊢
    simp only [zA2, dEt] at hm ⊢
    refine ⟨⟨⟨⟨⟨hm.1.1.1.1.1, by omega⟩, by omega⟩, hm.1.1.2⟩, hm.1.2⟩, hm.2⟩
  have hto : scoreOk { s with version := L + 1 } = true := ok_ver hso (by omega)
  have ht : toN (l ++ [{ s with version := L + 1 }]) (L + 1) { s with version := L + 1 } s.version n.id = some n.id := by
    rw [toN_at (by omega) hj, ej, pairs_lk hso hto, pairsN_ver, pairsN_self hso]
    exact zAp.2 ⟨n, hn, rfl⟩
  rw [carryR_ok ha hmo (by unfold numOk; simp; omega) hi, carryM_eq, ei]
  dsimp only
  rw [ht]; rfl
theorem wrap64q {n : Int} (h : -9223372036854775808 ≤ n ∧ n ≤ 9223372036854775807) : IntKind.i64.wrap n = n := wrap64_in h
set_option maxHeartbeats 16000000 in
set_option maxRecDepth 20000 in
theorem same_law (l : List Score) (hl : l.length ≤ 9223372036854775807) (hsz : ∀ s ∈ l, s.Sized) (m : Jo.Mark) (hm : m.text.length ≤ 9223372036854775807) (w : Int) (hw : 0 ≤ w ∧ w ≤ 255) :
    PCall Tryz.prog 13 [.sl 4 (l.map encS) .no, .agg (encMk m), .prim (.int .u8 w)] (.b true) := by
  have hh := head21_spec
  have hu := usab_spec0 l hl hsz
  have v1 := valid19_spec m hm
  by_cases hbad : (((!usab21 l []) || !Jo.markOk m) || decide ((l.length : Int) > 3)) = true
  · refine PCall.body Tryz.func13 rfl rfl Tryz.ntmps13 rfl rfl ?_
    repeat' (first | refine aoQ rfl rfl rfl (fun hg => by first | exact std0 | exact pcW (hh) rfl rfl nd rfl nds | exact pcW (hu) rfl rfl nd rfl nds | exact pcW (v1) rfl rfl nd rfl nds | exact std1) (by exact rfl) ?_ | refine sqW ?_ | refine rgK (fun K' hK => ?_) | (refine aoN (hK _ _ ?_); clear hK K') | refine aoE (bxW rfl rfl rfl rfl rfl tI rfl rfl ?_) | (refine cdW rfl tI (fun hc => ?_) (fun hc => ?_) <;> (first | (simp only [dEt] at hc) | (simp only [dEf, zA0, zA1] at hc) | skip)) | refine skW ?_ | refine rtW ?_)
    · exact ⟨.inr rfl, Ent.b rfl⟩
    all_goals (exfalso; first | (rw [hbad] at hc; cases hc) | (rename_i h9; rw [hbad] at h9; cases h9) | (rename_i h9 _; rw [hbad] at h9; cases h9))
  · have hb := zD3 _ ▸ hbad
    simp only [zAh, zAr, dEf] at hb
    obtain ⟨⟨g1, g2⟩, g3⟩ := hb
    obtain ⟨hf, hlen, hpos, hvo, hgd, _, _, k, hj, hkl⟩ := usab_at g1 hw.1
    have hl0 : ((l.length : Nat) : Int) ≠ 0 := by omega
    have hlv := (ok_parts (hgd _ (getD_mem (show l.length - 1 < l.length by omega)))).1
    unfold inB at hlv
    simp only [zA2, dEt] at hlv
    have hfs := (few12_notes (hf _ (getD_mem hkl))).2
    have hfk := hf _ (getD_mem hkl)
    have hsc := fun h n hn => same_carry hvo (by omega) hkl (s := atS l k) rfl (n := n) h hn g2
    obtain ⟨s, hs⟩ : ∃ s, l.getD k default = s := ⟨_, rfl⟩
    obtain ⟨z, hz⟩ : ∃ z, l.getD (l.length - 1) default = z := ⟨_, rfl⟩
    rw [show atS l k = s from hs, show atS l (l.length - 1) = z from hz] at hsc
    rw [hs] at hfs hfk
    rw [hz] at hlv
    have hz' : l.getD ((l.length : Int) - 1).toNat default = z := by rw [← hz]; congr 1; omega
    rw [g1] at hu
    rw [g2] at v1
    by_cases hno : z.version + 1 > 1000000 ∨ s.notes.length = 0
    · refine PCall.body Tryz.func13 rfl rfl Tryz.ntmps13 rfl rfl ?_
      repeat' (first | refine aoQ rfl rfl rfl (fun hg => by first | exact iX encS l ((l.length : Int) - 1) hz' (hb := by omega) | exact iX encS l ((k : Nat) : Int) hs (hb := by omega) | exact PRun.convV tabOk (wrap64a ⟨by omega, by omega⟩) rfl rfl nd rfl rfl | exact PRun.remV hj hl0 rfl rfl nd rfl nd | exact std0 | exact pcW (hh) rfl rfl nd rfl nds | exact pcW (hu) rfl rfl nd rfl nds | exact pcW (v1) rfl rfl nd rfl nds | exact std1) (by exact rfl) ?_ | refine sqW ?_ | refine rgK (fun K' hK => ?_) | (refine aoN (hK _ _ ?_); clear hK K') | refine aoE (bxW rfl rfl rfl rfl rfl tI rfl rfl ?_) | refine aoE (stW tabOk rfl rfl rfl tI rfl rfl tI rfl rfl rfl rfl rfl rfl rfl ?_) | refine aoE (alW tabOk rfl rfl rfl rfl rfl rfl ?_) | (refine cdW rfl tI (fun hc => ?_) (fun hc => ?_) <;> (first | (simp only [dEt] at hc) | (simp only [dEf, zA0, zA1] at hc) | skip)) | refine skW ?_ | refine rtW ?_)
      all_goals (first | (exfalso; simp at hc; done) | (exfalso; exact hbad hc) | (exact ⟨.inr rfl, Ent.b rfl⟩) | skip)
      all_goals (exfalso; simp only [zAh, dEf, beq_eq_false_iff_ne] at hc; omega)
    · have hv1 : z.version + 1 ≤ 1000000 := by omega
      have hn0 : 0 < s.notes.length := by omega
      have hn1 : ((s.notes.length : Nat) : Int) ≠ 0 := by omega
      obtain ⟨q, hq⟩ : ∃ q, w.tdiv 4 = q := ⟨_, rfl⟩
      have hq1 : 0 ≤ q ∧ q ≤ 63 := by
        rw [← hq, Int.tdiv_eq_ediv_of_nonneg (by omega)]; omega
      have hqw : IntKind.i64.wrap (w.tdiv 4) = q := by rw [hq]; exact wrap64q (by omega)
      obtain ⟨i, hi⟩ : ∃ i : Nat, q.tmod (s.notes.length : Nat) = (i : Int) := ⟨(q.tmod (s.notes.length : Nat)).toNat, by have := Int.tmod_nonneg (a := q) ((s.notes.length : Nat) : Int) hq1.1; omega⟩
      have hil : i < s.notes.length := by have := Int.tmod_lt_of_pos q (b := ((s.notes.length : Nat) : Int)) (by omega); omega
      obtain ⟨n, hn⟩ : ∃ n, s.notes.getD i default = n := ⟨_, rfl⟩
      have hsc1 := hsc hv1 n (by rw [← hn]; exact getD_mem hil)
      have c1 := Carry_spec (l ++ [{ s with version := z.version + 1 }]) (by rw [lLa]; simp; omega) (fun x hx => by
        rcases zBr.1 hx with hx | hx
        · exact hf x hx
        · rw [zAo] at hx
          subst hx; exact hfk) { m with version := s.version, note := n.id } hm (z.version + 1)
      rw [hsc1] at c1
      unfold tupC at c1
      dsimp only [zBq, Option.isSome_some] at c1
      rw [zAu] at c1
      clear hsc hsc1 hno hbad
      refine PCall.body Tryz.func13 rfl rfl Tryz.ntmps13 rfl rfl ?_
      repeat' (first | refine aoQ rfl rfl rfl (fun hg => by first | exact iX encS l ((l.length : Int) - 1) hz' (hb := by omega) | exact iX encS l ((k : Nat) : Int) hs (hb := by omega) | exact PRun.convV tabOk (wrap64a ⟨by omega, by omega⟩) rfl rfl nd rfl rfl | exact PRun.remV hj hl0 rfl rfl nd rfl nd | exact std0 | exact pcW (hh) rfl rfl nd rfl nds | exact pcW (hu) rfl rfl nd rfl nds | exact pcW (v1) rfl rfl nd rfl nds | exact std1) (by exact rfl) ?_ | refine sqW ?_ | refine rgK (fun K' hK => ?_) | (refine aoN (hK _ _ ?_); clear hK K') | refine aoE (bxW rfl rfl rfl rfl rfl tI rfl rfl ?_) | refine aoE (stW tabOk rfl rfl rfl tI rfl rfl tI rfl rfl rfl rfl rfl rfl rfl ?_) | refine aoE (alW tabOk rfl rfl rfl rfl rfl rfl ?_) | (refine cdW rfl tI (fun hc => ?_) (fun hc => ?_) <;> (first | (simp only [dEt] at hc) | (simp only [dEf, zA0, zA1] at hc) | skip)) | refine skW ?_ | refine rtW ?_)
      all_goals (first | (exfalso; simp only [zB4, dEt, beq_iff_eq] at hc; omega) | (exfalso; simp at hc; done) | (exfalso; simp at hc; omega) | skip)
      refine AWP.drawYM effOp (fun j => match j with | 0 => [.var (encMk m), .var (encS s), .var (encS { s with version := z.version + 1 })] | 1 => [.var (encMk { m with version := s.version }), .var (encS s), .var (encS { s with version := z.version + 1 })] | _ => [.var (encMk { m with version := s.version, note := n.id }), .var (encS s), .var (encS { s with version := z.version + 1 })]) rfl (by kernel_rfl) (by decide +kernel) rfl (by decide +kernel) (fun K' hK => ?_)
      repeat' (first
        | refine yqQ (a := 0) (b := 0) rfl (by decide +kernel) (by decide +kernel) rfl rfl rfl (fun k h1 h2 hg => by (have hk : k = 0 := (by omega)); (rcases hk with rfl) <;> (first | exact iX encN s.notes ((i : Nat) : Int) hn (hb := by omega) | exact PRun.eq (v := AV.int (IntKind.i64.wrap (w.tdiv 4))) (PRun.quoW rfl rfl nd rfl nd (by decide)) (congrArg (fun x => AV.int x) hqw) | exact PRun.convV tabOk (wrap64a ⟨by omega, by omega⟩) rfl rfl nd rfl rfl | exact PRun.remV hi hn1 rfl rfl nd rfl nd | exact std0 | exact std1)) (by exact rfl) ?_
        | refine yqQ (a := 0) (b := 1) rfl (by decide +kernel) (by decide +kernel) rfl rfl rfl (fun k h1 h2 hg => by (have hk : k = 0 ∨ k = 1 := (by omega)); (rcases hk with rfl | rfl) <;> (first | exact iX encN s.notes ((i : Nat) : Int) hn (hb := by omega) | exact PRun.eq (v := AV.int (IntKind.i64.wrap (w.tdiv 4))) (PRun.quoW rfl rfl nd rfl nd (by decide)) (congrArg (fun x => AV.int x) hqw) | exact PRun.convV tabOk (wrap64a ⟨by omega, by omega⟩) rfl rfl nd rfl rfl | exact PRun.remV hi hn1 rfl rfl nd rfl nd | exact std0 | exact std1)) (by exact rfl) ?_
        | refine yqQ (a := 1) (b := 1) rfl (by decide +kernel) (by decide +kernel) rfl rfl rfl (fun k h1 h2 hg => by (have hk : k = 1 := (by omega)); (rcases hk with rfl) <;> (first | exact iX encN s.notes ((i : Nat) : Int) hn (hb := by omega) | exact PRun.eq (v := AV.int (IntKind.i64.wrap (w.tdiv 4))) (PRun.quoW rfl rfl nd rfl nd (by decide)) (congrArg (fun x => AV.int x) hqw) | exact PRun.convV tabOk (wrap64a ⟨by omega, by omega⟩) rfl rfl nd rfl rfl | exact PRun.remV hi hn1 rfl rfl nd rfl nd | exact std0 | exact std1)) (by exact rfl) ?_
        | refine yqQ (a := 0) (b := 2) rfl (by decide +kernel) (by decide +kernel) rfl rfl rfl (fun k h1 h2 hg => by (have hk : k = 0 ∨ k = 1 ∨ k = 2 := (by omega)); (rcases hk with rfl | rfl | rfl) <;> (first | exact iX encN s.notes ((i : Nat) : Int) hn (hb := by omega) | exact PRun.eq (v := AV.int (IntKind.i64.wrap (w.tdiv 4))) (PRun.quoW rfl rfl nd rfl nd (by decide)) (congrArg (fun x => AV.int x) hqw) | exact PRun.convV tabOk (wrap64a ⟨by omega, by omega⟩) rfl rfl nd rfl rfl | exact PRun.remV hi hn1 rfl rfl nd rfl nd | exact std0 | exact std1)) (by exact rfl) ?_
        | refine yqQ (a := 1) (b := 2) rfl (by decide +kernel) (by decide +kernel) rfl rfl rfl (fun k h1 h2 hg => by (have hk : k = 1 ∨ k = 2 := (by omega)); (rcases hk with rfl | rfl) <;> (first | exact iX encN s.notes ((i : Nat) : Int) hn (hb := by omega) | exact PRun.eq (v := AV.int (IntKind.i64.wrap (w.tdiv 4))) (PRun.quoW rfl rfl nd rfl nd (by decide)) (congrArg (fun x => AV.int x) hqw) | exact PRun.convV tabOk (wrap64a ⟨by omega, by omega⟩) rfl rfl nd rfl rfl | exact PRun.remV hi hn1 rfl rfl nd rfl nd | exact std0 | exact std1)) (by exact rfl) ?_
        | refine yqQ (a := 2) (b := 2) rfl (by decide +kernel) (by decide +kernel) rfl rfl rfl (fun k h1 h2 hg => by (have hk : k = 2 := (by omega)); (rcases hk with rfl) <;> (first | exact iX encN s.notes ((i : Nat) : Int) hn (hb := by omega) | exact PRun.eq (v := AV.int (IntKind.i64.wrap (w.tdiv 4))) (PRun.quoW rfl rfl nd rfl nd (by decide)) (congrArg (fun x => AV.int x) hqw) | exact PRun.convV tabOk (wrap64a ⟨by omega, by omega⟩) rfl rfl nd rfl rfl | exact PRun.remV hi hn1 rfl rfl nd rfl nd | exact std0 | exact std1)) (by exact rfl) ?_)
      refine YQ.e (v := .any) (d := none) rfl rfl rfl ?_ ?_
      · intro env' he
        exact stW tabOk rfl rfl ((rdv_congr (he 70 (by decide +kernel))).trans rfl) (by rw [rdn_congr (he 70 (by decide +kernel))]; first | exact tI | exact rfl) rfl ((rdv_congr (he 57 (by decide +kernel))).trans rfl) (by rw [rdn_congr (he 57 (by decide +kernel))]; first | exact tI | exact rfl) rfl rfl rfl rfl rfl rfl rfl ⟨rfl, rfl⟩
      repeat' (first
        | refine yqQ (a := 0) (b := 0) rfl (by decide +kernel) (by decide +kernel) rfl rfl rfl (fun k h1 h2 hg => by (have hk : k = 0 := (by omega)); (rcases hk with rfl) <;> (first | exact std0 | exact std1)) (by exact rfl) ?_
        | refine yqQ (a := 0) (b := 1) rfl (by decide +kernel) (by decide +kernel) rfl rfl rfl (fun k h1 h2 hg => by (have hk : k = 0 ∨ k = 1 := (by omega)); (rcases hk with rfl | rfl) <;> (first | exact std0 | exact std1)) (by exact rfl) ?_
        | refine yqQ (a := 1) (b := 1) rfl (by decide +kernel) (by decide +kernel) rfl rfl rfl (fun k h1 h2 hg => by (have hk : k = 1 := (by omega)); (rcases hk with rfl) <;> (first | exact std0 | exact std1)) (by exact rfl) ?_
        | refine yqQ (a := 0) (b := 2) rfl (by decide +kernel) (by decide +kernel) rfl rfl rfl (fun k h1 h2 hg => by (have hk : k = 0 ∨ k = 1 ∨ k = 2 := (by omega)); (rcases hk with rfl | rfl | rfl) <;> (first | exact std0 | exact std1)) (by exact rfl) ?_
        | refine yqQ (a := 1) (b := 2) rfl (by decide +kernel) (by decide +kernel) rfl rfl rfl (fun k h1 h2 hg => by (have hk : k = 1 ∨ k = 2 := (by omega)); (rcases hk with rfl | rfl) <;> (first | exact std0 | exact std1)) (by exact rfl) ?_
        | refine yqQ (a := 2) (b := 2) rfl (by decide +kernel) (by decide +kernel) rfl rfl rfl (fun k h1 h2 hg => by (have hk : k = 2 := (by omega)); (rcases hk with rfl) <;> (first | exact std0 | exact std1)) (by exact rfl) ?_)
      refine YQ.e (v := .any) (d := none) rfl rfl rfl ?_ ?_
      · intro env' he
        exact stW tabOk rfl rfl ((rdv_congr (he 71 (by decide +kernel))).trans rfl) (by rw [rdn_congr (he 71 (by decide +kernel))]; first | exact tI | exact rfl) rfl ((rdv_congr (he 69 (by decide +kernel))).trans rfl) (by rw [rdn_congr (he 69 (by decide +kernel))]; first | exact tI | exact rfl) rfl rfl rfl rfl rfl rfl rfl ⟨rfl, rfl⟩
      repeat' (first
        | refine yqQ (a := 0) (b := 0) rfl (by decide +kernel) (by decide +kernel) rfl rfl rfl (fun k h1 h2 hg => by (have hk : k = 0 := (by omega)); (rcases hk with rfl) <;> (first | exact std0 | exact std1)) (by exact rfl) ?_
        | refine yqQ (a := 0) (b := 1) rfl (by decide +kernel) (by decide +kernel) rfl rfl rfl (fun k h1 h2 hg => by (have hk : k = 0 ∨ k = 1 := (by omega)); (rcases hk with rfl | rfl) <;> (first | exact std0 | exact std1)) (by exact rfl) ?_
        | refine yqQ (a := 1) (b := 1) rfl (by decide +kernel) (by decide +kernel) rfl rfl rfl (fun k h1 h2 hg => by (have hk : k = 1 := (by omega)); (rcases hk with rfl) <;> (first | exact std0 | exact std1)) (by exact rfl) ?_
        | refine yqQ (a := 0) (b := 2) rfl (by decide +kernel) (by decide +kernel) rfl rfl rfl (fun k h1 h2 hg => by (have hk : k = 0 ∨ k = 1 ∨ k = 2 := (by omega)); (rcases hk with rfl | rfl | rfl) <;> (first | exact std0 | exact std1)) (by exact rfl) ?_
        | refine yqQ (a := 1) (b := 2) rfl (by decide +kernel) (by decide +kernel) rfl rfl rfl (fun k h1 h2 hg => by (have hk : k = 1 ∨ k = 2 := (by omega)); (rcases hk with rfl | rfl) <;> (first | exact std0 | exact std1)) (by exact rfl) ?_
        | refine yqQ (a := 2) (b := 2) rfl (by decide +kernel) (by decide +kernel) rfl rfl rfl (fun k h1 h2 hg => by (have hk : k = 2 := (by omega)); (rcases hk with rfl) <;> (first | exact std0 | exact std1)) (by exact rfl) ?_)
      refine YQ.nil (hK _ _ ?_)
      clear hK K'
      show AWP _ _ _ _ _ [.var (encMk { m with version := s.version, note := n.id }), .var (encS s), .var (encS { s with version := z.version + 1 })]
      refine sqW ?_
      refine AWP.newOwn 4 ?_
      refine AWP.drawW clsA (fun j1 j2 => [.var (encMk { m with version := s.version, note := n.id }), .var (encS s), .var (encS { s with version := z.version + 1 }), .own 4 (match j1 with | 0 => 0 | 1 => (l.map encS).length | _ => (l.map encS ++ [encS { s with version := z.version + 1 }]).length)] ++ (match j2 with | 0 => [] | 1 => [.var zeroMk] | _ => [.var (encMk { m with version := z.version + 1, note := n.id })])) rfl (by kernel_rfl) (by decide +kernel) rfl (by decide +kernel) (fun K' hK => ?_)
      repeat' (first
        | refine WQ.q rfl (by decide +kernel) rfl rfl (fun k1 k2 h1 h2 hg => by first | (first | exact std0 | exact PRun.buildSl0 tabOk rfl rfl | exact std1) | ((have a1 : k1 = 0 ∨ k1 = 1 ∨ k1 = 2 := (by omega)); (rcases a1 with rfl | rfl | rfl) <;> (first | exact std0 | exact PRun.buildSl0 tabOk rfl rfl | exact std1)) | ((have a1 : k1 = 0 ∨ k1 = 1 ∨ k1 = 2 := (by omega)); (have a2 : k2 = 0 ∨ k2 = 1 ∨ k2 = 2 := (by omega)); (rcases a1 with rfl | rfl | rfl) <;> (rcases a2 with rfl | rfl | rfl) <;> (first | exact std0 | exact PRun.buildSl0 tabOk rfl rfl | exact std1))) (by exact rfl) ?_)
      refine WQ.e1 1 (v := (.sl 4 (l.map encS) (.own 3))) (d := some 75) rfl (by decide +kernel) rfl ?_ ?_
      · intro env' he k2 hk2
        have hk3 : k2 = 0 ∨ k2 = 1 := by omega
        rcases hk3 with rfl | rfl <;> exact EStep.appendAt (l := 3) tabOk rfl rfl rfl (by decide) (Rd.w ((rdv_congr (he 73 (by decide +kernel))).trans rfl) (by rw [rdn_congr (he 73 (by decide +kernel))]; first | exact tI | exact rfl)) rfl (Rd.w ((rdv_congr (he 74 (by decide +kernel))).trans rfl) (by rw [rdn_congr (he 74 (by decide +kernel))]; first | exact tI | exact rfl)) (.sl rfl (one_encS _)) (by rw [lLm]; omega) (LOk.of (tabOk.get rfl)) (LOk.of (tabOk.get rfl)) rfl rfl (by simp only [lLm]; omega) (by simp only [lLm]; omega) ⟨rfl, rfl⟩
      repeat' (first
        | refine WQ.q rfl (by decide +kernel) rfl rfl (fun k1 k2 h1 h2 hg => by first | (first | exact std0 | exact pbS tabOk rfl rfl nds | exact std1) | ((have a1 : k1 = 0 ∨ k1 = 1 ∨ k1 = 2 := (by omega)); (rcases a1 with rfl | rfl | rfl) <;> (first | exact std0 | exact pbS tabOk rfl rfl nds | exact std1)) | ((have a1 : k1 = 0 ∨ k1 = 1 ∨ k1 = 2 := (by omega)); (have a2 : k2 = 0 ∨ k2 = 1 ∨ k2 = 2 := (by omega)); (rcases a1 with rfl | rfl | rfl) <;> (rcases a2 with rfl | rfl | rfl) <;> (first | exact std0 | exact pbS tabOk rfl rfl nds | exact std1))) (by exact rfl) ?_)
      refine WQ.e1 1 (v := (.sl 4 (l.map encS ++ [encS { s with version := z.version + 1 }]) (.own 3))) (d := some 78) rfl (by decide +kernel) rfl ?_ ?_
      · intro env' he k2 hk2
        have hk3 : k2 = 0 ∨ k2 = 1 := by omega
        rcases hk3 with rfl | rfl <;> exact apO (l := 3) tabOk rfl rfl rfl (by decide) (Rd.w ((rdv_congr (he 75 (by decide +kernel))).trans rfl) (by rw [rdn_congr (he 75 (by decide +kernel))]; first | exact tI | exact rfl)) rfl (Rd.w ((rdv_congr (he 77 (by decide +kernel))).trans rfl) (by rw [rdn_congr (he 77 (by decide +kernel))]; first | exact tI | exact rfl)) (.sl rfl (by intro x hx; rcases zAo.1 hx with rfl; rfl)) (LOk.of (tabOk.get rfl)) (LOk.of (tabOk.get rfl)) rfl rfl (by simp only [lLm, zAd, zAi]; omega) (by simp only [lLm, zAd, zAi]; omega) ⟨rfl, rfl⟩
      repeat' (first
        | refine WQ.q rfl (by decide +kernel) rfl rfl (fun k1 k2 h1 h2 hg => by first | (first | exact std0 | exact pcW (c1) rfl rfl nd rfl nds | exact std1) | ((have a1 : k1 = 0 ∨ k1 = 1 ∨ k1 = 2 := (by omega)); (rcases a1 with rfl | rfl | rfl) <;> (first | exact std0 | exact pcW (c1) rfl rfl nd rfl nds | exact std1)) | ((have a1 : k1 = 0 ∨ k1 = 1 ∨ k1 = 2 := (by omega)); (have a2 : k2 = 0 ∨ k2 = 1 ∨ k2 = 2 := (by omega)); (rcases a1 with rfl | rfl | rfl) <;> (rcases a2 with rfl | rfl | rfl) <;> (first | exact std0 | exact pcW (c1) rfl rfl nd rfl nds | exact std1))) (by exact rfl) ?_)
      refine WQ.e2 0 2 (v := .ptr 4 0) (d := some 10) rfl (by decide +kernel) rfl ?_ ?_
      · intro env' he k1 _ hk1
        have hk3 : k1 = 0 ∨ k1 = 1 ∨ k1 = 2 := by omega
        rcases hk3 with rfl | rfl | rfl <;> exact alW tabOk rfl rfl rfl rfl rfl rfl ⟨rfl, rfl⟩
      repeat' (first
        | refine WQ.q rfl (by decide +kernel) rfl rfl (fun k1 k2 h1 h2 hg => by first | (first | exact std0 | exact std1) | ((have a1 : k1 = 0 ∨ k1 = 1 ∨ k1 = 2 := (by omega)); (rcases a1 with rfl | rfl | rfl) <;> (first | exact std0 | exact std1)) | ((have a1 : k1 = 0 ∨ k1 = 1 ∨ k1 = 2 := (by omega)); (have a2 : k2 = 0 ∨ k2 = 1 ∨ k2 = 2 := (by omega)); (rcases a1 with rfl | rfl | rfl) <;> (rcases a2 with rfl | rfl | rfl) <;> (first | exact std0 | exact std1))) (by exact rfl) ?_)
      refine WQ.e2 0 2 (v := .any) (d := none) rfl (by decide +kernel) rfl ?_ ?_
      · intro env' he k1 _ hk1
        have hk3 : k1 = 0 ∨ k1 = 1 ∨ k1 = 2 := by omega
        rcases hk3 with rfl | rfl | rfl <;> exact stW tabOk rfl rfl ((rdv_congr (he 10 (by decide +kernel))).trans rfl) (by rw [rdn_congr (he 10 (by decide +kernel))]; first | exact tI | exact rfl) rfl ((rdv_congr (he 83 (by decide +kernel))).trans rfl) (by rw [rdn_congr (he 83 (by decide +kernel))]; first | exact tI | exact rfl) rfl rfl rfl rfl rfl rfl rfl ⟨rfl, rfl⟩
      repeat' (first
        | refine WQ.q rfl (by decide +kernel) rfl rfl (fun k1 k2 h1 h2 hg => by first | (first | exact std0 | exact std1) | ((have a1 : k1 = 0 ∨ k1 = 1 ∨ k1 = 2 := (by omega)); (rcases a1 with rfl | rfl | rfl) <;> (first | exact std0 | exact std1)) | ((have a1 : k1 = 0 ∨ k1 = 1 ∨ k1 = 2 := (by omega)); (have a2 : k2 = 0 ∨ k2 = 1 ∨ k2 = 2 := (by omega)); (rcases a1 with rfl | rfl | rfl) <;> (rcases a2 with rfl | rfl | rfl) <;> (first | exact std0 | exact std1))) (by exact rfl) ?_)
      refine WQ.nil (hK _ _ _ ?_)
      clear hK K'
      show AWP _ _ _ _ _ [.var (encMk { m with version := s.version, note := n.id }), .var (encS s), .var (encS { s with version := z.version + 1 }), .own 4 (l.map encS ++ [encS { s with version := z.version + 1 }]).length, .var (encMk { m with version := z.version + 1, note := n.id })]
      repeat' (first | refine aoQ rfl rfl rfl (fun hg => by first | exact std0 | exact PRun.eqN Mk.flM rfl rfl nd rfl nd rfl) (by exact rfl) ?_ | refine sqW ?_ | refine rgK (fun K' hK => ?_) | (refine aoN (hK _ _ ?_); clear hK K') | refine aoE (stW tabOk rfl rfl rfl tI rfl rfl tI rfl rfl rfl rfl rfl rfl rfl ?_) | refine rtW ?_)
      exact ⟨.inr rfl, Ent.b (by simp [bs_beq])⟩
end Go.Proofs.YtekfpcgagoidcaaGreatDoor.Cy
