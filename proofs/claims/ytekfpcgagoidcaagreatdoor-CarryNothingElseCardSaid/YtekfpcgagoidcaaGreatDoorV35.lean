/- The law CarryNothingElse by content. No statement is proved here. -/
import Derived.Test.YtekfpcgagoidcaaGreatDoorV32
set_option linter.unusedVariables false
set_option linter.unusedSimpArgs false
namespace Go.Proofs.YtekfpcgagoidcaaGreatDoor.Cy
open Go.Ab Go.Sort Al Mk
attribute [local irreducible] AWP AOps EStep AQ PStep PRun PCall TCall VCall
set_option maxHeartbeats 16000000 in
set_option maxRecDepth 20000 in
theorem nothing_law (l : List Score) (hl : l.length ≤ 9223372036854775807) (hsz : ∀ s ∈ l, s.Sized) (m : Jo.Mark) (hm : m.text.length ≤ 9223372036854775807) (w : Int) (hw : 0 ≤ w ∧ w ≤ 255) :
    PCall Tryz.prog 11 [.sl 4 (l.map encS) .no, .agg (encMk m), .prim (.int .u8 w)] (.b true) := by
  have hh := head21_spec
  have hu := usab_spec0 l hl hsz
  have v1 := valid19_spec m hm
  by_cases hbad : ((!usab21 l []) || !Jo.markOk m) = true
  · refine PCall.body Tryz.func11 rfl rfl Tryz.ntmps11 rfl rfl ?_
    repeat' (first | refine aoQ rfl rfl rfl (fun hg => by first | exact std0 | exact pcW (hh) rfl rfl nd rfl nds | exact pcW (hu) rfl rfl nd rfl nds | exact pcW (v1) rfl rfl nd rfl nds | exact std1) (by exact rfl) ?_ | refine sqW ?_ | refine rgK (fun K' hK => ?_) | (refine aoN (hK _ _ ?_); clear hK K') | refine aoE (bxW rfl rfl rfl rfl rfl tI rfl rfl ?_) | (refine cdW rfl tI (fun hc => ?_) (fun hc => ?_) <;> (first | (simp only [dEt] at hc) | (simp only [dEf, zA0, zA1] at hc) | skip)) | refine skW ?_ | refine rtW ?_)
    · exact ⟨.inr rfl, Ent.b rfl⟩
    all_goals (exfalso; first | (rw [hbad] at hc; cases hc) | (rename_i h9; rw [hbad] at h9; cases h9) | (rename_i h9 _; rw [hbad] at h9; cases h9))
  · have hb := zD3 _ ▸ hbad
    simp only [zAh, zAr] at hb
    obtain ⟨g1, g2⟩ := hb
    obtain ⟨hf, hlen, hpos, hvo, hgd, _, _, k, hj, hkl⟩ := usab_at g1 hw.1
    have hl0 : ((l.length : Nat) : Int) ≠ 0 := by omega
    have ht : scoreOk (atS l k) = true := hgd _ (getD_mem hkl)
    have hfs := (few12_notes (hf _ (getD_mem hkl))).2
    have c1 := Carry_spec l (by omega) hf m hm (atS l k).version
    have hfv := findV_self hvo hkl
    rw [carryR_ok hvo g2 (ver_num ht) hfv, carryM_eq] at c1
    have hto := fun n h => toN_some (id := m.note) (n := n) (w := m.version) hgd ht hfv rfl h
    have f1 := find21_spec l hl m.version
    unfold tupC at c1
    obtain ⟨s, hs⟩ : ∃ s, l.getD k default = s := ⟨_, rfl⟩
    rw [hs] at hfs
    rw [show atS l k = s from hs] at c1 hto
    rw [g1] at hu
    rw [g2] at v1
    cases hx : toN l s.version s m.version m.note with
    | none =>
      rw [hx] at c1
      dsimp only [Option.map_none, Option.getD_none, Option.isSome_none] at c1
      refine PCall.body Tryz.func11 rfl rfl Tryz.ntmps11 rfl rfl ?_
      repeat' (first | refine aoQ rfl rfl rfl (fun hg => by first | exact iX encS l ((k : Nat) : Int) hs (hb := by omega) | exact PRun.convV tabOk (wrap64a ⟨by omega, by omega⟩) rfl rfl nd rfl rfl | exact PRun.remV hj hl0 rfl rfl nd rfl nd | exact std0 | exact pcW (hh) rfl rfl nd rfl nds | exact pcW (hu) rfl rfl nd rfl nds | exact pcW (v1) rfl rfl nd rfl nds | exact pcW (c1) rfl rfl nd rfl nds | exact pbD tabOk rfl rfl nds | exact PRun.eqN Mk.flM rfl rfl nd rfl nd rfl | exact std1) (by exact rfl) ?_ | refine sqW ?_ | refine rgK (fun K' hK => ?_) | (refine aoN (hK _ _ ?_); clear hK K') | refine aoE (bxW rfl rfl rfl rfl rfl tI rfl rfl ?_) | refine aoE (stW tabOk rfl rfl rfl tI rfl rfl tI rfl rfl rfl rfl rfl rfl rfl ?_) | refine aoE (alW tabOk rfl rfl rfl rfl rfl rfl ?_) | (refine cdW rfl tI (fun hc => ?_) (fun hc => ?_) <;> (first | (simp only [dEt] at hc) | (simp only [dEf, zA0, zA1] at hc) | skip)) | refine skW ?_ | refine rtW ?_)
      all_goals (first | (exact ⟨.inr rfl, Ent.b (by decide +kernel)⟩) | (exfalso; simp at hc; done) | (exfalso; simp at hc) | skip)
    | some n0 =>
      obtain ⟨i, a, b, e1, e2, e3, e4, e5, e6, e7, _⟩ := hto n0 hx
      clear hto
      rw [hx] at c1
      dsimp only [zB8, zBq, Option.isSome_some] at c1
      rw [e1] at f1
      have hfr := (few12_notes (hf _ (getD_mem e2))).2
      have n1 := noteAt_spec (atS l i).notes m.note (by show (l.getD i default).notes.length ≤ _; omega)
      have n2 := noteAt_spec s.notes n0 (by omega)
      rw [e3] at n1
      rw [e5] at n2
      obtain ⟨r, hr⟩ : ∃ r, l.getD i default = r := ⟨_, rfl⟩
      rw [show atS l i = r from hr] at n1 e4 e7
      obtain ⟨na, hna⟩ : ∃ x, r.notes.getD a default = x := ⟨_, rfl⟩
      obtain ⟨nb, hnb⟩ : ∃ x, s.notes.getD b default = x := ⟨_, rfl⟩
      rw [hna, hnb] at e7
      have hpn : (na.part != nb.part) = false := by rw [e7]; simp
      rw [hr] at hfr
      refine PCall.body Tryz.func11 rfl rfl Tryz.ntmps11 rfl rfl ?_
      repeat' (first | refine aoQ rfl rfl rfl (fun hg => by first | exact iX encS l ((k : Nat) : Int) hs (hb := by omega) | exact PRun.convV tabOk (wrap64a ⟨by omega, by omega⟩) rfl rfl nd rfl rfl | exact PRun.remV hj hl0 rfl rfl nd rfl nd | exact std0 | exact pcW (hh) rfl rfl nd rfl nds | exact pcW (hu) rfl rfl nd rfl nds | exact pcW (v1) rfl rfl nd rfl nds | exact pcW (c1) rfl rfl nd rfl nds | exact pcW (f1) rfl rfl nd rfl nds | exact std1) (by exact rfl) ?_ | refine sqW ?_ | refine rgK (fun K' hK => ?_) | (refine aoN (hK _ _ ?_); clear hK K') | refine aoE (bxW rfl rfl rfl rfl rfl tI rfl rfl ?_) | refine aoE (stW tabOk rfl rfl rfl tI rfl rfl tI rfl rfl rfl rfl rfl rfl rfl ?_) | refine aoE (alW tabOk rfl rfl rfl rfl rfl rfl ?_) | (refine cdW rfl tI (fun hc => ?_) (fun hc => ?_) <;> (first | (simp only [dEt] at hc) | (simp only [dEf, zA0, zA1] at hc) | skip)) | refine skW ?_ | refine rtW ?_)
      all_goals (first | (exfalso; simp at hc; done) | (exfalso; simp at hc; done) | (exfalso; simp at hc; omega) | skip)
      refine dK2 (by decide +kernel) (by kernel_rfl) (by decide +kernel) rfl (fun K' hK => ?_)
      repeat' (first | refine sqW ?_ | (refine aqN (hK _ ?_); clear hK K') | refine aqQ rfl rfl (fun hg => by first | exact iX encS l ((i : Nat) : Int) hr (hb := by omega) | exact std0 | exact pcW (n1) rfl rfl nd rfl nds | exact pcW (n2) rfl rfl nd rfl nds) (by exact rfl) ?_)
      refine dK2 (by decide +kernel) (by kernel_rfl) (by decide +kernel) rfl (fun K' hK => ?_)
      repeat' (first | refine aoQ rfl rfl rfl (fun hg => by exact std0) (by exact rfl) ?_ | refine sqW ?_ | refine rgK (fun K' hK => ?_) | (refine aoN (hK _ _ ?_); clear hK K') | (refine cdW rfl tI (fun hc => ?_) (fun hc => ?_) <;> (first | (simp only [dEt] at hc) | (simp only [dEf, zA0, zA1] at hc) | skip)) | refine skW ?_ | refine rtW ?_ | (refine aqN (hK _ ?_); clear hK K') | refine aqQ rfl rfl (fun hg => by first | exact iX encN s.notes ((b : Nat) : Int) hnb (hb := by omega) | exact iX encN r.notes ((a : Nat) : Int) hna (hb := by omega) | exact iX encS l ((i : Nat) : Int) hr (hb := by omega) | exact std0) (by exact rfl) ?_)
      all_goals (first | (exfalso; simp only [hpn, Bool.or_false, zB4, dEt] at hc; omega) | skip)
      refine AWP.drawYM effOp (fun j => match j with | 0 => [.var (encMk m), .var (encS s), .var (encMk { m with version := s.version, note := n0 })] | 1 => [.var (encMk m), .var (encS s), .var (encMk { m with note := n0 })] | _ => [.var (encMk m), .var (encS s), .var (encMk m)]) rfl (by kernel_rfl) (by decide +kernel) rfl (by decide +kernel) (fun K' hK => ?_)
      repeat' (first
        | refine yqQ (a := 0) (b := 0) rfl (by decide +kernel) (by decide +kernel) rfl rfl rfl (fun k h1 h2 hg => by (have hk : k = 0 := (by omega)); (rcases hk with rfl) <;> (first | exact std0 | exact std1)) (by exact rfl) ?_
        | refine yqQ (a := 0) (b := 1) rfl (by decide +kernel) (by decide +kernel) rfl rfl rfl (fun k h1 h2 hg => by (have hk : k = 0 ∨ k = 1 := (by omega)); (rcases hk with rfl | rfl) <;> (first | exact std0 | exact std1)) (by exact rfl) ?_
        | refine yqQ (a := 1) (b := 1) rfl (by decide +kernel) (by decide +kernel) rfl rfl rfl (fun k h1 h2 hg => by (have hk : k = 1 := (by omega)); (rcases hk with rfl) <;> (first | exact std0 | exact std1)) (by exact rfl) ?_
        | refine yqQ (a := 0) (b := 2) rfl (by decide +kernel) (by decide +kernel) rfl rfl rfl (fun k h1 h2 hg => by (have hk : k = 0 ∨ k = 1 ∨ k = 2 := (by omega)); (rcases hk with rfl | rfl | rfl) <;> (first | exact std0 | exact std1)) (by exact rfl) ?_
        | refine yqQ (a := 1) (b := 2) rfl (by decide +kernel) (by decide +kernel) rfl rfl rfl (fun k h1 h2 hg => by (have hk : k = 1 ∨ k = 2 := (by omega)); (rcases hk with rfl | rfl) <;> (first | exact std0 | exact std1)) (by exact rfl) ?_
        | refine yqQ (a := 2) (b := 2) rfl (by decide +kernel) (by decide +kernel) rfl rfl rfl (fun k h1 h2 hg => by (have hk : k = 2 := (by omega)); (rcases hk with rfl) <;> (first | exact std0 | exact std1)) (by exact rfl) ?_)
      refine YQ.e (v := .any) (d := none) rfl rfl rfl ?_ ?_
      · intro env' he
        exact stW tabOk rfl rfl ((rdv_congr (he 106 (by decide +kernel))).trans rfl) (by rw [rdn_congr (he 106 (by decide +kernel))]; first | exact tI | exact rfl) rfl ((rdv_congr (he 103 (by decide +kernel))).trans rfl) (by rw [rdn_congr (he 103 (by decide +kernel))]; first | exact tI | exact rfl) rfl rfl rfl rfl rfl rfl rfl ⟨rfl, rfl⟩
      repeat' (first
        | refine yqQ (a := 0) (b := 0) rfl (by decide +kernel) (by decide +kernel) rfl rfl rfl (fun k h1 h2 hg => by (have hk : k = 0 := (by omega)); (rcases hk with rfl) <;> (first | exact std0 | exact std1)) (by exact rfl) ?_
        | refine yqQ (a := 0) (b := 1) rfl (by decide +kernel) (by decide +kernel) rfl rfl rfl (fun k h1 h2 hg => by (have hk : k = 0 ∨ k = 1 := (by omega)); (rcases hk with rfl | rfl) <;> (first | exact std0 | exact std1)) (by exact rfl) ?_
        | refine yqQ (a := 1) (b := 1) rfl (by decide +kernel) (by decide +kernel) rfl rfl rfl (fun k h1 h2 hg => by (have hk : k = 1 := (by omega)); (rcases hk with rfl) <;> (first | exact std0 | exact std1)) (by exact rfl) ?_
        | refine yqQ (a := 0) (b := 2) rfl (by decide +kernel) (by decide +kernel) rfl rfl rfl (fun k h1 h2 hg => by (have hk : k = 0 ∨ k = 1 ∨ k = 2 := (by omega)); (rcases hk with rfl | rfl | rfl) <;> (first | exact std0 | exact std1)) (by exact rfl) ?_
        | refine yqQ (a := 1) (b := 2) rfl (by decide +kernel) (by decide +kernel) rfl rfl rfl (fun k h1 h2 hg => by (have hk : k = 1 ∨ k = 2 := (by omega)); (rcases hk with rfl | rfl) <;> (first | exact std0 | exact std1)) (by exact rfl) ?_
        | refine yqQ (a := 2) (b := 2) rfl (by decide +kernel) (by decide +kernel) rfl rfl rfl (fun k h1 h2 hg => by (have hk : k = 2 := (by omega)); (rcases hk with rfl) <;> (first | exact std0 | exact std1)) (by exact rfl) ?_)
      refine YQ.e (v := .any) (d := none) rfl rfl rfl ?_ ?_
      · intro env' he
        exact stW tabOk rfl rfl ((rdv_congr (he 107 (by decide +kernel))).trans rfl) (by rw [rdn_congr (he 107 (by decide +kernel))]; first | exact tI | exact rfl) rfl ((rdv_congr (he 105 (by decide +kernel))).trans rfl) (by rw [rdn_congr (he 105 (by decide +kernel))]; first | exact tI | exact rfl) rfl rfl rfl rfl rfl rfl rfl ⟨rfl, rfl⟩
      repeat' (first
        | refine yqQ (a := 0) (b := 0) rfl (by decide +kernel) (by decide +kernel) rfl rfl rfl (fun k h1 h2 hg => by (have hk : k = 0 := (by omega)); (rcases hk with rfl) <;> (first | exact std0 | exact std1)) (by exact rfl) ?_
        | refine yqQ (a := 0) (b := 1) rfl (by decide +kernel) (by decide +kernel) rfl rfl rfl (fun k h1 h2 hg => by (have hk : k = 0 ∨ k = 1 := (by omega)); (rcases hk with rfl | rfl) <;> (first | exact std0 | exact std1)) (by exact rfl) ?_
        | refine yqQ (a := 1) (b := 1) rfl (by decide +kernel) (by decide +kernel) rfl rfl rfl (fun k h1 h2 hg => by (have hk : k = 1 := (by omega)); (rcases hk with rfl) <;> (first | exact std0 | exact std1)) (by exact rfl) ?_
        | refine yqQ (a := 0) (b := 2) rfl (by decide +kernel) (by decide +kernel) rfl rfl rfl (fun k h1 h2 hg => by (have hk : k = 0 ∨ k = 1 ∨ k = 2 := (by omega)); (rcases hk with rfl | rfl | rfl) <;> (first | exact std0 | exact std1)) (by exact rfl) ?_
        | refine yqQ (a := 1) (b := 2) rfl (by decide +kernel) (by decide +kernel) rfl rfl rfl (fun k h1 h2 hg => by (have hk : k = 1 ∨ k = 2 := (by omega)); (rcases hk with rfl | rfl) <;> (first | exact std0 | exact std1)) (by exact rfl) ?_
        | refine yqQ (a := 2) (b := 2) rfl (by decide +kernel) (by decide +kernel) rfl rfl rfl (fun k h1 h2 hg => by (have hk : k = 2 := (by omega)); (rcases hk with rfl) <;> (first | exact std0 | exact std1)) (by exact rfl) ?_)
      refine YQ.nil (hK _ _ ?_)
      clear hK K'
      show AWP _ _ _ _ _ [.var (encMk m), .var (encS s), .var (encMk m)]
      repeat' (first | refine aoQ rfl rfl rfl (fun hg => by first | exact std0 | exact PRun.eqN Mk.flM rfl rfl nd rfl nd rfl) (by exact rfl) ?_ | refine sqW ?_ | refine rgK (fun K' hK => ?_) | (refine aoN (hK _ _ ?_); clear hK K') | refine rtW ?_)
      exact ⟨.inr rfl, Ent.b (by simp [bs_beq])⟩
end Go.Proofs.YtekfpcgagoidcaaGreatDoor.Cy
