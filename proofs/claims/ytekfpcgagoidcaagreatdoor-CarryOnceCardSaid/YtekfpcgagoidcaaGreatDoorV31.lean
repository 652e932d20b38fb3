/- Contracts by content: the example of the laws over carried marks.  Contracts by content: the laws over carried marks: which scores and marks are few, which are usable.  Carried marks in plain words: what belongs together with a note of a version. No statement is proved here. -/
import Derived.Test.YtekfpcgagoidcaaGreatDoorV16
import Derived.Test.YtekfpcgagoidcaaGreatDoorV20
import Derived.Test.YtekfpcgagoidcaaGreatDoorV30
set_option linter.unusedVariables false
set_option linter.unusedSimpArgs false
namespace Go.Proofs.YtekfpcgagoidcaaGreatDoor.Cy
open Go.Ab Go.Sort Al Mk
attribute [local irreducible] AWP AOps EStep AQ PStep PRun PCall TCall VCall
set_option maxHeartbeats 16000000 in
set_option maxRecDepth 20000 in
theorem head21_spec : PCall Tryz.prog 30 [] (.b true) := by
  have w1 := work21_spec 1 [1, 2, 3] (by decide) (by decide)
  have w2 := work21_spec 2 [1, 3] (by decide) (by decide)
  have w3 := work21_spec 3 [1, 2, 3] (by decide) (by decide)
  rw [show yS 1 [1, 2, 3] = y1 from rfl] at w1
  rw [show yS 2 [1, 3] = y2 from rfl] at w2
  rw [show yS 3 [1, 2, 3] = y3 from rfl] at w3
  have m1 := mark21_spec 5 12
  have m2 := mark21_spec 6 13
  have ht : TextsIn exMs := fun m hm => by
    simp only [exMs, zB6, zCc, or_false] at hm
    rcases hm with rfl | rfl <;> decide
  have hf2 : ∀ s ∈ [y2, y3], few12 s = true := fun s hs => exL_few s (zAj _ hs)
  have a2 := All_spec exL (by decide) exL_few exMs (by decide) ht 2
  have a3 := All_spec exL (by decide) exL_few exMs (by decide) ht 3
  have a0 := PCall.argE (u := .nils) Ent.nil (All_spec [] (by decide) (fun s hs => by cases hs) exMs (by decide) ht 2)
  have c3 := Carry_spec exL (by decide) exL_few (mk1 5 12) (by decide) 3
  have c2 := Carry_spec exL (by decide) exL_few (mk1 5 12) (by decide) 2
  have c4 := Carry_spec exL (by decide) exL_few (mk1 5 12) (by decide) 4
  have cd := Carry_spec [y2, y3] (by decide) hf2 (mk1 5 12) (by decide) 2
  rw [exA2] at a2
  rw [exA3] at a3
  rw [exA0] at a0
  rw [exC3] at c3
  rw [exC2] at c2
  rw [exC4] at c4
  rw [exCd] at cd
  unfold tupA at a2 a3 a0
  unfold tupC at c3 c2 c4 cd
  unfold exL exMs at *
  generalize y1 = A at *
  generalize y2 = B at *
  generalize y3 = C at *
  clear hf2 ht
  dsimp only [zBq, Option.getD_none, Option.isSome_some, Option.isSome_none] at a2 a3 a0 c3 c2 c4 cd
  refine PCall.body Tryz.func30 rfl rfl Tryz.ntmps30 rfl rfl ?_
  repeat' (first | refine aoQ rfl rfl rfl (fun hg => by first | exact piW (α := Jo.Mark) (l := [mk1 5 12, mk1 6 13]) (f := encMk) tabOk rfl rfl nd rfl nd rfl rfl ⟨by decide, by decide⟩ | exact std0 | exact pcW (w1) rfl rfl nd rfl nds | exact pcW (w2) rfl rfl nd rfl nds | exact pcW (w3) rfl rfl nd rfl nds | exact pcW (m1) rfl rfl nd rfl nds | exact pcW (m2) rfl rfl nd rfl nds | exact pbS tabOk rfl rfl nds | exact pcW (a2) rfl rfl nd rfl nds | exact pcW (a3) rfl rfl nd rfl nds | exact pcW (c3) rfl rfl nd rfl nds | exact pcW (c2) rfl rfl nd rfl nds) (by exact rfl) ?_ | refine sqW ?_ | refine rgK (fun K' hK => ?_) | (refine aoN (hK _ _ ?_); clear hK K') | refine aoE (stW tabOk rfl rfl rfl tI rfl rfl tI rfl rfl rfl rfl rfl rfl rfl ?_) | refine aoE (alW tabOk rfl rfl rfl rfl rfl rfl ?_))
  refine AWP.drawYM effOp (fun j => match j with | 0 => [.var (encMk (mk2 5 3 12)), .var (encMk Jo.noMark)] | 1 => [.var (encMk (mk2 5 3 12)), .var (encMk Jo.noMark), .var zeroMk] | _ => [.var (encMk (mk2 5 3 12)), .var (encMk Jo.noMark), .var (encMk Jo.noMark)]) rfl (by kernel_rfl) (by decide +kernel) rfl (by decide +kernel) (fun K' hK => ?_)
  repeat' (first
    | refine yqQ (a := 0) (b := 0) rfl (by decide +kernel) (by decide +kernel) rfl rfl rfl (fun k h1 h2 hg => by (have hk : k = 0 := (by omega)); (rcases hk with rfl) <;> (first | exact PRun.sliceLoM (α := Score) (al := [A, B, C]) (f := encS) tabOk rfl rfl nd rfl nd rfl (by simp) | exact piW (α := Jo.Mark) (l := [mk1 5 12, mk1 6 13]) (f := encMk) tabOk rfl rfl nd rfl nd rfl rfl ⟨by decide, by decide⟩ | exact std0 | exact pcW (cd) rfl rfl nd rfl nds | exact std1)) (by exact rfl) ?_
    | refine yqQ (a := 0) (b := 1) rfl (by decide +kernel) (by decide +kernel) rfl rfl rfl (fun k h1 h2 hg => by (have hk : k = 0 ∨ k = 1 := (by omega)); (rcases hk with rfl | rfl) <;> (first | exact PRun.sliceLoM (α := Score) (al := [A, B, C]) (f := encS) tabOk rfl rfl nd rfl nd rfl (by simp) | exact piW (α := Jo.Mark) (l := [mk1 5 12, mk1 6 13]) (f := encMk) tabOk rfl rfl nd rfl nd rfl rfl ⟨by decide, by decide⟩ | exact std0 | exact pcW (cd) rfl rfl nd rfl nds | exact std1)) (by exact rfl) ?_
    | refine yqQ (a := 1) (b := 1) rfl (by decide +kernel) (by decide +kernel) rfl rfl rfl (fun k h1 h2 hg => by (have hk : k = 1 := (by omega)); (rcases hk with rfl) <;> (first | exact PRun.sliceLoM (α := Score) (al := [A, B, C]) (f := encS) tabOk rfl rfl nd rfl nd rfl (by simp) | exact piW (α := Jo.Mark) (l := [mk1 5 12, mk1 6 13]) (f := encMk) tabOk rfl rfl nd rfl nd rfl rfl ⟨by decide, by decide⟩ | exact std0 | exact pcW (cd) rfl rfl nd rfl nds | exact std1)) (by exact rfl) ?_
    | refine yqQ (a := 0) (b := 2) rfl (by decide +kernel) (by decide +kernel) rfl rfl rfl (fun k h1 h2 hg => by (have hk : k = 0 ∨ k = 1 ∨ k = 2 := (by omega)); (rcases hk with rfl | rfl | rfl) <;> (first | exact PRun.sliceLoM (α := Score) (al := [A, B, C]) (f := encS) tabOk rfl rfl nd rfl nd rfl (by simp) | exact piW (α := Jo.Mark) (l := [mk1 5 12, mk1 6 13]) (f := encMk) tabOk rfl rfl nd rfl nd rfl rfl ⟨by decide, by decide⟩ | exact std0 | exact pcW (cd) rfl rfl nd rfl nds | exact std1)) (by exact rfl) ?_
    | refine yqQ (a := 1) (b := 2) rfl (by decide +kernel) (by decide +kernel) rfl rfl rfl (fun k h1 h2 hg => by (have hk : k = 1 ∨ k = 2 := (by omega)); (rcases hk with rfl | rfl) <;> (first | exact PRun.sliceLoM (α := Score) (al := [A, B, C]) (f := encS) tabOk rfl rfl nd rfl nd rfl (by simp) | exact piW (α := Jo.Mark) (l := [mk1 5 12, mk1 6 13]) (f := encMk) tabOk rfl rfl nd rfl nd rfl rfl ⟨by decide, by decide⟩ | exact std0 | exact pcW (cd) rfl rfl nd rfl nds | exact std1)) (by exact rfl) ?_
    | refine yqQ (a := 2) (b := 2) rfl (by decide +kernel) (by decide +kernel) rfl rfl rfl (fun k h1 h2 hg => by (have hk : k = 2 := (by omega)); (rcases hk with rfl) <;> (first | exact PRun.sliceLoM (α := Score) (al := [A, B, C]) (f := encS) tabOk rfl rfl nd rfl nd rfl (by simp) | exact piW (α := Jo.Mark) (l := [mk1 5 12, mk1 6 13]) (f := encMk) tabOk rfl rfl nd rfl nd rfl rfl ⟨by decide, by decide⟩ | exact std0 | exact pcW (cd) rfl rfl nd rfl nds | exact std1)) (by exact rfl) ?_)
  refine YQ.e (v := .ptr 2 0) (d := some 15) rfl rfl rfl ?_ ?_
  · intro env' he
    exact alW tabOk rfl rfl rfl rfl rfl rfl ⟨rfl, rfl⟩
  repeat' (first
    | refine yqQ (a := 0) (b := 0) rfl (by decide +kernel) (by decide +kernel) rfl rfl rfl (fun k h1 h2 hg => by (have hk : k = 0 := (by omega)); (rcases hk with rfl) <;> (first | exact PRun.sliceLoM (α := Score) (al := [A, B, C]) (f := encS) tabOk rfl rfl nd rfl nd rfl (by simp) | exact piW (α := Jo.Mark) (l := [mk1 5 12, mk1 6 13]) (f := encMk) tabOk rfl rfl nd rfl nd rfl rfl ⟨by decide, by decide⟩ | exact std0 | exact pcW (cd) rfl rfl nd rfl nds | exact std1)) (by exact rfl) ?_
    | refine yqQ (a := 0) (b := 1) rfl (by decide +kernel) (by decide +kernel) rfl rfl rfl (fun k h1 h2 hg => by (have hk : k = 0 ∨ k = 1 := (by omega)); (rcases hk with rfl | rfl) <;> (first | exact PRun.sliceLoM (α := Score) (al := [A, B, C]) (f := encS) tabOk rfl rfl nd rfl nd rfl (by simp) | exact piW (α := Jo.Mark) (l := [mk1 5 12, mk1 6 13]) (f := encMk) tabOk rfl rfl nd rfl nd rfl rfl ⟨by decide, by decide⟩ | exact std0 | exact pcW (cd) rfl rfl nd rfl nds | exact std1)) (by exact rfl) ?_
    | refine yqQ (a := 1) (b := 1) rfl (by decide +kernel) (by decide +kernel) rfl rfl rfl (fun k h1 h2 hg => by (have hk : k = 1 := (by omega)); (rcases hk with rfl) <;> (first | exact PRun.sliceLoM (α := Score) (al := [A, B, C]) (f := encS) tabOk rfl rfl nd rfl nd rfl (by simp) | exact piW (α := Jo.Mark) (l := [mk1 5 12, mk1 6 13]) (f := encMk) tabOk rfl rfl nd rfl nd rfl rfl ⟨by decide, by decide⟩ | exact std0 | exact pcW (cd) rfl rfl nd rfl nds | exact std1)) (by exact rfl) ?_
    | refine yqQ (a := 0) (b := 2) rfl (by decide +kernel) (by decide +kernel) rfl rfl rfl (fun k h1 h2 hg => by (have hk : k = 0 ∨ k = 1 ∨ k = 2 := (by omega)); (rcases hk with rfl | rfl | rfl) <;> (first | exact PRun.sliceLoM (α := Score) (al := [A, B, C]) (f := encS) tabOk rfl rfl nd rfl nd rfl (by simp) | exact piW (α := Jo.Mark) (l := [mk1 5 12, mk1 6 13]) (f := encMk) tabOk rfl rfl nd rfl nd rfl rfl ⟨by decide, by decide⟩ | exact std0 | exact pcW (cd) rfl rfl nd rfl nds | exact std1)) (by exact rfl) ?_
    | refine yqQ (a := 1) (b := 2) rfl (by decide +kernel) (by decide +kernel) rfl rfl rfl (fun k h1 h2 hg => by (have hk : k = 1 ∨ k = 2 := (by omega)); (rcases hk with rfl | rfl) <;> (first | exact PRun.sliceLoM (α := Score) (al := [A, B, C]) (f := encS) tabOk rfl rfl nd rfl nd rfl (by simp) | exact piW (α := Jo.Mark) (l := [mk1 5 12, mk1 6 13]) (f := encMk) tabOk rfl rfl nd rfl nd rfl rfl ⟨by decide, by decide⟩ | exact std0 | exact pcW (cd) rfl rfl nd rfl nds | exact std1)) (by exact rfl) ?_
    | refine yqQ (a := 2) (b := 2) rfl (by decide +kernel) (by decide +kernel) rfl rfl rfl (fun k h1 h2 hg => by (have hk : k = 2 := (by omega)); (rcases hk with rfl) <;> (first | exact PRun.sliceLoM (α := Score) (al := [A, B, C]) (f := encS) tabOk rfl rfl nd rfl nd rfl (by simp) | exact piW (α := Jo.Mark) (l := [mk1 5 12, mk1 6 13]) (f := encMk) tabOk rfl rfl nd rfl nd rfl rfl ⟨by decide, by decide⟩ | exact std0 | exact pcW (cd) rfl rfl nd rfl nds | exact std1)) (by exact rfl) ?_)
  refine YQ.e (v := .any) (d := none) rfl rfl rfl ?_ ?_
  · intro env' he
    exact stW tabOk rfl rfl ((rdv_congr (he 15 (by decide +kernel))).trans rfl) (by rw [rdn_congr (he 15 (by decide +kernel))]; first | exact tI | exact rfl) rfl ((rdv_congr (he 75 (by decide +kernel))).trans rfl) (by rw [rdn_congr (he 75 (by decide +kernel))]; first | exact tI | exact rfl) rfl rfl rfl rfl rfl rfl rfl ⟨rfl, rfl⟩
  repeat' (first
    | refine yqQ (a := 0) (b := 0) rfl (by decide +kernel) (by decide +kernel) rfl rfl rfl (fun k h1 h2 hg => by (have hk : k = 0 := (by omega)); (rcases hk with rfl) <;> (first | exact std0 | exact std1)) (by exact rfl) ?_
    | refine yqQ (a := 0) (b := 1) rfl (by decide +kernel) (by decide +kernel) rfl rfl rfl (fun k h1 h2 hg => by (have hk : k = 0 ∨ k = 1 := (by omega)); (rcases hk with rfl | rfl) <;> (first | exact std0 | exact std1)) (by exact rfl) ?_
    | refine yqQ (a := 1) (b := 1) rfl (by decide +kernel) (by decide +kernel) rfl rfl rfl (fun k h1 h2 hg => by (have hk : k = 1 := (by omega)); (rcases hk with rfl) <;> (first | exact std0 | exact std1)) (by exact rfl) ?_
    | refine yqQ (a := 0) (b := 2) rfl (by decide +kernel) (by decide +kernel) rfl rfl rfl (fun k h1 h2 hg => by (have hk : k = 0 ∨ k = 1 ∨ k = 2 := (by omega)); (rcases hk with rfl | rfl | rfl) <;> (first | exact std0 | exact std1)) (by exact rfl) ?_
    | refine yqQ (a := 1) (b := 2) rfl (by decide +kernel) (by decide +kernel) rfl rfl rfl (fun k h1 h2 hg => by (have hk : k = 1 ∨ k = 2 := (by omega)); (rcases hk with rfl | rfl) <;> (first | exact std0 | exact std1)) (by exact rfl) ?_
    | refine yqQ (a := 2) (b := 2) rfl (by decide +kernel) (by decide +kernel) rfl rfl rfl (fun k h1 h2 hg => by (have hk : k = 2 := (by omega)); (rcases hk with rfl) <;> (first | exact std0 | exact std1)) (by exact rfl) ?_)
  refine YQ.nil (hK _ _ ?_)
  clear hK K'
  show AWP _ _ _ _ _ [.var (encMk (mk2 5 3 12)), .var (encMk Jo.noMark), .var (encMk Jo.noMark)]
  repeat' (first | refine aoQ rfl rfl rfl (fun hg => by first | exact piW (α := Jo.Mark) (l := [mk1 5 12, mk1 6 13]) (f := encMk) tabOk rfl rfl nd rfl nd rfl rfl ⟨by decide, by decide⟩ | exact std0 | exact pcW (c4) rfl rfl nd rfl nds | exact pcW (a0) rfl rfl nd rfl nds | exact pcW (m1) rfl rfl nd rfl nds | exact pcW (m2) rfl rfl nd rfl nds) (by exact rfl) ?_ | refine sqW ?_ | refine rgK (fun K' hK => ?_) | (refine aoN (hK _ _ ?_); clear hK K') | refine aoE (stW tabOk rfl rfl rfl tI rfl rfl tI rfl rfl rfl rfl rfl rfl rfl ?_) | refine aoE (alW tabOk rfl rfl rfl rfl rfl rfl ?_) | (refine cdW rfl tI (fun hc => ?_) (fun hc => ?_) <;> (first | (simp only [dEt] at hc) | (simp only [dEf, zA0, zA1] at hc) | skip)) | refine skW ?_ | refine rtW ?_)
  all_goals (first | (exfalso; omega) | (exfalso; simp at hc; done) | (exfalso; simp at hc; omega) | (exfalso; simp only [dEf, dEt] at hc; omega) | (rename_i h0; exfalso; simp at h0; done) | (rename_i h0; exfalso; simp at h0; omega) | skip)
  refine dK2 (by decide +kernel) (by kernel_rfl) (by decide +kernel) rfl (fun K' hK => ?_)
  repeat' (first | refine rtW ?_ | (refine aqN (hK _ ?_); clear hK K') | refine aqQ rfl rfl (fun hg => by first | exact piW (α := Jo.Mark) (l := [mk1 5 12, mk1 6 13]) (f := encMk) tabOk rfl rfl nd rfl nd rfl rfl ⟨by decide, by decide⟩ | exact piW (α := Jo.Mark) (l := [mk2 5 3 12, mk2 6 3 13]) (f := encMk) tabOk rfl rfl nd rfl nd rfl rfl ⟨by decide, by decide⟩ | exact piW (α := Jo.Mark) (l := [mk1 5 12]) (f := encMk) tabOk rfl rfl nd rfl nd rfl rfl ⟨by decide, by decide⟩ | exact piW (α := Jo.Mark) (l := [mk2 6 2 13]) (f := encMk) tabOk rfl rfl nd rfl nd rfl rfl ⟨by decide, by decide⟩ | exact std0 | exact PRun.eqN Mk.flM rfl rfl nd rfl nd rfl | exact std1) (by exact rfl) ?_)
  exact ⟨.inr rfl, Ent.b (by decide +kernel)⟩
theorem fewL_no {l : List Score} {n k : Nat} (hk : k < l.length) (h4 : k ≤ 4) (h : few12 (l.getD k default) = false) : fewL l n = false := by
  unfold fewL
  have : (l.take 5).all few12 = false := by
    rw [List.all_eq_false]
    refine ⟨l.getD k default, ?_, by rw [h]; decide⟩
    rw [getD_lt hk]
    exact List.mem_take_iff_getElem.2 ⟨k, by omega, rfl⟩
  rw [this]; rfl
theorem fewL_yes {l : List Score} {n k : Nat} (hk : k = l.length ∨ k = 5) (h : ∀ j, j < k → few12 (l.getD j default) = true) : fewL l n = (decide ((l.length : Int) ≤ 4) && decide ((n : Int) ≤ 12)) := by
  unfold fewL
  have : (l.take 5).all few12 = true := by
    rw [zA5]
    intro s hs
    obtain ⟨j, hj, rfl⟩ := List.mem_take_iff_getElem.1 hs
    have := h j (by omega)
    rwa [getD_lt (by omega)] at this
  rw [this, zCf]
set_option maxHeartbeats 8000000 in
set_option maxRecDepth 20000 in
theorem few21_spec (l : List Score) (hl : l.length ≤ 9223372036854775807) (hsz : ∀ s ∈ l, s.Sized) (ms : List Jo.Mark) (hms : ms.length ≤ 9223372036854775807) : PCall Tryz.prog 31 [.sl 4 (l.map encS) .no, .sl 10 (ms.map encMk) .no] (.b (fewL l ms.length)) := by
  refine PCall.body Tryz.func31 rfl rfl Tryz.ntmps31 rfl rfl ?_
  repeat' (first | refine aoQ rfl rfl rfl (fun hg => by exact std0) (by exact rfl) ?_ | refine sqW ?_ | refine rgK (fun K' hK => ?_) | (refine aoN (hK _ _ ?_); clear hK K') | refine blK ?_)
  refine lpW (ι := Nat) (fun k => [(0, .sl 4 (l.map encS) .no), (1, .sl 10 (ms.map encMk) .no), (5, .int k)]) (fun _ => []) (fun k => k ≤ l.length ∧ k ≤ 5 ∧ ∀ j, j < k → few12 (l.getD j default) = true) (fun k => l.length - k) 0 ⟨nZl _, nZl _, fun j h => absurd h (by omega)⟩ ⟨rfl, rfl, rfl, tI⟩ rfl ?_
  rintro k ⟨hk, h5, hall⟩
  by_cases hlt : k < l.length ∧ k ≤ 4
  · obtain ⟨hlt, h4⟩ := hlt
    obtain ⟨s, hs⟩ : ∃ s, l.getD k default = s := ⟨_, rfl⟩
    have hv := few12_spec s (hsz s (by rw [← hs]; exact getD_mem hlt))
    cases ho : few12 s with
    | false =>
      rw [ho] at hv
      repeat' (first | refine aoQ rfl rfl rfl (fun hg => by first | exact iX encS l (((k) : Nat) : Int) hs (hb := by omega) | exact std0 | exact pcW (hv) rfl rfl nd rfl nds | exact std1) (by exact rfl) ?_ | refine sqW ?_ | refine rgK (fun K' hK => ?_) | (refine aoN (hK _ _ ?_); clear hK K') | (refine cdW rfl tI (fun hc => ?_) (fun hc => ?_) <;> (first | (simp only [dEt] at hc) | (simp only [dEf, zA0, zA1] at hc) | skip)) | refine blK ?_ | refine exW ?_ | refine skW ?_ | refine rtW ?_)
      all_goals (first | (exact ⟨.inr rfl, Ent.b (Eq.symm (fewL_no hlt h4 (by rw [hs]; exact ho)))⟩) | (exfalso; simp at hc; done) | (exfalso; simp at hc; omega))
    | true =>
      rw [ho] at hv
      repeat' (first | refine aoQ rfl rfl rfl (fun hg => by first | exact iX encS l (((k) : Nat) : Int) hs (hb := by omega) | exact std0 | exact pcW (hv) rfl rfl nd rfl nds | exact std1) (by exact rfl) ?_ | refine sqW ?_ | refine rgK (fun K' hK => ?_) | (refine aoN (hK _ _ ?_); clear hK K') | (refine cdW rfl tI (fun hc => ?_) (fun hc => ?_) <;> (first | (simp only [dEt] at hc) | (simp only [dEf, zA0, zA1] at hc) | skip)) | refine blK ?_ | refine exW ?_ | refine skW ?_ | refine rtW ?_)
      all_goals (first | (exact ⟨k + 1, ⟨by omega, by omega, fun j hj => by
        rcases nLg j k with g | g
        · exact hall j g
        · obtain rfl : j = k := (by omega)
          rw [hs]; exact ho⟩, by omega, ⟨rfl, rfl, rfl, tI⟩, rfl⟩) | (exfalso; simp at hc; done) | (exfalso; simp at hc; omega))
  · repeat' (first | refine aoQ rfl rfl rfl (fun hg => by first | exact std0 | exact std1) (by exact rfl) ?_ | refine sqW ?_ | refine rgK (fun K' hK => ?_) | (refine aoN (hK _ _ ?_); clear hK K') | (refine cdW rfl tI (fun hc => ?_) (fun hc => ?_) <;> (first | (simp only [dEt] at hc) | (simp only [dEf, zA0, zA1] at hc) | skip)) | refine blK ?_ | refine exW ?_ | refine skW ?_ | refine rtW ?_)
    all_goals (first | (exact ⟨.inr rfl, Ent.b (Eq.symm (fewL_yes (k := k) (by omega) hall))⟩) | (exfalso; simp at hc; omega))
def usab21 (l : List Score) (ms : List Jo.Mark) : Bool := fewL l ms.length && versOk l && marksOk ms
set_option maxHeartbeats 8000000 in
set_option maxRecDepth 20000 in
theorem usable21_spec (l : List Score) (hl : l.length ≤ 9223372036854775807) (hsz : ∀ s ∈ l, s.Sized) (ms : List Jo.Mark) (hms : ms.length ≤ 9223372036854775807) (ht : TextsIn ms) : PCall Tryz.prog 37 [.sl 4 (l.map encS) .no, .sl 10 (ms.map encMk) .no] (.b (usab21 l ms)) := by
  have h1 := few21_spec l hl hsz ms hms
  have h3 := marks19_spec ms hms ht
  cases hf : fewL l ms.length with
  | false =>
    rw [hf] at h1
    refine PCall.body Tryz.func37 rfl rfl Tryz.ntmps37 rfl rfl ?_
    repeat' (first | refine aoQ rfl rfl rfl (fun hg => by first | exact std0 | exact pcW (h1) rfl rfl nd rfl nds | exact (Bool.noConfusion (show false = true from hg) : PRun _ _ _ _ (.b false)) | fail) (by exact rfl) ?_ | refine sqW ?_ | refine rgK (fun K' hK => ?_) | (refine aoN (hK _ _ ?_); clear hK K') | refine rtW ?_)
    refine ⟨.inr rfl, Ent.b ?_⟩
    unfold usab21; rw [hf]; rfl
  | true =>
    rw [hf] at h1
    have h2 := versions21_spec l hl (fun s hs => few12_small ((fewL_iff hf).1 s hs))
    refine PCall.body Tryz.func37 rfl rfl Tryz.ntmps37 rfl rfl ?_
    repeat' (first | refine aoQ rfl rfl rfl (fun hg => by first | exact std0 | exact pcW (h1) rfl rfl nd rfl nds | exact pcW (h2) rfl rfl nd rfl nds | exact pcW (h3) rfl rfl nd rfl nds) (by exact rfl) ?_ | refine sqW ?_ | refine rgK (fun K' hK => ?_) | (refine aoN (hK _ _ ?_); clear hK K') | refine rtW ?_)
    refine ⟨.inr rfl, Ent.b ?_⟩
    unfold usab21; rw [hf]
end Go.Proofs.YtekfpcgagoidcaaGreatDoor.Cy
namespace Go.Proofs.YtekfpcgagoidcaaGreatDoor.Cy
open Go.Ab Go.Sort Al Mk
theorem own_nodup {s : Score} (h : scoreOk s = true) : ((ownP s).map (·.1)).Nodup := by
  unfold ownP
  rw [zCr]
  exact (ok_sc h).notes
theorem own_lk {s : Score} (h : scoreOk s = true) (id : Int) : lk (insL [] (ownP s)) id = if noteAt s.notes id < 0 then none else some id := by
  split
  · rename_i hn
    rw [lk_insL]
    · rfl
    · intro p hp e
      obtain ⟨n, hn2, rfl⟩ := zAp.1 hp
      have := findI_exA (p := fun x : Note => x.id == id) (l := s.notes)
      have h2 := this.2 ⟨n, hn2, by simpa using e⟩
      unfold noteAt at hn
      omega
  · rename_i hn
    obtain ⟨k, _, h2, h3, _⟩ := findI_lt (p := fun x : Note => x.id == id) (l := s.notes) (by unfold noteAt at hn; omega)
    refine lk_insL_mem (own_nodup h) (zAp.2 ⟨_, getD_mem h2, ?_⟩)
    have e : (s.notes.getD k default).id = id := by simpa using h3
    rw [e]
def pairsN (s to : Score) : PL := notesM s to (np (alignR (costR s to) s.bars.length to.bars.length))
theorem pairsN_facts {s to : Score} (hs : scoreOk s = true) (ht : scoreOk to = true) : OutF s to (np (alignR (costR s to) s.bars.length to.bars.length)) (pairsN s to) := by
  have hpo := (alignR_ok (costR s to) s.bars.length to.bars.length).1
  exact out_facts (ok_sc hs) (ok_sc ht) (pairsOk_of hpo)
theorem marksOk_ids {l : List Jo.Mark} (h : marksOk l = true) : (l.map (·.id)).Nodup := by
  unfold marksOk at h
  simp only [zA2, dEt] at h
  exact h.1.2
theorem marksOk_at {l : List Jo.Mark} (h : marksOk l = true) {m : Jo.Mark} (hm : m ∈ l) : Jo.markOk m = true := by
  unfold marksOk at h
  simp only [zA2, dEt, zA5] at h
  exact h.1.1 m hm
theorem note_id {s : Score} (h : scoreOk s = true) {n : Note} (hn : n ∈ s.notes) : 1 ≤ n.id := by
  obtain ⟨_, _, _, h4, _⟩ := ok_parts h
  obtain ⟨_, _, h6⟩ := notesOk_all h4
  obtain ⟨j, _, _, h7⟩ := note_bar (h6 n hn)
  unfold nformed fits noteForm noteP pitchOk inB at h7
  simp only [zA2, dEt] at h7
  omega
def toN (l : List Score) (v : Int) (to : Score) (w id : Int) : Option Int := lk (mapF l v to w) id
theorem toN_own {l : List Score} {v : Int} {to : Score} (ht : scoreOk to = true) (id : Int) : toN l v to v id = if noteAt to.notes id < 0 then none else some id := by
  unfold toN mapF; rw [if_pos rfl]; exact own_lk ht id
theorem toN_no {l : List Score} {v w : Int} {to : Score} (hw : w ≠ v) (hf : findV l w < 0) (id : Int) : toN l v to w id = none := by
  unfold toN mapF mapW; rw [if_neg hw, if_pos hf]; rfl
theorem toN_at {l : List Score} {v w : Int} {to : Score} (hw : w ≠ v) {k : Nat} (hf : findV l w = k) (id : Int) : toN l v to w id = lk (insL [] (pairsN (atS l k) to)) id := by
  unfold toN mapF mapW pairsN; rw [if_neg hw, if_neg (by omega), hf, zAe]
theorem pairs_lk {s to : Score} (hs : scoreOk s = true) (ht : scoreOk to = true) {a b : Int} : lk (insL [] (pairsN s to)) a = some b ↔ (a, b) ∈ pairsN s to := by
  constructor
  · intro h
    rcases lk_insL_some h with h | h
    · cases h
    · exact h
  · exact fun h => lk_insL_mem (pairsN_facts hs ht).fst h
theorem noteAt_mem {l : List Note} {id : Int} {i : Nat} (hi : i < l.length) (h : noteAt l id = i) : (l.getD i default).id = id := by
  obtain ⟨k, hk, h2, h3, _⟩ := findI_lt (p := fun x : Note => x.id == id) (l := l) (by unfold noteAt at h; omega)
  have : k = i := by unfold noteAt at h; omega
  subst this
  simpa using h3
theorem toN_some {l : List Score} {v w : Int} {to : Score} (hgd : ∀ s ∈ l, scoreOk s = true) (ht : scoreOk to = true) {k : Nat} (hk : findV l v = k) (hto : atS l k = to) {id n : Int} (h : toN l v to w id = some n) :
    ∃ i a b : Nat, findV l w = i ∧ i < l.length ∧ noteAt (atS l i).notes id = a ∧ a < (atS l i).notes.length ∧ noteAt to.notes n = b ∧ b < to.notes.length ∧ ((atS l i).notes.getD a default).part = (to.notes.getD b default).part ∧ 1 ≤ n := by
  by_cases hw : w = v
  · subst hw
    rw [toN_own ht] at h
    split at h
    · cases h
    · rename_i hn
      cases h
      obtain ⟨k2, hk2, hlt, _⟩ := findV_lt (l := l) (v := w) (by omega)
      have : k2 = k := by omega
      subst this
      obtain ⟨j, hj, h2, h3, _⟩ := findI_lt (p := fun x : Note => x.id == id) (l := to.notes) (by unfold noteAt at hn; omega)
      refine ⟨k2, j, j, hk, hlt, by rw [hto]; exact hj, by rw [hto]; exact h2, hj, h2, by rw [hto], ?_⟩
      have e : (to.notes.getD j default).id = id := by simpa using h3
      rw [← e]; exact note_id ht (getD_mem h2)
  · by_cases hf : findV l w < 0
    · rw [toN_no hw hf] at h; cases h
    · obtain ⟨i, hi, hlt, _⟩ := findV_lt hf
      have hs : scoreOk (atS l i) = true := hgd _ (getD_mem hlt)
      rw [toN_at hw hi, pairs_lk hs ht] at h
      obtain ⟨a, b, h1, h2, h3, h4, h5, _⟩ := (pairsN_facts hs ht).of _ h
      refine ⟨i, a, b, hi, hlt, h3, h1, h4, h2, h5, ?_⟩
      have := noteAt_mem h2 h4
      dsimp only at this
      rw [← this]; exact note_id ht (getD_mem h2)
theorem toN_inj {l : List Score} {v w : Int} {to : Score} (hgd : ∀ s ∈ l, scoreOk s = true) (ht : scoreOk to = true) {a b n : Int} (h1 : toN l v to w a = some n) (h2 : toN l v to w b = some n) : a = b := by
  by_cases hw : w = v
  · subst hw
    rw [toN_own ht] at h1 h2
    split at h1
    · cases h1
    · split at h2
      · cases h2
      · cases h1; cases h2; rfl
  · by_cases hf : findV l w < 0
    · rw [toN_no hw hf] at h1; cases h1
    · obtain ⟨i, hi, hlt, _⟩ := findV_lt hf
      have hs : scoreOk (atS l i) = true := hgd _ (getD_mem hlt)
      rw [toN_at hw hi, pairs_lk hs ht] at h1 h2
      have := inj_of_nodup (f := (·.2)) (pairsN_facts hs ht).snd h1 h2 rfl
      exact congrArg (·.1) this
theorem carryM_eq (l : List Score) (v : Int) (to : Score) (m : Jo.Mark) : carryM l v to m = (toN l v to m.version m.note).map fun n => { m with version := to.version, note := n } := rfl
theorem carryR_ok {l : List Score} (hv : versOk l = true) {m : Jo.Mark} (hm : Jo.markOk m = true) {v : Int} (hn : numOk v = true) {k : Nat} (hk : findV l v = k) : carryR l m v = (carryM l v (atS l k) m, 0) := by
  unfold carryR
  rw [if_pos (show argOk l m v = true by unfold argOk; rw [hn, hm, hv]; rfl), if_neg (by rw [hk]; omega), hk, zAe]
theorem allR_ok {l : List Score} (hv : versOk l = true) {ms : List Jo.Mark} (hm : marksOk ms = true) {v : Int} (hn : numOk v = true) {k : Nat} (hk : findV l v = k) : allR l ms v = ((placedL (carryM l v (atS l k)) ms, heldL (carryM l v (atS l k)) ms), 0) := by
  unfold allR
  rw [if_pos (show argsOk l ms v = true by unfold argsOk; rw [hn, hm, hv]; rfl), if_neg (by rw [hk]; omega), hk, zAe]
theorem ver_num {s : Score} (h : scoreOk s = true) : numOk s.version = true := by
  have := (ok_parts h).1
  unfold inB at this
  unfold numOk
  simpa using this
theorem vers_lt {l : List Score} (h : versOk l = true) : ∀ {i k : Nat}, i < k → k < l.length → (atS l i).version < (atS l k).version := by
  unfold versOk at h
  simp only [zA2, zA5] at h
  have step : ∀ j, j + 1 < l.length → (atS l j).version < (atS l (j + 1)).version := fun j hj => by
    have h1 := h.2 (j + 1) (zAt.2 hj)
    unfold stepV at h1
    simp only [zA2, zB4, dEt, beq_iff_eq] at h1
    rcases h1.2 with h2 | h2
    · omega
    · exact h2
  intro i k hik hk
  induction k with
  | zero => omega
  | succ k ih =>
    rcases nLg i k with g | g
    · have := ih g (by omega); have := step k hk; omega
    · obtain rfl : i = k := by omega
      exact step i hk
theorem findV_self {l : List Score} (h : versOk l = true) {k : Nat} (hk : k < l.length) : findV l (atS l k).version = k :=
  findI_at hk (by simp [atS]) fun j hj => by
    have := vers_lt h hj hk
    unfold atS at this
    simp only [beq_eq_false_iff_ne, ne_eq]
    unfold atS
    omega
end Go.Proofs.YtekfpcgagoidcaaGreatDoor.Cy
