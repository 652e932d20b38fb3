/- Contracts by content: the reference's Number, Visit, Place of editions.  Contracts by content: the reference's Letter of editions.  Contracts by content: first over checks that change the caller's variables, Resolve. No statement is proved here. -/
import Derived.Test.YtdglbdfdkabjfaaGreatDoorP10
import Derived.Test.YtdglbdfdkabjfaaGreatDoorP20
import Derived.Test.YtdglbdfdkabjfaaGreatDoorP22
set_option linter.unusedVariables false
set_option linter.unusedSimpArgs false
namespace Go.Proofs.YtdglbdfdkabjfaaGreatDoor.Ed
open Go.Ab
attribute [local irreducible] AWP AOps EStep AQ PStep PRun PCall TCall VCall
theorem visit11_spec (e : Edition) (hw : Wf e) (i pass : Int) : PCall Tryz.prog 47 [.agg (encE e), .int i, .int pass] (encVi (viR e i pass)) := by
 refine PCall.bodyS tabOk Tryz.func47 rfl rfl Tryz.ntmps47 rfl ?_
 have hb := hw.bars
 repeat' (first | refine aoQ rfl rfl rfl (fun hg => by first | exact std0 | exact pcW (in_spec _ _ _) rfl rfl nd rfl nds | exact pcW (form_spec e) rfl rfl nd rfl nds | exact pbD tabOk rfl rfl nds | exact std1) (by exact rfl) ?_ | refine sqW ?_ | refine rgK (fun K' hK => ?_) | (refine aoN (hK _ _ ?_); clear hK K') | refine aoE (bxW rfl rfl rfl rfl rfl tI rfl rfl ?_) | refine aoE (stW tabOk rfl rfl rfl tI rfl rfl tI rfl rfl rfl rfl rfl rfl rfl ?_) | refine aoE (alW tabOk rfl rfl rfl rfl rfl rfl ?_) | refine cdN rfl tI (fun hc => ?_) (fun hc => ?_) | refine skW ?_ | refine rtW ?_)
 · refine ⟨.inr rfl, _, rfl, ?_⟩
   rw [show viR e i pass = ⟨0, 0, 1⟩ from by unfold viR; rw [if_neg]; revert hc; cases formB e <;> cases inB i 0 ((e.bars.length : Int) - 1) <;> cases inB pass 0 20000 <;> simp]
   exact fun _ _ h => h
 have hok := ok3 hc
 have hi : 0 ≤ i ∧ i < e.bars.length := by
  simp only [zA0] at hok
  have := hok.1.2
  simp [inB] at this; omega
 clear hc
 repeat' (first | refine aoQ rfl rfl rfl (fun hg => by first | exact std0 | exact pbD tabOk rfl rfl nds | exact std1) (by exact rfl) ?_ | refine sqW ?_ | refine rgK (fun K' hK => ?_) | (refine aoN (hK _ _ ?_); clear hK K') | refine aoE (stW tabOk rfl rfl rfl tI rfl rfl tI rfl rfl rfl rfl rfl rfl rfl ?_) | refine aoE (alW tabOk rfl rfl rfl rfl rfl rfl ?_) | refine cdN rfl tI (fun hc => ?_) (fun hc => ?_) | refine skW ?_ | refine rtW ?_)
 all_goals (refine ⟨.inr rfl, _, rfl, ?_⟩)
 · rw [show viR e i pass = ⟨(e.bars.getD i.toNat default).bar, max 1 pass, 0⟩ from by unfold viR; rw [if_pos hok, if_pos (by simpa using hc)]]
   rw [Int.max_comm]
   exact fun _ _ h => h
 · rename_i hc0
   rw [show viR e i pass = ⟨0, 0, 30⟩ from by unfold viR; rw [if_pos hok, if_neg (by simpa using hc0), if_pos hc]]
   exact fun _ _ h => h
 · rename_i hc0
   rw [show viR e i pass = ⟨(e.bars.getD i.toNat default).bar, (e.bars.getD i.toNat default).pass, 0⟩ from by unfold viR; rw [if_pos hok, if_neg (by simpa using hc0), if_neg (by omega)]]
   exact fun _ _ h => h
theorem findI_drop {p : Printed → Bool} {l : List Printed} {i k : Nat} (h1 : i < k) (hk : k < l.length) (hp : p (l.getD k default) = true) : findI p (l.drop (i + 1)) ≥ 0 := by
 rcases Int.lt_or_le (findI p (l.drop (i + 1))) 0 with h | h
 · exfalso
   have h2 := findI_any p (l.drop (i + 1))
   rw [decide_eq_false (by omega)] at h2
   have h3 := zA6.1 h2.symm (l.getD k default) (by
    rw [getD_lt hk, zB0]
    exact ⟨k - (i + 1), by simp; omega, by rw [List.getElem_drop]; congr 1; omega⟩)
   rw [hp] at h3; cases h3
 · exact h
theorem findI_drop_no {p : Printed → Bool} {l : List Printed} {i : Nat} (h : ∀ j, j < l.length → i < j → p (l.getD j default) = false) : findI p (l.drop (i + 1)) < 0 := by
 have h1 : findI p (l.drop (i + 1)) = -1 := findI_no fun j hj => by
  have hj' : i + 1 + j < l.length := by simp at hj; omega
  have := h (i + 1 + j) hj' (by omega)
  rw [getD_lt hj'] at this
  rw [getD_lt hj, List.getElem_drop]; exact this
 omega
def OneAt (p : Printed → Bool) (l : List Printed) (k : Nat) (a : Int) : Prop := (a = -1 ∧ ∀ j, j < k → p (l.getD j default) = false) ∨ (∃ i : Nat, a = i ∧ i < k ∧ p (l.getD i default) = true ∧ ∀ j, j < k → j ≠ i → p (l.getD j default) = false)
set_option maxHeartbeats 1600000 in
theorem number11_spec (e : Edition) (hw : Wf e) (n : Int) : PCall Tryz.prog 103 [.agg (encE e), .int n] (.tup [.int (numR e n).1, .int (numR e n).2]) := by
 have hb := hw.bars
 refine PCall.body Tryz.func103 rfl rfl Tryz.ntmps103 rfl rfl ?_
 repeat' (first | refine aoQ rfl rfl rfl (fun hg => by first | exact std0 | exact pcW (in_spec _ _ _) rfl rfl nd rfl nds | exact pcW (form_spec e) rfl rfl nd rfl nds) (by exact rfl) ?_ | refine sqW ?_ | refine rgK (fun K' hK => ?_) | (refine aoN (hK _ _ ?_); clear hK K') | refine aoE (bxW rfl rfl rfl rfl rfl tI rfl rfl ?_) | refine cdN rfl tI (fun hc => ?_) (fun hc => ?_) | refine blK ?_ | refine skW ?_ | refine rtW ?_)
 · refine ⟨.inr rfl, ?_⟩
   rw [show numR e n = (0, 1) from by unfold numR; rw [if_neg]; revert hc; cases formB e <;> cases inB n 0 100000 <;> simp]
   exact fun _ _ h => h
 have hok := ok2 hc
 clear hc
 refine lpW (ι := Nat × Int) (fun i => [(1, .int n), (2, .ptr 0 0), (7, .int i.2), (8, .int i.1)]) (fun _ => [.var (encE e)]) (fun i => i.1 ≤ e.bars.length ∧ OneAt (numP n) e.bars i.1 i.2) (fun i => e.bars.length - i.1) (0, -1) ⟨nZl _, .inl ⟨rfl, fun j h => absurd h (by omega)⟩⟩ ⟨rfl, rfl, rfl, rfl, tI⟩ rfl ?_
 rintro ⟨k, a⟩ ⟨hk, hone⟩
 dsimp only at hk hone ⊢
 by_cases hlt : k < e.bars.length
 · repeat' (first | refine aoQ rfl rfl rfl (fun hg => by first | exact std0 | exact std1) (by exact rfl) ?_ | refine sqW ?_ | refine rgK (fun K' hK => ?_) | (refine aoN (hK _ _ ?_); clear hK K') | refine cdN rfl tI (fun hc => ?_) (fun hc => ?_) | refine blK ?_ | refine exW ?_ | refine skW ?_ | refine rtW ?_)
   all_goals (first | (exfalso; omega) | skip)
   · have hp : numP n (e.bars.getD k default) = false := by
      unfold numP
      have h9 : ((e.bars.getD k default).number != n) = true := hc
      simpa using h9
     refine ⟨(k + 1, a), ⟨by dsimp only; omega, ?_⟩, by dsimp only; omega, ⟨rfl, rfl, rfl, rfl, tI⟩, rfl⟩
     dsimp only
     rcases hone with ⟨h1, h2⟩ | ⟨i, h1, h2, h3, h4⟩
     · exact .inl ⟨h1, fun j hj => by
        rcases Nat.lt_succ_iff_lt_or_eq.1 hj with h | rfl
        · exact h2 j h
        · exact hp⟩
     · exact .inr ⟨i, h1, by omega, h3, fun j hj hne => by
        rcases Nat.lt_succ_iff_lt_or_eq.1 hj with h | rfl
        · exact h4 j h hne
        · exact hp⟩
   · rename_i hc1
     have hp : numP n (e.bars.getD k default) = true := by
      unfold numP
      have h9 : ((e.bars.getD k default).number != n) = false := hc1
      simpa using h9
     rcases hone with ⟨h1, h2⟩ | ⟨i, h1, h2, h3, h4⟩
     · exfalso; omega
     · have e1 : numI e n = (i : Int) := findI_at (by omega) h3 fun j hj => h4 j (by omega) (by omega)
       refine ⟨.inr rfl, ?_⟩
       rw [show numR e n = (0, 5) from by
        unfold numR
        rw [if_pos hok, if_neg (by omega), e1, show ((i : Int) + 1).toNat = i + 1 by omega, if_pos (findI_drop h2 hlt hp)]]
       exact fun _ _ h => h
   · rename_i hc1
     have hp : numP n (e.bars.getD k default) = true := by
      unfold numP
      have h9 : ((e.bars.getD k default).number != n) = false := hc1
      simpa using h9
     rcases hone with ⟨h1, h2⟩ | ⟨i, h1, h2, h3, h4⟩
     · refine ⟨(k + 1, (k : Int)), ⟨by dsimp only; omega, .inr ⟨k, rfl, by dsimp only; omega, hp, fun j hj hne => h2 j (by dsimp only at hj; omega)⟩⟩, by dsimp only; omega, ⟨rfl, rfl, rfl, rfl, tI⟩, rfl⟩
     · exfalso; omega
 · repeat' (first | refine aoQ rfl rfl rfl (fun hg => by first | exact std0 | exact std1) (by exact rfl) ?_ | refine sqW ?_ | refine rgK (fun K' hK => ?_) | (refine aoN (hK _ _ ?_); clear hK K') | refine cdN rfl tI (fun hc => ?_) (fun hc => ?_) | refine blK ?_ | refine exW ?_ | refine skW ?_ | refine rtW ?_)
   all_goals (first | (exfalso; omega) | skip)
   · rcases hone with ⟨h1, h2⟩ | ⟨i, h1, h2, h3, h4⟩
     · have e1 : numI e n = -1 := findI_no fun j hj => h2 j (by omega)
       refine ⟨.inr rfl, ?_⟩
       rw [show numR e n = (0, 4) from by unfold numR; rw [if_pos hok, if_pos (by omega)]]
       exact fun _ _ h => h
     · exfalso; omega
   · rcases hone with ⟨h1, h2⟩ | ⟨i, h1, h2, h3, h4⟩
     · exfalso; omega
     · have e1 : numI e n = (i : Int) := findI_at (by omega) h3 fun j hj => h4 j (by omega) (by omega)
       have e2 := findI_drop_no (p := numP n) (l := e.bars) (i := i) fun j hj hij => h4 j (by omega) (by omega)
       subst h1
       refine ⟨.inr rfl, ?_⟩
       rw [show numR e n = ((i : Int), 0) from by
        unfold numR
        rw [if_pos hok, if_neg (by omega), e1, show ((i : Int) + 1).toNat = i + 1 by omega, if_neg (by omega)]]
       exact fun _ _ h => h
set_option maxHeartbeats 1600000 in
theorem place11_spec (e : Edition) (hw : Wf e) (vb vp : Int) : PCall Tryz.prog 58 [.agg (encE e), .agg [.int vb, .int vp]] (encPl (plR e vb vp)) := by
 have hb := hw.bars
 refine PCall.body Tryz.func58 rfl rfl Tryz.ntmps58 rfl rfl ?_
 repeat' (first | refine aoQ rfl rfl rfl (fun hg => by first | exact std0 | exact pcW (in_spec _ _ _) rfl rfl nd rfl nds | exact pcW (form_spec e) rfl rfl nd rfl nds) (by exact rfl) ?_ | refine sqW ?_ | refine rgK (fun K' hK => ?_) | (refine aoN (hK _ _ ?_); clear hK K') | refine aoE (bxW rfl rfl rfl rfl rfl tI rfl rfl ?_) | refine cdN rfl tI (fun hc => ?_) (fun hc => ?_) | refine blK ?_ | refine skW ?_ | refine rtW ?_)
 · refine ⟨.inr rfl, ?_⟩
   rw [show plR e vb vp = ⟨0, 0, false, 1⟩ from by unfold plR; rw [if_neg]; revert hc; cases formB e <;> cases inB vb 1 1000000 <;> cases inB vp 1 20000 <;> simp]
   exact fun _ _ h => h
 have hok := ok3 hc
 have hvp : 1 ≤ vp := by
  simp only [zA0] at hok
  have := hok.2
  simp [inB] at this; omega
 clear hc
 refine lpD (ι := Nat) (fun k => [(2, .ptr 0 0), (3, .ptr 1 0), (9, .int k)]) (fun _ => [.var (encE e), .var [.int vb, .int vp]]) (fun k => k ≤ e.bars.length ∧ ∀ j, j < k → plP vb vp (e.bars.getD j default) = false) (fun k => e.bars.length - k) 2 (fun _ => rfl) 0 ⟨nZl _, fun j h => absurd h (by omega)⟩ ⟨rfl, rfl, rfl, tI⟩ rfl (fun _ _ => rfl) (fun _ _ => rfl) ?_
 rintro k ⟨hk, hall⟩
 by_cases hlt : k < e.bars.length
 · obtain ⟨b, hb1⟩ : ∃ b, e.bars.getD k default = b := ⟨_, rfl⟩
   have hpb : plP vb vp b = !((b.bar != vb) || (b.pass != 0 && b.pass != vp)) := by
    unfold plP bne
    cases b.bar == vb <;> cases b.pass == 0 <;> cases b.pass == vp <;> rfl
   repeat' (first | refine aoQ rfl rfl rfl (fun hg => by first | exact std0 | exact std1) (by exact rfl) ?_ | refine sqW ?_ | refine rgK (fun K' hK => ?_) | (refine aoN (hK _ _ ?_); clear hK K') | refine aoE (stW tabOk rfl rfl rfl tI rfl rfl tI rfl rfl rfl rfl rfl rfl rfl ?_) | refine aoE (alW tabOk rfl rfl rfl rfl rfl rfl ?_) | refine cdN rfl tI (fun hc => ?_) (fun hc => ?_) | refine blK ?_ | refine exW ?_ | refine skW ?_ | refine rtW ?_ | refine dK2 (by decide +kernel) (by kernel_rfl) (by decide +kernel) rfl (fun K' hK => ?_) | (refine aqN (hK _ ?_); clear hK K') | refine aqQ rfl rfl (fun hg => by exact std0) (by exact rfl) ?_)
   all_goals (first | (exfalso; omega) | skip)
   · have h9 : ((e.bars.getD k default).bar != vb || ((e.bars.getD k default).pass != 0 && (e.bars.getD k default).pass != vp)) = true := hc
     rw [hb1] at h9
     rw [h9] at hpb
     refine ⟨k + 1, ⟨by omega, fun j hj => ?_⟩, by omega, ⟨rfl, rfl, rfl, tI⟩, rfl⟩
     rcases Nat.lt_succ_iff_lt_or_eq.1 hj with h | rfl
     · exact hall j h
     · rw [hb1]; exact hpb
   · rename_i hc1
     have h9 : ((e.bars.getD k default).bar != vb || ((e.bars.getD k default).pass != 0 && (e.bars.getD k default).pass != vp)) = false := hc1
     have h8 : ((e.bars.getD k default).pass != 0 || vp == 1) = true := hc
     rw [hb1] at h9 h8
     rw [h9] at hpb
     have e1 : plI e vb vp = (k : Int) := findI_at hlt (by rw [hb1]; exact hpb) fun j hj => hall j hj
     refine ⟨.inr rfl, ?_⟩
     rw [show plR e vb vp = ⟨(k : Int), 0, true, 0⟩ from by
      unfold plR
      rw [if_pos hok, if_neg (by omega), e1, zAa, hb1, if_neg]
      intro h
      simp at h h8
      rcases h8 with h8 | h8
      · exact h8 h.1
      · omega]
     exact fun _ _ h => h
   · rename_i hc1
     have h9 : ((e.bars.getD k default).bar != vb || ((e.bars.getD k default).pass != 0 && (e.bars.getD k default).pass != vp)) = false := hc1
     have h8 : ((e.bars.getD k default).pass != 0 || vp == 1) = false := hc
     rw [hb1] at h9 h8
     rw [h9] at hpb
     have e1 : plI e vb vp = (k : Int) := findI_at hlt (by rw [hb1]; exact hpb) fun j hj => hall j hj
     refine ⟨.inr rfl, ?_⟩
     rw [show plR e vb vp = ⟨(k : Int), vp, true, 0⟩ from by
      unfold plR
      rw [if_pos hok, if_neg (by omega), e1, zAa, hb1, if_pos]
      simp at h8 ⊢
      exact ⟨h8.1, by omega⟩]
     exact fun _ _ h => h
 · repeat' (first | refine aoQ rfl rfl rfl (fun hg => by first | exact std0 | exact std1) (by exact rfl) ?_ | refine sqW ?_ | refine rgK (fun K' hK => ?_) | (refine aoN (hK _ _ ?_); clear hK K') | refine aoE (stW tabOk rfl rfl rfl tI rfl rfl tI rfl rfl rfl rfl rfl rfl rfl ?_) | refine aoE (alW tabOk rfl rfl rfl rfl rfl rfl ?_) | refine cdN rfl tI (fun hc => ?_) (fun hc => ?_) | refine blK ?_ | refine exW ?_ | refine skW ?_ | refine rtW ?_ | refine dK2 (by decide +kernel) (by kernel_rfl) (by decide +kernel) rfl (fun K' hK => ?_) | (refine aqN (hK _ ?_); clear hK K') | refine aqQ rfl rfl (fun hg => by exact std0) (by exact rfl) ?_)
   all_goals (first | (exfalso; omega) | skip)
   have e1 : plI e vb vp = -1 := findI_no fun j hj => hall j (by omega)
   refine ⟨.inr rfl, ?_⟩
   rw [show plR e vb vp = ⟨0, 0, false, 0⟩ from by unfold plR; rw [if_pos hok, if_pos (by omega)]]
   exact fun _ _ h => h
theorem lk_letters (l : List Letter) (k : Nat) (h : k < l.length) (nm : ByteArray) : lk (lettersAL (l.take (k + 1))) nm = if (l.getD k default).name = nm then some (l.getD k default).pos else lk (lettersAL (l.take k)) nm := by
 rw [lettersAL_succ _ _ h, lk_ins']
theorem letters_all (l : List Letter) (hd : ∀ i, i < l.length → letterI l (l.getD i default).name = i) : ∀ k, k ≤ l.length → ∀ i, i < k → lk (lettersAL (l.take k)) (l.getD i default).name = some (l.getD i default).pos
 | 0, _, i, hi => by omega
 | k + 1, hk, i, hi => by
   rw [lk_letters l k (by omega)]
   by_cases h : (l.getD k default).name = (l.getD i default).name
   · have h1 := hd k (by omega)
     have h2 := hd i (by omega)
     rw [h] at h1
     have : i = k := by omega
     subst this
     rw [if_pos rfl]
   · rw [if_neg h]
     have hik : i < k := by
      rcases nLg i k with h' | h'
      · exact h'
      · exfalso; apply h; rw [show i = k by omega]
     exact letters_all l hd k (by omega) i hik
theorem lk_some {l : List Letter} {nm : ByteArray} {v : Int} : ∀ k, k ≤ l.length → lk (lettersAL (l.take k)) nm = some v → ∃ i, i < l.length ∧ (l.getD i default).name = nm
 | 0, _, h => by simp [lettersAL, lk] at h
 | k + 1, hk, h => by
   rw [lk_letters l k (by omega)] at h
   by_cases he : (l.getD k default).name = nm
   · exact ⟨k, by omega, he⟩
   · rw [if_neg he] at h; exact lk_some k (by omega) h
theorem letI_of {e : Edition} (h : formB e = true) {i : Nat} (hi : i < e.letters.length) : letterI e.letters (e.letters.getD i default).name = i := by
 unfold formB at h
 simp only [zA0, zA6] at h
 have := h.2 i (zAu.2 hi)
 unfold letOk at this
 simp only [zA0, beq_iff_eq] at this
 exact this.2
theorem letR_eq {e : Edition} {nm : ByteArray} (hf : formB e = true) (hn : nameB nm = true) : letR e nm = if letterI e.letters nm < 0 then (0, 4) else ((e.letters.getD (letterI e.letters nm).toNat default).pos, 0) := by
 unfold letR
 rw [if_pos (by rw [hf, hn]; rfl)]
 by_cases h : letterI e.letters nm < 0
 · rw [if_pos h]
   cases hl : lk (lettersAL e.letters) nm with
   | none => rfl
   | some v =>
     exfalso
     obtain ⟨i, hi, he⟩ := lk_some e.letters.length (nLr _) (by rw [zAi (nLr _)]; exact hl)
     have := letI_of hf hi
     rw [he] at this
     omega
 · rw [if_neg h]
   obtain ⟨k, h1, h2, h3, _⟩ := findI_lt (p := fun x : Letter => x.name.toList == nm.toList) (l := e.letters) (by show 0 ≤ letterI e.letters nm; omega)
   have h4 : letterI e.letters nm = k := h1
   have he := bytes_toList h3
   have := letters_all e.letters (fun i hi => letI_of hf hi) e.letters.length (nLr _) k h2
   rw [zAi (nLr _), he] at this
   rw [this, h4, zAa]
theorem letter11_spec (e : Edition) (hw : Wf e) (nm : ByteArray) : PCall Tryz.prog 102 [.agg (encE e), .str nm] (.tup [.int (letR e nm).1, .int (letR e nm).2]) := by
 have hl := hw.letters
 have h1 := letter_spec e.letters nm hl
 have hub := findI_ub (fun x : Letter => x.name.toList == nm.toList) e.letters
 have hub2 : letterI e.letters nm < e.letters.length := hub.2
 have he := @letR_eq e nm
 generalize letterI e.letters nm = a at *
 clear hub
 refine PCall.body Tryz.func102 rfl rfl Tryz.ntmps102 rfl rfl ?_
 repeat' (first | refine aoQ rfl rfl rfl (fun hg => by first | exact std0 | exact pcW (form_spec e) rfl rfl nd rfl nds | exact pcW (name_spec nm) rfl rfl nd rfl nds | exact pcW (h1) rfl rfl nd rfl nds | exact std1) (by exact rfl) ?_ | refine sqW ?_ | refine rgK (fun K' hK => ?_) | (refine aoN (hK _ _ ?_); clear hK K') | refine aoE (bxW rfl rfl rfl rfl rfl tI rfl rfl ?_) | refine cdN rfl tI (fun hc => ?_) (fun hc => ?_) | refine skW ?_ | refine rtW ?_)
 · refine ⟨.inr rfl, ?_⟩
   rw [show letR e nm = (0, 1) from by unfold letR; rw [if_neg]; revert hc; cases formB e <;> cases nameB nm <;> simp]
   exact fun _ _ h => h
 · rename_i hc0
   have hok := ok2 hc0
   simp only [zA0] at hok
   refine ⟨.inr rfl, ?_⟩
   rw [he hok.1 hok.2, if_pos hc]
   exact fun _ _ h => h
 · rename_i hc0
   have hok := ok2 hc0
   simp only [zA0] at hok
   refine ⟨.inr rfl, ?_⟩
   rw [he hok.1 hok.2, if_neg (by omega)]
   exact fun _ _ h => h
end Go.Proofs.YtdglbdfdkabjfaaGreatDoor.Ed
namespace Go.Proofs.YtdglbdfdkabjfaaGreatDoor.Pl
open Go.Ab Go.Pl
attribute [local irreducible] AWP AOps EStep AQ PStep PRun PCall TCall VCall
theorem need_err (x : Int) : PCall Tryz.prog 36 [.b (x == 0), .int x] (.prim (errV x)) := by
 by_cases h : x = 0
 · subst h
   refine PCall.body Tryz.func36 rfl rfl Tryz.ntmps36 rfl rfl ?_
   repeat' (first | refine aoQ rfl rfl rfl (fun hg => by exact std0) (by exact rfl) ?_ | refine sqW ?_ | refine rgK (fun K' hK => ?_) | (refine aoN (hK _ _ ?_); clear hK K') | (refine cdN rfl tI (fun hc => ?_) (fun hc => ?_) <;> try dsimp only at hc) | refine skW ?_ | refine rtW ?_)
   · exact ⟨.inr rfl, Ent.of rfl⟩
   · exact absurd hc (by decide)
 · have := need_spec (x == 0) x h
   rw [show (x == 0) = false by simpa using h] at this ⊢
   exact this
structure ChkV where
 k : FuncId
 caps : List AV
 res : Int
instance : Inhabited ChkV := ⟨⟨0, [], 0⟩⟩
def encChkV (c : ChkV) : List AV := [.fn (.func c.k) [] c.caps]
def firstV : List ChkV → Int
 | [] => 0
 | c :: l => if c.res = 0 then firstV l else c.res
theorem firstV_drop (l : List ChkV) : ∀ k, (∀ j, j < k → (l.getD j default).res = 0) → firstV l = firstV (l.drop k)
 | 0, _ => rfl
 | k + 1, h => by
   rw [firstV_drop l k fun j hj => h j (by omega)]
   rcases nLg k l.length with hk | hk
   · rw [drop_at hk]
     show (if _ then _ else _) = _
     rw [if_pos (h k (by omega))]
   · rw [zB9 hk, zB9 (by omega)]
abbrev rSt (l : List ChkV) (mo : List AV) (i : Int) : Store := [.dead, .dead, .dead, .dead, .var [.int 0, .int 0, .int 0, .int 0], .var mo, .var [.int i], .arr 1 0 (l.map encChkV)]
theorem first_T (l : List ChkV) (hl : l.length ≤ 1000000000) (M : Nat → List AV) (I : Nat → Int) (hok : ∀ k, (rSt l (M k) (I k)).all (okObj 8) = true)
 (hf : ∀ k, k < l.length → (∀ j, j < k → (l.getD j default).res = 0) → TCall Tryz.prog (l.getD k default).k (l.getD k default).caps (rSt l (M k) (I k)) (fun r s => r = .prim (errV (l.getD k default).res) ∧ s = rSt l (M (k + 1)) (I (k + 1)))) :
 TCall Tryz.prog 32 [.sla 7 1 0 l.length 0] (rSt l (M 0) (I 0)) (fun r s => r = .prim (errV (firstV l)) ∧ (firstV l = 0 → s = rSt l (M l.length) (I l.length)) ∧ ∃ k, s = rSt l (M k) (I k)) := by
 refine TCall.body Tryz.func32 rfl rfl Tryz.ntmps32 rfl rfl ?_
 repeat' (first | refine aoQ rfl rfl rfl (fun hg => by first | exact std0 | exact PRun.lenA tabOk rfl rfl nd rfl) (by exact rfl) ?_ | refine sqW ?_ | refine rgK (fun K' hK => ?_) | (refine aoN (hK _ _ ?_); clear hK K') | refine blK ?_)
 refine lpD (ι := Nat) (fun k => [(6, .sla 7 1 0 l.length 0), (7, .int l.length), (8, .int k)]) (fun k => rSt l (M k) (I k)) (fun k => k ≤ l.length ∧ ∀ j, j < k → (l.getD j default).res = 0) (fun k => l.length - k) 8 (fun _ => rfl) 0 ⟨nZl _, fun j h => absurd h (by omega)⟩ ⟨rfl, rfl, rfl, tI⟩ rfl (fun _ _ => rfl) (fun k _ => hok k) ?_
 rintro k ⟨hk, hall⟩
 by_cases hlt : k < l.length
 · have hv := TCall.val (first := []) (avs := []) (hf k hlt hall)
   have hne := err_ne (l.getD k default).res
   generalize hx : errV (l.getD k default).res = ev at *
   repeat' (first | refine aoQ rfl rfl rfl (fun hg => by first | exact std0 | exact PRun.indexA0 tabOk rfl rfl nd rfl nd rfl (by decide) rfl ⟨by omega, by omega⟩ | exact PRun.loadEM (f := encChkV) (xs := l) tabOk rfl rfl nd rfl (by omega) rfl rfl) (by exact rfl) ?_ | refine sqW ?_ | refine rgK (fun K' hK => ?_) | (refine aoN (hK _ _ ?_); clear hK K') | refine aoE (scT (hv) rfl rfl rfl rfl rfl nd rfl rfl nds ?_) | (refine cdN rfl tI (fun hc => ?_) (fun hc => ?_) <;> try dsimp only at hc) | refine blK ?_ | refine exW ?_ | refine skW ?_ | refine rtW ?_)
   all_goals first | (exfalso; omega) | skip
   rintro _ _ ⟨rfl, rfl⟩
   repeat' (first | refine aoQ rfl rfl rfl (fun hg => by first | exact std0 | exact PRun.nilIfaceN errI rfl rfl nd hne) (by exact rfl) ?_ | refine sqW ?_ | refine rgK (fun K' hK => ?_) | (refine aoN (hK _ _ ?_); clear hK K') | (refine cdN rfl tI (fun hc => ?_) (fun hc => ?_) <;> try dsimp only at hc) | refine skW ?_ | refine rtW ?_)
   · subst hx
     have hr : (l.getD k default).res ≠ 0 := by simpa using hc
     have e1 : firstV l = (l.getD k default).res := by
      rw [firstV_drop l k hall, drop_at hlt]
      show (if _ then _ else _) = _
      rw [if_neg hr]
     exact ⟨.inr rfl, _, _, ⟨by rw [e1], fun h => absurd (e1.symm.trans h) hr, k + 1, rfl⟩, rfl, nLr _, hok _, rfl, rfl⟩
   · exact ⟨k + 1, ⟨by omega, fun j hj => lt_succ_cases hall (by simpa using hc) hj⟩, by omega, ⟨rfl, rfl, rfl, tI⟩, rfl⟩
 · repeat' (first | refine aoQ rfl rfl rfl (fun hg => by exact std0) (by exact rfl) ?_ | refine sqW ?_ | refine rgK (fun K' hK => ?_) | (refine aoN (hK _ _ ?_); clear hK K') | (refine cdN rfl tI (fun hc => ?_) (fun hc => ?_) <;> try dsimp only at hc) | refine blK ?_ | refine exW ?_ | refine skW ?_ | refine rtW ?_)
   all_goals first | (exfalso; omega) | skip
   have e1 : firstV l = 0 := by rw [firstV_drop l k hall, zB9 (by omega)]; rfl
   have e2 : k = l.length := by omega
   subst e2
   exact ⟨.inr rfl, _, _, ⟨by rw [e1]; rfl, fun _ => rfl, _, rfl⟩, rfl, nLr _, hok _, rfl, rfl⟩
theorem re1_spec (s : Score) (hs : s.Small) (e : Ed.Edition) (hw : Ed.Wf e) (r : Room) (hf : FIn r.form) : PCall Tryz.prog 33 [.iptr (encS s), .iptr (Ed.encE e), .iptr (encRm r)] (.prim (errV (if rightB s e r then 0 else 1))) := by
 have h1 := right_spec s hs e hw r hf
 refine PCall.body Tryz.func33 rfl rfl Tryz.ntmps33 rfl rfl ?_
 repeat' (first | refine aoQ rfl rfl rfl (fun hg => by first | exact std0 | exact pcW (h1) rfl rfl nd rfl nds) (by exact rfl) ?_ | refine sqW ?_ | refine rgK (fun K' hK => ?_) | (refine aoN (hK _ _ ?_); clear hK K') | refine rtW ?_)
 exact ⟨.inr rfl, fun _ _ h => h⟩
theorem re2_spec (c : Call) (hs : c.letter.size ≤ 9223372036854775807) : PCall Tryz.prog 35 [.iptr (encCl c)] (.prim (errV (if callOk c then 0 else 1))) := by
 have h1 := cvalid_spec c hs
 have h4 := need_spec (callOk c) 1 (by decide)
 refine PCall.body Tryz.func35 rfl rfl Tryz.ntmps35 rfl rfl ?_
 repeat' (first | refine aoQ rfl rfl rfl (fun hg => by first | exact std0 | exact pcW (h1) rfl rfl nd rfl nds | exact pcW (h4) rfl rfl nd rfl nds) (by exact rfl) ?_ | refine sqW ?_ | refine rgK (fun K' hK => ?_) | (refine aoN (hK _ _ ?_); clear hK K') | refine rtW ?_)
 exact ⟨.inr rfl, fun _ _ h => h⟩
theorem form_len {e : Ed.Edition} (hf : Ed.formB e = true) : e.bars.length ≤ 4000 := by
 unfold Ed.formB Ed.headOk inB at hf
 simp only [zA0, dEt] at hf
 omega
theorem letR_in {e : Ed.Edition} (hf : Ed.formB e = true) (nm : ByteArray) : 0 ≤ (Ed.letR e nm).1 ∧ (Ed.letR e nm).1 ≤ 4000 := by
 have hlen := form_len hf
 by_cases hn : Ed.nameB nm = true
 · rw [Ed.letR_eq hf hn]
   split
   · exact ⟨zBh _, by decide⟩
   · rename_i h2
     obtain ⟨k, h1, h2, _, _⟩ := findI_lt (p := fun x : Ed.Letter => x.name.toList == nm.toList) (l := e.letters) (by show 0 ≤ Ed.letterI e.letters nm; omega)
     have e1 : Ed.letterI e.letters nm = k := h1
     rw [e1, zAa]
     have := letOk_at hf h2
     unfold Ed.letOk inB at this
     simp only [zA0, dEt] at this
     show 0 ≤ (e.letters.getD k default).pos ∧ (e.letters.getD k default).pos ≤ 4000
     omega
 · unfold Ed.letR
   rw [if_neg (by simp [hn])]
   exact ⟨zBh _, by decide⟩
theorem numR_in {e : Ed.Edition} (hf : Ed.formB e = true) (n : Int) : 0 ≤ (Ed.numR e n).1 ∧ (Ed.numR e n).1 ≤ 4000 := by
 have hlen := form_len hf
 unfold Ed.numR
 have hub := Ed.findI_ub (Ed.numP n) e.bars
 split
 · split
   · exact ⟨zBh _, by decide⟩
   · split
     · exact ⟨zBh _, by decide⟩
     · rename_i h1 _
       show 0 ≤ Ed.numI e n ∧ Ed.numI e n ≤ 4000
       have : Ed.numI e n < e.bars.length := hub.2
       omega
 · exact ⟨zBh _, by decide⟩
theorem re3_T (l : List ChkV) (e : Ed.Edition) (hw : Ed.Wf e) (hfm : Ed.formB e = true) (c : Call) (hs : c.letter.size ≤ 9223372036854775807) (hcb : -1000 ≤ c.bars ∧ c.bars ≤ 1000) (mo : List AV) (i0 : Int) (hok : ∀ i, (rSt l mo i).all (okObj 8) = true) :
 TCall Tryz.prog 37 [.iptr (encCl c), .iptr (Ed.encE e), .ptr 6 0] (rSt l mo i0) (fun r s => r = .prim (errV (named e c).2) ∧ s = rSt l mo ((named e c).1 + c.bars)) := by
 have hl := Ed.let_spec e hw c.letter hs
 have hn := Ed.number_spec e hw c.number
 have hin := letR_in hfm c.letter
 have hin2 := numR_in hfm c.number
 have h4 := need_err (named e c).2
 by_cases h0 : c.letter.size = 0
 · have e1 : named e c = Ed.numR e c.number := by unfold named; rw [if_neg (by simpa using h0)]
   rw [e1] at h4 ⊢
   have hz : c.letter = ⟨#[]⟩ := size0 h0
   refine TCall.body Tryz.func37 rfl rfl Tryz.ntmps37 rfl rfl ?_
   repeat' (first | refine aoQ rfl rfl rfl (fun hg => by first | exact std0 | exact pcW (hl) rfl rfl nd rfl nds | exact pcW (hn) rfl rfl nd rfl nds | exact pcW (h4) rfl rfl nd rfl nds) (by exact rfl) ?_ | refine sqW ?_ | refine rgK (fun K' hK => ?_) | (refine aoN (hK _ _ ?_); clear hK K') | refine aoE (stW tabOk rfl rfl rfl tI rfl rfl tI rfl rfl rfl rfl rfl rfl rfl ?_) | (refine cdN rfl tI (fun hc => ?_) (fun hc => ?_) <;> try dsimp only at hc) | refine rtW ?_)
   all_goals first | (exfalso; rw [emptyB] at hc; simp [h0] at hc; done) | skip
   exact ⟨.inr rfl, _, _, ⟨rfl, rfl⟩, rfl, nLr _, hok _, rfl, rfl⟩
 · have e1 : named e c = Ed.letR e c.letter := by unfold named; rw [if_pos (by simpa using h0)]
   rw [e1] at h4 ⊢
   refine TCall.body Tryz.func37 rfl rfl Tryz.ntmps37 rfl rfl ?_
   repeat' (first | refine aoQ rfl rfl rfl (fun hg => by first | exact std0 | exact pcW (hl) rfl rfl nd rfl nds | exact pcW (hn) rfl rfl nd rfl nds | exact pcW (h4) rfl rfl nd rfl nds) (by exact rfl) ?_ | refine sqW ?_ | refine rgK (fun K' hK => ?_) | (refine aoN (hK _ _ ?_); clear hK K') | refine aoE (stW tabOk rfl rfl rfl tI rfl rfl tI rfl rfl rfl rfl rfl rfl rfl ?_) | (refine cdN rfl tI (fun hc => ?_) (fun hc => ?_) <;> try dsimp only at hc) | refine rtW ?_)
   all_goals first | (exfalso; rw [emptyB] at hc; simp [h0] at hc; done) | skip
   exact ⟨.inr rfl, _, _, ⟨rfl, rfl⟩, rfl, nLr _, hok _, rfl, rfl⟩
theorem re4_T (l : List ChkV) (e : Ed.Edition) (hw : Ed.Wf e) (mo : List AV) (i : Int) (hok : (rSt l mo i).all (okObj 8) = true) :
 TCall Tryz.prog 40 [.ptr 6 0, .iptr (Ed.encE e)] (rSt l mo i) (fun r s => r = .prim (errV (if decide (0 ≤ i) && decide (i < (e.bars.length : Int)) then 0 else 21)) ∧ s = rSt l mo i) := by
 have hb := hw.bars
 have h4 := need_spec (decide (0 ≤ i) && decide (i < (e.bars.length : Int))) 21 (by decide)
 refine TCall.body Tryz.func40 rfl rfl Tryz.ntmps40 rfl rfl ?_
 repeat' (first | refine aoQ rfl rfl rfl (fun hg => by first | exact std0 | exact pcW (h4) rfl rfl nd rfl nds | exact std1) (by exact rfl) ?_ | refine sqW ?_ | refine rgK (fun K' hK => ?_) | (refine aoN (hK _ _ ?_); clear hK K') | refine rtW ?_)
 exact ⟨.inr rfl, _, _, ⟨rfl, rfl⟩, rfl, nLr _, hok, rfl, rfl⟩
theorem re5_T (l : List ChkV) (e : Ed.Edition) (hw : Ed.Wf e) (c : Call) (m0 : Mom) (i : Int) (hok : ∀ mo : Mom, (rSt l (encMo mo) i).all (okObj 8) = true) :
 TCall Tryz.prog 41 [.iptr (Ed.encE e), .ptr 6 0, .iptr (encCl c), .ptr 5 0] (rSt l (encMo m0) i) (fun r s => r = .prim (errV (Ed.viR e i c.pass).err) ∧ s = rSt l (encMo ⟨(Ed.viR e i c.pass).bar, (Ed.viR e i c.pass).pass, c.beat⟩) i) := by
 have hv := Ed.visit_spec e hw i c.pass
 have h4 := need_err (Ed.viR e i c.pass).err
 unfold Ed.encVi at hv
 generalize Ed.viR e i c.pass = v at *
 refine TCall.body Tryz.func41 rfl rfl Tryz.ntmps41 rfl rfl ?_
 repeat' (first | refine aoQ rfl rfl rfl (fun hg => by first | exact std0 | exact pcW (hv) rfl rfl nd rfl nds | exact pcW (h4) rfl rfl nd rfl nds | exact pbD tabOk rfl rfl nds) (by exact rfl) ?_ | refine sqW ?_ | refine rgK (fun K' hK => ?_) | (refine aoN (hK _ _ ?_); clear hK K') | refine aoE (stW tabOk rfl rfl rfl tI rfl rfl tI rfl rfl rfl rfl rfl rfl rfl ?_) | refine aoE (alW tabOk rfl rfl rfl rfl rfl rfl ?_) | refine rtW ?_)
 exact ⟨.inr rfl, _, _, ⟨rfl, rfl⟩, rfl, nLr _, hok ⟨v.bar, v.pass, c.beat⟩, rfl, rfl⟩
theorem re6_T (l : List ChkV) (s : Score) (hs : s.Small) (hsc : scoreOk s = true) (r : Room) (hf : FIn r.form) (hform : formOk r.form = true) (m : Mom) (i : Int) (hok : (rSt l (encMo m) i).all (okObj 8) = true) :
 TCall Tryz.prog 42 [.iptr (encS s), .iptr (encRm r), .ptr 5 0] (rSt l (encMo m) i) (fun rv st => rv = .prim (errV (reason s r m)) ∧ st = rSt l (encMo m) i) := by
 have h1 := inForce_spec s hs hsc r hf hform m
 refine TCall.body Tryz.func42 rfl rfl Tryz.ntmps42 rfl rfl ?_
 repeat' (first | refine aoQ rfl rfl rfl (fun hg => by first | exact std0 | exact pcW (h1) rfl rfl nd rfl nds) (by exact rfl) ?_ | refine sqW ?_ | refine rgK (fun K' hK => ?_) | (refine aoN (hK _ _ ?_); clear hK K') | refine rtW ?_)
 exact ⟨.inr rfl, _, _, ⟨rfl, rfl⟩, rfl, nLr _, hok, rfl, rfl⟩
def reL (s : Score) (e : Ed.Edition) (r : Room) (c : Call) : List ChkV := [
 ⟨33, [.iptr (encS s), .iptr (Ed.encE e), .iptr (encRm r)], if rightB s e r then 0 else 1⟩,
 ⟨35, [.iptr (encCl c)], if callOk c then 0 else 1⟩,
 ⟨37, [.iptr (encCl c), .iptr (Ed.encE e), .ptr 6 0], (named e c).2⟩,
 ⟨40, [.ptr 6 0, .iptr (Ed.encE e)], if decide (0 ≤ (named e c).1 + c.bars) && decide ((named e c).1 + c.bars < (e.bars.length : Int)) then 0 else 21⟩,
 ⟨41, [.iptr (Ed.encE e), .ptr 6 0, .iptr (encCl c), .ptr 5 0], (Ed.viR e ((named e c).1 + c.bars) c.pass).err⟩,
 ⟨42, [.iptr (encS s), .iptr (encRm r), .ptr 5 0], reason s r ⟨(Ed.viR e ((named e c).1 + c.bars) c.pass).bar, (Ed.viR e ((named e c).1 + c.bars) c.pass).pass, c.beat⟩⟩]
def reM (e : Ed.Edition) (c : Call) : Mom := ⟨(Ed.viR e ((named e c).1 + c.bars) c.pass).bar, (Ed.viR e ((named e c).1 + c.bars) c.pass).pass, c.beat⟩
theorem reL_first (s : Score) (e : Ed.Edition) (r : Room) (c : Call) : resolve s e r c = if firstV (reL s e r c) = 0 then (reM e c, 0) else (noMom, firstV (reL s e r c)) := by
 unfold resolve reL reM
 by_cases h1 : rightB s e r = true
 · by_cases h2 : callOk c = true
   · rw [h1, h2, if_neg (by decide)]
     by_cases h3 : (named e c).2 = 0
     · by_cases h4 : (decide (0 ≤ (named e c).1 + c.bars) && decide ((named e c).1 + c.bars < (e.bars.length : Int))) = true
       · by_cases h5 : (Ed.viR e ((named e c).1 + c.bars) c.pass).err = 0
         · simp only [firstV, h3, h4, h5]
           simp
           split <;> simp_all
         · simp only [firstV, h3, h4]
           simp [h5]
       · simp only [firstV, h3]
         simp [h4]
     · simp only [firstV]
       simp [h3]
   · simp [firstV, h1, h2]
 · simp [firstV, h1]
theorem rSt_ok (s : Score) (e : Ed.Edition) (r : Room) (c : Call) (m : Mom) (i : Int) : (rSt (reL s e r c) (encMo m) i).all (okObj 8) = true := rfl
theorem resolve_spec (s : Score) (hs : s.Small) (e : Ed.Edition) (hw : Ed.Wf e) (r : Room) (hf : FIn r.form) (c : Call) (hcl : c.letter.size ≤ 9223372036854775807) :
 PCall Tryz.prog 11 [.agg (encS s), .agg (Ed.encE e), .agg (encRm r), .agg (encCl c)] (.tup [.agg (encMo (resolve s e r c).1), .int (resolve s e r c).2]) := by
 have hfr := first_T (reL s e r c) (by show 6 ≤ 1000000000; decide) (fun k => if k ≤ 4 then encMo noMom else encMo (reM e c)) (fun k => if k ≤ 2 then 0 else (named e c).1 + c.bars) (fun k => by
  split
  · exact rSt_ok s e r c noMom _
  · exact rSt_ok s e r c (reM e c) _) (fun k hk hz => by
  have hz1 : 0 < k → rightB s e r = true := fun h => by
   have := hz 0 h
   cases hh : rightB s e r
   · have h2 : (if rightB s e r then (0 : Int) else 1) = 0 := this
     rw [hh] at h2; cases h2
   · rfl
  have hz2 : 1 < k → callOk c = true := fun h => by
   have := hz 1 h
   cases hh : callOk c
   · have h2 : (if callOk c then (0 : Int) else 1) = 0 := this
     rw [hh] at h2; cases h2
   · rfl
  match k, hk with
  | 0, _ => exact PCall.tcall (re1_spec s hs e hw r hf) (fun v hv => by
   rcases zB3.1 hv with rfl | hv
   · rfl
   rcases zB3.1 hv with rfl | hv
   · rfl
   rw [zAf.1 hv]; rfl)
  | 1, _ => exact PCall.tcall (re2_spec c hcl) (fun v hv => by rw [zAf.1 hv]; rfl)
  | 2, _ =>
    have h1 := hz1 (by omega)
    have h2 := hz2 (by omega)
    unfold rightB at h1
    unfold callOk inB at h2
    simp only [zA0, dEt] at h1 h2
    exact re3_T (reL s e r c) e hw h1.1.2 c hcl h2.1.2 (encMo noMom) 0 (fun i => rSt_ok s e r c noMom i)
  | 3, _ => exact re4_T (reL s e r c) e hw (encMo noMom) _ (rSt_ok s e r c noMom _)
  | 4, _ => exact re5_T (reL s e r c) e hw c noMom _ (fun mo => rSt_ok s e r c mo _)
  | 5, _ =>
    have h1 := hz1 (by omega)
    unfold rightB roomB at h1
    simp only [zA0] at h1
    exact re6_T (reL s e r c) s hs h1.1.1 r hf h1.2.2 (reM e c) _ (rSt_ok s e r c (reM e c) _))
 rw [reL_first]
 have hfr2 := TCall.val (first := []) (caps := []) (avs := [.sla 7 1 0 6 0]) hfr
 clear hfr
 by_cases hx : firstV (reL s e r c) = 0
 · rw [if_pos hx]
   rw [hx] at hfr2
   refine PCall.bodyS tabOk Tryz.func11 rfl rfl Tryz.ntmps11 rfl ?_
   repeat refine sqW ?_
   refine rgK (fun K' hK => ?_)
   repeat' (first | refine aoQ rfl rfl rfl (fun hg => by exact std0) (by exact rfl) ?_ | refine aoE (bxW rfl rfl rfl rfl rfl tI rfl rfl ?_) | refine aoE (alW tabOk rfl rfl rfl rfl rfl rfl ?_))
   refine aoN (hK _ _ ?_)
   clear hK K'
   repeat refine sqW ?_
   refine rgK (fun K' hK => ?_)
   repeat' (first | refine aoE (alW tabOk rfl rfl rfl rfl rfl rfl ?_))
   refine aoN (hK _ _ ?_)
   clear hK K'
   repeat refine sqW ?_
   refine rgK (fun K' hK => ?_)
   repeat' (first | refine aoE (alW tabOk rfl rfl rfl rfl rfl rfl ?_))
   refine aoN (hK _ _ ?_)
   clear hK K'
   refine AWP.keep [(4, .ptr 0 0), (5, .ptr 1 0), (6, .ptr 2 0), (7, .ptr 3 0), (8, .ptr 4 0), (10, .ptr 5 0), (11, .ptr 6 0)] ⟨rfl, rfl, rfl, rfl, rfl, rfl, rfl, tI⟩ ?_
   refine AWP.freezeV 0 rfl rfl ?_
   refine AWP.freezeV 1 rfl rfl ?_
   refine AWP.freezeV 2 rfl rfl ?_
   refine AWP.freezeV 3 rfl rfl ?_
   refine AWP.keep [(4, .iptr (encS s)), (5, .iptr (Ed.encE e)), (6, .iptr (encRm r)), (7, .iptr (encCl c)), (8, .ptr 4 0), (10, .ptr 5 0), (11, .ptr 6 0)] ⟨rfl, rfl, rfl, rfl, rfl, rfl, rfl, tI⟩ ?_
   repeat' (first | refine aoQ rfl rfl rfl (fun hg => by exact std0) (by exact rfl) ?_ | refine sqW ?_ | refine rgK (fun K' hK => ?_) | refine aoE (scT (hfr2) rfl rfl rfl rfl rfl nd rfl rfl nds ?_) | refine aoE (EStep.buildArr (sz := 1) (es := (reL s e r c).map encChkV) tabOk rfl rfl rfl rfl (by kernel_rfl) ⟨tI, tI, tI, tI, tI, tI, tI⟩ ?_))
   rintro _ st ⟨rfl, hz, _⟩
   have hst : st = rSt (reL s e r c) (encMo (reM e c)) ((named e c).1 + c.bars) := hz rfl
   subst hst
   have hne : ifaceNe (errV 0) = some false := rfl
   repeat' (first | refine aoQ rfl rfl rfl (fun hg => by first | exact std0 | exact PRun.nilIfaceN errI rfl rfl nd hne) (by exact rfl) ?_ | refine sqW ?_ | refine rgK (fun K' hK => ?_) | (refine aoN (hK _ _ ?_); clear hK K') | refine aoE (stW tabOk rfl rfl rfl tI rfl rfl tI rfl rfl rfl rfl rfl rfl rfl ?_) | (refine cdN rfl tI (fun hc => ?_) (fun hc => ?_) <;> try dsimp only at hc) | refine skW ?_ | refine rtW ?_)
   · exact absurd hc (by decide)
   · exact ⟨.inr rfl, _, rfl, Ent.of rfl⟩
 · rw [if_neg hx]
   have hne := err_ne (firstV (reL s e r c))
   rw [decide_eq_true hx] at hne
   have hcode := code_spec (firstV (reL s e r c))
   rw [show refuV (firstV (reL s e r c)) = errV (firstV (reL s e r c)) by unfold errV; rw [if_neg hx]] at hcode
   generalize hy : firstV (reL s e r c) = y at *
   generalize hev : errV y = ev at *
   refine PCall.bodyS tabOk Tryz.func11 rfl rfl Tryz.ntmps11 rfl ?_
   repeat refine sqW ?_
   refine rgK (fun K' hK => ?_)
   repeat' (first | refine aoQ rfl rfl rfl (fun hg => by exact std0) (by exact rfl) ?_ | refine aoE (bxW rfl rfl rfl rfl rfl tI rfl rfl ?_) | refine aoE (alW tabOk rfl rfl rfl rfl rfl rfl ?_))
   refine aoN (hK _ _ ?_)
   clear hK K'
   repeat refine sqW ?_
   refine rgK (fun K' hK => ?_)
   repeat' (first | refine aoE (alW tabOk rfl rfl rfl rfl rfl rfl ?_))
   refine aoN (hK _ _ ?_)
   clear hK K'
   repeat refine sqW ?_
   refine rgK (fun K' hK => ?_)
   repeat' (first | refine aoE (alW tabOk rfl rfl rfl rfl rfl rfl ?_))
   refine aoN (hK _ _ ?_)
   clear hK K'
   refine AWP.keep [(4, .ptr 0 0), (5, .ptr 1 0), (6, .ptr 2 0), (7, .ptr 3 0), (8, .ptr 4 0), (10, .ptr 5 0), (11, .ptr 6 0)] ⟨rfl, rfl, rfl, rfl, rfl, rfl, rfl, tI⟩ ?_
   refine AWP.freezeV 0 rfl rfl ?_
   refine AWP.freezeV 1 rfl rfl ?_
   refine AWP.freezeV 2 rfl rfl ?_
   refine AWP.freezeV 3 rfl rfl ?_
   refine AWP.keep [(4, .iptr (encS s)), (5, .iptr (Ed.encE e)), (6, .iptr (encRm r)), (7, .iptr (encCl c)), (8, .ptr 4 0), (10, .ptr 5 0), (11, .ptr 6 0)] ⟨rfl, rfl, rfl, rfl, rfl, rfl, rfl, tI⟩ ?_
   repeat' (first | refine aoQ rfl rfl rfl (fun hg => by exact std0) (by exact rfl) ?_ | refine sqW ?_ | refine rgK (fun K' hK => ?_) | refine aoE (scT (hfr2) rfl rfl rfl rfl rfl nd rfl rfl nds ?_) | refine aoE (EStep.buildArr (sz := 1) (es := (reL s e r c).map encChkV) tabOk rfl rfl rfl rfl (by kernel_rfl) ⟨tI, tI, tI, tI, tI, tI, tI⟩ ?_))
   rintro _ st ⟨rfl, _, k, rfl⟩
   generalize (if k ≤ 4 then encMo noMom else encMo (reM e c)) = mo
   generalize (if k ≤ 2 then (0 : Int) else (named e c).1 + c.bars) = i9
   repeat' (first | refine aoQ rfl rfl rfl (fun hg => by first | exact std0 | exact PRun.nilIfaceN errI rfl rfl nd hne | exact pbD tabOk rfl rfl nds | exact pcW (hcode) rfl rfl nd rfl nds) (by exact rfl) ?_ | refine sqW ?_ | refine rgK (fun K' hK => ?_) | (refine aoN (hK _ _ ?_); clear hK K') | refine aoE (stW tabOk rfl rfl rfl tI rfl rfl tI rfl rfl rfl rfl rfl rfl rfl ?_) | (refine cdN rfl tI (fun hc => ?_) (fun hc => ?_) <;> try dsimp only at hc) | refine skW ?_ | refine rtW ?_)
   · exact ⟨.inr rfl, _, rfl, Ent.of rfl⟩
   · exact absurd hc (by decide)
end Go.Proofs.YtdglbdfdkabjfaaGreatDoor.Pl
