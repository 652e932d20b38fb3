/- The law of other numbers by content: for every edition, number, place, pass and visit the function returns true. The row is joined in RowOther. -/
import Derived.Test.YtjjlckhdgnoopaaEdH
import Derived.Test.YtjjlckhdgnoopaaEdK
import Derived.Test.YtjjlckhdgnoopaaAb17
namespace Go.Proofs.Ytjjlckhdgnoopaa
open Go.Ab
attribute [local irreducible] AWP AOps EStep AQ PStep PRun PCall

theorem nilL_rel {M : Mem} {B : List GB} {a b c : AV} {x : Value} (h : VRel M B (.agg [a, b, c, .nils]) x) : VRel M B (.agg [a, b, c, .sl 2 [] .no]) x := by
  cases h with
  | agg _ vs hl h =>
    refine .agg _ _ hl fun i d hi => ?_
    match i, hi with
    | 0, hi => exact h 0 _ hi
    | 1, hi => exact h 1 _ hi
    | 2, hi => exact h 2 _ hi
    | 3, hi => exact (by simpa using hi : AV.sl 2 [] .no = d) ▸ nil_rel 2 (h 3 _ rfl)
    | i + 4, hi => simp at hi
/-- A contract over an edition without letters holds where the slice of letters is nil. -/
theorem noLetters {f : FuncId} {a b c : AV} {l : List AV} {r : AV} (h : PCall Try.prog f (.agg [a, b, c, .sl 2 [] .no] :: l) r) : PCall Try.prog f (.agg [a, b, c, .nils] :: l) r := by
  refine PCall.args h fun M vs h => ⟨h.1, fun i d hi => ?_⟩
  match i, hi with
  | 0, hi => exact (by simpa using hi : AV.agg [a, b, c, .sl 2 [] .no] = d) ▸ nilL_rel (h.2 0 _ rfl)
  | i + 1, hi => exact h.2 (i + 1) d hi

def nb (e : Edition) (by_ : Int) (i : Nat) : Printed :=
  { e.bars.getD i default with number := ((e.bars.getD i default).number * 7 + IntKind.i64.wrap by_ + i).tmod 100001 }
def newBars (e : Edition) (by_ : Int) (k : Nat) : List Printed := (List.range k).map (nb e by_)
def otherE (e : Edition) (by_ : Int) : Edition := ⟨1 + IntKind.i64.wrap by_, 2, newBars e by_ e.bars.length, []⟩
theorem newBars_succ (e : Edition) (by_ : Int) (k : Nat) : newBars e by_ (k + 1) = newBars e by_ k ++ [nb e by_ k] := by simp [newBars, List.range_succ]

theorem one1 (a b c : Int) : ∀ x ∈ [[AV.int a, AV.int b, AV.int c]], x.all oneAV = true := by
  intro x hx
  simp only [List.mem_singleton] at hx
  subst hx; rfl
theorem other_len (e : Edition) (b : Int) : (otherE e b).bars.length = e.bars.length := by simp [otherE, newBars]
theorem other_get (e : Edition) (b : Int) {i : Nat} (h : i < e.bars.length) : (otherE e b).bars.getD i default = nb e b i := by
  rw [getD_lt (by rw [other_len]; exact h)]
  simp [otherE, newBars]
theorem other_form {e : Edition} {b : Int} (hf : formB e = true) (h0 : 0 ≤ IntKind.i64.wrap b) (h1 : IntKind.i64.wrap b ≤ 65535) : formB (otherE e b) = true := by
  have hbo := fun x hx => bars_ok (b := x) hf hx
  unfold formB headOk at hf ⊢
  simp only [Bool.and_eq_true, inB_iff, decide_eq_true_eq] at hf ⊢
  obtain ⟨⟨⟨⟨⟨_, _⟩, hl⟩, _⟩, _⟩, _⟩ := hf
  refine ⟨⟨⟨⟨⟨?_, ?_⟩, ?_⟩, ?_⟩, ?_⟩, ?_⟩
  · show 1 ≤ 1 + IntKind.i64.wrap b ∧ 1 + IntKind.i64.wrap b ≤ 1000000
    omega
  · show (1 : Int) ≤ 2 ∧ (2 : Int) ≤ 1000000
    omega
  · rw [other_len]; exact hl
  · show (([] : List Letter).length : Int) ≤ 1000
    simp
  · rw [List.all_eq_true]
    intro x hx
    simp only [otherE, newBars, List.mem_map, List.mem_range] at hx
    obtain ⟨i, hi, rfl⟩ := hx
    have := hbo _ (getD_mem hi)
    simp only [barOk, Bool.and_eq_true, inB_iff] at this ⊢
    refine ⟨⟨?_, this.1.2⟩, this.2⟩
    have hp : 0 ≤ (e.bars.getD i default).number * 7 + IntKind.i64.wrap b + i := by omega
    have g1 := Int.tmod_nonneg 100001 hp
    have g2 := Int.tmod_lt_of_pos ((e.bars.getD i default).number * 7 + IntKind.i64.wrap b + i) (b := 100001) (by omega)
    show 0 ≤ Int.tmod _ _ ∧ Int.tmod _ _ ≤ 100000
    omega
  · rfl
theorem viR_other {e : Edition} {b i n : Int} (hf : formB e = true) (_hl : e.bars.length ≤ 80) (h0 : 0 ≤ IntKind.i64.wrap b) (h1 : IntKind.i64.wrap b ≤ 65535) : viR (otherE e b) i n = viR e i n := by
  by_cases hi : (inB i 0 ((e.bars.length : Int) - 1)) = true
  · have hi' := inB_iff.1 hi
    have hg := other_get e b (i := i.toNat) (by omega)
    unfold viR
    rw [other_len, other_form hf h0 h1, hf, hg]
    rfl
  · unfold viR
    rw [other_len, other_form hf h0 h1, hf, if_neg, if_neg] <;> simp [hi]
theorem plI_other (e : Edition) (b vb vp : Int) : plI (otherE e b) vb vp = plI e vb vp := by
  have hlen := other_len e b
  unfold plI
  rcases Int.lt_or_le (findI (plP vb vp) e.bars) 0 with h | h
  · rw [findI_neg.1 h]
    refine findI_no fun j hj => ?_
    rw [hlen] at hj
    rw [other_get e b hj]
    show plP vb vp (e.bars.getD j default) = false
    have h1 := findI_any (plP vb vp) e.bars
    have h2 : (!decide (findI (plP vb vp) e.bars ≥ 0)) = true := by simp; omega
    rw [h2] at h1
    simpa using List.all_eq_true.1 h1.symm _ (getD_mem hj)
  · obtain ⟨k, e1, hk, hp, hall⟩ := findI_lt h
    rw [e1]
    refine findI_at (by rw [hlen]; exact hk) ?_ fun j hj => ?_
    · rw [other_get e b hk]; exact hp
    · rw [other_get e b (by omega)]; exact hall j hj
theorem plR_other {e : Edition} {b vb vp : Int} (hf : formB e = true) (_hl : e.bars.length ≤ 80) (h0 : 0 ≤ IntKind.i64.wrap b) (h1 : IntKind.i64.wrap b ≤ 65535) : plR (otherE e b) vb vp = plR e vb vp := by
  unfold plR
  rw [other_form hf h0 h1, hf, plI_other]
  by_cases hn : plI e vb vp < 0
  · rw [if_pos hn, if_pos hn]
  · obtain ⟨k, e1, hk, _, _⟩ := findI_lt (p := plP vb vp) (l := e.bars) (by show 0 ≤ plI e vb vp; omega)
    have hk' : (plI e vb vp).toNat = k := by have : plI e vb vp = k := e1; omega
    rw [hk', other_get e b hk]
    rfl
theorem app_b1 {e : Edition} {b : Int} {k : Nat} (h : k ≤ 80) {es2 : List (List AV)} (h2 : es2.length = 1) : (((newBars e b k).map encP).length + es2.length) * 24 ≤ 140737488355328 := by
  rw [h2]; simp [newBars]; omega
theorem app_b2 {e : Edition} {b : Int} {k : Nat} (h : k ≤ 80) {es2 : List (List AV)} (h2 : es2.length = 1) : ((newBars e b k).map encP).length + es2.length ≤ 9223372036854775807 := by
  rw [h2]; simp [newBars]; omega
theorem otherWf (e : Edition) (b : Int) (h : e.bars.length ≤ 80) : Wf (otherE e b) := ⟨by simp [otherE, newBars]; omega, by simp [otherE], by simp [otherE]⟩
theorem other_law (e : Edition) (hw : Wf e) (b at_ pass vb vp : Int) (hb0 : 0 ≤ IntKind.i64.wrap b) (hb1 : IntKind.i64.wrap b ≤ 65535) : PCall Try.prog 7 [.agg (encE e), .prim (.int .u16 b), .int at_, .int pass, .agg [.int vb, .int vp]] (.b true) := by
  refine PCall.body Try.func7 rfl rfl Try.ntmps7 rfl rfl ?_
  have hb := hw.bars
  repeat' (first
    | refine AOps.q rfl rfl rfl (fun hg => by first | exact PRun.step tabOk rfl (by first | exact True.intro | exact ⟨True.intro, True.intro, True.intro⟩ | exact hg | exact ⟨True.intro, True.intro⟩ | exact ⟨hg, hg, True.intro⟩ | (repeat' (first | exact True.intro | exact hg | omega | decide | refine ⟨?_, ?_⟩ | (intro h; change (_ == _) = true; rw [h]; rfl) | (intro h; change (_ && (_ == _)) = true; rw [Bool.and_eq_true]; exact ⟨hg, by rw [h]; rfl⟩) | (exfalso; revert hg; simp [GG.holds]; done)))) | exact PRun.callW (head_spec) rfl rfl (by first | exact True.intro | exact hg) rfl (by first | exact True.intro | exact ⟨True.intro, True.intro⟩ | exact ⟨True.intro, True.intro, True.intro⟩ | (repeat' (first | exact True.intro | exact hg | refine ⟨?_, ?_⟩))) | exact PRun.callW (few_spec e) rfl rfl (by first | exact True.intro | exact hg) rfl (by first | exact True.intro | exact ⟨True.intro, True.intro⟩ | exact ⟨True.intro, True.intro, True.intro⟩ | (repeat' (first | exact True.intro | exact hg | refine ⟨?_, ?_⟩))) | exact PRun.callW (form_spec e) rfl rfl (by first | exact True.intro | exact hg) rfl (by first | exact True.intro | exact ⟨True.intro, True.intro⟩ | exact ⟨True.intro, True.intro, True.intro⟩ | (repeat' (first | exact True.intro | exact hg | refine ⟨?_, ?_⟩))) | exact PRun.buildW tabOk rfl rfl (by first | exact True.intro | exact ⟨True.intro, True.intro⟩ | exact ⟨True.intro, True.intro, True.intro⟩ | (repeat' (first | exact True.intro | exact hg | refine ⟨?_, ?_⟩))) | exact PRun.indexMW tabOk rfl rfl (by first | exact True.intro | exact hg) rfl (by first | exact True.intro | exact hg) rfl rfl (by omega) | exact PRun.lenM tabOk rfl rfl (by first | exact True.intro | exact hg) rfl | exact PRun.lenW tabOk rfl rfl (by first | exact True.intro | exact hg) rfl | exact PRun.binW rfl rfl (by first | exact True.intro | exact hg) rfl (by first | exact True.intro | exact hg) rfl | exact PRun.negWr rfl rfl (by first | exact True.intro | exact hg)) (by exact rfl) ?_
    | refine AWP.seq ?_
    | refine AWP.regionK (fun K' hK => ?_)
    | (refine AOps.nil (hK _ _ ?_); clear hK K')
    | refine AOps.e (EStep.boxW rfl rfl rfl rfl rfl True.intro rfl rfl ?_)
    | refine AOps.e (EStep.storeW tabOk rfl rfl rfl True.intro rfl rfl True.intro rfl rfl rfl rfl rfl rfl rfl ?_)
    | refine AOps.e (EStep.allocW tabOk rfl rfl rfl rfl rfl rfl ?_)
    | (refine AWP.condW rfl True.intro (fun hc => ?_) (fun hc => ?_) <;> (first | (simp only [decide_eq_true_eq] at hc) | (simp only [decide_eq_false_iff_not, Int.not_lt, Int.not_le] at hc) | skip))
    | refine AWP.block ?_
    | refine AWP.exit ?_
    | refine AWP.skip ?_
    | refine AWP.ret ?_
    | refine AWP.drawK (by kernel_rfl) (by decide +kernel) rfl (fun K' hK => ?_)
    | (refine AQ.nil (hK _ ?_); clear hK K')
    | refine AQ.q rfl rfl (fun hg => by first | exact PRun.step tabOk rfl (by first | exact True.intro | exact ⟨True.intro, True.intro, True.intro⟩ | exact hg | exact ⟨True.intro, True.intro⟩ | exact ⟨hg, hg, True.intro⟩ | (repeat' (first | exact True.intro | exact hg | omega | decide | refine ⟨?_, ?_⟩ | (intro h; change (_ == _) = true; rw [h]; rfl) | (intro h; change (_ && (_ == _)) = true; rw [Bool.and_eq_true]; exact ⟨hg, by rw [h]; rfl⟩) | (exfalso; revert hg; simp [GG.holds]; done)))) | exact PRun.callW (head_spec) rfl rfl (by first | exact True.intro | exact hg) rfl (by first | exact True.intro | exact ⟨True.intro, True.intro⟩ | exact ⟨True.intro, True.intro, True.intro⟩ | (repeat' (first | exact True.intro | exact hg | refine ⟨?_, ?_⟩))) | exact PRun.callW (few_spec e) rfl rfl (by first | exact True.intro | exact hg) rfl (by first | exact True.intro | exact ⟨True.intro, True.intro⟩ | exact ⟨True.intro, True.intro, True.intro⟩ | (repeat' (first | exact True.intro | exact hg | refine ⟨?_, ?_⟩))) | exact PRun.callW (form_spec e) rfl rfl (by first | exact True.intro | exact hg) rfl (by first | exact True.intro | exact ⟨True.intro, True.intro⟩ | exact ⟨True.intro, True.intro, True.intro⟩ | (repeat' (first | exact True.intro | exact hg | refine ⟨?_, ?_⟩))) | exact PRun.buildW tabOk rfl rfl (by first | exact True.intro | exact ⟨True.intro, True.intro⟩ | exact ⟨True.intro, True.intro, True.intro⟩ | (repeat' (first | exact True.intro | exact hg | refine ⟨?_, ?_⟩))) | exact PRun.indexMW tabOk rfl rfl (by first | exact True.intro | exact hg) rfl (by first | exact True.intro | exact hg) rfl rfl (by omega) | exact PRun.lenM tabOk rfl rfl (by first | exact True.intro | exact hg) rfl | exact PRun.lenW tabOk rfl rfl (by first | exact True.intro | exact hg) rfl | exact PRun.binW rfl rfl (by first | exact True.intro | exact hg) rfl (by first | exact True.intro | exact hg) rfl | exact PRun.negWr rfl rfl (by first | exact True.intro | exact hg)) (by exact rfl) ?_)
  · exact ⟨.inr rfl, fun _ _ h => h⟩
  have hf : formB e = true := by
    simp only [Bool.or_eq_false_iff, Bool.not_eq_false'] at hc
    exact hc.2
  have hlen : e.bars.length ≤ 80 := by
    simp only [Bool.or_eq_false_iff, Bool.not_eq_false', Bool.and_eq_true, decide_eq_true_eq] at hc
    omega
  clear hc
  refine AWP.ownNilV (v := 2) (i := 2) (sz := 3) rfl rfl ?_
  refine AWP.loopD (ι := Nat) (fun k => [(1, .prim (.int .u16 b)), (2, .int at_), (3, .int pass), (5, .ptr 0 0), (9, .ptr 1 0), (11, .b true), (12, .ptr 2 0), (42, .sl 3 (e.bars.map encP) .no), (43, .int e.bars.length), (44, .int k)])
    (fun k => [.var (encE e), .var [.int vb, .int vp], .var [.int (1 + IntKind.i64.wrap b), .int 2, .sl 3 ((newBars e b k).map encP) (.own 3), .nils], .own 3 ((newBars e b k).map encP).length])
    (fun k => k ≤ e.bars.length) (fun k => e.bars.length - k) 4 (fun _ => rfl) 0 (Nat.zero_le _) ⟨rfl, rfl, rfl, rfl, rfl, rfl, rfl, rfl, rfl, rfl, True.intro⟩ rfl (fun _ _ => rfl) (fun k _ => rfl) ?_
  intro k hk
  by_cases hlt : k < e.bars.length
  · have hbo := bars_ok hf (getD_mem hlt)
    simp only [barOk, Bool.and_eq_true, inB_iff] at hbo
    have hn : 0 ≤ (e.bars.getD ((k : Int)).toNat default).number ∧ (e.bars.getD ((k : Int)).toNat default).number ≤ 100000 := hbo.1.1
    have hk80 : k ≤ 80 := by omega
    repeat' (first
      | refine AOps.q rfl rfl rfl (fun hg => by first | exact PRun.step tabOk rfl (by first | exact True.intro | exact ⟨True.intro, True.intro, True.intro⟩ | exact hg | exact ⟨True.intro, True.intro⟩ | exact ⟨hg, hg, True.intro⟩ | (repeat' (first | exact True.intro | exact hg | omega | decide | refine ⟨?_, ?_⟩ | (intro h; change (_ == _) = true; rw [h]; rfl) | (intro h; change (_ && (_ == _)) = true; rw [Bool.and_eq_true]; exact ⟨hg, by rw [h]; rfl⟩) | (exfalso; revert hg; simp [GG.holds]; done)))) | exact PRun.buildW tabOk rfl rfl (by first | exact True.intro | exact ⟨True.intro, True.intro⟩ | exact ⟨True.intro, True.intro, True.intro⟩ | (repeat' (first | exact True.intro | exact hg | refine ⟨?_, ?_⟩))) | exact PRun.buildSlW tabOk rfl rfl (by first | exact True.intro | exact ⟨True.intro, True.intro⟩ | exact ⟨True.intro, True.intro, True.intro⟩ | (repeat' (first | exact True.intro | exact hg | refine ⟨?_, ?_⟩))) | exact PRun.indexMW tabOk rfl rfl (by first | exact True.intro | exact hg) rfl (by first | exact True.intro | exact hg) rfl rfl (by omega) | exact PRun.lenM tabOk rfl rfl (by first | exact True.intro | exact hg) rfl | exact PRun.lenW tabOk rfl rfl (by first | exact True.intro | exact hg) rfl | exact PRun.binW rfl rfl (by first | exact True.intro | exact hg) rfl (by first | exact True.intro | exact hg) rfl | exact PRun.negWr rfl rfl (by first | exact True.intro | exact hg)) (by exact rfl) ?_
      | refine AWP.seq ?_
      | refine AWP.regionK (fun K' hK => ?_)
      | (refine AOps.nil (hK _ _ ?_); clear hK K')
      | refine AOps.e (EStep.boxW rfl rfl rfl rfl rfl True.intro rfl rfl ?_)
      | refine AOps.e (EStep.storeW tabOk rfl rfl rfl True.intro rfl rfl True.intro rfl rfl rfl rfl rfl rfl rfl ?_)
      | refine AOps.e (EStep.allocW tabOk rfl rfl rfl rfl rfl rfl ?_)
      | refine AOps.e (EStep.appendOwn tabOk rfl rfl rfl (by decide) (Rd.w rfl True.intro) rfl (Rd.w rfl True.intro) (.sl rfl (one1 _ _ _)) (LOk.of (tabOk.get rfl)) (LOk.of (tabOk.get rfl)) rfl rfl (app_b1 hk80 rfl) (app_b2 hk80 rfl) ?_)
      | (refine AWP.condW rfl True.intro (fun hc => ?_) (fun hc => ?_) <;> (first | (simp only [decide_eq_true_eq] at hc) | (simp only [decide_eq_false_iff_not, Int.not_lt, Int.not_le] at hc) | skip))
      | refine AWP.block ?_
      | refine AWP.exit ?_
      | refine AWP.skip ?_
      | refine AWP.ret ?_
      | refine AWP.drawK (by kernel_rfl) (by decide +kernel) rfl (fun K' hK => ?_)
      | (refine AQ.nil (hK _ ?_); clear hK K')
      | refine AQ.q rfl rfl (fun hg => by first | exact PRun.step tabOk rfl (by first | exact True.intro | exact ⟨True.intro, True.intro, True.intro⟩ | exact hg | exact ⟨True.intro, True.intro⟩ | exact ⟨hg, hg, True.intro⟩ | (repeat' (first | exact True.intro | exact hg | omega | decide | refine ⟨?_, ?_⟩ | (intro h; change (_ == _) = true; rw [h]; rfl) | (intro h; change (_ && (_ == _)) = true; rw [Bool.and_eq_true]; exact ⟨hg, by rw [h]; rfl⟩) | (exfalso; revert hg; simp [GG.holds]; done)))) | exact PRun.buildW tabOk rfl rfl (by first | exact True.intro | exact ⟨True.intro, True.intro⟩ | exact ⟨True.intro, True.intro, True.intro⟩ | (repeat' (first | exact True.intro | exact hg | refine ⟨?_, ?_⟩))) | exact PRun.buildSlW tabOk rfl rfl (by first | exact True.intro | exact ⟨True.intro, True.intro⟩ | exact ⟨True.intro, True.intro, True.intro⟩ | (repeat' (first | exact True.intro | exact hg | refine ⟨?_, ?_⟩))) | exact PRun.indexMW tabOk rfl rfl (by first | exact True.intro | exact hg) rfl (by first | exact True.intro | exact hg) rfl rfl (by omega) | exact PRun.lenM tabOk rfl rfl (by first | exact True.intro | exact hg) rfl | exact PRun.lenW tabOk rfl rfl (by first | exact True.intro | exact hg) rfl | exact PRun.binW rfl rfl (by first | exact True.intro | exact hg) rfl (by first | exact True.intro | exact hg) rfl | exact PRun.negWr rfl rfl (by first | exact True.intro | exact hg)) (by exact rfl) ?_)
    · refine ⟨k + 1, by omega, by omega, ⟨rfl, rfl, rfl, rfl, rfl, rfl, rfl, rfl, rfl, rfl, True.intro⟩, ?_⟩
      rw [newBars_succ, List.map_append, List.length_append]
      rfl
    · exfalso; omega
  · have hke : k = e.bars.length := by omega
    subst hke
    have hv : ∀ i n, PCall Try.prog 14 [.agg [.int (1 + IntKind.i64.wrap b), .int 2, .sl 3 ((newBars e b e.bars.length).map encP) .no, .nils], .int i, .int n] (encVi (viR (otherE e b) i n)) := fun i n => noLetters (visit_spec (otherE e b) (otherWf e b hlen) i n)
    have hp : PCall Try.prog 13 [.agg [.int (1 + IntKind.i64.wrap b), .int 2, .sl 3 ((newBars e b e.bars.length).map encP) .no, .nils], .agg [.int vb, .int vp]] (encPl (plR (otherE e b) vb vp)) := noLetters (place_spec (otherE e b) (otherWf e b hlen) vb vp)
    repeat' (first
      | refine AOps.q rfl rfl rfl (fun hg => by first | exact PRun.step tabOk rfl (by first | exact True.intro | exact ⟨True.intro, True.intro, True.intro⟩ | exact hg | exact ⟨True.intro, True.intro⟩ | exact ⟨hg, hg, True.intro⟩ | (repeat' (first | exact True.intro | exact hg | omega | decide | refine ⟨?_, ?_⟩ | (intro h; change (_ == _) = true; rw [h]; rfl) | (intro h; change (_ && (_ == _)) = true; rw [Bool.and_eq_true]; exact ⟨hg, by rw [h]; rfl⟩) | (exfalso; revert hg; simp [GG.holds]; done)))) | exact PRun.callW (visit_spec e hw _ _) rfl rfl (by first | exact True.intro | exact hg) rfl (by first | exact True.intro | exact ⟨True.intro, True.intro⟩ | exact ⟨True.intro, True.intro, True.intro⟩ | (repeat' (first | exact True.intro | exact hg | refine ⟨?_, ?_⟩))) | exact PRun.callW (place_spec e hw vb vp) rfl rfl (by first | exact True.intro | exact hg) rfl (by first | exact True.intro | exact ⟨True.intro, True.intro⟩ | exact ⟨True.intro, True.intro, True.intro⟩ | (repeat' (first | exact True.intro | exact hg | refine ⟨?_, ?_⟩))) | exact PRun.callBW (hv _ _) rfl rfl (by first | exact True.intro | exact hg) rfl rfl (by first | exact True.intro | exact ⟨True.intro, True.intro⟩ | exact ⟨True.intro, True.intro, True.intro⟩ | (repeat' (first | exact True.intro | exact hg | refine ⟨?_, ?_⟩))) | exact PRun.callBW (hp) rfl rfl (by first | exact True.intro | exact hg) rfl rfl (by first | exact True.intro | exact ⟨True.intro, True.intro⟩ | exact ⟨True.intro, True.intro, True.intro⟩ | (repeat' (first | exact True.intro | exact hg | refine ⟨?_, ?_⟩))) | exact PRun.eqS fl39 rfl rfl (by first | exact True.intro | exact hg) rfl (by first | exact True.intro | exact hg) rfl | exact PRun.indexMW tabOk rfl rfl (by first | exact True.intro | exact hg) rfl (by first | exact True.intro | exact hg) rfl rfl (by omega) | exact PRun.lenM tabOk rfl rfl (by first | exact True.intro | exact hg) rfl | exact PRun.lenW tabOk rfl rfl (by first | exact True.intro | exact hg) rfl | exact PRun.binW rfl rfl (by first | exact True.intro | exact hg) rfl (by first | exact True.intro | exact hg) rfl | exact PRun.negWr rfl rfl (by first | exact True.intro | exact hg)) (by exact rfl) ?_
      | refine AWP.seq ?_
      | refine AWP.regionK (fun K' hK => ?_)
      | (refine AOps.nil (hK _ _ ?_); clear hK K')
      | refine AOps.e (EStep.boxW rfl rfl rfl rfl rfl True.intro rfl rfl ?_)
      | refine AOps.e (EStep.storeW tabOk rfl rfl rfl True.intro rfl rfl True.intro rfl rfl rfl rfl rfl rfl rfl ?_)
      | refine AOps.e (EStep.allocW tabOk rfl rfl rfl rfl rfl rfl ?_)
      | (refine AWP.condW rfl True.intro (fun hc => ?_) (fun hc => ?_) <;> (first | (simp only [decide_eq_true_eq] at hc) | (simp only [decide_eq_false_iff_not, Int.not_lt, Int.not_le] at hc) | skip))
      | refine AWP.block ?_
      | refine AWP.exit ?_
      | refine AWP.skip ?_
      | refine AWP.ret ?_
      | refine AWP.drawK (by kernel_rfl) (by decide +kernel) rfl (fun K' hK => ?_)
      | (refine AQ.nil (hK _ ?_); clear hK K')
      | refine AQ.q rfl rfl (fun hg => by first | exact PRun.step tabOk rfl (by first | exact True.intro | exact ⟨True.intro, True.intro, True.intro⟩ | exact hg | exact ⟨True.intro, True.intro⟩ | exact ⟨hg, hg, True.intro⟩ | (repeat' (first | exact True.intro | exact hg | omega | decide | refine ⟨?_, ?_⟩ | (intro h; change (_ == _) = true; rw [h]; rfl) | (intro h; change (_ && (_ == _)) = true; rw [Bool.and_eq_true]; exact ⟨hg, by rw [h]; rfl⟩) | (exfalso; revert hg; simp [GG.holds]; done)))) | exact PRun.callW (visit_spec e hw _ _) rfl rfl (by first | exact True.intro | exact hg) rfl (by first | exact True.intro | exact ⟨True.intro, True.intro⟩ | exact ⟨True.intro, True.intro, True.intro⟩ | (repeat' (first | exact True.intro | exact hg | refine ⟨?_, ?_⟩))) | exact PRun.callW (place_spec e hw vb vp) rfl rfl (by first | exact True.intro | exact hg) rfl (by first | exact True.intro | exact ⟨True.intro, True.intro⟩ | exact ⟨True.intro, True.intro, True.intro⟩ | (repeat' (first | exact True.intro | exact hg | refine ⟨?_, ?_⟩))) | exact PRun.callBW (hv _ _) rfl rfl (by first | exact True.intro | exact hg) rfl rfl (by first | exact True.intro | exact ⟨True.intro, True.intro⟩ | exact ⟨True.intro, True.intro, True.intro⟩ | (repeat' (first | exact True.intro | exact hg | refine ⟨?_, ?_⟩))) | exact PRun.callBW (hp) rfl rfl (by first | exact True.intro | exact hg) rfl rfl (by first | exact True.intro | exact ⟨True.intro, True.intro⟩ | exact ⟨True.intro, True.intro, True.intro⟩ | (repeat' (first | exact True.intro | exact hg | refine ⟨?_, ?_⟩))) | exact PRun.eqS fl39 rfl rfl (by first | exact True.intro | exact hg) rfl (by first | exact True.intro | exact hg) rfl | exact PRun.indexMW tabOk rfl rfl (by first | exact True.intro | exact hg) rfl (by first | exact True.intro | exact hg) rfl rfl (by omega) | exact PRun.lenM tabOk rfl rfl (by first | exact True.intro | exact hg) rfl | exact PRun.lenW tabOk rfl rfl (by first | exact True.intro | exact hg) rfl | exact PRun.binW rfl rfl (by first | exact True.intro | exact hg) rfl (by first | exact True.intro | exact hg) rfl | exact PRun.negWr rfl rfl (by first | exact True.intro | exact hg)) (by exact rfl) ?_)
    · exfalso; omega
    · refine ⟨.inr rfl, fun M x h => ?_⟩
      have h' : VRel M [] (.b ((((viR e at_ pass).bar == (viR (otherE e b) at_ pass).bar) && (((viR e at_ pass).pass == (viR (otherE e b) at_ pass).pass) && true)) && ((viR e at_ pass).err == (viR (otherE e b) at_ pass).err) && ((plR e vb vp).pos == (plR (otherE e b) vb vp).pos) &&
        ((plR e vb vp).pass == (plR (otherE e b) vb vp).pass) && ((plR e vb vp).ok == (plR (otherE e b) vb vp).ok) && ((plR e vb vp).err == (plR (otherE e b) vb vp).err))) x := h
      rw [viR_other hf hlen hb0 hb1, plR_other hf hlen hb0 hb1] at h'
      simpa using h'
end Go.Proofs.Ytjjlckhdgnoopaa
