/- Contracts by content: covers; plain facts for the laws. No statement is proved here. -/
import Derived.Test.YtnmdmmfdnnmdfaaDoorNJ
set_option linter.unusedVariables false
set_option linter.unusedSimpArgs false
namespace Go.Proofs.YtnmdmmfdnnmdfaaDoor.Nt
open Go.Ab
attribute [local irreducible] AWP AOps EStep AQ PStep PRun PCall TCall VCall

theorem ratQ_nat (m : Nat) : ratQ (m : Int) = ⟨((m / Nat.gcd m 1680 : Nat) : Int), ((1680 / Nat.gcd m 1680 : Nat) : Int)⟩ := by
  have e : redG (m : Int) 1680 = ((Nat.gcd m 1680 : Nat) : Int) := rfl
  unfold ratQ
  rw [e]
  congr 1
theorem ticksQ {n : Int} (h : 0 ≤ n ∧ n ≤ 1000000) : durOk (ratQ n) = true ∧ ticksV (ratQ n) = n := by
  obtain ⟨m, rfl⟩ := Int.eq_ofNat_of_zero_le h.1
  rw [ratQ_nat]
  have hg : 0 < Nat.gcd m 1680 := Nat.gcd_pos_of_pos_right _ (by decide)
  have h1 : Nat.gcd m 1680 ∣ m := Nat.gcd_dvd_left _ _
  have h2 : Nat.gcd m 1680 ∣ 1680 := Nat.gcd_dvd_right _ _
  have h3 : Nat.gcd (m / Nat.gcd m 1680) (1680 / Nat.gcd m 1680) = 1 := Nat.gcd_div_gcd_div_gcd_of_pos_right (by decide)
  have hle : Nat.gcd m 1680 ≤ 1680 := Nat.le_of_dvd (by decide) h2
  have d1 : 1 ≤ 1680 / Nat.gcd m 1680 := (Nat.one_le_div_iff hg).2 hle
  have d2 : 1680 / Nat.gcd m 1680 ≤ 1680 := Nat.div_le_self _ _
  have d3 : m / Nat.gcd m 1680 ≤ m := Nat.div_le_self _ _
  have d4 : 1680 / (1680 / Nat.gcd m 1680) = Nat.gcd m 1680 := Nat.div_div_self h2 (by decide)
  have d5 : m / Nat.gcd m 1680 * Nat.gcd m 1680 = m := Nat.div_mul_cancel h1
  have d6 : 1680 % (1680 / Nat.gcd m 1680) = 0 := Nat.mod_eq_zero_of_dvd (Nat.div_dvd_of_dvd h2)
  generalize m / Nat.gcd m 1680 = a at *
  generalize 1680 / Nat.gcd m 1680 = b at *
  constructor
  · unfold durOk ratOk
    simp only [Bool.and_eq_true, decide_eq_true_eq, beq_iff_eq]
    refine ⟨⟨⟨⟨⟨⟨by omega, by omega⟩, by omega⟩, by omega⟩, ?_⟩, by omega⟩, ?_⟩
    · show Int.gcd (a : Int) (b : Int) = 1
      rw [Int.gcd_natCast_natCast]; exact h3
    · show Int.tmod ((1680 : Nat) : Int) (b : Int) = 0
      rw [← Int.ofNat_tmod, d6]; rfl
  · unfold ticksV
    show (a : Int) * Int.tdiv ((1680 : Nat) : Int) (b : Int) = m
    rw [← Int.ofNat_tdiv, d4, ← Int.natCast_mul, d5]
theorem tickQ {n : Int} (h : 0 ≤ n ∧ n ≤ 1000000) : PCall Tryd.prog 31 [.agg (encR (ratQ n))] (.int n) := by
  have := ticks6_spec (ratQ n)
  obtain ⟨h1, h2⟩ := ticksQ h
  rwa [show ticksX (ratQ n) = n from by unfold ticksX; rw [if_pos h1, h2]] at this
theorem ratQ_inj {m n : Int} (hm : 0 ≤ m ∧ m ≤ 1000000) (hn : 0 ≤ n ∧ n ≤ 1000000) (h : ratQ m = ratQ n) : m = n := by
  rw [← (ticksQ hm).2, h, (ticksQ hn).2]
set_option maxHeartbeats 1000000 in
theorem covers_spec (xs : List Iv) (hs : Small xs) (hl : xs.length ≤ 1000000) (t : Int) : PCall Tryd.prog 32 [.sl 4 (xs.map encQ) .no, .int t] (.b (cov xs t)) := by
  refine PCall.body Tryd.func32 rfl rfl Tryd.ntmps32 rfl rfl ?_
  repeat' (first | refine AOps.q rfl rfl rfl (fun hg => by first | exact std0 | exact std1) (by exact rfl) ?_ | refine AWP.seq ?_ | refine AWP.regionK (fun K' hK => ?_) | (refine AOps.nil (hK _ _ ?_); clear hK K') | refine AOps.e (EStep.boxW rfl rfl rfl rfl rfl True.intro rfl rfl ?_) | refine AOps.e (EStep.storeW tabOk rfl rfl rfl True.intro rfl rfl True.intro rfl rfl rfl rfl rfl rfl rfl ?_) | refine AOps.e (EStep.allocW tabOk rfl rfl rfl rfl rfl rfl ?_) | (refine AWP.condW rfl True.intro (fun hc => ?_) (fun hc => ?_) <;> (first | (simp only [decide_eq_true_eq] at hc) | (simp only [decide_eq_false_iff_not, Int.not_lt, Int.not_le] at hc) | skip)) | refine AWP.block ?_ | refine AWP.exit ?_ | refine AWP.skip ?_ | refine AWP.ret ?_ | refine AWP.drawK2 (by decide +kernel) (by kernel_rfl) (by decide +kernel) rfl (fun K' hK => ?_) | refine AWP.drawL2 (by kernel_rfl) (by decide +kernel) rfl (fun K' hK => ?_) | (refine AQ.nil (hK _ ?_); clear hK K') | refine AQ.nil ?_ | refine AQ.q rfl rfl (fun hg => by first | exact std0 | exact std1) (by exact rfl) ?_)
  refine AWP.loopD (ι := Nat) (fun k => [(1, .int t), (7, .sl 4 (xs.map encQ) .no), (8, .int xs.length), (9, .int k)]) (fun _ => []) (fun k => k ≤ xs.length ∧ ∀ j, j < k → (decide ((xs.getD j default).1 ≤ t) && decide (t < (xs.getD j default).2)) = false) (fun k => xs.length - k) 0 (fun _ => rfl) 0 ⟨Nat.zero_le _, fun j h => absurd h (by omega)⟩ ⟨rfl, rfl, rfl, rfl, True.intro⟩ rfl (fun _ _ => rfl) (fun _ _ => rfl) ?_
  rintro k ⟨hk, hall⟩
  by_cases hlt : k < xs.length
  · obtain ⟨x, hx⟩ : ∃ x, xs.getD k default = x := ⟨_, rfl⟩
    obtain ⟨x1, x2⟩ := hs x (by rw [← hx]; exact getD_mem hlt)
    have c1 := tickQ x1
    have c2 := tickQ x2
    repeat' (first | refine AOps.q rfl rfl rfl (fun hg => by first | exact PRun.eq (v := .iptr (encQ (xs.getD ((k : Nat) : Int).toNat default))) (PRun.indexMW tabOk rfl rfl nd rfl nd rfl rfl (by omega)) (congrArg (fun x => AV.iptr (encQ x)) hx) | exact std0 | exact PRun.indexPA tabOk rfl rfl nd rfl nd rfl rfl ⟨by decide, by decide⟩ | exact PRun.callW (c1) rfl rfl nd rfl nds | exact PRun.callW (c2) rfl rfl nd rfl nds | exact std1) (by exact rfl) ?_ | refine AWP.seq ?_ | refine AWP.regionK (fun K' hK => ?_) | (refine AOps.nil (hK _ _ ?_); clear hK K') | refine AOps.e (EStep.boxW rfl rfl rfl rfl rfl True.intro rfl rfl ?_) | refine AOps.e (EStep.storeW tabOk rfl rfl rfl True.intro rfl rfl True.intro rfl rfl rfl rfl rfl rfl rfl ?_) | refine AOps.e (EStep.allocW tabOk rfl rfl rfl rfl rfl rfl ?_) | (refine AWP.condW rfl True.intro (fun hc => ?_) (fun hc => ?_) <;> (first | (simp only [decide_eq_true_eq] at hc) | (simp only [decide_eq_false_iff_not, Int.not_lt, Int.not_le] at hc) | skip)) | refine AWP.block ?_ | refine AWP.exit ?_ | refine AWP.skip ?_ | refine AWP.ret ?_ | refine AWP.drawK2 (by decide +kernel) (by kernel_rfl) (by decide +kernel) rfl (fun K' hK => ?_) | refine AWP.drawL2 (by kernel_rfl) (by decide +kernel) rfl (fun K' hK => ?_) | (refine AQ.nil (hK _ ?_); clear hK K') | refine AQ.nil ?_ | refine AQ.q rfl rfl (fun hg => by first | exact PRun.eq (v := .iptr (encQ (xs.getD ((k : Nat) : Int).toNat default))) (PRun.indexMW tabOk rfl rfl nd rfl nd rfl rfl (by omega)) (congrArg (fun x => AV.iptr (encQ x)) hx) | exact std0 | exact PRun.indexPA tabOk rfl rfl nd rfl nd rfl rfl ⟨by decide, by decide⟩ | exact PRun.callW (c1) rfl rfl nd rfl nds | exact PRun.callW (c2) rfl rfl nd rfl nds | exact std1) (by exact rfl) ?_)
    all_goals (first | (exfalso; omega) | (exfalso; simp at hc; omega) | skip)
    · refine ⟨.inr rfl, Ent.b (Eq.symm ?_)⟩
      have h : (decide (x.1 ≤ t) && decide (t < x.2)) = true := hc
      exact List.any_eq_true.2 ⟨x, by rw [← hx]; exact getD_mem hlt, h⟩
    · have h : (decide (x.1 ≤ t) && decide (t < x.2)) = false := hc
      exact ⟨k + 1, ⟨hlt, fun j hj => by
        rcases Nat.lt_or_ge j k with h1 | h1
        · exact hall j h1
        · have : j = k := by omega
          subst this; rw [hx]; exact h⟩, by omega, ⟨rfl, rfl, rfl, rfl, True.intro⟩, rfl⟩
  · repeat' (first | refine AOps.q rfl rfl rfl (fun hg => by first | exact std0 | exact std1) (by exact rfl) ?_ | refine AWP.seq ?_ | refine AWP.regionK (fun K' hK => ?_) | (refine AOps.nil (hK _ _ ?_); clear hK K') | refine AOps.e (EStep.boxW rfl rfl rfl rfl rfl True.intro rfl rfl ?_) | refine AOps.e (EStep.storeW tabOk rfl rfl rfl True.intro rfl rfl True.intro rfl rfl rfl rfl rfl rfl rfl ?_) | refine AOps.e (EStep.allocW tabOk rfl rfl rfl rfl rfl rfl ?_) | (refine AWP.condW rfl True.intro (fun hc => ?_) (fun hc => ?_) <;> (first | (simp only [decide_eq_true_eq] at hc) | (simp only [decide_eq_false_iff_not, Int.not_lt, Int.not_le] at hc) | skip)) | refine AWP.block ?_ | refine AWP.exit ?_ | refine AWP.skip ?_ | refine AWP.ret ?_ | refine AWP.drawK2 (by decide +kernel) (by kernel_rfl) (by decide +kernel) rfl (fun K' hK => ?_) | refine AWP.drawL2 (by kernel_rfl) (by decide +kernel) rfl (fun K' hK => ?_) | (refine AQ.nil (hK _ ?_); clear hK K') | refine AQ.nil ?_ | refine AQ.q rfl rfl (fun hg => by first | exact std0 | exact std1) (by exact rfl) ?_)
    all_goals (first | (exfalso; omega) | (exfalso; simp at hc; omega) | skip)
    refine ⟨.inr rfl, Ent.b (Eq.symm ?_)⟩
    refine Bool.eq_false_iff.2 fun h => ?_
    obtain ⟨x, hx, h2⟩ := List.any_eq_true.1 h
    obtain ⟨j, hj, rfl⟩ := List.mem_iff_getElem.1 hx
    have := hall j (by omega)
    rw [getD_lt hj] at this
    exact absurd (this.symm.trans h2) (by decide)
theorem bars_pos {bars : List Bar} (h : barsOk bars = true) : 1 ≤ bars.length := by
  unfold barsOk at h
  simp only [Bool.and_eq_true, decide_eq_true_eq] at h
  exact h.1.2
/-- Each bar has its notes. -/
theorem ofR_some {bars : List Bar} {l : List Note} (h : notesOk bars l = true) {p : Int} (hp : 1 ≤ p ∧ p ≤ 1000000) {b : Bar} (hb : b ∈ bars) : (ofR bars l p b.id).2 = 0 := by
  have hbo := (notesOk_bars h).1
  have hid : inB b.id 1 1000000 = true := by
    have h2 := hbo
    unfold barsOk at h2
    simp only [Bool.and_eq_true, List.all_eq_true] at h2
    have h3 := h2.1.1.1 b hb
    unfold barOk barA at h3
    simp only [Bool.and_eq_true, Bool.not_eq_true', Bool.or_eq_false_iff, decide_eq_false_iff_not] at h3
    have := h3.1.1.1
    simp only [inB, Bool.and_eq_true, decide_eq_true_eq]; omega
  have hpp : inB p 1 1000000 = true := by simp only [inB, Bool.and_eq_true, decide_eq_true_eq]; omega
  have hk : (lk (idxAL bars) b.id).isSome = true := by
    rcases lk_bar (barsOk_nodup hbo) b.id with ⟨h1, h2⟩ | ⟨j, h1, _⟩
    · exfalso
      have h3 := findI_any (fun x : Bar => x.id == b.id) bars
      rw [show decide (findI (fun x : Bar => x.id == b.id) bars ≥ 0) = false from decide_eq_false (by unfold barAt at h2; omega)] at h3
      have h4 := List.all_eq_true.1 h3.symm b hb
      simp at h4
    · rw [h1]; rfl
  unfold ofR
  rw [if_pos (by rw [h, hpp, hid]; rfl), if_pos hk]
/-- What the spans of a part cover. -/
theorem ofR_cov {bars : List Bar} {l : List Note} {p b : Int} (h : (ofR bars l p b).2 = 0) (t : Int) : cov (spansP ((ofR bars l p b).1.map iv)) t = cov ((l.filter (isOf p b)).map iv) t := by
  rw [(ofR_facts h).canon.2]
  obtain ⟨_, _, _, h2, _⟩ := ofR_ok h
  rw [h2]
  exact cov_perm ((sortN_perm _ _).map _) t
/-- Spans that cover the same are the same. -/
theorem spans_ext {bars bars' : List Bar} {l l' : List Note} {p p' b b' : Int} (h : (ofR bars l p b).2 = 0) (h' : (ofR bars' l' p' b').2 = 0) (hc : ∀ t, cov ((l.filter (isOf p b)).map iv) t = cov ((l'.filter (isOf p' b')).map iv) t) :
    spansP ((ofR bars l p b).1.map iv) = spansP ((ofR bars' l' p' b').1.map iv) :=
  canon_unique (ofR_facts h).canon.1 (ofR_facts h').canon.1 fun t => by rw [ofR_cov h, ofR_cov h', hc]
theorem rests_small {bars : List Bar} {l : List Note} {p b : Int} (h : (ofR bars l p b).2 = 0) : Canon (-1) (restsR bars l p b).1 ∧ (∀ x ∈ (restsR bars l p b).1, x.2 ≤ barW bars b) ∧ sumI (restsR bars l p b).1 + sumI (spansP ((ofR bars l p b).1.map iv)) = barW bars b ∧ (∀ t, 0 ≤ t → t < barW bars b → cov (restsR bars l p b).1 t = !cov (spansP ((ofR bars l p b).1.map iv)) t) ∧ Small (restsR bars l p b).1 := by
  obtain ⟨_, _, _, _, w1, w2⟩ := ofR_ok h
  have hf := ofR_facts h
  have er : (restsR bars l p b).1 = gaps 0 (barW bars b) (spansP ((ofR bars l p b).1.map iv)) := by unfold restsR; rw [if_pos h]
  obtain ⟨g1, g2, g3, g4⟩ := gaps_spec _ 0 (barW bars b) hf.canon.1 (fun x hx => (hf.bound (by omega) x hx).2.2) (by omega)
  rw [er]
  refine ⟨g1, g2, by omega, g4, fun x hx => ?_⟩
  have := g1.low x hx
  have := g2 x hx
  omega
theorem wrap64 {n : Int} (h : 0 ≤ n ∧ n ≤ 65535) : IntKind.i64.wrap n = n := by
  simp [IntKind.wrap, IntKind.bits, IntKind.signed]; omega
theorem tmod_in {a w : Int} (ha : 0 ≤ a) (hw : 0 < w) : 0 ≤ a.tmod w ∧ a.tmod w < w := ⟨Int.tmod_nonneg _ ha, Int.tmod_lt_of_pos _ hw⟩
end Go.Proofs.YtnmdmmfdnnmdfaaDoor.Nt
