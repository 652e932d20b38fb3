/- The law NotesPlay by content. -/
import Derived.Test.YtnmdmmfdnnmdfaaDoorNK
set_option linter.unusedVariables false
set_option linter.unusedSimpArgs false
namespace Go.Ab
instance : Inhabited AV := ⟨.any⟩
end Go.Ab
namespace Go.Proofs.YtnmdmmfdnnmdfaaDoor.Nt
open Go.Ab
attribute [local irreducible] AWP AOps EStep AQ PStep PRun PCall TCall VCall

/-- Where the span before the one of this number ends. -/
def lastAt (zs : List Iv) (k : Nat) : Int := if k = 0 then -1 else (zs.getD (k - 1) default).2
theorem canon_at : ∀ {lo : Int} {zs : List Iv} {k : Nat}, Canon lo zs → k < zs.length → (k = 0 → lo < (zs.getD k default).1) ∧ (0 < k → (zs.getD (k - 1) default).2 < (zs.getD k default).1) ∧ (zs.getD k default).1 < (zs.getD k default).2
  | _, [], _, _, h => absurd h (by simp)
  | lo, x :: r, 0, hc, _ => ⟨fun _ => hc.1, fun h => absurd h (by omega), hc.2.1⟩
  | lo, x :: r, k + 1, hc, h => by
    have ih := canon_at (k := k) hc.2.2 (by simpa using h)
    refine ⟨fun h => by omega, fun _ => ?_, by simpa using ih.2.2⟩
    rcases Nat.eq_zero_or_pos k with h0 | h0
    · subst h0
      simpa using ih.1 rfl
    · have := ih.2.1 h0
      obtain ⟨m, rfl⟩ : ∃ m, k = m + 1 := ⟨k - 1, by omega⟩
      simpa using this
theorem canon_last {zs : List Iv} {k : Nat} (hc : Canon (-1) zs) (h : k < zs.length) : lastAt zs k < (zs.getD k default).1 ∧ (zs.getD k default).1 < (zs.getD k default).2 := by
  have := canon_at hc h
  unfold lastAt
  split
  · rename_i h0; exact ⟨this.1 h0, this.2.2⟩
  · exact ⟨this.2.1 (by omega), this.2.2⟩
theorem sumI_take {zs : List Iv} {k : Nat} (h : k < zs.length) : sumI (zs.take (k + 1)) = sumI (zs.take k) + ((zs.getD k default).2 - (zs.getD k default).1) := by
  rw [take_snoc' h]; unfold sumI; rw [List.map_append, List.sum_append]; simp
theorem sumI_in : ∀ {zs : List Iv}, Small zs → (∀ x ∈ zs, x.1 < x.2) → 0 ≤ sumI zs ∧ sumI zs ≤ 1000000 * zs.length
  | [], _, _ => by simp [sumI]
  | x :: r, hs, hc => by
    have h1 := sumI_in (zs := r) (fun y hy => hs y (List.mem_cons_of_mem _ hy)) (fun y hy => hc y (List.mem_cons_of_mem _ hy))
    have h2 := hs x (List.mem_cons_self ..)
    have h3 := hc x (List.mem_cons_self ..)
    unfold sumI at h1 ⊢
    simp only [List.map_cons, List.sum_cons, List.length_cons]
    omega
theorem small_take {zs : List Iv} (k : Nat) (hs : Small zs) : Small (zs.take k) := fun x hx => hs x (List.mem_of_mem_take hx)
/-- A note of the part in the bar sounds. -/
def sndB (p b t : Int) (n : Note) : Bool := ((n.part == p && n.bar == b) && decide (beg n ≤ t)) && decide (t < beg n + (ticksR n.len).1)
theorem snd_cov (l : List Note) (p b t : Int) : l.any (sndB p b t) = cov ((l.filter (isOf p b)).map iv) t := by
  unfold cov
  rw [List.any_map, List.any_filter]
  congr 1
  funext n
  unfold sndB isOf iv
  simp only [Function.comp, Bool.and_assoc]
theorem barW_eq {bars : List Bar} (hb : barsOk bars = true) {b : Bar} (hm : b ∈ bars) {p : Int} {l : List Note} (h : (ofR bars l p b.id).2 = 0) : barW bars b.id = (ticksR b.len).1 := by
  obtain ⟨_, _, ⟨j, j1, j2, j3, j4⟩, _⟩ := ofR_ok h
  obtain ⟨i, hi, rfl⟩ := List.mem_iff_getElem.1 hm
  have : j = i := nodup_at (fun b : Bar => b.id) (barsOk_nodup hb) j3 hi (by rw [getD_lt hi]; exact j4)
  subst this
  unfold barW
  rw [j2, Int.toNat_natCast, getD_lt hi]
set_option maxHeartbeats 16000000 in
set_option maxRecDepth 40000 in
theorem play_law (bars : List Bar) (hb : bars.length ≤ 9223372036854775807) (l : List Note) (hl : l.length ≤ 9223372036854775807) (p : Int) (w : Int) (hw : 0 ≤ w ∧ w ≤ 255) (a : Int) (ha : 0 ≤ a ∧ a ≤ 65535) :
    PCall Tryd.prog 7 [.sl 4 (bars.map encB) .no, .sl 12 (l.map encN) .no, .int p, .prim (.int .u8 w), .prim (.int .u16 a)] (.b true) := by
  have hh := head_spec
  have hu := usable7_spec bars l hb hl
  by_cases hg0 : ((decide ((bars.length : Int) ≤ 60) && decide ((l.length : Int) ≤ 60)) && notesOk bars l) = true ∧ 1 ≤ p ∧ p ≤ 1000000
  · obtain ⟨hg, hp⟩ := hg0
    obtain ⟨hb60, hl60, hn⟩ := usable_iff hg
    rw [hg] at hu
    obtain ⟨hbo, hno⟩ := notesOk_bars hn
    have hpos := bars_pos hbo
    obtain ⟨j, hj⟩ : ∃ j : Nat, w.tmod (bars.length : Nat) = (j : Int) := ⟨(w.tmod (bars.length : Nat)).toNat, by have := tmod_in hw.1 (w := (bars.length : Nat)) (by omega); omega⟩
    have hjl : j < bars.length := by have := (tmod_in hw.1 (w := (bars.length : Nat)) (by omega)).2; omega
    have hb0 : ((bars.length : Nat) : Int) ≠ 0 := by omega
    obtain ⟨b, hbj⟩ : ∃ b, bars.getD j default = b := ⟨_, rfl⟩
    have hbm : b ∈ bars := by rw [← hbj]; exact getD_mem hjl
    have h0 := ofR_some hn hp hbm
    have c1 := busy_spec bars l (by omega) (by omega) p b.id
    have c2 := rests_spec bars l (by omega) (by omega) p b.id
    have l1 := busyR_len bars l p b.id
    have l2 := restsR_len bars l p b.id
    have e1 : busyR bars l p b.id = (spansP ((ofR bars l p b.id).1.map iv), 0) := by unfold busyR; rw [h0]
    have e2 : (restsR bars l p b.id).2 = 0 := by unfold restsR; rw [if_pos h0]
    rw [e2] at c2
    rw [e1] at c1 l1
    obtain ⟨r1, r2, r3, r4, r5⟩ := rests_small h0
    have hsx : Small (spansP ((ofR bars l p b.id).1.map iv)) := fun x hx => busy_bound h0 x hx
    have hcx := (ofR_facts h0).canon.1
    have hcov := fun t => ofR_cov h0 t
    obtain ⟨_, _, _, _, w1, w2⟩ := ofR_ok h0
    have htx : ∀ x ∈ spansP ((ofR bars l p b.id).1.map iv), x.2 ≤ barW bars b.id := fun x hx => ((ofR_facts h0).bound (by omega) x hx).2.2
    obtain ⟨hdur, _, _⟩ := bar_top hbo hbm
    have ht := ticks6_spec b.len
    rw [ticksX_ok hdur, ← barW_eq hbo hbm h0] at ht
    have hdn := durOk_note hn
    clear e1 e2
    dsimp only at c1 l1
    generalize barW bars b.id = W at *
    generalize spansP ((ofR bars l p b.id).1.map iv) = xs at *
    generalize (restsR bars l p b.id).1 = ys at *
    clear h0
    obtain ⟨t, htt⟩ : ∃ t, a.tmod W = t := ⟨_, rfl⟩
    have ht0 := tmod_in ha.1 (w := W) (by omega)
    rw [htt] at ht0
    have hW0 : W ≠ 0 := by omega
    have v1 := covers_spec xs hsx (by omega) t
    have v2 := covers_spec ys r5 (by omega) t
    have hc1 : cov xs t = l.any (sndB p b.id t) := by rw [snd_cov, hcov]
    have hc2 : cov ys t = !l.any (sndB p b.id t) := by rw [r4 t ht0.1 ht0.2, hc1]
    have sx := sumI_in hsx (fun x hx => (hcx.low x hx).2)
    have sy := sumI_in r5 (fun x hx => (r1.low x hx).2)
    have hrd : ∀ (zs : List Iv), Small zs → ∀ k, k < zs.length → PCall Tryd.prog 31 [.agg (encR (ratQ (zs.getD k default).1))] (.int (zs.getD k default).1) ∧ PCall Tryd.prog 31 [.agg (encR (ratQ (zs.getD k default).2))] (.int (zs.getD k default).2) := fun zs hs k hk =>
      ⟨tickQ (hs _ (getD_mem hk)).1, tickQ (hs _ (getD_mem hk)).2⟩
    clear hcov r4
    refine PCall.body Tryd.func7 rfl rfl Tryd.ntmps7 rfl rfl ?_
    repeat' (first | refine AOps.q rfl rfl rfl (fun hg => by first | exact PRun.eq (v := .iptr (encB (bars.getD ((j : Nat) : Int).toNat default))) (PRun.indexMW tabOk rfl rfl nd rfl nd rfl rfl ⟨Int.natCast_nonneg _, Int.ofNat_lt.2 hjl⟩) (congrArg (fun x => AV.iptr (encB x)) hbj) | exact PRun.convV tabOk (wrap64 ⟨by omega, by omega⟩) rfl rfl nd rfl rfl | exact PRun.remV hj hb0 rfl rfl nd rfl nd | exact std0 | exact PRun.callW (hh) rfl rfl nd rfl nds | exact PRun.callW (hu) rfl rfl nd rfl nds | exact PRun.callW (c1) rfl rfl nd rfl nds | exact PRun.callW (c2) rfl rfl nd rfl nds | exact PRun.callW (ht) rfl rfl nd rfl nds | exact PRun.buildSlW tabOk rfl rfl nds | exact std1) (by exact rfl) ?_ | refine AWP.seq ?_ | refine AWP.regionK (fun K' hK => ?_) | (refine AOps.nil (hK _ _ ?_); clear hK K') | refine AOps.e (EStep.boxW rfl rfl rfl rfl rfl True.intro rfl rfl ?_) | refine AOps.e (EStep.storeW tabOk rfl rfl rfl True.intro rfl rfl True.intro rfl rfl rfl rfl rfl rfl rfl ?_) | refine AOps.e (EStep.allocW tabOk rfl rfl rfl rfl rfl rfl ?_) | (refine AWP.condW rfl True.intro (fun hc => ?_) (fun hc => ?_) <;> (first | (simp only [decide_eq_true_eq] at hc) | (simp only [decide_eq_false_iff_not, Int.not_lt, Int.not_le] at hc) | skip)) | refine AWP.block ?_ | refine AWP.exit ?_ | refine AWP.skip ?_ | refine AWP.ret ?_ | (refine AQ.nil (hK _ ?_); clear hK K') | refine AQ.nil ?_ | refine AQ.q rfl rfl (fun hg => by first | exact PRun.eq (v := .iptr (encB (bars.getD ((j : Nat) : Int).toNat default))) (PRun.indexMW tabOk rfl rfl nd rfl nd rfl rfl ⟨Int.natCast_nonneg _, Int.ofNat_lt.2 hjl⟩) (congrArg (fun x => AV.iptr (encB x)) hbj) | exact PRun.convV tabOk (wrap64 ⟨by omega, by omega⟩) rfl rfl nd rfl rfl | exact PRun.remV hj hb0 rfl rfl nd rfl nd | exact std0 | exact PRun.callW (hh) rfl rfl nd rfl nds | exact PRun.callW (hu) rfl rfl nd rfl nds | exact PRun.callW (c1) rfl rfl nd rfl nds | exact PRun.callW (c2) rfl rfl nd rfl nds | exact PRun.callW (ht) rfl rfl nd rfl nds | exact PRun.buildSlW tabOk rfl rfl nds | exact std1) (by exact rfl) ?_)
    all_goals (first | (exfalso; simp at hc; omega) | (exfalso; simp at hc; done) | skip)
    refine AWP.loopD (ι := Nat) (fun q => [(1, .sl 12 (l.map encN) .no), (2, .int p), (4, .prim (.int .u16 a)), (11, .b true), (12, .ptr 0 0), (13, .sl 4 (xs.map encQ) .no), (15, .sl 4 (ys.map encQ) .no), (17, .int W), (18, .int (if q = 0 then 0 else if q = 1 then sumI xs else sumI xs + sumI ys)), (82, .sl 1 [[AV.sl 4 (xs.map encQ) .no], [AV.sl 4 (ys.map encQ) .no]] .fresh), (83, .int 2), (84, .int q)]) (fun _ => [.var (encB b)]) (fun q => q ≤ 2) (fun q => 2 - q) 1 (fun _ => rfl) 0 (Nat.zero_le _) ⟨rfl, rfl, rfl, rfl, rfl, rfl, rfl, rfl, rfl, rfl, rfl, rfl, True.intro⟩ rfl (fun _ _ => rfl) (fun _ _ => rfl) ?_
    intro q hq
    have hq3 : q = 0 ∨ q = 1 ∨ q = 2 := by omega
    rcases hq3 with rfl | rfl | rfl
    · 
      repeat' (first | refine AOps.q rfl rfl rfl (fun hg => by first | exact std0 | exact PRun.indexW tabOk rfl rfl nd rfl nd rfl ⟨by omega, by simp⟩ | exact std1) (by exact rfl) ?_ | refine AWP.seq ?_ | refine AWP.regionK (fun K' hK => ?_) | (refine AOps.nil (hK _ _ ?_); clear hK K') | refine AOps.e (EStep.boxW rfl rfl rfl rfl rfl True.intro rfl rfl ?_) | refine AOps.e (EStep.storeW tabOk rfl rfl rfl True.intro rfl rfl True.intro rfl rfl rfl rfl rfl rfl rfl ?_) | refine AOps.e (EStep.allocW tabOk rfl rfl rfl rfl rfl rfl ?_) | (refine AWP.condW rfl True.intro (fun hc => ?_) (fun hc => ?_) <;> (first | (simp only [decide_eq_true_eq] at hc) | (simp only [decide_eq_false_iff_not, Int.not_lt, Int.not_le] at hc) | skip)) | refine AWP.block ?_ | refine AWP.exit ?_ | refine AWP.skip ?_ | refine AWP.ret ?_ | refine AWP.drawK2 (by decide +kernel) (by kernel_rfl) (by decide +kernel) rfl (fun K' hK => ?_) | refine AWP.drawL2 (by kernel_rfl) (by decide +kernel) rfl (fun K' hK => ?_) | (refine AQ.nil (hK _ ?_); clear hK K') | refine AQ.nil ?_ | refine AQ.q rfl rfl (fun hg => by first | exact std0 | exact PRun.indexW tabOk rfl rfl nd rfl nd rfl ⟨by omega, by simp⟩ | exact std1) (by exact rfl) ?_)
      all_goals (first | (exfalso; omega) | (exfalso; simp at hc; done) | skip)
      refine AWP.loopD (ι := Nat) (fun k => [(1, .sl 12 (l.map encN) .no), (2, .int p), (4, .prim (.int .u16 a)), (11, .b true), (12, .ptr 0 0), (13, .sl 4 (xs.map encQ) .no), (15, .sl 4 (ys.map encQ) .no), (17, .int W), (18, .int (0 + sumI (xs.take k))), (21, .int (lastAt xs k)), (82, .sl 1 [[AV.sl 4 (xs.map encQ) .no], [AV.sl 4 (ys.map encQ) .no]] .fresh), (83, .int 2), (84, .int 0), (88, .sl 4 (xs.map encQ) .no), (89, .int xs.length), (90, .int k)]) (fun _ => [.var (encB b)])
        (fun k => k ≤ xs.length) (fun k => xs.length - k) 1 (fun _ => rfl) 0 (Nat.zero_le _) ⟨rfl, rfl, rfl, rfl, rfl, rfl, rfl, rfl, (by show AV.int _ = AV.int _; simp [sumI]), rfl, rfl, rfl, rfl, rfl, rfl, rfl, True.intro⟩ rfl (fun _ _ => rfl) (fun _ _ => rfl) ?_
      intro k hk
      by_cases hlt : k < xs.length
      · obtain ⟨k1, k2⟩ := hrd xs hsx k hlt
        obtain ⟨g1, g2⟩ := canon_last hcx hlt
        have g3 := htx _ (getD_mem hlt)
        have g4 := sumI_take hlt
        have g5 := sumI_in (small_take k hsx) (fun x hx => (Canon.low hcx x (List.mem_of_mem_take hx)).2)
        have g6 := hsx _ (getD_mem hlt)
        have g7 : (xs.take k).length ≤ 100 := by rw [List.length_take]; omega
        have g8 : lastAt xs (k + 1) = (xs.getD k default).2 := by unfold lastAt; rw [if_neg (by omega)]; rfl
        obtain ⟨x, hx⟩ : ∃ x, xs.getD k default = x := ⟨_, rfl⟩
        rw [hx] at k1 k2 g1 g2 g3 g4 g6 g8
        generalize sumI (xs.take k) = sk at *
        generalize lastAt xs k = la at *
        repeat' (first | refine AOps.q rfl rfl rfl (fun hg => by first | exact PRun.eq (v := .iptr (encQ (xs.getD ((k : Nat) : Int).toNat default))) (PRun.indexMW tabOk rfl rfl nd rfl nd rfl rfl (by omega)) (congrArg (fun x => AV.iptr (encQ x)) hx) | exact std0 | exact PRun.indexPA tabOk rfl rfl nd rfl nd rfl rfl ⟨by decide, by decide⟩ | exact PRun.callW (k1) rfl rfl nd rfl nds | exact PRun.callW (k2) rfl rfl nd rfl nds | exact std1) (by exact rfl) ?_ | refine AWP.seq ?_ | refine AWP.regionK (fun K' hK => ?_) | (refine AOps.nil (hK _ _ ?_); clear hK K') | refine AOps.e (EStep.boxW rfl rfl rfl rfl rfl True.intro rfl rfl ?_) | refine AOps.e (EStep.storeW tabOk rfl rfl rfl True.intro rfl rfl True.intro rfl rfl rfl rfl rfl rfl rfl ?_) | refine AOps.e (EStep.allocW tabOk rfl rfl rfl rfl rfl rfl ?_) | (refine AWP.condW rfl True.intro (fun hc => ?_) (fun hc => ?_) <;> (first | (simp only [decide_eq_true_eq] at hc) | (simp only [decide_eq_false_iff_not, Int.not_lt, Int.not_le] at hc) | skip)) | refine AWP.block ?_ | refine AWP.exit ?_ | refine AWP.skip ?_ | refine AWP.ret ?_ | refine AWP.drawK2 (by decide +kernel) (by kernel_rfl) (by decide +kernel) rfl (fun K' hK => ?_) | refine AWP.drawL2 (by kernel_rfl) (by decide +kernel) rfl (fun K' hK => ?_) | (refine AQ.nil (hK _ ?_); clear hK K') | refine AQ.nil ?_ | refine AQ.q rfl rfl (fun hg => by first | exact PRun.eq (v := .iptr (encQ (xs.getD ((k : Nat) : Int).toNat default))) (PRun.indexMW tabOk rfl rfl nd rfl nd rfl rfl (by omega)) (congrArg (fun x => AV.iptr (encQ x)) hx) | exact std0 | exact PRun.indexPA tabOk rfl rfl nd rfl nd rfl rfl ⟨by decide, by decide⟩ | exact PRun.callW (k1) rfl rfl nd rfl nds | exact PRun.callW (k2) rfl rfl nd rfl nds | exact std1) (by exact rfl) ?_)
        all_goals (first | (exfalso; omega) | (exfalso; simp at hc; omega) | skip)
        refine ⟨k + 1, hlt, by omega, ⟨rfl, rfl, rfl, rfl, rfl, rfl, rfl, rfl, ?_, ?_, rfl, rfl, rfl, rfl, rfl, rfl, True.intro⟩, rfl⟩
        · show AV.int _ = AV.int _
          rw [g4]; congr 1; omega
        · rw [g8]; rfl
      · obtain rfl : k = xs.length := by omega
        rw [List.take_length]
        repeat' (first | refine AOps.q rfl rfl rfl (fun hg => by first | exact std0 | exact std1) (by exact rfl) ?_ | refine AWP.seq ?_ | refine AWP.regionK (fun K' hK => ?_) | (refine AOps.nil (hK _ _ ?_); clear hK K') | refine AOps.e (EStep.boxW rfl rfl rfl rfl rfl True.intro rfl rfl ?_) | refine AOps.e (EStep.storeW tabOk rfl rfl rfl True.intro rfl rfl True.intro rfl rfl rfl rfl rfl rfl rfl ?_) | refine AOps.e (EStep.allocW tabOk rfl rfl rfl rfl rfl rfl ?_) | (refine AWP.condW rfl True.intro (fun hc => ?_) (fun hc => ?_) <;> (first | (simp only [decide_eq_true_eq] at hc) | (simp only [decide_eq_false_iff_not, Int.not_lt, Int.not_le] at hc) | skip)) | refine AWP.block ?_ | refine AWP.exit ?_ | refine AWP.skip ?_ | refine AWP.ret ?_ | refine AWP.drawK2 (by decide +kernel) (by kernel_rfl) (by decide +kernel) rfl (fun K' hK => ?_) | refine AWP.drawL2 (by kernel_rfl) (by decide +kernel) rfl (fun K' hK => ?_) | (refine AQ.nil (hK _ ?_); clear hK K') | refine AQ.nil ?_ | refine AQ.q rfl rfl (fun hg => by first | exact std0 | exact std1) (by exact rfl) ?_)
        all_goals (first | (exfalso; omega) | (exfalso; simp at hc; omega) | skip)
        exact ⟨1, by decide, by decide, ⟨rfl, rfl, rfl, rfl, rfl, rfl, rfl, rfl, (by show AV.int _ = AV.int _; first | rfl | (congr 1; simp; done) | simp), rfl, rfl, rfl, True.intro⟩, rfl⟩
    · 
      repeat' (first | refine AOps.q rfl rfl rfl (fun hg => by first | exact std0 | exact PRun.indexW tabOk rfl rfl nd rfl nd rfl ⟨by omega, by simp⟩ | exact std1) (by exact rfl) ?_ | refine AWP.seq ?_ | refine AWP.regionK (fun K' hK => ?_) | (refine AOps.nil (hK _ _ ?_); clear hK K') | refine AOps.e (EStep.boxW rfl rfl rfl rfl rfl True.intro rfl rfl ?_) | refine AOps.e (EStep.storeW tabOk rfl rfl rfl True.intro rfl rfl True.intro rfl rfl rfl rfl rfl rfl rfl ?_) | refine AOps.e (EStep.allocW tabOk rfl rfl rfl rfl rfl rfl ?_) | (refine AWP.condW rfl True.intro (fun hc => ?_) (fun hc => ?_) <;> (first | (simp only [decide_eq_true_eq] at hc) | (simp only [decide_eq_false_iff_not, Int.not_lt, Int.not_le] at hc) | skip)) | refine AWP.block ?_ | refine AWP.exit ?_ | refine AWP.skip ?_ | refine AWP.ret ?_ | refine AWP.drawK2 (by decide +kernel) (by kernel_rfl) (by decide +kernel) rfl (fun K' hK => ?_) | refine AWP.drawL2 (by kernel_rfl) (by decide +kernel) rfl (fun K' hK => ?_) | (refine AQ.nil (hK _ ?_); clear hK K') | refine AQ.nil ?_ | refine AQ.q rfl rfl (fun hg => by first | exact std0 | exact PRun.indexW tabOk rfl rfl nd rfl nd rfl ⟨by omega, by simp⟩ | exact std1) (by exact rfl) ?_)
      all_goals (first | (exfalso; omega) | (exfalso; simp at hc; done) | skip)
      refine AWP.loopD (ι := Nat) (fun k => [(1, .sl 12 (l.map encN) .no), (2, .int p), (4, .prim (.int .u16 a)), (11, .b true), (12, .ptr 0 0), (13, .sl 4 (xs.map encQ) .no), (15, .sl 4 (ys.map encQ) .no), (17, .int W), (18, .int (sumI xs + sumI (ys.take k))), (21, .int (lastAt ys k)), (82, .sl 1 [[AV.sl 4 (xs.map encQ) .no], [AV.sl 4 (ys.map encQ) .no]] .fresh), (83, .int 2), (84, .int 1), (88, .sl 4 (ys.map encQ) .no), (89, .int ys.length), (90, .int k)]) (fun _ => [.var (encB b)])
        (fun k => k ≤ ys.length) (fun k => ys.length - k) 1 (fun _ => rfl) 0 (Nat.zero_le _) ⟨rfl, rfl, rfl, rfl, rfl, rfl, rfl, rfl, (by show AV.int _ = AV.int _; simp [sumI]), rfl, rfl, rfl, rfl, rfl, rfl, rfl, True.intro⟩ rfl (fun _ _ => rfl) (fun _ _ => rfl) ?_
      intro k hk
      by_cases hlt : k < ys.length
      · obtain ⟨k1, k2⟩ := hrd ys r5 k hlt
        obtain ⟨g1, g2⟩ := canon_last r1 hlt
        have g3 := r2 _ (getD_mem hlt)
        have g4 := sumI_take hlt
        have g5 := sumI_in (small_take k r5) (fun x hx => (Canon.low r1 x (List.mem_of_mem_take hx)).2)
        have g6 := r5 _ (getD_mem hlt)
        have g7 : (ys.take k).length ≤ 100 := by rw [List.length_take]; omega
        have g8 : lastAt ys (k + 1) = (ys.getD k default).2 := by unfold lastAt; rw [if_neg (by omega)]; rfl
        obtain ⟨x, hx⟩ : ∃ x, ys.getD k default = x := ⟨_, rfl⟩
        rw [hx] at k1 k2 g1 g2 g3 g4 g6 g8
        generalize sumI (ys.take k) = sk at *
        generalize lastAt ys k = la at *
        repeat' (first | refine AOps.q rfl rfl rfl (fun hg => by first | exact PRun.eq (v := .iptr (encQ (ys.getD ((k : Nat) : Int).toNat default))) (PRun.indexMW tabOk rfl rfl nd rfl nd rfl rfl (by omega)) (congrArg (fun x => AV.iptr (encQ x)) hx) | exact std0 | exact PRun.indexPA tabOk rfl rfl nd rfl nd rfl rfl ⟨by decide, by decide⟩ | exact PRun.callW (k1) rfl rfl nd rfl nds | exact PRun.callW (k2) rfl rfl nd rfl nds | exact std1) (by exact rfl) ?_ | refine AWP.seq ?_ | refine AWP.regionK (fun K' hK => ?_) | (refine AOps.nil (hK _ _ ?_); clear hK K') | refine AOps.e (EStep.boxW rfl rfl rfl rfl rfl True.intro rfl rfl ?_) | refine AOps.e (EStep.storeW tabOk rfl rfl rfl True.intro rfl rfl True.intro rfl rfl rfl rfl rfl rfl rfl ?_) | refine AOps.e (EStep.allocW tabOk rfl rfl rfl rfl rfl rfl ?_) | (refine AWP.condW rfl True.intro (fun hc => ?_) (fun hc => ?_) <;> (first | (simp only [decide_eq_true_eq] at hc) | (simp only [decide_eq_false_iff_not, Int.not_lt, Int.not_le] at hc) | skip)) | refine AWP.block ?_ | refine AWP.exit ?_ | refine AWP.skip ?_ | refine AWP.ret ?_ | refine AWP.drawK2 (by decide +kernel) (by kernel_rfl) (by decide +kernel) rfl (fun K' hK => ?_) | refine AWP.drawL2 (by kernel_rfl) (by decide +kernel) rfl (fun K' hK => ?_) | (refine AQ.nil (hK _ ?_); clear hK K') | refine AQ.nil ?_ | refine AQ.q rfl rfl (fun hg => by first | exact PRun.eq (v := .iptr (encQ (ys.getD ((k : Nat) : Int).toNat default))) (PRun.indexMW tabOk rfl rfl nd rfl nd rfl rfl (by omega)) (congrArg (fun x => AV.iptr (encQ x)) hx) | exact std0 | exact PRun.indexPA tabOk rfl rfl nd rfl nd rfl rfl ⟨by decide, by decide⟩ | exact PRun.callW (k1) rfl rfl nd rfl nds | exact PRun.callW (k2) rfl rfl nd rfl nds | exact std1) (by exact rfl) ?_)
        all_goals (first | (exfalso; omega) | (exfalso; simp at hc; omega) | skip)
        refine ⟨k + 1, hlt, by omega, ⟨rfl, rfl, rfl, rfl, rfl, rfl, rfl, rfl, ?_, ?_, rfl, rfl, rfl, rfl, rfl, rfl, True.intro⟩, rfl⟩
        · show AV.int _ = AV.int _
          rw [g4]; congr 1; omega
        · rw [g8]; rfl
      · obtain rfl : k = ys.length := by omega
        rw [List.take_length]
        repeat' (first | refine AOps.q rfl rfl rfl (fun hg => by first | exact std0 | exact std1) (by exact rfl) ?_ | refine AWP.seq ?_ | refine AWP.regionK (fun K' hK => ?_) | (refine AOps.nil (hK _ _ ?_); clear hK K') | refine AOps.e (EStep.boxW rfl rfl rfl rfl rfl True.intro rfl rfl ?_) | refine AOps.e (EStep.storeW tabOk rfl rfl rfl True.intro rfl rfl True.intro rfl rfl rfl rfl rfl rfl rfl ?_) | refine AOps.e (EStep.allocW tabOk rfl rfl rfl rfl rfl rfl ?_) | (refine AWP.condW rfl True.intro (fun hc => ?_) (fun hc => ?_) <;> (first | (simp only [decide_eq_true_eq] at hc) | (simp only [decide_eq_false_iff_not, Int.not_lt, Int.not_le] at hc) | skip)) | refine AWP.block ?_ | refine AWP.exit ?_ | refine AWP.skip ?_ | refine AWP.ret ?_ | refine AWP.drawK2 (by decide +kernel) (by kernel_rfl) (by decide +kernel) rfl (fun K' hK => ?_) | refine AWP.drawL2 (by kernel_rfl) (by decide +kernel) rfl (fun K' hK => ?_) | (refine AQ.nil (hK _ ?_); clear hK K') | refine AQ.nil ?_ | refine AQ.q rfl rfl (fun hg => by first | exact std0 | exact std1) (by exact rfl) ?_)
        all_goals (first | (exfalso; omega) | (exfalso; simp at hc; omega) | skip)
        exact ⟨2, by decide, by decide, ⟨rfl, rfl, rfl, rfl, rfl, rfl, rfl, rfl, (by show AV.int _ = AV.int _; first | rfl | (congr 1; simp; done) | simp), rfl, rfl, rfl, True.intro⟩, rfl⟩
    · clear hrd
      repeat' (first | refine AOps.q rfl rfl rfl (fun hg => by first | exact PRun.remV htt hW0 rfl rfl nd rfl nd | exact PRun.convV tabOk (wrap64 ⟨by omega, by omega⟩) rfl rfl nd rfl rfl | exact std0 | exact std1) (by exact rfl) ?_ | refine AWP.seq ?_ | refine AWP.regionK (fun K' hK => ?_) | (refine AOps.nil (hK _ _ ?_); clear hK K') | refine AOps.e (EStep.boxW rfl rfl rfl rfl rfl True.intro rfl rfl ?_) | refine AOps.e (EStep.storeW tabOk rfl rfl rfl True.intro rfl rfl True.intro rfl rfl rfl rfl rfl rfl rfl ?_) | refine AOps.e (EStep.allocW tabOk rfl rfl rfl rfl rfl rfl ?_) | (refine AWP.condW rfl True.intro (fun hc => ?_) (fun hc => ?_) <;> (first | (simp only [decide_eq_true_eq] at hc) | (simp only [decide_eq_false_iff_not, Int.not_lt, Int.not_le] at hc) | skip)) | refine AWP.block ?_ | refine AWP.exit ?_ | refine AWP.skip ?_ | refine AWP.ret ?_ | refine AWP.drawK2 (by decide +kernel) (by kernel_rfl) (by decide +kernel) rfl (fun K' hK => ?_) | refine AWP.drawL2 (by kernel_rfl) (by decide +kernel) rfl (fun K' hK => ?_) | (refine AQ.nil (hK _ ?_); clear hK K') | refine AQ.nil ?_ | refine AQ.q rfl rfl (fun hg => by first | exact PRun.remV htt hW0 rfl rfl nd rfl nd | exact PRun.convV tabOk (wrap64 ⟨by omega, by omega⟩) rfl rfl nd rfl rfl | exact std0 | exact std1) (by exact rfl) ?_)
      all_goals (first | (exfalso; omega) | (exfalso; simp at hc; done) | skip)
      refine AWP.loopD (ι := Nat) (fun k => [(2, .int p), (11, .b true), (12, .ptr 0 0), (13, .sl 4 (xs.map encQ) .no), (15, .sl 4 (ys.map encQ) .no), (17, .int W), (18, .int (sumI xs + sumI ys)), (26, .int t), (27, .b ((l.take k).any (sndB p b.id t))), (125, .sl 12 (l.map encN) .no), (126, .int l.length), (127, .int k)]) (fun _ => [.var (encB b)])
        (fun k => k ≤ l.length) (fun k => l.length - k) 1 (fun _ => rfl) 0 (Nat.zero_le _) ⟨rfl, rfl, rfl, rfl, rfl, rfl, rfl, rfl, rfl, rfl, rfl, rfl, True.intro⟩ rfl (fun _ _ => rfl) (fun _ _ => rfl) ?_
      intro k hk
      by_cases hlt : k < l.length
      · obtain ⟨n, hnk⟩ : ∃ n, l.getD k default = n := ⟨_, rfl⟩
        obtain ⟨d1, d2⟩ := hdn n (by rw [← hnk]; exact getD_mem hlt)
        have q1 := ticksR_in n.start
        have q2 := ticksR_in n.len
        have k1 := ticks6_spec n.start
        have k2 := ticks6_spec n.len
        rw [ticksX_ok d1] at k1
        rw [ticksX_ok d2] at k2
        have hsuc : (l.take (k + 1)).any (sndB p b.id t) = ((l.take k).any (sndB p b.id t) || sndB p b.id t n) := by
          rw [take_snoc' hlt, List.any_append, hnk]; simp
        have hsn : sndB p b.id t n = (((n.part == p && n.bar == b.id) && decide ((ticksR n.start).1 ≤ t)) && decide (t < (ticksR n.start).1 + (ticksR n.len).1)) := rfl
        rw [hsn] at hsuc
        generalize (l.take k).any (sndB p b.id t) = z at *
        generalize (ticksR n.start).1 = u at *
        generalize (ticksR n.len).1 = d at *
        repeat' (first | refine AOps.q rfl rfl rfl (fun hg => by first | exact PRun.eq (v := .iptr (encN (l.getD ((k : Nat) : Int).toNat default))) (PRun.indexMW tabOk rfl rfl nd rfl nd rfl rfl (by omega)) (congrArg (fun x => AV.iptr (encN x)) hnk) | exact std0 | exact PRun.callW (k1) rfl rfl nd rfl nds | exact PRun.callW (k2) rfl rfl nd rfl nds | exact std1) (by exact rfl) ?_ | refine AWP.seq ?_ | refine AWP.regionK (fun K' hK => ?_) | (refine AOps.nil (hK _ _ ?_); clear hK K') | refine AOps.e (EStep.boxW rfl rfl rfl rfl rfl True.intro rfl rfl ?_) | refine AOps.e (EStep.storeW tabOk rfl rfl rfl True.intro rfl rfl True.intro rfl rfl rfl rfl rfl rfl rfl ?_) | refine AOps.e (EStep.allocW tabOk rfl rfl rfl rfl rfl rfl ?_) | (refine AWP.condW rfl True.intro (fun hc => ?_) (fun hc => ?_) <;> (first | (simp only [decide_eq_true_eq] at hc) | (simp only [decide_eq_false_iff_not, Int.not_lt, Int.not_le] at hc) | skip)) | refine AWP.block ?_ | refine AWP.exit ?_ | refine AWP.skip ?_ | refine AWP.ret ?_ | refine AWP.drawK2 (by decide +kernel) (by kernel_rfl) (by decide +kernel) rfl (fun K' hK => ?_) | refine AWP.drawL2 (by kernel_rfl) (by decide +kernel) rfl (fun K' hK => ?_) | (refine AQ.nil (hK _ ?_); clear hK K') | refine AQ.nil ?_ | refine AQ.q rfl rfl (fun hg => by first | exact PRun.eq (v := .iptr (encN (l.getD ((k : Nat) : Int).toNat default))) (PRun.indexMW tabOk rfl rfl nd rfl nd rfl rfl (by omega)) (congrArg (fun x => AV.iptr (encN x)) hnk) | exact std0 | exact PRun.callW (k1) rfl rfl nd rfl nds | exact PRun.callW (k2) rfl rfl nd rfl nds | exact std1) (by exact rfl) ?_)
        all_goals (first | (exfalso; omega) | (exfalso; simp at hc; omega) | skip)
        refine ⟨k + 1, hlt, by omega, ⟨rfl, rfl, rfl, rfl, rfl, rfl, rfl, rfl, ?_, rfl, rfl, rfl, True.intro⟩, rfl⟩
        rw [hsuc]; rfl
      · obtain rfl : k = l.length := by omega
        rw [List.take_length]
        rw [hc1] at v1
        rw [hc2] at v2
        generalize l.any (sndB p b.id t) = z at *
        repeat' (first | refine AOps.q rfl rfl rfl (fun hg => by first | exact std0 | exact PRun.callW (v1) rfl rfl nd rfl nds | exact PRun.callW (v2) rfl rfl nd rfl nds | exact std1) (by exact rfl) ?_ | refine AWP.seq ?_ | refine AWP.regionK (fun K' hK => ?_) | (refine AOps.nil (hK _ _ ?_); clear hK K') | refine AOps.e (EStep.boxW rfl rfl rfl rfl rfl True.intro rfl rfl ?_) | refine AOps.e (EStep.storeW tabOk rfl rfl rfl True.intro rfl rfl True.intro rfl rfl rfl rfl rfl rfl rfl ?_) | refine AOps.e (EStep.allocW tabOk rfl rfl rfl rfl rfl rfl ?_) | (refine AWP.condW rfl True.intro (fun hc => ?_) (fun hc => ?_) <;> (first | (simp only [decide_eq_true_eq] at hc) | (simp only [decide_eq_false_iff_not, Int.not_lt, Int.not_le] at hc) | skip)) | refine AWP.block ?_ | refine AWP.exit ?_ | refine AWP.skip ?_ | refine AWP.ret ?_ | refine AWP.drawK2 (by decide +kernel) (by kernel_rfl) (by decide +kernel) rfl (fun K' hK => ?_) | refine AWP.drawL2 (by kernel_rfl) (by decide +kernel) rfl (fun K' hK => ?_) | (refine AQ.nil (hK _ ?_); clear hK K') | refine AQ.nil ?_ | refine AQ.q rfl rfl (fun hg => by first | exact std0 | exact PRun.callW (v1) rfl rfl nd rfl nds | exact PRun.callW (v2) rfl rfl nd rfl nds | exact std1) (by exact rfl) ?_)
        all_goals (first | (exfalso; omega) | (exfalso; simp at hc; omega) | skip)
        refine ⟨.inr rfl, Ent.b ?_⟩
        have : sumI xs + sumI ys = W := by omega
        simp [this]
  · refine PCall.body Tryd.func7 rfl rfl Tryd.ntmps7 rfl rfl ?_
    repeat' (first | refine AOps.q rfl rfl rfl (fun hg => by first | exact std0 | exact PRun.callW (hh) rfl rfl nd rfl nds | exact PRun.callW (hu) rfl rfl nd rfl nds | exact (Bool.noConfusion (show false = true from hg) : PRun _ _ _ _ (.b false)) | exact std1) (by exact rfl) ?_ | refine AWP.seq ?_ | refine AWP.regionK (fun K' hK => ?_) | (refine AOps.nil (hK _ _ ?_); clear hK K') | refine AOps.e (EStep.boxW rfl rfl rfl rfl rfl True.intro rfl rfl ?_) | refine AOps.e (EStep.storeW tabOk rfl rfl rfl True.intro rfl rfl True.intro rfl rfl rfl rfl rfl rfl rfl ?_) | refine AOps.e (EStep.allocW tabOk rfl rfl rfl rfl rfl rfl ?_) | fail | refine AWP.block ?_ | refine AWP.exit ?_ | refine AWP.skip ?_ | refine AWP.ret ?_ | (refine AQ.nil (hK _ ?_); clear hK K') | refine AQ.nil ?_ | refine AQ.q rfl rfl (fun hg => by first | exact std0 | exact PRun.callW (hh) rfl rfl nd rfl nds | exact PRun.callW (hu) rfl rfl nd rfl nds | exact (Bool.noConfusion (show false = true from hg) : PRun _ _ _ _ (.b false)) | exact std1) (by exact rfl) ?_)
    refine AWP.condW rfl True.intro (fun hc => ?_) (fun hc => ?_)
    · repeat' (first | refine AOps.q rfl rfl rfl (fun hg => by first | exact std0 | exact std1) (by exact rfl) ?_ | refine AWP.seq ?_ | refine AWP.regionK (fun K' hK => ?_) | (refine AOps.nil (hK _ _ ?_); clear hK K') | refine AOps.e (EStep.boxW rfl rfl rfl rfl rfl True.intro rfl rfl ?_) | refine AOps.e (EStep.storeW tabOk rfl rfl rfl True.intro rfl rfl True.intro rfl rfl rfl rfl rfl rfl rfl ?_) | refine AOps.e (EStep.allocW tabOk rfl rfl rfl rfl rfl rfl ?_) | (refine AWP.condW rfl True.intro (fun hc => ?_) (fun hc => ?_) <;> (first | (simp only [decide_eq_true_eq] at hc) | (simp only [decide_eq_false_iff_not, Int.not_lt, Int.not_le] at hc) | skip)) | refine AWP.block ?_ | refine AWP.exit ?_ | refine AWP.skip ?_ | refine AWP.ret ?_ | (refine AQ.nil (hK _ ?_); clear hK K') | refine AQ.nil ?_ | refine AQ.q rfl rfl (fun hg => by first | exact std0 | exact std1) (by exact rfl) ?_)
      exact ⟨.inr rfl, Ent.b rfl⟩
    · exfalso
      apply hg0
      simp only [Bool.or_eq_false_iff, Bool.not_eq_false', decide_eq_false_iff_not] at hc
      exact ⟨hc.1.1, by omega, by omega⟩
end Go.Proofs.YtnmdmmfdnnmdfaaDoor.Nt
