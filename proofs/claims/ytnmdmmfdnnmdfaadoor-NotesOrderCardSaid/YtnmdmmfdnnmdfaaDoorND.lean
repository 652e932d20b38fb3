/- Contracts by content: ratio.Make of parts of a quarter, quarters; spans, an iterator. No statement is proved here. -/
import Derived.Test.YtnmdmmfdnnmdfaaDoorNB
import Derived.Test.YtnmdmmfdnnmdfaaDoorNP
import Derived.Test.YtnmdmmfdnnmdfaaDoorSF
set_option linter.unusedVariables false
set_option linter.unusedSimpArgs false
namespace Go.Ab
theorem gOf_yes {ops : Array Oper} {o : Oper} {env : Env} {j d : Nat} {want t : Bool} (h1 : o.guard = some (j, want)) (h2 : (ops[j]?).bind (·.dst) = some d) (h3 : env d = .prim (.bool t)) : gOf ops env o = some (.yes (t == want)) := by
  unfold gOf; rw [h1]; simp only; rw [h2]; simp only; rw [h3]
end Go.Ab
namespace Go.Proofs.YtnmdmmfdnnmdfaaDoor.Nt
open Go.Ab
attribute [local irreducible] AWP AOps EStep AQ PStep PRun PCall TCall VCall

/-- So many parts of a quarter. -/
def ratQ (n : Int) : Rat := ⟨n.tdiv (redG n 1680), (1680 : Int).tdiv (redG n 1680)⟩
theorem rat_spec (n : Int) (h : 0 ≤ n ∧ n ≤ 1000000) : PCall Tryd.prog 122 [.agg [.int n, .int 1680]] (.tup [.agg (encR (ratQ n)), .int 0]) := by
  have hr := reduced_spec n 1680 ⟨by omega, by omega⟩ ⟨by omega, by omega⟩ (by decide)
  have b1 := tdiv_le n (redG n 1680)
  have b2 := tdiv_le 1680 (redG n 1680)
  have er : ratQ n = ⟨n.tdiv (redG n 1680), (1680 : Int).tdiv (redG n 1680)⟩ := rfl
  rw [er]
  generalize n.tdiv (redG n 1680) = x at *
  generalize (1680 : Int).tdiv (redG n 1680) = y at *
  refine PCall.bodyS tabOk Tryd.func122 rfl rfl Tryd.ntmps122 rfl ?_
  repeat' (first | refine AOps.q rfl rfl rfl (fun hg => by first | exact std0 | exact PRun.callW (hr) rfl rfl nd rfl nds | exact PRun.callW (size_spec x ⟨by omega, by omega⟩) rfl rfl nd rfl nds | exact PRun.buildW tabOk rfl rfl nds | exact std1) (by exact rfl) ?_ | refine AWP.seq ?_ | refine AWP.regionK (fun K' hK => ?_) | (refine AOps.nil (hK _ _ ?_); clear hK K') | refine AOps.e (EStep.boxW rfl rfl rfl rfl rfl True.intro rfl rfl ?_) | refine AOps.e (EStep.storeW tabOk rfl rfl rfl True.intro rfl rfl True.intro rfl rfl rfl rfl rfl rfl rfl ?_) | refine AOps.e (EStep.allocW tabOk rfl rfl rfl rfl rfl rfl ?_) | (refine AWP.condW rfl True.intro (fun hc => ?_) (fun hc => ?_) <;> (first | (simp only [decide_eq_true_eq] at hc) | (simp only [decide_eq_false_iff_not, Int.not_lt, Int.not_le] at hc) | skip)) | refine AWP.block ?_ | refine AWP.exit ?_ | refine AWP.skip ?_ | refine AWP.ret ?_ | refine AWP.drawK2 (by decide +kernel) (by kernel_rfl) (by decide +kernel) rfl (fun K' hK => ?_) | refine AWP.drawL2 (by kernel_rfl) (by decide +kernel) rfl (fun K' hK => ?_) | (refine AQ.nil (hK _ ?_); clear hK K') | refine AQ.nil ?_ | refine AQ.q rfl rfl (fun hg => by first | exact std0 | exact PRun.callW (hr) rfl rfl nd rfl nds | exact PRun.callW (size_spec x ⟨by omega, by omega⟩) rfl rfl nd rfl nds | exact PRun.buildW tabOk rfl rfl nds | exact std1) (by exact rfl) ?_)
  · exfalso
    simp only [Bool.or_eq_true, decide_eq_true_eq] at hc
    omega
  · exact ⟨.inr rfl, _, rfl, Ent.of rfl⟩
theorem far_spec (n : Int) : PCall Tryd.prog 121 [.int n] (.b (decide (n < -1000000000000000) || decide (n > 1000000000000000))) := by
  refine PCall.body Tryd.func121 rfl rfl Tryd.ntmps121 rfl rfl ?_
  repeat' (first | refine AOps.q rfl rfl rfl (fun hg => by first | exact std0 | exact std1) (by exact rfl) ?_ | refine AWP.seq ?_ | refine AWP.regionK (fun K' hK => ?_) | (refine AOps.nil (hK _ _ ?_); clear hK K') | refine AOps.e (EStep.boxW rfl rfl rfl rfl rfl True.intro rfl rfl ?_) | refine AOps.e (EStep.storeW tabOk rfl rfl rfl True.intro rfl rfl True.intro rfl rfl rfl rfl rfl rfl rfl ?_) | refine AOps.e (EStep.allocW tabOk rfl rfl rfl rfl rfl rfl ?_) | (refine AWP.condW rfl True.intro (fun hc => ?_) (fun hc => ?_) <;> (first | (simp only [decide_eq_true_eq] at hc) | (simp only [decide_eq_false_iff_not, Int.not_lt, Int.not_le] at hc) | skip)) | refine AWP.block ?_ | refine AWP.exit ?_ | refine AWP.skip ?_ | refine AWP.ret ?_ | refine AWP.drawK2 (by decide +kernel) (by kernel_rfl) (by decide +kernel) rfl (fun K' hK => ?_) | refine AWP.drawL2 (by kernel_rfl) (by decide +kernel) rfl (fun K' hK => ?_) | (refine AQ.nil (hK _ ?_); clear hK K') | refine AQ.nil ?_ | refine AQ.q rfl rfl (fun hg => by first | exact std0 | exact std1) (by exact rfl) ?_)
  exact ⟨.inr rfl, Ent.b rfl⟩
theorem make_spec (n : Int) (h : 0 ≤ n ∧ n ≤ 1000000) : PCall Tryd.prog 102 [.int n, .int 1680] (.tup [.agg (encR (ratQ n)), .int 0]) := by
  have hr := rat_spec n h
  refine PCall.bodyS tabOk Tryd.func102 rfl rfl Tryd.ntmps102 rfl ?_
  repeat' (first | refine AOps.q rfl rfl rfl (fun hg => by first | exact std0 | exact PRun.callW (far_spec _) rfl rfl nd rfl nds | exact PRun.callW (hr) rfl rfl nd rfl nds | exact PRun.buildW tabOk rfl rfl nds | exact std1) (by exact rfl) ?_ | refine AWP.seq ?_ | refine AWP.regionK (fun K' hK => ?_) | (refine AOps.nil (hK _ _ ?_); clear hK K') | refine AOps.e (EStep.boxW rfl rfl rfl rfl rfl True.intro rfl rfl ?_) | refine AOps.e (EStep.storeW tabOk rfl rfl rfl True.intro rfl rfl True.intro rfl rfl rfl rfl rfl rfl rfl ?_) | refine AOps.e (EStep.allocW tabOk rfl rfl rfl rfl rfl rfl ?_) | (refine AWP.condW rfl True.intro (fun hc => ?_) (fun hc => ?_) <;> (first | (simp only [decide_eq_true_eq] at hc) | (simp only [decide_eq_false_iff_not, Int.not_lt, Int.not_le] at hc) | skip)) | refine AWP.block ?_ | refine AWP.exit ?_ | refine AWP.skip ?_ | refine AWP.ret ?_ | refine AWP.drawK2 (by decide +kernel) (by kernel_rfl) (by decide +kernel) rfl (fun K' hK => ?_) | refine AWP.drawL2 (by kernel_rfl) (by decide +kernel) rfl (fun K' hK => ?_) | (refine AQ.nil (hK _ ?_); clear hK K') | refine AQ.nil ?_ | refine AQ.q rfl rfl (fun hg => by first | exact std0 | exact PRun.callW (far_spec _) rfl rfl nd rfl nds | exact PRun.callW (hr) rfl rfl nd rfl nds | exact PRun.buildW tabOk rfl rfl nds | exact std1) (by exact rfl) ?_)
  · exfalso
    simp at hc
    omega
  · exact ⟨.inr rfl, _, rfl, Ent.of rfl⟩
theorem quarters_spec (n : Int) (h : 0 ≤ n ∧ n ≤ 1000000) : PCall Tryd.prog 64 [.int n] (.agg (encR (ratQ n))) := by
  have hr := make_spec n h
  refine PCall.bodyS tabOk Tryd.func64 rfl rfl Tryd.ntmps64 rfl ?_
  repeat' (first | refine AOps.q rfl rfl rfl (fun hg => by first | exact std0 | exact PRun.callW (hr) rfl rfl nd rfl nds | exact PRun.buildW tabOk rfl rfl nds | exact std1) (by exact rfl) ?_ | refine AWP.seq ?_ | refine AWP.regionK (fun K' hK => ?_) | (refine AOps.nil (hK _ _ ?_); clear hK K') | refine AOps.e (EStep.boxW rfl rfl rfl rfl rfl True.intro rfl rfl ?_) | refine AOps.e (EStep.storeW tabOk rfl rfl rfl True.intro rfl rfl True.intro rfl rfl rfl rfl rfl rfl rfl ?_) | refine AOps.e (EStep.allocW tabOk rfl rfl rfl rfl rfl rfl ?_) | (refine AWP.condW rfl True.intro (fun hc => ?_) (fun hc => ?_) <;> (first | (simp only [decide_eq_true_eq] at hc) | (simp only [decide_eq_false_iff_not, Int.not_lt, Int.not_le] at hc) | skip)) | refine AWP.block ?_ | refine AWP.exit ?_ | refine AWP.skip ?_ | refine AWP.ret ?_ | refine AWP.drawK2 (by decide +kernel) (by kernel_rfl) (by decide +kernel) rfl (fun K' hK => ?_) | refine AWP.drawL2 (by kernel_rfl) (by decide +kernel) rfl (fun K' hK => ?_) | (refine AQ.nil (hK _ ?_); clear hK K') | refine AQ.nil ?_ | refine AQ.q rfl rfl (fun hg => by first | exact std0 | exact PRun.callW (hr) rfl rfl nd rfl nds | exact PRun.buildW tabOk rfl rfl nds | exact std1) (by exact rfl) ?_)
  exact ⟨.inr rfl, _, rfl, Ent.of rfl⟩
theorem spans_spec (l : List Note) : PCall Tryd.prog 62 [.sl 12 (l.map encN) .no] (.fn (.func 98) [] [.iptr [.sl 12 (l.map encN) .no]]) := by
  refine PCall.body Tryd.func62 rfl rfl Tryd.ntmps62 rfl rfl ?_
  repeat' (first | refine AOps.q rfl rfl rfl (fun hg => by first | exact std0 | exact std1) (by exact rfl) ?_ | refine AWP.seq ?_ | refine AWP.regionK (fun K' hK => ?_) | (refine AOps.nil (hK _ _ ?_); clear hK K') | refine AOps.e (EStep.boxW rfl rfl rfl rfl rfl True.intro rfl rfl ?_) | refine AOps.e (EStep.storeW tabOk rfl rfl rfl True.intro rfl rfl True.intro rfl rfl rfl rfl rfl rfl rfl ?_) | refine AOps.e (EStep.allocW tabOk rfl rfl rfl rfl rfl rfl ?_) | (refine AWP.condW rfl True.intro (fun hc => ?_) (fun hc => ?_) <;> (first | (simp only [decide_eq_true_eq] at hc) | (simp only [decide_eq_false_iff_not, Int.not_lt, Int.not_le] at hc) | skip)) | refine AWP.block ?_ | refine AWP.exit ?_ | refine AWP.skip ?_ | refine AWP.drawK2 (by decide +kernel) (by kernel_rfl) (by decide +kernel) rfl (fun K' hK => ?_) | refine AWP.drawL2 (by kernel_rfl) (by decide +kernel) rfl (fun K' hK => ?_) | (refine AQ.nil (hK _ ?_); clear hK K') | refine AQ.nil ?_ | refine AQ.q rfl rfl (fun hg => by first | exact std0 | exact std1) (by exact rfl) ?_)
  refine AWP.freezeV 0 rfl rfl ?_
  exact AWP.ret ⟨.inr rfl, fun _ _ h => h⟩
/-- When a note sounds. -/
def iv (n : Note) : Iv := (beg n, beg n + (ticksR n.len).1)
theorem exL3 {σ : Store} (h : σ.length = 3) : σ = [σ.getD 0 .dead, σ.getD 1 .dead, σ.getD 2 .dead] := by
  match σ, h with
  | [a0, a1, a2], _ => rfl
set_option maxHeartbeats 4000000 in
set_option maxRecDepth 20000 in
theorem spans_iter3 (l : List Note) (hl : l.length ≤ 1000000000) :
    IterL Tryd.prog 98 [] [.iptr [.sl 12 (l.map encN) .no]] ((spansP (l.map iv)).map fun x => [.int x.1, .int x.2]) 3 := by
  intro yv S R hS hR hy hyield
  rw [List.length_map] at *
  generalize hT : spansP (l.map iv) = T at *
  have hT0 : goP 0 (-1) ((l.map iv).drop 0) = T.drop 0 := by rw [List.drop_zero, List.drop_zero]; exact hT
  clear hT
  have ex : ∀ j, j ≤ T.length → S j = [(S j).getD 0 .dead, (S j).getD 1 .dead, (S j).getD 2 .dead] := fun j hj => exL3 (hS j hj).1
  have hok : ∀ j, j ≤ T.length → ([(S j).getD 0 .dead, (S j).getD 1 .dead, (S j).getD 2 .dead] : Store).all (okObj 3) = true := fun j hj => by rw [← ex j hj]; exact (hS j hj).2
  have hyc : ∀ (c : Nat) (f u : Int), c < T.length → T[c]? = some (f, u) → ∀ ex' : Store, (ex'.all (okObj (3 + ex'.length)) = true → True) →
      VCall Tryd.prog (.opq yv) [.int f, .int u] ([(S c).getD 0 .dead, (S c).getD 1 .dead, (S c).getD 2 .dead] ++ ex')
        (fun r t => (r = .b true ∧ t = [(S (c + 1)).getD 0 .dead, (S (c + 1)).getD 1 .dead, (S (c + 1)).getD 2 .dead] ++ ex') ∨ (r = .b false ∧ ∃ t', t = t' ++ ex' ∧ R c t')) := fun c f u hc hcc ex' _ => by
    have hv := VCall.frame (hyield c [.int f, .int u] (by rw [List.getElem?_map, hcc]; rfl)) ex' (by rw [(hS _ (by omega)).1]; exact (hS _ (by omega)).2) (by rw [(hS _ (by omega)).1]; exact hy) rfl (by
      rintro rv s' (⟨_, rfl⟩ | ⟨_, hh⟩)
      · rw [(hS _ (by omega)).1, (hS _ (by omega)).1]
      · rw [(hS _ (by omega)).1, (hR _ _ hh).1])
    have e1 := ex c (by omega)
    have e2 := ex (c + 1) (by omega)
    rw [e1] at hv
    refine VCall.mono hv ?_
    rintro r t ⟨t', rfl, (⟨rfl, rfl⟩ | ⟨rfl, hh⟩)⟩
    · refine .inl ⟨rfl, ?_⟩
      conv => lhs; rw [e2]
    · exact .inr ⟨rfl, t', rfl, hh⟩
  show TCall _ _ [.opq yv, .iptr [.sl 12 (l.map encN) .no]] (S 0) _
  rw [ex 0 (Nat.zero_le _)]
  refine TCall.body Tryd.func98 rfl rfl Tryd.ntmps98 rfl rfl ?_
  repeat' (first | refine AOps.q rfl rfl rfl (fun hg => by first | exact std0 | exact std1) (by exact rfl) ?_ | refine AWP.seq ?_ | refine AWP.regionK (fun K' hK => ?_) | (refine AOps.nil (hK _ _ ?_); clear hK K') | refine AOps.e (EStep.boxW rfl rfl rfl rfl rfl True.intro rfl rfl ?_) | refine AOps.e (EStep.storeW tabOk rfl rfl rfl True.intro rfl rfl True.intro rfl rfl rfl rfl rfl rfl rfl ?_) | refine AOps.e (EStep.allocW tabOk rfl rfl rfl rfl rfl rfl ?_) | (refine AWP.condW rfl True.intro (fun hc => ?_) (fun hc => ?_) <;> (first | (simp only [decide_eq_true_eq] at hc) | (simp only [decide_eq_false_iff_not, Int.not_lt, Int.not_le] at hc) | skip)) | refine AWP.block ?_ | refine AWP.exit ?_ | refine AWP.skip ?_ | refine AWP.ret ?_ | refine AWP.drawK2 (by decide +kernel) (by kernel_rfl) (by decide +kernel) rfl (fun K' hK => ?_) | refine AWP.drawL2 (by kernel_rfl) (by decide +kernel) rfl (fun K' hK => ?_) | (refine AQ.nil (hK _ ?_); clear hK K') | refine AQ.nil ?_ | refine AQ.q rfl rfl (fun hg => by first | exact std0 | exact std1) (by exact rfl) ?_)
  refine AWP.loopD (ι := Nat × Int × Int × Nat) (fun x => [(0, .opq yv), (3, .int x.2.1), (4, .int x.2.2.1), (11, .sl 12 (l.map encN) .no), (12, .int l.length), (13, .int x.1)])
    (fun x => [(S x.2.2.2).getD 0 .dead, (S x.2.2.2).getD 1 .dead, (S x.2.2.2).getD 2 .dead])
    (fun x => x.1 ≤ l.length ∧ x.2.2.2 ≤ T.length ∧ goP x.2.1 x.2.2.1 ((l.map iv).drop x.1) = T.drop x.2.2.2 ∧ (0 ≤ x.2.1 ∧ x.2.1 ≤ 4000000000000) ∧ -1 ≤ x.2.2.1 ∧ x.2.2.1 ≤ 4000000000000) (fun x => l.length - x.1) 3 (fun _ => rfl) (0, 0, -1, 0)
    ⟨Nat.zero_le _, Nat.zero_le _, hT0, ⟨Int.le_refl _, by show (0 : Int) ≤ _; omega⟩, Int.le_refl _, by show (-1 : Int) ≤ _; omega⟩ ⟨rfl, rfl, rfl, rfl, rfl, rfl, True.intro⟩ rfl (fun k _ => by
      simp only [List.all_cons, List.all_nil, Bool.and_true, Bool.and_eq_true]
      exact ⟨hy, rfl, rfl, rfl, rfl, rfl⟩) (fun x hx => hok _ hx.2.1) ?_
  rintro ⟨k, f, u, c⟩ ⟨hk, hc0, hg, ⟨f1, f2⟩, u1, u2⟩
  dsimp only at hk hc0 hg f1 f2 u1 u2
  by_cases hlt : k < l.length
  · obtain ⟨n, hn⟩ : ∃ n, l.getD k default = n := ⟨_, rfl⟩
    have hdr : (l.map iv).drop k = iv n :: (l.map iv).drop (k + 1) := by
      rw [List.drop_eq_getElem_cons (by simpa using hlt), List.getElem_map, ← hn, getD_lt hlt]
    rw [hdr, goP] at hg
    have q1 := ticksR_in n.start
    have q2 := ticksR_in n.len
    have c1 := ticks_spec n.start
    have c2 := ticks_spec n.len
    have i1 : (iv n).1 = (ticksR n.start).1 := rfl
    have i2 : (iv n).2 = (ticksR n.start).1 + (ticksR n.len).1 := rfl
    rw [i1, i2] at hg
    generalize (ticksR n.start).1 = a at *
    generalize (ticksR n.len).1 = d at *
    by_cases hua : u < a
    · rw [if_pos hua] at hg
      have h31 : decide (a > u) = true := decide_eq_true hua
      by_cases hfu : f < u
      · rw [if_pos hfu] at hg
        have h34 : decide (u > f) = true := decide_eq_true hfu
        have hcl : c < T.length := by
          rcases Nat.lt_or_ge c T.length with h | h
          · exact h
          · rw [List.drop_eq_nil_of_le h] at hg; cases hg
        rw [List.drop_eq_getElem_cons hcl] at hg
        obtain ⟨hg1, hg2⟩ := List.cons.inj hg
        have hv2 := hyc c f u hcl (by rw [List.getElem?_eq_getElem hcl, ← hg1]) [.var (encN n)] (fun _ => True.intro)
        clear hyc ex hok hyield hS hg
        repeat' (first | refine AOps.q rfl rfl rfl (fun hg => by first | exact PRun.eq (PRun.binW rfl rfl nd rfl nd rfl) (show AV.b (decide (a > u)) = AV.b true by rw [h31]) | exact PRun.eq (PRun.binW rfl rfl nd rfl nd rfl) (show AV.b (decide (u > f)) = AV.b true by rw [h34]) | exact PRun.eq (v := .iptr (encN (l.getD ((k : Nat) : Int).toNat default))) (PRun.indexMW tabOk rfl rfl nd rfl nd rfl rfl (by omega)) (congrArg (fun x => AV.iptr (encN x)) hn) | exact std0 | exact PRun.callW (c1) rfl rfl nd rfl nds | exact PRun.callW (c2) rfl rfl nd rfl nds | exact std1) (by exact rfl) ?_ | refine AWP.seq ?_ | refine AWP.regionK (fun K' hK => ?_) | (refine AOps.nil (hK _ _ ?_); clear hK K') | refine AOps.e (EStep.boxW rfl rfl rfl rfl rfl True.intro rfl rfl ?_) | refine AOps.e (EStep.storeW tabOk rfl rfl rfl True.intro rfl rfl True.intro rfl rfl rfl rfl rfl rfl rfl ?_) | refine AOps.e (EStep.allocW tabOk rfl rfl rfl rfl rfl rfl ?_) | refine AOps.e (EStep.gd (gOf_yes rfl rfl rfl) rfl <| EStep.callT hv2 rfl rfl rfl rfl rfl (by first | exact True.intro | exact rfl) rfl rfl (by repeat' (first | exact True.intro | exact rfl | refine ⟨?_, ?_⟩)) ?_) | (refine AWP.condW rfl True.intro (fun hc => ?_) (fun hc => ?_) <;> (first | (simp only [decide_eq_true_eq] at hc) | (simp only [decide_eq_false_iff_not, Int.not_lt, Int.not_le] at hc) | skip)) | refine AWP.block ?_ | refine AWP.exit ?_ | refine AWP.skip ?_ | refine AWP.ret ?_ | refine AWP.drawK2 (by decide +kernel) (by kernel_rfl) (by decide +kernel) rfl (fun K' hK => ?_) | refine AWP.drawL2 (by kernel_rfl) (by decide +kernel) rfl (fun K' hK => ?_) | (refine AQ.nil (hK _ ?_); clear hK K') | refine AQ.nil ?_ | refine AQ.q rfl rfl (fun hg => by first | exact PRun.eq (PRun.binW rfl rfl nd rfl nd rfl) (show AV.b (decide (a > u)) = AV.b true by rw [h31]) | exact PRun.eq (PRun.binW rfl rfl nd rfl nd rfl) (show AV.b (decide (u > f)) = AV.b true by rw [h34]) | exact PRun.eq (v := .iptr (encN (l.getD ((k : Nat) : Int).toNat default))) (PRun.indexMW tabOk rfl rfl nd rfl nd rfl rfl (by omega)) (congrArg (fun x => AV.iptr (encN x)) hn) | exact std0 | exact PRun.callW (c1) rfl rfl nd rfl nds | exact PRun.callW (c2) rfl rfl nd rfl nds | exact std1) (by exact rfl) ?_)
        all_goals (first | (exfalso; omega) | (exfalso; simp at hc; done) | (exfalso; simp at hc; omega) | (rename_i h0; exfalso; simp at h0; omega) | (rename_i h1 h0; exfalso; simp at h1; omega) | skip)
        rintro r t (⟨rfl, rfl⟩ | ⟨rfl, t', rfl, hh⟩)
        · repeat' (first | refine AOps.q rfl rfl rfl (fun hg => by first | exact std0 | exact std1) (by exact rfl) ?_ | refine AWP.seq ?_ | refine AWP.regionK (fun K' hK => ?_) | (refine AOps.nil (hK _ _ ?_); clear hK K') | refine AOps.e (EStep.boxW rfl rfl rfl rfl rfl True.intro rfl rfl ?_) | refine AOps.e (EStep.storeW tabOk rfl rfl rfl True.intro rfl rfl True.intro rfl rfl rfl rfl rfl rfl rfl ?_) | refine AOps.e (EStep.allocW tabOk rfl rfl rfl rfl rfl rfl ?_) | (refine AWP.condW rfl True.intro (fun hc => ?_) (fun hc => ?_) <;> (first | (simp only [decide_eq_true_eq] at hc) | (simp only [decide_eq_false_iff_not, Int.not_lt, Int.not_le] at hc) | skip)) | refine AWP.block ?_ | refine AWP.exit ?_ | refine AWP.skip ?_ | refine AWP.ret ?_ | refine AWP.drawK2 (by decide +kernel) (by kernel_rfl) (by decide +kernel) rfl (fun K' hK => ?_) | refine AWP.drawL2 (by kernel_rfl) (by decide +kernel) rfl (fun K' hK => ?_) | (refine AQ.nil (hK _ ?_); clear hK K') | refine AQ.nil ?_ | refine AQ.q rfl rfl (fun hg => by first | exact std0 | exact std1) (by exact rfl) ?_)
          all_goals (first | (exfalso; omega) | (exfalso; simp at hc; done) | (exfalso; simp at hc; omega) | (rename_i h0; exfalso; simp at h0; omega) | (rename_i h1 h0; exfalso; simp at h1; omega) | skip)
          exact ⟨(k + 1, a, max a (a + d), c + 1), ⟨hlt, hcl, hg2, ⟨by show 0 ≤ a; omega, by show a ≤ _; omega⟩, by show -1 ≤ max a (a + d); omega, by show max a (a + d) ≤ _; omega⟩, by show l.length - (k + 1) < l.length - k; omega, ⟨rfl, rfl, rfl, rfl, rfl, rfl, True.intro⟩, rfl⟩
        · repeat' (first | refine AOps.q rfl rfl rfl (fun hg => by first | exact std0 | exact std1) (by exact rfl) ?_ | refine AWP.seq ?_ | refine AWP.regionK (fun K' hK => ?_) | (refine AOps.nil (hK _ _ ?_); clear hK K') | refine AOps.e (EStep.boxW rfl rfl rfl rfl rfl True.intro rfl rfl ?_) | refine AOps.e (EStep.storeW tabOk rfl rfl rfl True.intro rfl rfl True.intro rfl rfl rfl rfl rfl rfl rfl ?_) | refine AOps.e (EStep.allocW tabOk rfl rfl rfl rfl rfl rfl ?_) | (refine AWP.condW rfl True.intro (fun hc => ?_) (fun hc => ?_) <;> (first | (simp only [decide_eq_true_eq] at hc) | (simp only [decide_eq_false_iff_not, Int.not_lt, Int.not_le] at hc) | skip)) | refine AWP.block ?_ | refine AWP.exit ?_ | refine AWP.skip ?_ | refine AWP.ret ?_ | refine AWP.drawK2 (by decide +kernel) (by kernel_rfl) (by decide +kernel) rfl (fun K' hK => ?_) | refine AWP.drawL2 (by kernel_rfl) (by decide +kernel) rfl (fun K' hK => ?_) | (refine AQ.nil (hK _ ?_); clear hK K') | refine AQ.nil ?_ | refine AQ.q rfl rfl (fun hg => by first | exact std0 | exact std1) (by exact rfl) ?_)
          all_goals (first | (exfalso; simp at hc; done) | (rename_i h0; exfalso; simp at h0; done) | skip)
          obtain ⟨k1, k2⟩ := hR _ _ hh
          exact ⟨.inr rfl, .tup [], t', .inr ⟨_, hcl, hh⟩, by simp, by rw [k1]; exact Nat.le_refl _, by rw [k1]; exact k2, rfl, rfl⟩
      · rw [if_neg hfu] at hg
        have h34 : decide (u > f) = false := decide_eq_false hfu
        clear hyc ex hok hyield hS
        repeat' (first | refine AOps.q rfl rfl rfl (fun hg => by first | exact PRun.eq (PRun.binW rfl rfl nd rfl nd rfl) (show AV.b (decide (a > u)) = AV.b true by rw [h31]) | exact PRun.eq (PRun.binW rfl rfl nd rfl nd rfl) (show AV.b (decide (u > f)) = AV.b false by rw [h34]) | exact PRun.eq (v := .iptr (encN (l.getD ((k : Nat) : Int).toNat default))) (PRun.indexMW tabOk rfl rfl nd rfl nd rfl rfl (by omega)) (congrArg (fun x => AV.iptr (encN x)) hn) | exact std0 | exact PRun.callW (c1) rfl rfl nd rfl nds | exact PRun.callW (c2) rfl rfl nd rfl nds | exact (Bool.noConfusion (show false = true from hg) : PRun _ _ _ _ (.b false)) | exact std1) (by exact rfl) ?_ | refine AWP.seq ?_ | refine AWP.regionK (fun K' hK => ?_) | (refine AOps.nil (hK _ _ ?_); clear hK K') | refine AOps.e (EStep.boxW rfl rfl rfl rfl rfl True.intro rfl rfl ?_) | refine AOps.e (EStep.storeW tabOk rfl rfl rfl True.intro rfl rfl True.intro rfl rfl rfl rfl rfl rfl rfl ?_) | refine AOps.e (EStep.allocW tabOk rfl rfl rfl rfl rfl rfl ?_) | (refine AWP.condW rfl True.intro (fun hc => ?_) (fun hc => ?_) <;> (first | (simp only [decide_eq_true_eq] at hc) | (simp only [decide_eq_false_iff_not, Int.not_lt, Int.not_le] at hc) | skip)) | refine AWP.block ?_ | refine AWP.exit ?_ | refine AWP.skip ?_ | refine AWP.ret ?_ | refine AWP.drawK2 (by decide +kernel) (by kernel_rfl) (by decide +kernel) rfl (fun K' hK => ?_) | refine AWP.drawL2 (by kernel_rfl) (by decide +kernel) rfl (fun K' hK => ?_) | (refine AQ.nil (hK _ ?_); clear hK K') | refine AQ.nil ?_ | refine AQ.q rfl rfl (fun hg => by first | exact PRun.eq (PRun.binW rfl rfl nd rfl nd rfl) (show AV.b (decide (a > u)) = AV.b true by rw [h31]) | exact PRun.eq (PRun.binW rfl rfl nd rfl nd rfl) (show AV.b (decide (u > f)) = AV.b false by rw [h34]) | exact PRun.eq (v := .iptr (encN (l.getD ((k : Nat) : Int).toNat default))) (PRun.indexMW tabOk rfl rfl nd rfl nd rfl rfl (by omega)) (congrArg (fun x => AV.iptr (encN x)) hn) | exact std0 | exact PRun.callW (c1) rfl rfl nd rfl nds | exact PRun.callW (c2) rfl rfl nd rfl nds | exact (Bool.noConfusion (show false = true from hg) : PRun _ _ _ _ (.b false)) | exact std1) (by exact rfl) ?_)
        all_goals (first | (exfalso; omega) | (exfalso; simp at hc; done) | (exfalso; simp at hc; omega) | (rename_i h0; exfalso; simp at h0; omega) | (rename_i h1 h0; exfalso; simp at h1; omega) | skip)
        exact ⟨(k + 1, a, max a (a + d), c), ⟨hlt, hc0, hg, ⟨by show 0 ≤ a; omega, by show a ≤ _; omega⟩, by show -1 ≤ max a (a + d); omega, by show max a (a + d) ≤ _; omega⟩, by show l.length - (k + 1) < l.length - k; omega, ⟨rfl, rfl, rfl, rfl, rfl, rfl, True.intro⟩, rfl⟩
    · rw [if_neg hua] at hg
      have h31 : decide (a > u) = false := decide_eq_false hua
      clear hyc ex hok hyield hS
      repeat' (first | refine AOps.q rfl rfl rfl (fun hg => by first | exact PRun.eq (PRun.binW rfl rfl nd rfl nd rfl) (show AV.b (decide (a > u)) = AV.b false by rw [h31]) | exact PRun.eq (v := .iptr (encN (l.getD ((k : Nat) : Int).toNat default))) (PRun.indexMW tabOk rfl rfl nd rfl nd rfl rfl (by omega)) (congrArg (fun x => AV.iptr (encN x)) hn) | exact std0 | exact PRun.callW (c1) rfl rfl nd rfl nds | exact PRun.callW (c2) rfl rfl nd rfl nds | exact std1) (by exact rfl) ?_ | refine AWP.seq ?_ | refine AWP.regionK (fun K' hK => ?_) | (refine AOps.nil (hK _ _ ?_); clear hK K') | refine AOps.e (EStep.boxW rfl rfl rfl rfl rfl True.intro rfl rfl ?_) | refine AOps.e (EStep.storeW tabOk rfl rfl rfl True.intro rfl rfl True.intro rfl rfl rfl rfl rfl rfl rfl ?_) | refine AOps.e (EStep.allocW tabOk rfl rfl rfl rfl rfl rfl ?_) | (refine AWP.condW rfl True.intro (fun hc => ?_) (fun hc => ?_) <;> (first | (simp only [decide_eq_true_eq] at hc) | (simp only [decide_eq_false_iff_not, Int.not_lt, Int.not_le] at hc) | skip)) | refine AWP.block ?_ | refine AWP.exit ?_ | refine AWP.skip ?_ | refine AWP.ret ?_ | refine AWP.drawK2 (by decide +kernel) (by kernel_rfl) (by decide +kernel) rfl (fun K' hK => ?_) | refine AWP.drawL2 (by kernel_rfl) (by decide +kernel) rfl (fun K' hK => ?_) | (refine AQ.nil (hK _ ?_); clear hK K') | refine AQ.nil ?_ | refine AQ.q rfl rfl (fun hg => by first | exact PRun.eq (PRun.binW rfl rfl nd rfl nd rfl) (show AV.b (decide (a > u)) = AV.b false by rw [h31]) | exact PRun.eq (v := .iptr (encN (l.getD ((k : Nat) : Int).toNat default))) (PRun.indexMW tabOk rfl rfl nd rfl nd rfl rfl (by omega)) (congrArg (fun x => AV.iptr (encN x)) hn) | exact std0 | exact PRun.callW (c1) rfl rfl nd rfl nds | exact PRun.callW (c2) rfl rfl nd rfl nds | exact std1) (by exact rfl) ?_)
      all_goals (first | (exfalso; omega) | (exfalso; simp at hc; done) | (exfalso; simp at hc; omega) | (rename_i h0; exfalso; simp at h0; omega) | (rename_i h1 h0; exfalso; simp at h1; omega) | skip)
      exact ⟨(k + 1, f, max u (a + d), c), ⟨hlt, hc0, hg, ⟨f1, f2⟩, by show -1 ≤ max u (a + d); omega, by show max u (a + d) ≤ _; omega⟩, by show l.length - (k + 1) < l.length - k; omega, ⟨rfl, rfl, rfl, rfl, rfl, rfl, True.intro⟩, rfl⟩
  · obtain rfl : k = l.length := by omega
    rw [List.drop_eq_nil_of_le (by simp), goP] at hg
    by_cases hfu : f < u
    · rw [if_pos hfu] at hg
      have h52 : decide (u > f) = true := decide_eq_true hfu
      have hcl : c < T.length := by
        rcases Nat.lt_or_ge c T.length with h | h
        · exact h
        · rw [List.drop_eq_nil_of_le h] at hg; cases hg
      rw [List.drop_eq_getElem_cons hcl] at hg
      obtain ⟨hg1, hg2⟩ := List.cons.inj hg
      have hce : c + 1 = T.length := by
        have := congrArg List.length hg2
        simp only [List.length_nil, List.length_drop] at this
        omega
      have hv2 := hyc c f u hcl (by rw [List.getElem?_eq_getElem hcl, ← hg1]) [] (fun _ => True.intro)
      rw [List.append_nil, List.append_nil] at hv2
      rw [hce] at hv2
      repeat' (first | refine AOps.q rfl rfl rfl (fun hg => by first | exact PRun.eq (PRun.binW rfl rfl nd rfl nd rfl) (show AV.b (decide (u > f)) = AV.b true by rw [h52]) | exact std0 | exact std1) (by exact rfl) ?_ | refine AWP.seq ?_ | refine AWP.regionK (fun K' hK => ?_) | (refine AOps.nil (hK _ _ ?_); clear hK K') | refine AOps.e (EStep.boxW rfl rfl rfl rfl rfl True.intro rfl rfl ?_) | refine AOps.e (EStep.storeW tabOk rfl rfl rfl True.intro rfl rfl True.intro rfl rfl rfl rfl rfl rfl rfl ?_) | refine AOps.e (EStep.allocW tabOk rfl rfl rfl rfl rfl rfl ?_) | refine AOps.e (EStep.callT (hv2) rfl rfl rfl rfl rfl nd rfl rfl nds ?_) | (refine AWP.condW rfl True.intro (fun hc => ?_) (fun hc => ?_) <;> (first | (simp only [decide_eq_true_eq] at hc) | (simp only [decide_eq_false_iff_not, Int.not_lt, Int.not_le] at hc) | skip)) | refine AWP.block ?_ | refine AWP.exit ?_ | refine AWP.skip ?_ | refine AWP.ret ?_ | refine AWP.drawK2 (by decide +kernel) (by kernel_rfl) (by decide +kernel) rfl (fun K' hK => ?_) | refine AWP.drawL2 (by kernel_rfl) (by decide +kernel) rfl (fun K' hK => ?_) | (refine AQ.nil (hK _ ?_); clear hK K') | refine AQ.nil ?_ | refine AQ.q rfl rfl (fun hg => by first | exact PRun.eq (PRun.binW rfl rfl nd rfl nd rfl) (show AV.b (decide (u > f)) = AV.b true by rw [h52]) | exact std0 | exact std1) (by exact rfl) ?_)
      all_goals (first | (exfalso; omega) | (exfalso; simp at hc; done) | (exfalso; simp at hc; omega) | (rename_i h0; exfalso; simp at h0; omega) | (rename_i h1 h0; exfalso; simp at h1; omega) | skip)
      rintro r t (⟨rfl, rfl⟩ | ⟨rfl, t', rfl, hh⟩)
      · repeat' (first | refine AOps.q rfl rfl rfl (fun hg => by first | exact std0 | exact std1) (by exact rfl) ?_ | refine AWP.seq ?_ | refine AWP.regionK (fun K' hK => ?_) | (refine AOps.nil (hK _ _ ?_); clear hK K') | refine AOps.e (EStep.boxW rfl rfl rfl rfl rfl True.intro rfl rfl ?_) | refine AOps.e (EStep.storeW tabOk rfl rfl rfl True.intro rfl rfl True.intro rfl rfl rfl rfl rfl rfl rfl ?_) | refine AOps.e (EStep.allocW tabOk rfl rfl rfl rfl rfl rfl ?_) | (refine AWP.condW rfl True.intro (fun hc => ?_) (fun hc => ?_) <;> (first | (simp only [decide_eq_true_eq] at hc) | (simp only [decide_eq_false_iff_not, Int.not_lt, Int.not_le] at hc) | skip)) | refine AWP.block ?_ | refine AWP.exit ?_ | refine AWP.skip ?_ | refine AWP.ret ?_ | refine AWP.drawK2 (by decide +kernel) (by kernel_rfl) (by decide +kernel) rfl (fun K' hK => ?_) | refine AWP.drawL2 (by kernel_rfl) (by decide +kernel) rfl (fun K' hK => ?_) | (refine AQ.nil (hK _ ?_); clear hK K') | refine AQ.nil ?_ | refine AQ.q rfl rfl (fun hg => by first | exact std0 | exact std1) (by exact rfl) ?_)
        refine ⟨.inl rfl, .tup [], S T.length, .inl rfl, ?_, ?_, ?_, rfl, rfl⟩
        · rw [(hS _ (Nat.le_refl _)).1]
          conv => rhs; rw [ex _ (Nat.le_refl _)]
          rfl
        · rw [(hS _ (Nat.le_refl _)).1]; exact Nat.le_refl _
        · rw [(hS _ (Nat.le_refl _)).1]; exact (hS _ (Nat.le_refl _)).2
      · repeat' (first | refine AOps.q rfl rfl rfl (fun hg => by first | exact std0 | exact std1) (by exact rfl) ?_ | refine AWP.seq ?_ | refine AWP.regionK (fun K' hK => ?_) | (refine AOps.nil (hK _ _ ?_); clear hK K') | refine AOps.e (EStep.boxW rfl rfl rfl rfl rfl True.intro rfl rfl ?_) | refine AOps.e (EStep.storeW tabOk rfl rfl rfl True.intro rfl rfl True.intro rfl rfl rfl rfl rfl rfl rfl ?_) | refine AOps.e (EStep.allocW tabOk rfl rfl rfl rfl rfl rfl ?_) | (refine AWP.condW rfl True.intro (fun hc => ?_) (fun hc => ?_) <;> (first | (simp only [decide_eq_true_eq] at hc) | (simp only [decide_eq_false_iff_not, Int.not_lt, Int.not_le] at hc) | skip)) | refine AWP.block ?_ | refine AWP.exit ?_ | refine AWP.skip ?_ | refine AWP.ret ?_ | refine AWP.drawK2 (by decide +kernel) (by kernel_rfl) (by decide +kernel) rfl (fun K' hK => ?_) | refine AWP.drawL2 (by kernel_rfl) (by decide +kernel) rfl (fun K' hK => ?_) | (refine AQ.nil (hK _ ?_); clear hK K') | refine AQ.nil ?_ | refine AQ.q rfl rfl (fun hg => by first | exact std0 | exact std1) (by exact rfl) ?_)
        obtain ⟨k1, k2⟩ := hR _ _ hh
        exact ⟨.inl rfl, .tup [], t', .inr ⟨_, hcl, hh⟩, by simp, by rw [k1]; exact Nat.le_refl _, by rw [k1]; exact k2, rfl, rfl⟩
    · rw [if_neg hfu] at hg
      have h52 : decide (u > f) = false := decide_eq_false hfu
      have hce : c = T.length := by
        have := congrArg List.length hg
        simp only [List.length_nil, List.length_drop] at this
        omega
      subst hce
      repeat' (first | refine AOps.q rfl rfl rfl (fun hg => by first | exact PRun.eq (PRun.binW rfl rfl nd rfl nd rfl) (show AV.b (decide (u > f)) = AV.b false by rw [h52]) | exact std0 | exact std1) (by exact rfl) ?_ | refine AWP.seq ?_ | refine AWP.regionK (fun K' hK => ?_) | (refine AOps.nil (hK _ _ ?_); clear hK K') | refine AOps.e (EStep.boxW rfl rfl rfl rfl rfl True.intro rfl rfl ?_) | refine AOps.e (EStep.storeW tabOk rfl rfl rfl True.intro rfl rfl True.intro rfl rfl rfl rfl rfl rfl rfl ?_) | refine AOps.e (EStep.allocW tabOk rfl rfl rfl rfl rfl rfl ?_) | (refine AWP.condW rfl True.intro (fun hc => ?_) (fun hc => ?_) <;> (first | (simp only [decide_eq_true_eq] at hc) | (simp only [decide_eq_false_iff_not, Int.not_lt, Int.not_le] at hc) | skip)) | refine AWP.block ?_ | refine AWP.exit ?_ | refine AWP.skip ?_ | refine AWP.ret ?_ | refine AWP.drawK2 (by decide +kernel) (by kernel_rfl) (by decide +kernel) rfl (fun K' hK => ?_) | refine AWP.drawL2 (by kernel_rfl) (by decide +kernel) rfl (fun K' hK => ?_) | (refine AQ.nil (hK _ ?_); clear hK K') | refine AQ.nil ?_ | refine AQ.q rfl rfl (fun hg => by first | exact PRun.eq (PRun.binW rfl rfl nd rfl nd rfl) (show AV.b (decide (u > f)) = AV.b false by rw [h52]) | exact std0 | exact std1) (by exact rfl) ?_)
      all_goals (first | (exfalso; omega) | (exfalso; simp at hc; done) | (exfalso; simp at hc; omega) | (rename_i h0; exfalso; simp at h0; omega) | (rename_i h1 h0; exfalso; simp at h1; omega) | skip)
      refine ⟨.inl rfl, .tup [], S T.length, .inl rfl, ?_, ?_, ?_, rfl, rfl⟩
      · rw [(hS _ (Nat.le_refl _)).1]
        conv => rhs; rw [ex _ (Nat.le_refl _)]
        rfl
      · rw [(hS _ (Nat.le_refl _)).1]; exact Nat.le_refl _
      · rw [(hS _ (Nat.le_refl _)).1]; exact (hS _ (Nat.le_refl _)).2
theorem exL5 {σ : Store} (h : σ.length = 5) : σ = [σ.getD 0 .dead, σ.getD 1 .dead, σ.getD 2 .dead, σ.getD 3 .dead, σ.getD 4 .dead] := by
  match σ, h with
  | [a0, a1, a2, a3, a4], _ => rfl
set_option maxHeartbeats 4000000 in
set_option maxRecDepth 20000 in
theorem spans_iter5 (l : List Note) (hl : l.length ≤ 1000000000) :
    IterL Tryd.prog 98 [] [.iptr [.sl 12 (l.map encN) .no]] ((spansP (l.map iv)).map fun x => [.int x.1, .int x.2]) 5 := by
  intro yv S R hS hR hy hyield
  rw [List.length_map] at *
  generalize hT : spansP (l.map iv) = T at *
  have hT0 : goP 0 (-1) ((l.map iv).drop 0) = T.drop 0 := by rw [List.drop_zero, List.drop_zero]; exact hT
  clear hT
  have ex : ∀ j, j ≤ T.length → S j = [(S j).getD 0 .dead, (S j).getD 1 .dead, (S j).getD 2 .dead, (S j).getD 3 .dead, (S j).getD 4 .dead] := fun j hj => exL5 (hS j hj).1
  have hok : ∀ j, j ≤ T.length → ([(S j).getD 0 .dead, (S j).getD 1 .dead, (S j).getD 2 .dead, (S j).getD 3 .dead, (S j).getD 4 .dead] : Store).all (okObj 5) = true := fun j hj => by rw [← ex j hj]; exact (hS j hj).2
  have hyc : ∀ (c : Nat) (f u : Int), c < T.length → T[c]? = some (f, u) → ∀ ex' : Store, (ex'.all (okObj (5 + ex'.length)) = true → True) →
      VCall Tryd.prog (.opq yv) [.int f, .int u] ([(S c).getD 0 .dead, (S c).getD 1 .dead, (S c).getD 2 .dead, (S c).getD 3 .dead, (S c).getD 4 .dead] ++ ex')
        (fun r t => (r = .b true ∧ t = [(S (c + 1)).getD 0 .dead, (S (c + 1)).getD 1 .dead, (S (c + 1)).getD 2 .dead, (S (c + 1)).getD 3 .dead, (S (c + 1)).getD 4 .dead] ++ ex') ∨ (r = .b false ∧ ∃ t', t = t' ++ ex' ∧ R c t')) := fun c f u hc hcc ex' _ => by
    have hv := VCall.frame (hyield c [.int f, .int u] (by rw [List.getElem?_map, hcc]; rfl)) ex' (by rw [(hS _ (by omega)).1]; exact (hS _ (by omega)).2) (by rw [(hS _ (by omega)).1]; exact hy) rfl (by
      rintro rv s' (⟨_, rfl⟩ | ⟨_, hh⟩)
      · rw [(hS _ (by omega)).1, (hS _ (by omega)).1]
      · rw [(hS _ (by omega)).1, (hR _ _ hh).1])
    have e1 := ex c (by omega)
    have e2 := ex (c + 1) (by omega)
    rw [e1] at hv
    refine VCall.mono hv ?_
    rintro r t ⟨t', rfl, (⟨rfl, rfl⟩ | ⟨rfl, hh⟩)⟩
    · refine .inl ⟨rfl, ?_⟩
      conv => lhs; rw [e2]
    · exact .inr ⟨rfl, t', rfl, hh⟩
  show TCall _ _ [.opq yv, .iptr [.sl 12 (l.map encN) .no]] (S 0) _
  rw [ex 0 (Nat.zero_le _)]
  refine TCall.body Tryd.func98 rfl rfl Tryd.ntmps98 rfl rfl ?_
  repeat' (first | refine AOps.q rfl rfl rfl (fun hg => by first | exact std0 | exact std1) (by exact rfl) ?_ | refine AWP.seq ?_ | refine AWP.regionK (fun K' hK => ?_) | (refine AOps.nil (hK _ _ ?_); clear hK K') | refine AOps.e (EStep.boxW rfl rfl rfl rfl rfl True.intro rfl rfl ?_) | refine AOps.e (EStep.storeW tabOk rfl rfl rfl True.intro rfl rfl True.intro rfl rfl rfl rfl rfl rfl rfl ?_) | refine AOps.e (EStep.allocW tabOk rfl rfl rfl rfl rfl rfl ?_) | (refine AWP.condW rfl True.intro (fun hc => ?_) (fun hc => ?_) <;> (first | (simp only [decide_eq_true_eq] at hc) | (simp only [decide_eq_false_iff_not, Int.not_lt, Int.not_le] at hc) | skip)) | refine AWP.block ?_ | refine AWP.exit ?_ | refine AWP.skip ?_ | refine AWP.ret ?_ | refine AWP.drawK2 (by decide +kernel) (by kernel_rfl) (by decide +kernel) rfl (fun K' hK => ?_) | refine AWP.drawL2 (by kernel_rfl) (by decide +kernel) rfl (fun K' hK => ?_) | (refine AQ.nil (hK _ ?_); clear hK K') | refine AQ.nil ?_ | refine AQ.q rfl rfl (fun hg => by first | exact std0 | exact std1) (by exact rfl) ?_)
  refine AWP.loopD (ι := Nat × Int × Int × Nat) (fun x => [(0, .opq yv), (3, .int x.2.1), (4, .int x.2.2.1), (11, .sl 12 (l.map encN) .no), (12, .int l.length), (13, .int x.1)])
    (fun x => [(S x.2.2.2).getD 0 .dead, (S x.2.2.2).getD 1 .dead, (S x.2.2.2).getD 2 .dead, (S x.2.2.2).getD 3 .dead, (S x.2.2.2).getD 4 .dead])
    (fun x => x.1 ≤ l.length ∧ x.2.2.2 ≤ T.length ∧ goP x.2.1 x.2.2.1 ((l.map iv).drop x.1) = T.drop x.2.2.2 ∧ (0 ≤ x.2.1 ∧ x.2.1 ≤ 4000000000000) ∧ -1 ≤ x.2.2.1 ∧ x.2.2.1 ≤ 4000000000000) (fun x => l.length - x.1) 5 (fun _ => rfl) (0, 0, -1, 0)
    ⟨Nat.zero_le _, Nat.zero_le _, hT0, ⟨Int.le_refl _, by show (0 : Int) ≤ _; omega⟩, Int.le_refl _, by show (-1 : Int) ≤ _; omega⟩ ⟨rfl, rfl, rfl, rfl, rfl, rfl, True.intro⟩ rfl (fun k _ => by
      simp only [List.all_cons, List.all_nil, Bool.and_true, Bool.and_eq_true]
      exact ⟨hy, rfl, rfl, rfl, rfl, rfl⟩) (fun x hx => hok _ hx.2.1) ?_
  rintro ⟨k, f, u, c⟩ ⟨hk, hc0, hg, ⟨f1, f2⟩, u1, u2⟩
  dsimp only at hk hc0 hg f1 f2 u1 u2
  by_cases hlt : k < l.length
  · obtain ⟨n, hn⟩ : ∃ n, l.getD k default = n := ⟨_, rfl⟩
    have hdr : (l.map iv).drop k = iv n :: (l.map iv).drop (k + 1) := by
      rw [List.drop_eq_getElem_cons (by simpa using hlt), List.getElem_map, ← hn, getD_lt hlt]
    rw [hdr, goP] at hg
    have q1 := ticksR_in n.start
    have q2 := ticksR_in n.len
    have c1 := ticks_spec n.start
    have c2 := ticks_spec n.len
    have i1 : (iv n).1 = (ticksR n.start).1 := rfl
    have i2 : (iv n).2 = (ticksR n.start).1 + (ticksR n.len).1 := rfl
    rw [i1, i2] at hg
    generalize (ticksR n.start).1 = a at *
    generalize (ticksR n.len).1 = d at *
    by_cases hua : u < a
    · rw [if_pos hua] at hg
      have h31 : decide (a > u) = true := decide_eq_true hua
      by_cases hfu : f < u
      · rw [if_pos hfu] at hg
        have h34 : decide (u > f) = true := decide_eq_true hfu
        have hcl : c < T.length := by
          rcases Nat.lt_or_ge c T.length with h | h
          · exact h
          · rw [List.drop_eq_nil_of_le h] at hg; cases hg
        rw [List.drop_eq_getElem_cons hcl] at hg
        obtain ⟨hg1, hg2⟩ := List.cons.inj hg
        have hv2 := hyc c f u hcl (by rw [List.getElem?_eq_getElem hcl, ← hg1]) [.var (encN n)] (fun _ => True.intro)
        clear hyc ex hok hyield hS hg
        repeat' (first | refine AOps.q rfl rfl rfl (fun hg => by first | exact PRun.eq (PRun.binW rfl rfl nd rfl nd rfl) (show AV.b (decide (a > u)) = AV.b true by rw [h31]) | exact PRun.eq (PRun.binW rfl rfl nd rfl nd rfl) (show AV.b (decide (u > f)) = AV.b true by rw [h34]) | exact PRun.eq (v := .iptr (encN (l.getD ((k : Nat) : Int).toNat default))) (PRun.indexMW tabOk rfl rfl nd rfl nd rfl rfl (by omega)) (congrArg (fun x => AV.iptr (encN x)) hn) | exact std0 | exact PRun.callW (c1) rfl rfl nd rfl nds | exact PRun.callW (c2) rfl rfl nd rfl nds | exact std1) (by exact rfl) ?_ | refine AWP.seq ?_ | refine AWP.regionK (fun K' hK => ?_) | (refine AOps.nil (hK _ _ ?_); clear hK K') | refine AOps.e (EStep.boxW rfl rfl rfl rfl rfl True.intro rfl rfl ?_) | refine AOps.e (EStep.storeW tabOk rfl rfl rfl True.intro rfl rfl True.intro rfl rfl rfl rfl rfl rfl rfl ?_) | refine AOps.e (EStep.allocW tabOk rfl rfl rfl rfl rfl rfl ?_) | refine AOps.e (EStep.gd (gOf_yes rfl rfl rfl) rfl <| EStep.callT hv2 rfl rfl rfl rfl rfl (by first | exact True.intro | exact rfl) rfl rfl (by repeat' (first | exact True.intro | exact rfl | refine ⟨?_, ?_⟩)) ?_) | (refine AWP.condW rfl True.intro (fun hc => ?_) (fun hc => ?_) <;> (first | (simp only [decide_eq_true_eq] at hc) | (simp only [decide_eq_false_iff_not, Int.not_lt, Int.not_le] at hc) | skip)) | refine AWP.block ?_ | refine AWP.exit ?_ | refine AWP.skip ?_ | refine AWP.ret ?_ | refine AWP.drawK2 (by decide +kernel) (by kernel_rfl) (by decide +kernel) rfl (fun K' hK => ?_) | refine AWP.drawL2 (by kernel_rfl) (by decide +kernel) rfl (fun K' hK => ?_) | (refine AQ.nil (hK _ ?_); clear hK K') | refine AQ.nil ?_ | refine AQ.q rfl rfl (fun hg => by first | exact PRun.eq (PRun.binW rfl rfl nd rfl nd rfl) (show AV.b (decide (a > u)) = AV.b true by rw [h31]) | exact PRun.eq (PRun.binW rfl rfl nd rfl nd rfl) (show AV.b (decide (u > f)) = AV.b true by rw [h34]) | exact PRun.eq (v := .iptr (encN (l.getD ((k : Nat) : Int).toNat default))) (PRun.indexMW tabOk rfl rfl nd rfl nd rfl rfl (by omega)) (congrArg (fun x => AV.iptr (encN x)) hn) | exact std0 | exact PRun.callW (c1) rfl rfl nd rfl nds | exact PRun.callW (c2) rfl rfl nd rfl nds | exact std1) (by exact rfl) ?_)
        all_goals (first | (exfalso; omega) | (exfalso; simp at hc; done) | (exfalso; simp at hc; omega) | (rename_i h0; exfalso; simp at h0; omega) | (rename_i h1 h0; exfalso; simp at h1; omega) | skip)
        rintro r t (⟨rfl, rfl⟩ | ⟨rfl, t', rfl, hh⟩)
        · repeat' (first | refine AOps.q rfl rfl rfl (fun hg => by first | exact std0 | exact std1) (by exact rfl) ?_ | refine AWP.seq ?_ | refine AWP.regionK (fun K' hK => ?_) | (refine AOps.nil (hK _ _ ?_); clear hK K') | refine AOps.e (EStep.boxW rfl rfl rfl rfl rfl True.intro rfl rfl ?_) | refine AOps.e (EStep.storeW tabOk rfl rfl rfl True.intro rfl rfl True.intro rfl rfl rfl rfl rfl rfl rfl ?_) | refine AOps.e (EStep.allocW tabOk rfl rfl rfl rfl rfl rfl ?_) | (refine AWP.condW rfl True.intro (fun hc => ?_) (fun hc => ?_) <;> (first | (simp only [decide_eq_true_eq] at hc) | (simp only [decide_eq_false_iff_not, Int.not_lt, Int.not_le] at hc) | skip)) | refine AWP.block ?_ | refine AWP.exit ?_ | refine AWP.skip ?_ | refine AWP.ret ?_ | refine AWP.drawK2 (by decide +kernel) (by kernel_rfl) (by decide +kernel) rfl (fun K' hK => ?_) | refine AWP.drawL2 (by kernel_rfl) (by decide +kernel) rfl (fun K' hK => ?_) | (refine AQ.nil (hK _ ?_); clear hK K') | refine AQ.nil ?_ | refine AQ.q rfl rfl (fun hg => by first | exact std0 | exact std1) (by exact rfl) ?_)
          all_goals (first | (exfalso; omega) | (exfalso; simp at hc; done) | (exfalso; simp at hc; omega) | (rename_i h0; exfalso; simp at h0; omega) | (rename_i h1 h0; exfalso; simp at h1; omega) | skip)
          exact ⟨(k + 1, a, max a (a + d), c + 1), ⟨hlt, hcl, hg2, ⟨by show 0 ≤ a; omega, by show a ≤ _; omega⟩, by show -1 ≤ max a (a + d); omega, by show max a (a + d) ≤ _; omega⟩, by show l.length - (k + 1) < l.length - k; omega, ⟨rfl, rfl, rfl, rfl, rfl, rfl, True.intro⟩, rfl⟩
        · repeat' (first | refine AOps.q rfl rfl rfl (fun hg => by first | exact std0 | exact std1) (by exact rfl) ?_ | refine AWP.seq ?_ | refine AWP.regionK (fun K' hK => ?_) | (refine AOps.nil (hK _ _ ?_); clear hK K') | refine AOps.e (EStep.boxW rfl rfl rfl rfl rfl True.intro rfl rfl ?_) | refine AOps.e (EStep.storeW tabOk rfl rfl rfl True.intro rfl rfl True.intro rfl rfl rfl rfl rfl rfl rfl ?_) | refine AOps.e (EStep.allocW tabOk rfl rfl rfl rfl rfl rfl ?_) | (refine AWP.condW rfl True.intro (fun hc => ?_) (fun hc => ?_) <;> (first | (simp only [decide_eq_true_eq] at hc) | (simp only [decide_eq_false_iff_not, Int.not_lt, Int.not_le] at hc) | skip)) | refine AWP.block ?_ | refine AWP.exit ?_ | refine AWP.skip ?_ | refine AWP.ret ?_ | refine AWP.drawK2 (by decide +kernel) (by kernel_rfl) (by decide +kernel) rfl (fun K' hK => ?_) | refine AWP.drawL2 (by kernel_rfl) (by decide +kernel) rfl (fun K' hK => ?_) | (refine AQ.nil (hK _ ?_); clear hK K') | refine AQ.nil ?_ | refine AQ.q rfl rfl (fun hg => by first | exact std0 | exact std1) (by exact rfl) ?_)
          all_goals (first | (exfalso; simp at hc; done) | (rename_i h0; exfalso; simp at h0; done) | skip)
          obtain ⟨k1, k2⟩ := hR _ _ hh
          exact ⟨.inr rfl, .tup [], t', .inr ⟨_, hcl, hh⟩, by simp, by rw [k1]; exact Nat.le_refl _, by rw [k1]; exact k2, rfl, rfl⟩
      · rw [if_neg hfu] at hg
        have h34 : decide (u > f) = false := decide_eq_false hfu
        clear hyc ex hok hyield hS
        repeat' (first | refine AOps.q rfl rfl rfl (fun hg => by first | exact PRun.eq (PRun.binW rfl rfl nd rfl nd rfl) (show AV.b (decide (a > u)) = AV.b true by rw [h31]) | exact PRun.eq (PRun.binW rfl rfl nd rfl nd rfl) (show AV.b (decide (u > f)) = AV.b false by rw [h34]) | exact PRun.eq (v := .iptr (encN (l.getD ((k : Nat) : Int).toNat default))) (PRun.indexMW tabOk rfl rfl nd rfl nd rfl rfl (by omega)) (congrArg (fun x => AV.iptr (encN x)) hn) | exact std0 | exact PRun.callW (c1) rfl rfl nd rfl nds | exact PRun.callW (c2) rfl rfl nd rfl nds | exact (Bool.noConfusion (show false = true from hg) : PRun _ _ _ _ (.b false)) | exact std1) (by exact rfl) ?_ | refine AWP.seq ?_ | refine AWP.regionK (fun K' hK => ?_) | (refine AOps.nil (hK _ _ ?_); clear hK K') | refine AOps.e (EStep.boxW rfl rfl rfl rfl rfl True.intro rfl rfl ?_) | refine AOps.e (EStep.storeW tabOk rfl rfl rfl True.intro rfl rfl True.intro rfl rfl rfl rfl rfl rfl rfl ?_) | refine AOps.e (EStep.allocW tabOk rfl rfl rfl rfl rfl rfl ?_) | (refine AWP.condW rfl True.intro (fun hc => ?_) (fun hc => ?_) <;> (first | (simp only [decide_eq_true_eq] at hc) | (simp only [decide_eq_false_iff_not, Int.not_lt, Int.not_le] at hc) | skip)) | refine AWP.block ?_ | refine AWP.exit ?_ | refine AWP.skip ?_ | refine AWP.ret ?_ | refine AWP.drawK2 (by decide +kernel) (by kernel_rfl) (by decide +kernel) rfl (fun K' hK => ?_) | refine AWP.drawL2 (by kernel_rfl) (by decide +kernel) rfl (fun K' hK => ?_) | (refine AQ.nil (hK _ ?_); clear hK K') | refine AQ.nil ?_ | refine AQ.q rfl rfl (fun hg => by first | exact PRun.eq (PRun.binW rfl rfl nd rfl nd rfl) (show AV.b (decide (a > u)) = AV.b true by rw [h31]) | exact PRun.eq (PRun.binW rfl rfl nd rfl nd rfl) (show AV.b (decide (u > f)) = AV.b false by rw [h34]) | exact PRun.eq (v := .iptr (encN (l.getD ((k : Nat) : Int).toNat default))) (PRun.indexMW tabOk rfl rfl nd rfl nd rfl rfl (by omega)) (congrArg (fun x => AV.iptr (encN x)) hn) | exact std0 | exact PRun.callW (c1) rfl rfl nd rfl nds | exact PRun.callW (c2) rfl rfl nd rfl nds | exact (Bool.noConfusion (show false = true from hg) : PRun _ _ _ _ (.b false)) | exact std1) (by exact rfl) ?_)
        all_goals (first | (exfalso; omega) | (exfalso; simp at hc; done) | (exfalso; simp at hc; omega) | (rename_i h0; exfalso; simp at h0; omega) | (rename_i h1 h0; exfalso; simp at h1; omega) | skip)
        exact ⟨(k + 1, a, max a (a + d), c), ⟨hlt, hc0, hg, ⟨by show 0 ≤ a; omega, by show a ≤ _; omega⟩, by show -1 ≤ max a (a + d); omega, by show max a (a + d) ≤ _; omega⟩, by show l.length - (k + 1) < l.length - k; omega, ⟨rfl, rfl, rfl, rfl, rfl, rfl, True.intro⟩, rfl⟩
    · rw [if_neg hua] at hg
      have h31 : decide (a > u) = false := decide_eq_false hua
      clear hyc ex hok hyield hS
      repeat' (first | refine AOps.q rfl rfl rfl (fun hg => by first | exact PRun.eq (PRun.binW rfl rfl nd rfl nd rfl) (show AV.b (decide (a > u)) = AV.b false by rw [h31]) | exact PRun.eq (v := .iptr (encN (l.getD ((k : Nat) : Int).toNat default))) (PRun.indexMW tabOk rfl rfl nd rfl nd rfl rfl (by omega)) (congrArg (fun x => AV.iptr (encN x)) hn) | exact std0 | exact PRun.callW (c1) rfl rfl nd rfl nds | exact PRun.callW (c2) rfl rfl nd rfl nds | exact std1) (by exact rfl) ?_ | refine AWP.seq ?_ | refine AWP.regionK (fun K' hK => ?_) | (refine AOps.nil (hK _ _ ?_); clear hK K') | refine AOps.e (EStep.boxW rfl rfl rfl rfl rfl True.intro rfl rfl ?_) | refine AOps.e (EStep.storeW tabOk rfl rfl rfl True.intro rfl rfl True.intro rfl rfl rfl rfl rfl rfl rfl ?_) | refine AOps.e (EStep.allocW tabOk rfl rfl rfl rfl rfl rfl ?_) | (refine AWP.condW rfl True.intro (fun hc => ?_) (fun hc => ?_) <;> (first | (simp only [decide_eq_true_eq] at hc) | (simp only [decide_eq_false_iff_not, Int.not_lt, Int.not_le] at hc) | skip)) | refine AWP.block ?_ | refine AWP.exit ?_ | refine AWP.skip ?_ | refine AWP.ret ?_ | refine AWP.drawK2 (by decide +kernel) (by kernel_rfl) (by decide +kernel) rfl (fun K' hK => ?_) | refine AWP.drawL2 (by kernel_rfl) (by decide +kernel) rfl (fun K' hK => ?_) | (refine AQ.nil (hK _ ?_); clear hK K') | refine AQ.nil ?_ | refine AQ.q rfl rfl (fun hg => by first | exact PRun.eq (PRun.binW rfl rfl nd rfl nd rfl) (show AV.b (decide (a > u)) = AV.b false by rw [h31]) | exact PRun.eq (v := .iptr (encN (l.getD ((k : Nat) : Int).toNat default))) (PRun.indexMW tabOk rfl rfl nd rfl nd rfl rfl (by omega)) (congrArg (fun x => AV.iptr (encN x)) hn) | exact std0 | exact PRun.callW (c1) rfl rfl nd rfl nds | exact PRun.callW (c2) rfl rfl nd rfl nds | exact std1) (by exact rfl) ?_)
      all_goals (first | (exfalso; omega) | (exfalso; simp at hc; done) | (exfalso; simp at hc; omega) | (rename_i h0; exfalso; simp at h0; omega) | (rename_i h1 h0; exfalso; simp at h1; omega) | skip)
      exact ⟨(k + 1, f, max u (a + d), c), ⟨hlt, hc0, hg, ⟨f1, f2⟩, by show -1 ≤ max u (a + d); omega, by show max u (a + d) ≤ _; omega⟩, by show l.length - (k + 1) < l.length - k; omega, ⟨rfl, rfl, rfl, rfl, rfl, rfl, True.intro⟩, rfl⟩
  · obtain rfl : k = l.length := by omega
    rw [List.drop_eq_nil_of_le (by simp), goP] at hg
    by_cases hfu : f < u
    · rw [if_pos hfu] at hg
      have h52 : decide (u > f) = true := decide_eq_true hfu
      have hcl : c < T.length := by
        rcases Nat.lt_or_ge c T.length with h | h
        · exact h
        · rw [List.drop_eq_nil_of_le h] at hg; cases hg
      rw [List.drop_eq_getElem_cons hcl] at hg
      obtain ⟨hg1, hg2⟩ := List.cons.inj hg
      have hce : c + 1 = T.length := by
        have := congrArg List.length hg2
        simp only [List.length_nil, List.length_drop] at this
        omega
      have hv2 := hyc c f u hcl (by rw [List.getElem?_eq_getElem hcl, ← hg1]) [] (fun _ => True.intro)
      rw [List.append_nil, List.append_nil] at hv2
      rw [hce] at hv2
      repeat' (first | refine AOps.q rfl rfl rfl (fun hg => by first | exact PRun.eq (PRun.binW rfl rfl nd rfl nd rfl) (show AV.b (decide (u > f)) = AV.b true by rw [h52]) | exact std0 | exact std1) (by exact rfl) ?_ | refine AWP.seq ?_ | refine AWP.regionK (fun K' hK => ?_) | (refine AOps.nil (hK _ _ ?_); clear hK K') | refine AOps.e (EStep.boxW rfl rfl rfl rfl rfl True.intro rfl rfl ?_) | refine AOps.e (EStep.storeW tabOk rfl rfl rfl True.intro rfl rfl True.intro rfl rfl rfl rfl rfl rfl rfl ?_) | refine AOps.e (EStep.allocW tabOk rfl rfl rfl rfl rfl rfl ?_) | refine AOps.e (EStep.callT (hv2) rfl rfl rfl rfl rfl nd rfl rfl nds ?_) | (refine AWP.condW rfl True.intro (fun hc => ?_) (fun hc => ?_) <;> (first | (simp only [decide_eq_true_eq] at hc) | (simp only [decide_eq_false_iff_not, Int.not_lt, Int.not_le] at hc) | skip)) | refine AWP.block ?_ | refine AWP.exit ?_ | refine AWP.skip ?_ | refine AWP.ret ?_ | refine AWP.drawK2 (by decide +kernel) (by kernel_rfl) (by decide +kernel) rfl (fun K' hK => ?_) | refine AWP.drawL2 (by kernel_rfl) (by decide +kernel) rfl (fun K' hK => ?_) | (refine AQ.nil (hK _ ?_); clear hK K') | refine AQ.nil ?_ | refine AQ.q rfl rfl (fun hg => by first | exact PRun.eq (PRun.binW rfl rfl nd rfl nd rfl) (show AV.b (decide (u > f)) = AV.b true by rw [h52]) | exact std0 | exact std1) (by exact rfl) ?_)
      all_goals (first | (exfalso; omega) | (exfalso; simp at hc; done) | (exfalso; simp at hc; omega) | (rename_i h0; exfalso; simp at h0; omega) | (rename_i h1 h0; exfalso; simp at h1; omega) | skip)
      rintro r t (⟨rfl, rfl⟩ | ⟨rfl, t', rfl, hh⟩)
      · repeat' (first | refine AOps.q rfl rfl rfl (fun hg => by first | exact std0 | exact std1) (by exact rfl) ?_ | refine AWP.seq ?_ | refine AWP.regionK (fun K' hK => ?_) | (refine AOps.nil (hK _ _ ?_); clear hK K') | refine AOps.e (EStep.boxW rfl rfl rfl rfl rfl True.intro rfl rfl ?_) | refine AOps.e (EStep.storeW tabOk rfl rfl rfl True.intro rfl rfl True.intro rfl rfl rfl rfl rfl rfl rfl ?_) | refine AOps.e (EStep.allocW tabOk rfl rfl rfl rfl rfl rfl ?_) | (refine AWP.condW rfl True.intro (fun hc => ?_) (fun hc => ?_) <;> (first | (simp only [decide_eq_true_eq] at hc) | (simp only [decide_eq_false_iff_not, Int.not_lt, Int.not_le] at hc) | skip)) | refine AWP.block ?_ | refine AWP.exit ?_ | refine AWP.skip ?_ | refine AWP.ret ?_ | refine AWP.drawK2 (by decide +kernel) (by kernel_rfl) (by decide +kernel) rfl (fun K' hK => ?_) | refine AWP.drawL2 (by kernel_rfl) (by decide +kernel) rfl (fun K' hK => ?_) | (refine AQ.nil (hK _ ?_); clear hK K') | refine AQ.nil ?_ | refine AQ.q rfl rfl (fun hg => by first | exact std0 | exact std1) (by exact rfl) ?_)
        refine ⟨.inl rfl, .tup [], S T.length, .inl rfl, ?_, ?_, ?_, rfl, rfl⟩
        · rw [(hS _ (Nat.le_refl _)).1]
          conv => rhs; rw [ex _ (Nat.le_refl _)]
          rfl
        · rw [(hS _ (Nat.le_refl _)).1]; exact Nat.le_refl _
        · rw [(hS _ (Nat.le_refl _)).1]; exact (hS _ (Nat.le_refl _)).2
      · repeat' (first | refine AOps.q rfl rfl rfl (fun hg => by first | exact std0 | exact std1) (by exact rfl) ?_ | refine AWP.seq ?_ | refine AWP.regionK (fun K' hK => ?_) | (refine AOps.nil (hK _ _ ?_); clear hK K') | refine AOps.e (EStep.boxW rfl rfl rfl rfl rfl True.intro rfl rfl ?_) | refine AOps.e (EStep.storeW tabOk rfl rfl rfl True.intro rfl rfl True.intro rfl rfl rfl rfl rfl rfl rfl ?_) | refine AOps.e (EStep.allocW tabOk rfl rfl rfl rfl rfl rfl ?_) | (refine AWP.condW rfl True.intro (fun hc => ?_) (fun hc => ?_) <;> (first | (simp only [decide_eq_true_eq] at hc) | (simp only [decide_eq_false_iff_not, Int.not_lt, Int.not_le] at hc) | skip)) | refine AWP.block ?_ | refine AWP.exit ?_ | refine AWP.skip ?_ | refine AWP.ret ?_ | refine AWP.drawK2 (by decide +kernel) (by kernel_rfl) (by decide +kernel) rfl (fun K' hK => ?_) | refine AWP.drawL2 (by kernel_rfl) (by decide +kernel) rfl (fun K' hK => ?_) | (refine AQ.nil (hK _ ?_); clear hK K') | refine AQ.nil ?_ | refine AQ.q rfl rfl (fun hg => by first | exact std0 | exact std1) (by exact rfl) ?_)
        obtain ⟨k1, k2⟩ := hR _ _ hh
        exact ⟨.inl rfl, .tup [], t', .inr ⟨_, hcl, hh⟩, by simp, by rw [k1]; exact Nat.le_refl _, by rw [k1]; exact k2, rfl, rfl⟩
    · rw [if_neg hfu] at hg
      have h52 : decide (u > f) = false := decide_eq_false hfu
      have hce : c = T.length := by
        have := congrArg List.length hg
        simp only [List.length_nil, List.length_drop] at this
        omega
      subst hce
      repeat' (first | refine AOps.q rfl rfl rfl (fun hg => by first | exact PRun.eq (PRun.binW rfl rfl nd rfl nd rfl) (show AV.b (decide (u > f)) = AV.b false by rw [h52]) | exact std0 | exact std1) (by exact rfl) ?_ | refine AWP.seq ?_ | refine AWP.regionK (fun K' hK => ?_) | (refine AOps.nil (hK _ _ ?_); clear hK K') | refine AOps.e (EStep.boxW rfl rfl rfl rfl rfl True.intro rfl rfl ?_) | refine AOps.e (EStep.storeW tabOk rfl rfl rfl True.intro rfl rfl True.intro rfl rfl rfl rfl rfl rfl rfl ?_) | refine AOps.e (EStep.allocW tabOk rfl rfl rfl rfl rfl rfl ?_) | (refine AWP.condW rfl True.intro (fun hc => ?_) (fun hc => ?_) <;> (first | (simp only [decide_eq_true_eq] at hc) | (simp only [decide_eq_false_iff_not, Int.not_lt, Int.not_le] at hc) | skip)) | refine AWP.block ?_ | refine AWP.exit ?_ | refine AWP.skip ?_ | refine AWP.ret ?_ | refine AWP.drawK2 (by decide +kernel) (by kernel_rfl) (by decide +kernel) rfl (fun K' hK => ?_) | refine AWP.drawL2 (by kernel_rfl) (by decide +kernel) rfl (fun K' hK => ?_) | (refine AQ.nil (hK _ ?_); clear hK K') | refine AQ.nil ?_ | refine AQ.q rfl rfl (fun hg => by first | exact PRun.eq (PRun.binW rfl rfl nd rfl nd rfl) (show AV.b (decide (u > f)) = AV.b false by rw [h52]) | exact std0 | exact std1) (by exact rfl) ?_)
      all_goals (first | (exfalso; omega) | (exfalso; simp at hc; done) | (exfalso; simp at hc; omega) | (rename_i h0; exfalso; simp at h0; omega) | (rename_i h1 h0; exfalso; simp at h1; omega) | skip)
      refine ⟨.inl rfl, .tup [], S T.length, .inl rfl, ?_, ?_, ?_, rfl, rfl⟩
      · rw [(hS _ (Nat.le_refl _)).1]
        conv => rhs; rw [ex _ (Nat.le_refl _)]
        rfl
      · rw [(hS _ (Nat.le_refl _)).1]; exact Nat.le_refl _
      · rw [(hS _ (Nat.le_refl _)).1]; exact (hS _ (Nat.le_refl _)).2
end Go.Proofs.YtnmdmmfdnnmdfaaDoor.Nt
