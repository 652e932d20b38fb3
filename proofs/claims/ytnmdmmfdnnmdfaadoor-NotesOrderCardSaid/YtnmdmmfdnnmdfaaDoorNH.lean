/- Contracts by content: notes.Busy, notes.Rests. No statement is proved here. -/
import Derived.Test.YtnmdmmfdnnmdfaaDoorNF
set_option linter.unusedVariables false
set_option linter.unusedSimpArgs false
namespace Go.Proofs.YtnmdmmfdnnmdfaaDoor.Nt
open Go.Ab
attribute [local irreducible] AWP AOps EStep AQ PStep PRun PCall TCall VCall

/-- Spans of the program's: small, and an iterator. -/
theorem busy_bound {bars : List Bar} {l : List Note} {p b : Int} (h0 : (ofR bars l p b).2 = 0) : ∀ x ∈ spansP ((ofR bars l p b).1.map iv), (0 ≤ x.1 ∧ x.1 ≤ 1000000) ∧ 0 ≤ x.2 ∧ x.2 ≤ 1000000 := fun x hx => by
  obtain ⟨_, _, _, _, w1, w2⟩ := ofR_ok h0
  have := (ofR_facts h0).bound (by omega) x hx
  omega
set_option maxHeartbeats 4000000 in
set_option maxRecDepth 20000 in
theorem busy_spec (bars : List Bar) (l : List Note) (hb : bars.length ≤ 1000000000) (hl : l.length ≤ 100000) (p b : Int) :
    PCall Tryd.prog 24 [.sl 4 (bars.map encB) .no, .sl 12 (l.map encN) .no, .int p, .int b] (.tup [.sl 4 ((busyR bars l p b).1.map encQ) .no, .int (busyR bars l p b).2]) := by
  have h1 := of_spec bars l hb (by omega) p b
  have hlen := ofR_len bars l p b
  by_cases h0 : (ofR bars l p b).2 = 0
  · have hf := ofR_facts h0
    have h2 := byStart_spec (ofR bars l p b).1 hf.ord (by omega)
    have h3 := spans_spec (ofR bars l p b).1
    have hit := spans_iter3 (ofR bars l p b).1 (by omega)
    have hbd := busy_bound h0
    have hg := goP_len ((ofR bars l p b).1.map iv) 0 (-1)
    have hxl : (spansP ((ofR bars l p b).1.map iv)).length ≤ 100001 := by unfold spansP; simp only [List.length_map] at hg; omega
    have er : busyR bars l p b = (spansP ((ofR bars l p b).1.map iv), 0) := by unfold busyR; rw [h0]
    rw [er]
    rw [h0] at h1
    generalize spansP ((ofR bars l p b).1.map iv) = xs at *
    generalize (ofR bars l p b).1 = o at *
    clear hf hg er h0
    refine PCall.body Tryd.func24 rfl rfl Tryd.ntmps24 rfl rfl ?_
    repeat' (first | refine AOps.q rfl rfl rfl (fun hg => by first | exact std0 | exact PRun.callW (h1) rfl rfl nd rfl nds | exact PRun.callW (h2) rfl rfl nd rfl nds | exact PRun.callW (h3) rfl rfl nd rfl nds | exact std1) (by exact rfl) ?_ | refine AWP.seq ?_ | refine AWP.regionK (fun K' hK => ?_) | (refine AOps.nil (hK _ _ ?_); clear hK K') | refine AOps.e (EStep.boxW rfl rfl rfl rfl rfl True.intro rfl rfl ?_) | refine AOps.e (EStep.storeW tabOk rfl rfl rfl True.intro rfl rfl True.intro rfl rfl rfl rfl rfl rfl rfl ?_) | refine AOps.e (EStep.allocW tabOk rfl rfl rfl rfl rfl rfl ?_) | (refine AWP.condW rfl True.intro (fun hc => ?_) (fun hc => ?_) <;> (first | (simp only [decide_eq_true_eq] at hc) | (simp only [decide_eq_false_iff_not, Int.not_lt, Int.not_le] at hc) | skip)) | refine AWP.block ?_ | refine AWP.exit ?_ | refine AWP.skip ?_ | refine AWP.ret ?_ | refine AWP.drawK2 (by decide +kernel) (by kernel_rfl) (by decide +kernel) rfl (fun K' hK => ?_) | refine AWP.drawL2 (by kernel_rfl) (by decide +kernel) rfl (fun K' hK => ?_) | (refine AQ.nil (hK _ ?_); clear hK K') | refine AQ.nil ?_ | refine AQ.q rfl rfl (fun hg => by first | exact std0 | exact PRun.callW (h1) rfl rfl nd rfl nds | exact PRun.callW (h2) rfl rfl nd rfl nds | exact PRun.callW (h3) rfl rfl nd rfl nds | exact std1) (by exact rfl) ?_)
    · exfalso; simp at hc
    refine AWP.ownNilV (v := 0) (i := 0) (sz := 4) (cs := [.nils]) rfl rfl ?_
    refine AWP.rangeFunc (k := 98) (first := []) (caps := [.iptr [.sl 12 (o.map encN) .no]]) (xs.map fun x => [.int x.1, .int x.2]) [(12, .ptr 0 0)] (fun j => [.var [.sl 4 ((xs.take j).map encQ) (.own 1)], .own 4 ((xs.take j).map encQ).length]) (fun _ _ _ => False)
      hit rfl True.intro ?_ ?_ rfl ⟨rfl, True.intro⟩ rfl rfl (fun j _ => ⟨rfl, rfl⟩) (fun _ _ _ h => h.elim) ?_ ?_ (fun _ _ _ _ h => h.elim)
    · intro x hx
      obtain ⟨n, _, rfl⟩ := List.mem_map.1 hx; rfl
    · intro x hx
      obtain ⟨n, _, rfl⟩ := List.mem_map.1 hx; rfl
    · intro j y hy
      simp only [List.getElem?_map, Option.map_eq_some_iff] at hy
      obtain ⟨x, hx, rfl⟩ := hy
      have hj : j < xs.length := (List.getElem?_eq_some_iff.1 hx).1
      have hxg : xs.getD j default = x := by simp [List.getD, hx]
      obtain ⟨x1, x2⟩ := hbd x (List.mem_of_getElem? hx)
      have c1 := quarters_spec x.1 x1
      have c2 := quarters_spec x.2 x2
      have hsuc : (xs.take (j + 1)).map encQ = (xs.take j).map encQ ++ [encQ x] := by
        rw [take_snoc' hj, List.map_append, hxg]; rfl
      have hln : ((xs.take j).map encQ).length ≤ 1000000 := by simp; omega
      rw [hsuc]
      generalize (xs.take j).map encQ = L at *
      repeat' (first | refine AOps.q rfl rfl rfl (fun hg => by first | exact std0 | exact std1) (by exact rfl) ?_ | refine AWP.seq ?_ | refine AWP.regionK (fun K' hK => ?_) | (refine AOps.nil (hK _ _ ?_); clear hK K') | refine AOps.e (EStep.boxW rfl rfl rfl rfl rfl True.intro rfl rfl ?_) | refine AOps.e (EStep.storeW tabOk rfl rfl rfl True.intro rfl rfl True.intro rfl rfl rfl rfl rfl rfl rfl ?_) | refine AOps.e (EStep.allocW tabOk rfl rfl rfl rfl rfl rfl ?_) | (refine AWP.condW rfl True.intro (fun hc => ?_) (fun hc => ?_) <;> (first | (simp only [decide_eq_true_eq] at hc) | (simp only [decide_eq_false_iff_not, Int.not_lt, Int.not_le] at hc) | skip)) | refine AWP.block ?_ | refine AWP.exit ?_ | refine AWP.skip ?_ | refine AWP.ret ?_ | (refine AQ.nil (hK _ ?_); clear hK K') | refine AQ.nil ?_ | refine AQ.q rfl rfl (fun hg => by first | exact std0 | exact std1) (by exact rfl) ?_)
      refine ⟨rfl, ?_⟩
      repeat' (first | refine AOps.q rfl rfl rfl (fun hg => by first | exact std0 | exact std1) (by exact rfl) ?_ | refine AWP.seq ?_ | refine AWP.regionK (fun K' hK => ?_) | (refine AOps.nil (hK _ _ ?_); clear hK K') | refine AOps.e (EStep.boxW rfl rfl rfl rfl rfl True.intro rfl rfl ?_) | refine AOps.e (EStep.storeW tabOk rfl rfl rfl True.intro rfl rfl True.intro rfl rfl rfl rfl rfl rfl rfl ?_) | refine AOps.e (EStep.allocW tabOk rfl rfl rfl rfl rfl rfl ?_) | (refine AWP.condW rfl True.intro (fun hc => ?_) (fun hc => ?_) <;> (first | (simp only [decide_eq_true_eq] at hc) | (simp only [decide_eq_false_iff_not, Int.not_lt, Int.not_le] at hc) | skip)) | refine AWP.block ?_ | refine AWP.exit ?_ | refine AWP.skip ?_ | refine AWP.ret ?_ | (refine AQ.nil (hK _ ?_); clear hK K') | refine AQ.nil ?_ | refine AQ.q rfl rfl (fun hg => by first | exact std0 | exact std1) (by exact rfl) ?_)
      refine AWP.drawY (fun j => match j with | 0 => [.var [.sl 4 L (.own 1)], .own 4 L.length] | 1 => [.var [.sl 4 L (.own 1)], .own 4 (L ++ [encQ x]).length] | _ => [.var [.sl 4 (L ++ [encQ x]) (.own 1)], .own 4 (L ++ [encQ x]).length]) rfl (by kernel_rfl) (by decide +kernel) rfl (by decide +kernel) (fun K' hK => ?_)
      repeat' (first
        | refine YQ.q (a := 0) (b := 0) rfl (by decide +kernel) (by decide +kernel) rfl rfl rfl (fun k h1 h2 hg => by (have hk : k = 0 := (by omega)); (rcases hk with rfl) <;> (first | exact std0 | exact PRun.callW (c1) rfl rfl nd rfl nds | exact PRun.callW (c2) rfl rfl nd rfl nds | exact PRun.buildAW tabOk rfl rfl nds | exact PRun.buildSlW tabOk rfl rfl nds | exact std1)) (by exact rfl) ?_
        | refine YQ.q (a := 0) (b := 1) rfl (by decide +kernel) (by decide +kernel) rfl rfl rfl (fun k h1 h2 hg => by (have hk : k = 0 ∨ k = 1 := (by omega)); (rcases hk with rfl | rfl) <;> (first | exact std0 | exact PRun.callW (c1) rfl rfl nd rfl nds | exact PRun.callW (c2) rfl rfl nd rfl nds | exact PRun.buildAW tabOk rfl rfl nds | exact PRun.buildSlW tabOk rfl rfl nds | exact std1)) (by exact rfl) ?_
        | refine YQ.q (a := 1) (b := 1) rfl (by decide +kernel) (by decide +kernel) rfl rfl rfl (fun k h1 h2 hg => by (have hk : k = 1 := (by omega)); (rcases hk with rfl) <;> (first | exact std0 | exact PRun.callW (c1) rfl rfl nd rfl nds | exact PRun.callW (c2) rfl rfl nd rfl nds | exact PRun.buildAW tabOk rfl rfl nds | exact PRun.buildSlW tabOk rfl rfl nds | exact std1)) (by exact rfl) ?_
        | refine YQ.q (a := 0) (b := 2) rfl (by decide +kernel) (by decide +kernel) rfl rfl rfl (fun k h1 h2 hg => by (have hk : k = 0 ∨ k = 1 ∨ k = 2 := (by omega)); (rcases hk with rfl | rfl | rfl) <;> (first | exact std0 | exact PRun.callW (c1) rfl rfl nd rfl nds | exact PRun.callW (c2) rfl rfl nd rfl nds | exact PRun.buildAW tabOk rfl rfl nds | exact PRun.buildSlW tabOk rfl rfl nds | exact std1)) (by exact rfl) ?_
        | refine YQ.q (a := 1) (b := 2) rfl (by decide +kernel) (by decide +kernel) rfl rfl rfl (fun k h1 h2 hg => by (have hk : k = 1 ∨ k = 2 := (by omega)); (rcases hk with rfl | rfl) <;> (first | exact std0 | exact PRun.callW (c1) rfl rfl nd rfl nds | exact PRun.callW (c2) rfl rfl nd rfl nds | exact PRun.buildAW tabOk rfl rfl nds | exact PRun.buildSlW tabOk rfl rfl nds | exact std1)) (by exact rfl) ?_
        | refine YQ.q (a := 2) (b := 2) rfl (by decide +kernel) (by decide +kernel) rfl rfl rfl (fun k h1 h2 hg => by (have hk : k = 2 := (by omega)); (rcases hk with rfl) <;> (first | exact std0 | exact PRun.callW (c1) rfl rfl nd rfl nds | exact PRun.callW (c2) rfl rfl nd rfl nds | exact PRun.buildAW tabOk rfl rfl nds | exact PRun.buildSlW tabOk rfl rfl nds | exact std1)) (by exact rfl) ?_)
      refine YQ.e (v := .sl 4 (L ++ [encQ x]) (.own 1)) (d := some 38) rfl rfl rfl ?_ ?_
      · intro env' he
        exact EStep.appendOwn' (l := 1) tabOk rfl rfl rfl (by decide) (Rd.w ((rdv_congr (he 31 (by decide +kernel))).trans rfl) (by rw [rdn_congr (he 31 (by decide +kernel))]; first | exact True.intro | exact rfl)) rfl (Rd.w ((rdv_congr (he 37 (by decide +kernel))).trans rfl) (by rw [rdn_congr (he 37 (by decide +kernel))]; first | exact True.intro | exact rfl)) (.sl rfl (by intro x hx; rcases List.mem_singleton.1 hx with rfl; rfl)) (LOk.of (tabOk.get rfl)) (LOk.of (tabOk.get rfl)) rfl rfl (by simp only [List.length_cons, List.length_nil]; omega) (by simp only [List.length_cons, List.length_nil]; omega) ⟨rfl, rfl⟩
      repeat' (first
        | refine YQ.q (a := 0) (b := 0) rfl (by decide +kernel) (by decide +kernel) rfl rfl rfl (fun k h1 h2 hg => by (have hk : k = 0 := (by omega)); (rcases hk with rfl) <;> (first | exact std0 | exact std1)) (by exact rfl) ?_
        | refine YQ.q (a := 0) (b := 1) rfl (by decide +kernel) (by decide +kernel) rfl rfl rfl (fun k h1 h2 hg => by (have hk : k = 0 ∨ k = 1 := (by omega)); (rcases hk with rfl | rfl) <;> (first | exact std0 | exact std1)) (by exact rfl) ?_
        | refine YQ.q (a := 1) (b := 1) rfl (by decide +kernel) (by decide +kernel) rfl rfl rfl (fun k h1 h2 hg => by (have hk : k = 1 := (by omega)); (rcases hk with rfl) <;> (first | exact std0 | exact std1)) (by exact rfl) ?_
        | refine YQ.q (a := 0) (b := 2) rfl (by decide +kernel) (by decide +kernel) rfl rfl rfl (fun k h1 h2 hg => by (have hk : k = 0 ∨ k = 1 ∨ k = 2 := (by omega)); (rcases hk with rfl | rfl | rfl) <;> (first | exact std0 | exact std1)) (by exact rfl) ?_
        | refine YQ.q (a := 1) (b := 2) rfl (by decide +kernel) (by decide +kernel) rfl rfl rfl (fun k h1 h2 hg => by (have hk : k = 1 ∨ k = 2 := (by omega)); (rcases hk with rfl | rfl) <;> (first | exact std0 | exact std1)) (by exact rfl) ?_
        | refine YQ.q (a := 2) (b := 2) rfl (by decide +kernel) (by decide +kernel) rfl rfl rfl (fun k h1 h2 hg => by (have hk : k = 2 := (by omega)); (rcases hk with rfl) <;> (first | exact std0 | exact std1)) (by exact rfl) ?_)
      refine YQ.e (v := .any) (d := none) rfl rfl rfl ?_ ?_
      · intro env' he
        exact EStep.storeW tabOk rfl rfl ((rdv_congr (he 12 (by decide +kernel))).trans rfl) (by rw [rdn_congr (he 12 (by decide +kernel))]; first | exact True.intro | exact rfl) rfl ((rdv_congr (he 38 (by decide +kernel))).trans rfl) (by rw [rdn_congr (he 38 (by decide +kernel))]; first | exact True.intro | exact rfl) rfl rfl rfl rfl rfl rfl rfl ⟨rfl, rfl⟩
      refine YQ.nil (hK _ _ ?_)
      clear hK K'
      first | rfl | exact ⟨rfl, rfl⟩ | skip
    · repeat' (first | refine AOps.q rfl rfl rfl (fun hg => by first | exact std0 | exact std1) (by exact rfl) ?_ | refine AWP.seq ?_ | refine AWP.regionK (fun K' hK => ?_) | (refine AOps.nil (hK _ _ ?_); clear hK K') | refine AOps.e (EStep.boxW rfl rfl rfl rfl rfl True.intro rfl rfl ?_) | refine AOps.e (EStep.storeW tabOk rfl rfl rfl True.intro rfl rfl True.intro rfl rfl rfl rfl rfl rfl rfl ?_) | refine AOps.e (EStep.allocW tabOk rfl rfl rfl rfl rfl rfl ?_) | (refine AWP.condW rfl True.intro (fun hc => ?_) (fun hc => ?_) <;> (first | (simp only [decide_eq_true_eq] at hc) | (simp only [decide_eq_false_iff_not, Int.not_lt, Int.not_le] at hc) | skip)) | refine AWP.block ?_ | refine AWP.exit ?_ | refine AWP.skip ?_ | refine AWP.ret ?_ | refine AWP.drawK2 (by decide +kernel) (by kernel_rfl) (by decide +kernel) rfl (fun K' hK => ?_) | refine AWP.drawL2 (by kernel_rfl) (by decide +kernel) rfl (fun K' hK => ?_) | (refine AQ.nil (hK _ ?_); clear hK K') | refine AQ.nil ?_ | refine AQ.q rfl rfl (fun hg => by first | exact std0 | exact std1) (by exact rfl) ?_)
      refine ⟨.inr rfl, Ent.of ?_⟩
      rw [List.length_map, List.take_length]; rfl
  · have er : busyR bars l p b = ([], (ofR bars l p b).2) := by unfold busyR; rw [ofR_bad h0]; rfl
    rw [er]
    generalize ofR bars l p b = r at *
    refine PCall.body Tryd.func24 rfl rfl Tryd.ntmps24 rfl rfl ?_
    repeat' (first | refine AOps.q rfl rfl rfl (fun hg => by first | exact std0 | exact PRun.callW (h1) rfl rfl nd rfl nds | exact std1) (by exact rfl) ?_ | refine AWP.seq ?_ | refine AWP.regionK (fun K' hK => ?_) | (refine AOps.nil (hK _ _ ?_); clear hK K') | refine AOps.e (EStep.boxW rfl rfl rfl rfl rfl True.intro rfl rfl ?_) | refine AOps.e (EStep.storeW tabOk rfl rfl rfl True.intro rfl rfl True.intro rfl rfl rfl rfl rfl rfl rfl ?_) | refine AOps.e (EStep.allocW tabOk rfl rfl rfl rfl rfl rfl ?_) | (refine AWP.condW rfl True.intro (fun hc => ?_) (fun hc => ?_) <;> (first | (simp only [decide_eq_true_eq] at hc) | (simp only [decide_eq_false_iff_not, Int.not_lt, Int.not_le] at hc) | skip)) | refine AWP.block ?_ | refine AWP.exit ?_ | refine AWP.skip ?_ | refine AWP.ret ?_ | (refine AQ.nil (hK _ ?_); clear hK K') | refine AQ.nil ?_ | refine AQ.q rfl rfl (fun hg => by first | exact std0 | exact PRun.callW (h1) rfl rfl nd rfl nds | exact std1) (by exact rfl) ?_)
    · exact ⟨.inr rfl, Ent.tup2 Ent.nil (Ent.rfl' _)⟩
    all_goals (exfalso; simp at hc; exact h0 hc)
/-- The objects of 'Rests' as the spans are looked through. -/
abbrev rsS (out : List Iv) (last : Int) : Store := [.var [.sl 4 (out.map encQ) (.own 3)], .var [.int last], .var [.fn (.func 67) [] [.ptr 1 0, .ptr 0 0]], .own 4 (out.map encQ).length]
def restO (out : List Iv) (last u : Int) : List Iv := if last < u then out ++ [(last, u)] else out
set_option maxHeartbeats 1000000 in
theorem rest_T (out : List Iv) (last u : Int) (ho : out.length ≤ 1000000) (h1 : 0 ≤ last ∧ last ≤ 1000000) (h2 : 0 ≤ u ∧ u ≤ 1000000) :
    TCall Tryd.prog 67 [.int u, .ptr 1 0, .ptr 0 0] (rsS out last) (fun r s => r = .tup [] ∧ s = rsS (restO out last u) last) := by
  have c1 := quarters_spec last h1
  have c2 := quarters_spec u h2
  have hln : (out.map encQ).length ≤ 1000000 := by simpa using ho
  by_cases hlt : last < u
  · have er : restO out last u = out ++ [(last, u)] := if_pos hlt
    rw [er]
    unfold rsS
    rw [List.map_append]
    show TCall _ _ _ [.var [.sl 4 (out.map encQ) (.own 3)], .var [.int last], .var [.fn (.func 67) [] [.ptr 1 0, .ptr 0 0]], .own 4 (out.map encQ).length] (fun r s => r = .tup [] ∧ s = [.var [.sl 4 (out.map encQ ++ [encQ (last, u)]) (.own 3)], .var [.int last], .var [.fn (.func 67) [] [.ptr 1 0, .ptr 0 0]], .own 4 (out.map encQ ++ [encQ (last, u)]).length])
    generalize out.map encQ = L at *
    refine TCall.body Tryd.func67 rfl rfl Tryd.ntmps67 rfl rfl ?_
    repeat' (first | refine AOps.q rfl rfl rfl (fun hg => by first | exact std0 | exact std1) (by exact rfl) ?_ | refine AWP.seq ?_ | refine AWP.regionK (fun K' hK => ?_) | (refine AOps.nil (hK _ _ ?_); clear hK K') | refine AOps.e (EStep.boxW rfl rfl rfl rfl rfl True.intro rfl rfl ?_) | refine AOps.e (EStep.storeW tabOk rfl rfl rfl True.intro rfl rfl True.intro rfl rfl rfl rfl rfl rfl rfl ?_) | refine AOps.e (EStep.allocW tabOk rfl rfl rfl rfl rfl rfl ?_) | (refine AWP.condW rfl True.intro (fun hc => ?_) (fun hc => ?_) <;> (first | (simp only [decide_eq_true_eq] at hc) | (simp only [decide_eq_false_iff_not, Int.not_lt, Int.not_le] at hc) | skip)) | refine AWP.block ?_ | refine AWP.exit ?_ | refine AWP.skip ?_ | refine AWP.ret ?_ | (refine AQ.nil (hK _ ?_); clear hK K') | refine AQ.nil ?_ | refine AQ.q rfl rfl (fun hg => by first | exact std0 | exact std1) (by exact rfl) ?_)
    all_goals (first | (exfalso; omega) | skip)
    refine AWP.drawY (fun j => match j with | 0 => [.var [.sl 4 L (.own 3)], .var [.int last], .var [.fn (.func 67) [] [.ptr 1 0, .ptr 0 0]], .own 4 L.length] | 1 => [.var [.sl 4 L (.own 3)], .var [.int last], .var [.fn (.func 67) [] [.ptr 1 0, .ptr 0 0]], .own 4 (L ++ [encQ (last, u)]).length] | _ => [.var [.sl 4 (L ++ [encQ (last, u)]) (.own 3)], .var [.int last], .var [.fn (.func 67) [] [.ptr 1 0, .ptr 0 0]], .own 4 (L ++ [encQ (last, u)]).length]) rfl (by kernel_rfl) (by decide +kernel) rfl (by decide +kernel) (fun K' hK => ?_)
    repeat' (first
      | refine YQ.q (a := 0) (b := 0) rfl (by decide +kernel) (by decide +kernel) rfl rfl rfl (fun k h1 h2 hg => by (have hk : k = 0 := (by omega)); (rcases hk with rfl) <;> (first | exact std0 | exact PRun.callW (c1) rfl rfl nd rfl nds | exact PRun.callW (c2) rfl rfl nd rfl nds | exact PRun.buildAW tabOk rfl rfl nds | exact PRun.buildSlW tabOk rfl rfl nds | exact std1)) (by exact rfl) ?_
      | refine YQ.q (a := 0) (b := 1) rfl (by decide +kernel) (by decide +kernel) rfl rfl rfl (fun k h1 h2 hg => by (have hk : k = 0 ∨ k = 1 := (by omega)); (rcases hk with rfl | rfl) <;> (first | exact std0 | exact PRun.callW (c1) rfl rfl nd rfl nds | exact PRun.callW (c2) rfl rfl nd rfl nds | exact PRun.buildAW tabOk rfl rfl nds | exact PRun.buildSlW tabOk rfl rfl nds | exact std1)) (by exact rfl) ?_
      | refine YQ.q (a := 1) (b := 1) rfl (by decide +kernel) (by decide +kernel) rfl rfl rfl (fun k h1 h2 hg => by (have hk : k = 1 := (by omega)); (rcases hk with rfl) <;> (first | exact std0 | exact PRun.callW (c1) rfl rfl nd rfl nds | exact PRun.callW (c2) rfl rfl nd rfl nds | exact PRun.buildAW tabOk rfl rfl nds | exact PRun.buildSlW tabOk rfl rfl nds | exact std1)) (by exact rfl) ?_
      | refine YQ.q (a := 0) (b := 2) rfl (by decide +kernel) (by decide +kernel) rfl rfl rfl (fun k h1 h2 hg => by (have hk : k = 0 ∨ k = 1 ∨ k = 2 := (by omega)); (rcases hk with rfl | rfl | rfl) <;> (first | exact std0 | exact PRun.callW (c1) rfl rfl nd rfl nds | exact PRun.callW (c2) rfl rfl nd rfl nds | exact PRun.buildAW tabOk rfl rfl nds | exact PRun.buildSlW tabOk rfl rfl nds | exact std1)) (by exact rfl) ?_
      | refine YQ.q (a := 1) (b := 2) rfl (by decide +kernel) (by decide +kernel) rfl rfl rfl (fun k h1 h2 hg => by (have hk : k = 1 ∨ k = 2 := (by omega)); (rcases hk with rfl | rfl) <;> (first | exact std0 | exact PRun.callW (c1) rfl rfl nd rfl nds | exact PRun.callW (c2) rfl rfl nd rfl nds | exact PRun.buildAW tabOk rfl rfl nds | exact PRun.buildSlW tabOk rfl rfl nds | exact std1)) (by exact rfl) ?_
      | refine YQ.q (a := 2) (b := 2) rfl (by decide +kernel) (by decide +kernel) rfl rfl rfl (fun k h1 h2 hg => by (have hk : k = 2 := (by omega)); (rcases hk with rfl) <;> (first | exact std0 | exact PRun.callW (c1) rfl rfl nd rfl nds | exact PRun.callW (c2) rfl rfl nd rfl nds | exact PRun.buildAW tabOk rfl rfl nds | exact PRun.buildSlW tabOk rfl rfl nds | exact std1)) (by exact rfl) ?_)
    refine YQ.e (v := .sl 4 (L ++ [encQ (last, u)]) (.own 3)) (d := some 14) rfl rfl rfl ?_ ?_
    · intro env' he
      exact EStep.appendOwn' (l := 3) tabOk rfl rfl rfl (by decide) (Rd.w ((rdv_congr (he 7 (by decide +kernel))).trans rfl) (by rw [rdn_congr (he 7 (by decide +kernel))]; first | exact True.intro | exact rfl)) rfl (Rd.w ((rdv_congr (he 13 (by decide +kernel))).trans rfl) (by rw [rdn_congr (he 13 (by decide +kernel))]; first | exact True.intro | exact rfl)) (.sl rfl (by intro x hx; rcases List.mem_singleton.1 hx with rfl; rfl)) (LOk.of (tabOk.get rfl)) (LOk.of (tabOk.get rfl)) rfl rfl (by simp only [List.length_cons, List.length_nil]; omega) (by simp only [List.length_cons, List.length_nil]; omega) ⟨rfl, rfl⟩
    repeat' (first
      | refine YQ.q (a := 0) (b := 0) rfl (by decide +kernel) (by decide +kernel) rfl rfl rfl (fun k h1 h2 hg => by (have hk : k = 0 := (by omega)); (rcases hk with rfl) <;> (first | exact std0 | exact std1)) (by exact rfl) ?_
      | refine YQ.q (a := 0) (b := 1) rfl (by decide +kernel) (by decide +kernel) rfl rfl rfl (fun k h1 h2 hg => by (have hk : k = 0 ∨ k = 1 := (by omega)); (rcases hk with rfl | rfl) <;> (first | exact std0 | exact std1)) (by exact rfl) ?_
      | refine YQ.q (a := 1) (b := 1) rfl (by decide +kernel) (by decide +kernel) rfl rfl rfl (fun k h1 h2 hg => by (have hk : k = 1 := (by omega)); (rcases hk with rfl) <;> (first | exact std0 | exact std1)) (by exact rfl) ?_
      | refine YQ.q (a := 0) (b := 2) rfl (by decide +kernel) (by decide +kernel) rfl rfl rfl (fun k h1 h2 hg => by (have hk : k = 0 ∨ k = 1 ∨ k = 2 := (by omega)); (rcases hk with rfl | rfl | rfl) <;> (first | exact std0 | exact std1)) (by exact rfl) ?_
      | refine YQ.q (a := 1) (b := 2) rfl (by decide +kernel) (by decide +kernel) rfl rfl rfl (fun k h1 h2 hg => by (have hk : k = 1 ∨ k = 2 := (by omega)); (rcases hk with rfl | rfl) <;> (first | exact std0 | exact std1)) (by exact rfl) ?_
      | refine YQ.q (a := 2) (b := 2) rfl (by decide +kernel) (by decide +kernel) rfl rfl rfl (fun k h1 h2 hg => by (have hk : k = 2 := (by omega)); (rcases hk with rfl) <;> (first | exact std0 | exact std1)) (by exact rfl) ?_)
    refine YQ.e (v := .any) (d := none) rfl rfl rfl ?_ ?_
    · intro env' he
      exact EStep.storeW tabOk rfl rfl ((rdv_congr (he 2 (by decide +kernel))).trans rfl) (by rw [rdn_congr (he 2 (by decide +kernel))]; first | exact True.intro | exact rfl) rfl ((rdv_congr (he 14 (by decide +kernel))).trans rfl) (by rw [rdn_congr (he 14 (by decide +kernel))]; first | exact True.intro | exact rfl) rfl rfl rfl rfl rfl rfl rfl ⟨rfl, rfl⟩
    refine YQ.nil (hK _ _ ?_)
    clear hK K'
    exact ⟨.inl rfl, .tup [], _, ⟨rfl, rfl⟩, rfl, Nat.le_refl _, rfl, rfl, rfl⟩
  · have er : restO out last u = out := if_neg hlt
    rw [er]
    refine TCall.body Tryd.func67 rfl rfl Tryd.ntmps67 rfl rfl ?_
    repeat' (first | refine AOps.q rfl rfl rfl (fun hg => by first | exact std0 | exact std1) (by exact rfl) ?_ | refine AWP.seq ?_ | refine AWP.regionK (fun K' hK => ?_) | (refine AOps.nil (hK _ _ ?_); clear hK K') | refine AOps.e (EStep.boxW rfl rfl rfl rfl rfl True.intro rfl rfl ?_) | refine AOps.e (EStep.storeW tabOk rfl rfl rfl True.intro rfl rfl True.intro rfl rfl rfl rfl rfl rfl rfl ?_) | refine AOps.e (EStep.allocW tabOk rfl rfl rfl rfl rfl rfl ?_) | (refine AWP.condW rfl True.intro (fun hc => ?_) (fun hc => ?_) <;> (first | (simp only [decide_eq_true_eq] at hc) | (simp only [decide_eq_false_iff_not, Int.not_lt, Int.not_le] at hc) | skip)) | refine AWP.block ?_ | refine AWP.exit ?_ | refine AWP.skip ?_ | refine AWP.ret ?_ | (refine AQ.nil (hK _ ?_); clear hK K') | refine AQ.nil ?_ | refine AQ.q rfl rfl (fun hg => by first | exact std0 | exact std1) (by exact rfl) ?_)
    all_goals (first | (exfalso; omega) | skip)
    exact ⟨.inl rfl, .tup [], _, ⟨rfl, rfl⟩, rfl, Nat.le_refl _, rfl, rfl, rfl⟩
set_option maxHeartbeats 4000000 in
set_option maxRecDepth 20000 in
theorem rests_spec (bars : List Bar) (l : List Note) (hb : bars.length ≤ 1000000000) (hl : l.length ≤ 100000) (p b : Int) :
    PCall Tryd.prog 27 [.sl 4 (bars.map encB) .no, .sl 12 (l.map encN) .no, .int p, .int b] (.tup [.sl 4 ((restsR bars l p b).1.map encQ) .no, .int (restsR bars l p b).2]) := by
  have h1 := of_spec bars l hb (by omega) p b
  have hlen := ofR_len bars l p b
  have hi := indexes_spec bars (by omega)
  by_cases h0 : (ofR bars l p b).2 = 0
  · have hf := ofR_facts h0
    obtain ⟨hn, _, ⟨jb, j1, j2, j3, j4⟩, _, w1, w2⟩ := ofR_ok h0
    have h2 := byStart_spec (ofR bars l p b).1 hf.ord (by omega)
    have h3 := spans_spec (ofR bars l p b).1
    have hit := spans_iter5 (ofR bars l p b).1 (by omega)
    have hbd := busy_bound h0
    have hg := goP_len ((ofR bars l p b).1.map iv) 0 (-1)
    have hxl : (spansP ((ofR bars l p b).1.map iv)).length ≤ 100001 := by unfold spansP; simp only [List.length_map] at hg; omega
    obtain ⟨br, hbr⟩ : ∃ br, bars.getD jb default = br := ⟨_, rfl⟩
    have ht := ticks_spec br.len
    have hW : (ticksR br.len).1 = barW bars b := by unfold barW; rw [j2, Int.toNat_natCast, hbr]
    rw [hW] at ht
    have er : restsR bars l p b = (gaps 0 (barW bars b) (spansP ((ofR bars l p b).1.map iv)), 0) := if_pos h0
    have hfold := gaps_fold (spansP ((ofR bars l p b).1.map iv)) [] 0 (barW bars b)
    rw [List.nil_append] at hfold
    rw [er]
    rw [h0] at h1
    generalize gaps 0 (barW bars b) (spansP ((ofR bars l p b).1.map iv)) = gs at *
    generalize barW bars b = W at *
    generalize spansP ((ofR bars l p b).1.map iv) = xs at *
    generalize (ofR bars l p b).1 = o at *
    clear hf hg er h0
    have hfl : ∀ k, k ≤ xs.length → ((xs.take k).foldl gapStep ([], 0)).1.length ≤ 100001 ∧ 0 ≤ ((xs.take k).foldl gapStep ([], 0)).2 ∧ ((xs.take k).foldl gapStep ([], 0)).2 ≤ 1000000 := fun k hk => by
      have := gapStep_len (xs.take k) ([], 0)
      simp only [List.length_nil, List.length_take] at this
      refine ⟨by omega, ?_⟩
      rcases k with _ | k
      · exact ⟨Int.le_refl _, (show (0 : Int) ≤ 1000000 by decide)⟩
      · rw [take_snoc' (by omega), List.foldl_append]
        exact (hbd _ (getD_mem (show k < xs.length by omega))).2
    refine PCall.body Tryd.func27 rfl rfl Tryd.ntmps27 rfl rfl ?_
    repeat' (first | refine AOps.q rfl rfl rfl (fun hg => by first | exact std0 | exact PRun.callW (h1) rfl rfl nd rfl nds | exact PRun.callW (h2) rfl rfl nd rfl nds | exact PRun.callW (h3) rfl rfl nd rfl nds | exact std1) (by exact rfl) ?_ | refine AWP.seq ?_ | refine AWP.regionK (fun K' hK => ?_) | (refine AOps.nil (hK _ _ ?_); clear hK K') | refine AOps.e (EStep.boxW rfl rfl rfl rfl rfl True.intro rfl rfl ?_) | refine AOps.e (EStep.storeW tabOk rfl rfl rfl True.intro rfl rfl True.intro rfl rfl rfl rfl rfl rfl rfl ?_) | refine AOps.e (EStep.allocW tabOk rfl rfl rfl rfl rfl rfl ?_) | (refine AWP.condW rfl True.intro (fun hc => ?_) (fun hc => ?_) <;> (first | (simp only [decide_eq_true_eq] at hc) | (simp only [decide_eq_false_iff_not, Int.not_lt, Int.not_le] at hc) | skip)) | refine AWP.block ?_ | refine AWP.exit ?_ | refine AWP.skip ?_ | refine AWP.ret ?_ | refine AWP.drawK2 (by decide +kernel) (by kernel_rfl) (by decide +kernel) rfl (fun K' hK => ?_) | refine AWP.drawL2 (by kernel_rfl) (by decide +kernel) rfl (fun K' hK => ?_) | (refine AQ.nil (hK _ ?_); clear hK K') | refine AQ.nil ?_ | refine AQ.q rfl rfl (fun hg => by first | exact std0 | exact PRun.callW (h1) rfl rfl nd rfl nds | exact PRun.callW (h2) rfl rfl nd rfl nds | exact PRun.callW (h3) rfl rfl nd rfl nds | exact std1) (by exact rfl) ?_)
    · exfalso; simp at hc
    refine AWP.ownNilV (v := 0) (i := 0) (sz := 4) (cs := [.nils]) rfl rfl ?_
    refine AWP.rangeFunc (k := 98) (first := []) (caps := [.iptr [.sl 12 (o.map encN) .no]]) (xs.map fun x => [.int x.1, .int x.2]) [(0, .sl 4 (bars.map encB) .no), (3, .int b), (12, .ptr 0 0), (13, .ptr 1 0), (14, .ptr 2 0)] (fun j => rsS ((xs.take j).foldl gapStep ([], 0)).1 ((xs.take j).foldl gapStep ([], 0)).2) (fun _ _ _ => False)
      hit rfl True.intro ?_ ?_ rfl ⟨rfl, rfl, rfl, rfl, rfl, True.intro⟩ rfl rfl (fun j _ => ⟨rfl, rfl⟩) (fun _ _ _ h => h.elim) ?_ ?_ (fun _ _ _ _ h => h.elim)
    · intro x hx
      obtain ⟨n, _, rfl⟩ := List.mem_map.1 hx; rfl
    · intro x hx
      obtain ⟨n, _, rfl⟩ := List.mem_map.1 hx; rfl
    · intro j y hy
      simp only [List.getElem?_map, Option.map_eq_some_iff] at hy
      obtain ⟨x, hx, rfl⟩ := hy
      have hj : j < xs.length := (List.getElem?_eq_some_iff.1 hx).1
      have hxg : xs.getD j default = x := by simp [List.getD, hx]
      obtain ⟨x1, x2⟩ := hbd x (List.mem_of_getElem? hx)
      obtain ⟨f1, f2⟩ := hfl j (by omega)
      have hsuc : (xs.take (j + 1)).foldl gapStep ([], 0) = (restO ((xs.take j).foldl gapStep ([], 0)).1 ((xs.take j).foldl gapStep ([], 0)).2 x.1, x.2) := by
        rw [take_snoc' hj, List.foldl_append, hxg]; rfl
      rw [hsuc]
      generalize (xs.take j).foldl gapStep ([], 0) = q at *
      obtain ⟨out, last⟩ := q
      dsimp only at f1 f2
      have hr := TCall.val (first := []) (caps := [.ptr 1 0, .ptr 0 0]) (avs := [.int x.1]) (rest_T out last x.1 (by omega) f2 x1)
      repeat' (first | refine AOps.q rfl rfl rfl (fun hg => by first | exact std0 | exact std1) (by exact rfl) ?_ | refine AWP.seq ?_ | refine AWP.regionK (fun K' hK => ?_) | (refine AOps.nil (hK _ _ ?_); clear hK K') | refine AOps.e (EStep.boxW rfl rfl rfl rfl rfl True.intro rfl rfl ?_) | refine AOps.e (EStep.storeW tabOk rfl rfl rfl True.intro rfl rfl True.intro rfl rfl rfl rfl rfl rfl rfl ?_) | refine AOps.e (EStep.allocW tabOk rfl rfl rfl rfl rfl rfl ?_) | (refine AWP.condW rfl True.intro (fun hc => ?_) (fun hc => ?_) <;> (first | (simp only [decide_eq_true_eq] at hc) | (simp only [decide_eq_false_iff_not, Int.not_lt, Int.not_le] at hc) | skip)) | refine AWP.block ?_ | refine AWP.exit ?_ | refine AWP.skip ?_ | refine AWP.ret ?_ | (refine AQ.nil (hK _ ?_); clear hK K') | refine AQ.nil ?_ | refine AQ.q rfl rfl (fun hg => by first | exact std0 | exact std1) (by exact rfl) ?_)
      refine ⟨rfl, ?_⟩
      repeat' (first | refine AOps.q rfl rfl rfl (fun hg => by first | exact std0 | exact std1) (by exact rfl) ?_ | refine AWP.seq ?_ | refine AWP.regionK (fun K' hK => ?_) | (refine AOps.nil (hK _ _ ?_); clear hK K') | refine AOps.e (EStep.boxW rfl rfl rfl rfl rfl True.intro rfl rfl ?_) | refine AOps.e (EStep.storeW tabOk rfl rfl rfl True.intro rfl rfl True.intro rfl rfl rfl rfl rfl rfl rfl ?_) | refine AOps.e (EStep.allocW tabOk rfl rfl rfl rfl rfl rfl ?_) | refine AOps.e (EStep.callT (hr) rfl rfl rfl rfl rfl nd rfl rfl nds ?_) | (refine AWP.condW rfl True.intro (fun hc => ?_) (fun hc => ?_) <;> (first | (simp only [decide_eq_true_eq] at hc) | (simp only [decide_eq_false_iff_not, Int.not_lt, Int.not_le] at hc) | skip)) | refine AWP.block ?_ | refine AWP.exit ?_ | refine AWP.skip ?_ | refine AWP.ret ?_ | (refine AQ.nil (hK _ ?_); clear hK K') | refine AQ.nil ?_ | refine AQ.q rfl rfl (fun hg => by first | exact std0 | exact std1) (by exact rfl) ?_)
      rintro r s ⟨rfl, rfl⟩
      repeat' (first | refine AOps.q rfl rfl rfl (fun hg => by first | exact std0 | exact std1) (by exact rfl) ?_ | refine AWP.seq ?_ | refine AWP.regionK (fun K' hK => ?_) | (refine AOps.nil (hK _ _ ?_); clear hK K') | refine AOps.e (EStep.boxW rfl rfl rfl rfl rfl True.intro rfl rfl ?_) | refine AOps.e (EStep.storeW tabOk rfl rfl rfl True.intro rfl rfl True.intro rfl rfl rfl rfl rfl rfl rfl ?_) | refine AOps.e (EStep.allocW tabOk rfl rfl rfl rfl rfl rfl ?_) | (refine AWP.condW rfl True.intro (fun hc => ?_) (fun hc => ?_) <;> (first | (simp only [decide_eq_true_eq] at hc) | (simp only [decide_eq_false_iff_not, Int.not_lt, Int.not_le] at hc) | skip)) | refine AWP.block ?_ | refine AWP.exit ?_ | refine AWP.skip ?_ | refine AWP.ret ?_ | (refine AQ.nil (hK _ ?_); clear hK K') | refine AQ.nil ?_ | refine AQ.q rfl rfl (fun hg => by first | exact std0 | exact std1) (by exact rfl) ?_)
      first | rfl | exact ⟨rfl, rfl⟩ | skip
    · rw [List.length_map, List.take_length]
      obtain ⟨f1, f2⟩ := hfl xs.length (Nat.le_refl _)
      rw [List.take_length] at f1 f2
      generalize xs.foldl gapStep ([], 0) = q at *
      obtain ⟨out, last⟩ := q
      dsimp only at f1 f2 hfold
      have hr := TCall.val (first := []) (caps := [.ptr 1 0, .ptr 0 0]) (avs := [.int W]) (rest_T out last W (by omega) f2 (by omega))
      have hgs : restO out last W = gs := by
        rw [← hfold]; unfold restO
        by_cases h : last < W
        · rw [if_pos h, if_pos h]
        · rw [if_neg h, if_neg h, List.append_nil]
      rw [hgs] at hr
      have hj1 : (lk (idxAL bars) b).getD 0 = (jb : Int) := by rw [j1]; rfl
      repeat' (first | refine AOps.q rfl rfl rfl (fun hg => by first | exact PRun.eq (v := .iptr (encB (bars.getD ((lk (idxAL bars) b).getD 0).toNat default))) (PRun.indexMW tabOk rfl rfl nd rfl nd rfl rfl (by rw [hj1]; omega)) (congrArg (fun x => AV.iptr (encB x)) (show bars.getD ((lk (idxAL bars) b).getD 0).toNat default = br by rw [hj1, Int.toNat_natCast, hbr])) | exact std0 | exact PRun.callW (hi) rfl rfl nd rfl nds | exact PRun.lookup (ek := ekI) (ev := AV.int) (zv := 0) (keyLaw_int (LOk.of (tabOk.get rfl))) (LOk.of (tabOk.get rfl)) (LOk.of (tabOk.get rfl)) rfl rfl (Rd.w rfl nd) (Or.inl rfl) (Rd.w rfl nd) rfl | exact PRun.callW (ht) rfl rfl nd rfl nds | exact std1) (by exact rfl) ?_ | refine AWP.seq ?_ | refine AWP.regionK (fun K' hK => ?_) | (refine AOps.nil (hK _ _ ?_); clear hK K') | refine AOps.e (EStep.boxW rfl rfl rfl rfl rfl True.intro rfl rfl ?_) | refine AOps.e (EStep.storeW tabOk rfl rfl rfl True.intro rfl rfl True.intro rfl rfl rfl rfl rfl rfl rfl ?_) | refine AOps.e (EStep.allocW tabOk rfl rfl rfl rfl rfl rfl ?_) | refine AOps.e (EStep.callT (hr) rfl rfl rfl rfl rfl nd rfl rfl nds ?_) | (refine AWP.condW rfl True.intro (fun hc => ?_) (fun hc => ?_) <;> (first | (simp only [decide_eq_true_eq] at hc) | (simp only [decide_eq_false_iff_not, Int.not_lt, Int.not_le] at hc) | skip)) | refine AWP.block ?_ | refine AWP.exit ?_ | refine AWP.skip ?_ | refine AWP.ret ?_ | (refine AQ.nil (hK _ ?_); clear hK K') | refine AQ.nil ?_ | refine AQ.q rfl rfl (fun hg => by first | exact PRun.eq (v := .iptr (encB (bars.getD ((lk (idxAL bars) b).getD 0).toNat default))) (PRun.indexMW tabOk rfl rfl nd rfl nd rfl rfl (by rw [hj1]; omega)) (congrArg (fun x => AV.iptr (encB x)) (show bars.getD ((lk (idxAL bars) b).getD 0).toNat default = br by rw [hj1, Int.toNat_natCast, hbr])) | exact std0 | exact PRun.callW (hi) rfl rfl nd rfl nds | exact PRun.lookup (ek := ekI) (ev := AV.int) (zv := 0) (keyLaw_int (LOk.of (tabOk.get rfl))) (LOk.of (tabOk.get rfl)) (LOk.of (tabOk.get rfl)) rfl rfl (Rd.w rfl nd) (Or.inl rfl) (Rd.w rfl nd) rfl | exact PRun.callW (ht) rfl rfl nd rfl nds | exact std1) (by exact rfl) ?_)
      rintro r s ⟨rfl, rfl⟩
      repeat' (first | refine AOps.q rfl rfl rfl (fun hg => by first | exact std0 | exact std1) (by exact rfl) ?_ | refine AWP.seq ?_ | refine AWP.regionK (fun K' hK => ?_) | (refine AOps.nil (hK _ _ ?_); clear hK K') | refine AOps.e (EStep.boxW rfl rfl rfl rfl rfl True.intro rfl rfl ?_) | refine AOps.e (EStep.storeW tabOk rfl rfl rfl True.intro rfl rfl True.intro rfl rfl rfl rfl rfl rfl rfl ?_) | refine AOps.e (EStep.allocW tabOk rfl rfl rfl rfl rfl rfl ?_) | (refine AWP.condW rfl True.intro (fun hc => ?_) (fun hc => ?_) <;> (first | (simp only [decide_eq_true_eq] at hc) | (simp only [decide_eq_false_iff_not, Int.not_lt, Int.not_le] at hc) | skip)) | refine AWP.block ?_ | refine AWP.exit ?_ | refine AWP.skip ?_ | refine AWP.ret ?_ | (refine AQ.nil (hK _ ?_); clear hK K') | refine AQ.nil ?_ | refine AQ.q rfl rfl (fun hg => by first | exact std0 | exact std1) (by exact rfl) ?_)
      exact ⟨.inr rfl, Ent.of rfl⟩
  · have er : restsR bars l p b = ([], (ofR bars l p b).2) := if_neg h0
    rw [er]
    generalize ofR bars l p b = r at *
    refine PCall.body Tryd.func27 rfl rfl Tryd.ntmps27 rfl rfl ?_
    repeat' (first | refine AOps.q rfl rfl rfl (fun hg => by first | exact std0 | exact PRun.callW (h1) rfl rfl nd rfl nds | exact std1) (by exact rfl) ?_ | refine AWP.seq ?_ | refine AWP.regionK (fun K' hK => ?_) | (refine AOps.nil (hK _ _ ?_); clear hK K') | refine AOps.e (EStep.boxW rfl rfl rfl rfl rfl True.intro rfl rfl ?_) | refine AOps.e (EStep.storeW tabOk rfl rfl rfl True.intro rfl rfl True.intro rfl rfl rfl rfl rfl rfl rfl ?_) | refine AOps.e (EStep.allocW tabOk rfl rfl rfl rfl rfl rfl ?_) | (refine AWP.condW rfl True.intro (fun hc => ?_) (fun hc => ?_) <;> (first | (simp only [decide_eq_true_eq] at hc) | (simp only [decide_eq_false_iff_not, Int.not_lt, Int.not_le] at hc) | skip)) | refine AWP.block ?_ | refine AWP.exit ?_ | refine AWP.skip ?_ | refine AWP.ret ?_ | (refine AQ.nil (hK _ ?_); clear hK K') | refine AQ.nil ?_ | refine AQ.q rfl rfl (fun hg => by first | exact std0 | exact PRun.callW (h1) rfl rfl nd rfl nds | exact std1) (by exact rfl) ?_)
    · exact ⟨.inr rfl, Ent.tup2 Ent.nil (Ent.rfl' _)⟩
    all_goals (exfalso; simp at hc; exact h0 hc)
end Go.Proofs.YtnmdmmfdnnmdfaaDoor.Nt
