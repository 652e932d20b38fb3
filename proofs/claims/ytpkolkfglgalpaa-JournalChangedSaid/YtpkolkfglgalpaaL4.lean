/- JournalChanged by content: for every events, place and change the function returns true. The row is joined in another text. -/
import Derived.Test.YtpkolkfglgalpaaL2
set_option linter.unusedVariables false
set_option linter.unusedSimpArgs false
namespace Go.Ab
theorem PRun.eq {P : Program} {o : Oper} {env : Env} {σ : Store} {v v' : AV} (h : PRun P o env σ v) (e : v = v') : PRun P o env σ v' := e ▸ h
end Go.Ab
namespace Go.Proofs.Ytpkolkfglgalpaa
open Go.Ab Go.Jo
attribute [local irreducible] AWP AOps EStep AQ PStep PRun PCall TCall VCall DStep TDies AWD DCall

theorem xorU8 (x y : UInt8) : bits .xor .u8 (x.toNat : Int) (y.toNat : Int) = ((x ^^^ y).toNat : Int) := by
  show IntKind.u8.wrap ((BitVec.ofInt 8 (x.toNat : Int) ^^^ BitVec.ofInt 8 (y.toNat : Int)).toNat : Int) = _
  have e : ∀ z : UInt8, (BitVec.ofInt 8 (z.toNat : Int)).toNat = z.toNat := fun z => by
    rw [BitVec.ofInt_natCast, BitVec.toNat_ofNat]; exact Nat.mod_eq_of_lt z.toNat_lt
  rw [BitVec.toNat_xor, e, e, ← UInt8.toNat_xor, IntKind.wrap_u8]
  have := (x ^^^ y).toNat_lt
  omega
theorem xor_ne {x y : UInt8} (hy : y ≠ 0) : x ^^^ y ≠ x := fun h => hy (by
  have h1 : (x ^^^ y).toNat = x.toNat := by rw [h]
  rw [UInt8.toNat_xor] at h1
  have h2 : x.toNat ^^^ y.toNat = x.toNat ^^^ 0 := by rw [h1, Nat.xor_zero]
  have h3 := xor_right_inj h2
  exact UInt8.toNat_inj.1 h3)
theorem load_changed {G : List Ev} {x : Ev} (hG : ∀ e ∈ G, evOk e = true) (hx : evOk x = true) {j : Nat} (h3 : 3 ≤ j) (hj : j < (fr x).length) {c : UInt8} (hc : c ≠ (fr x)[j]) : Jo.load ((cat G ++ fr x).set ((cat G).length + j) c) = (G, (cat G).length) := by
  have e1 : (cat G ++ fr x).set ((cat G).length + j) c = cat G ++ (fr x).set j c := by
    rw [List.set_append_right _ _ (by omega)]; congr 2; omega
  rw [e1, load_cat G _ hG]
  have hw : whole ((fr x).set j c) = none := whole_changed (fr_ok hx).1 h3 hj hc
  rw [load_none hw]; simp
theorem ends_last {G : List Ev} (h : 0 < G.length) : (endsF 0 G).getD (G.length - 1) default = ((cat G).length : Int) := by
  rcases List.eq_nil_or_concat G with rfl | ⟨G', x, rfl⟩
  · simp at h
  · rw [List.concat_eq_append, endsF_snoc, List.length_append, List.getD_eq_getElem?_getD, List.getElem?_append_right (by rw [endsF_len]; simp)]
    rw [endsF_len]; simp
theorem ends_prev {G : List Ev} {x : Ev} (h : 0 < G.length) : (endsF 0 (G ++ [x])).getD (G.length - 1) default = ((cat G).length : Int) := by
  rw [endsF_snoc, List.getD_eq_getElem?_getD, List.getElem?_append_left (by rw [endsF_len]; omega), ← List.getD_eq_getElem?_getD]
  exact ends_last h
set_option maxHeartbeats 3200000 in
set_option maxRecDepth 20000 in
theorem changed_law (l : List Ev) (at' dif : Int) (hat : 0 ≤ at' ∧ at' ≤ 65535) (hby : 0 ≤ dif ∧ dif ≤ 255) : PCall Try.prog 7 [.sl 14 (l.map encE) .no, .prim (.int .u16 at'), .prim (.int .u8 dif)] (.b true) := by
  have hh := head_spec
  by_cases hl : l.length ≤ 20 ∧ dif ≠ 0
  · obtain ⟨hl, hd0⟩ := hl
    have hw : PCall Try.prog 22 [.sl 14 (l.map encE) .no] (.tup [.sl 1 ((cat (good l)).map by8) .no, .sl 1 ((endsF 0 (good l)).map encN) .no, .sl 14 ((good l).map encE) .no, .b true]) := written_spec l hl
    have hG := good_ok l
    have hGl := good_len l
    generalize good l = G at hw hG hGl
    have hc1 : (cat G).length ≤ G.length * 2135 := cat_le hG
    have hc2 : (cat G).length ≤ 42700 := by omega
    rcases List.eq_nil_or_concat G with rfl | ⟨G', x, hGx⟩
    · have hE : (endsF 0 ([] : List Ev)).length = 0 := rfl
      have hz : (cat ([] : List Ev)).length = 0 := rfl
      generalize endsF 0 ([] : List Ev) = E at hw hE
      refine PCall.body Try.func7 rfl rfl Try.ntmps7 rfl rfl ?_
      repeat' (first
        | refine AOps.q rfl rfl rfl (fun hg => by first | exact std0 | exact PRun.callW (hh) rfl rfl nd rfl nds | exact PRun.callW (hw) rfl rfl nd rfl nds | exact std1) (by exact rfl) ?_
        | refine AWP.seq ?_
        | refine AWP.regionK (fun K' hK => ?_)
        | (refine AOps.nil (hK _ _ ?_); clear hK K')
        | refine AOps.e (EStep.boxW rfl rfl rfl rfl rfl True.intro rfl rfl ?_)
        | refine AOps.e (EStep.storeW tabOk rfl rfl rfl True.intro rfl rfl True.intro rfl rfl rfl rfl rfl rfl rfl ?_)
        | refine AOps.e (EStep.allocW tabOk rfl rfl rfl rfl rfl rfl ?_)
        | (refine AWP.condW rfl True.intro (fun hc => ?_) (fun hc => ?_) <;> (first | (simp only [decide_eq_true_eq] at hc) | (simp only [decide_eq_false_iff_not, Int.not_lt, Int.not_le] at hc) | skip))
        | refine AWP.block ?_
        | refine AWP.exit ?_
        | refine AWP.skip ?_
        | refine AWP.ret ?_
        | refine AWP.drawK2 (by decide +kernel) (by kernel_rfl) (by decide +kernel) rfl (fun K' hK => ?_)
        | refine AWP.drawL2 (by kernel_rfl) (by decide +kernel) rfl (fun K' hK => ?_)
        | (refine AQ.nil (hK _ ?_); clear hK K')
        | refine AQ.nil ?_
        | refine AQ.q rfl rfl (fun hg => by first | exact std0 | exact PRun.callW (hh) rfl rfl nd rfl nds | exact PRun.callW (hw) rfl rfl nd rfl nds | exact std1) (by exact rfl) ?_)
      all_goals (clear hh hw; first | (exfalso; omega) | (exfalso; simp at hc; done) | (exfalso; rename_i h9 _; rw [hE] at h9; simp at h9; done) | (exfalso; rename_i h9 _ _; rw [hE] at h9; simp at h9; done) | exact ⟨.inr rfl, Ent.b rfl⟩ | skip)
    · rw [List.concat_eq_append] at hGx
      subst hGx
      have hG' : ∀ e ∈ G', evOk e = true := fun e he => hG e (List.mem_append_left _ he)
      have hx : evOk x = true := hG x (by simp)
      have hcat := cat_snoc G' x
      have hfl := fr_len2 hx
      have hfp : 12 ≤ (fr x).length := by
        unfold fr; rw [frame_len]; unfold putL; rw [List.length_append]; have := num_len (ints x).length; omega
      have hlen : (cat (G' ++ [x])).length = (cat G').length + (fr x).length := by rw [hcat, List.length_append]
      have hGn : (G' ++ [x]).length = G'.length + 1 := by simp
      obtain ⟨y, hy⟩ : ∃ y : UInt8, (y.toNat : Int) = dif := ⟨UInt8.ofNat dif.toNat, by rw [UInt8.toNat_ofNat']; omega⟩
      have hy0 : y ≠ 0 := fun h => hd0 (by rw [← hy, h]; rfl)
      subst hy
      obtain ⟨j, hj⟩ : ∃ j : Nat, j = at'.toNat % ((fr x).length - 3) := ⟨_, rfl⟩
      have hj1 : j < (fr x).length - 3 := by rw [hj]; exact Nat.mod_lt _ (by omega)
      have hconv : IntKind.i64.wrap at' = at' := by rw [IntKind.wrap_i64]; omega
      obtain ⟨k, hk⟩ : ∃ k : Nat, k = (cat G').length + (3 + j) := ⟨_, rfl⟩
      have hklt : k < (cat (G' ++ [x])).length := by omega
      obtain ⟨c, hc⟩ : ∃ c : UInt8, c = (cat (G' ++ [x])).getD k default ^^^ y := ⟨_, rfl⟩
      have v1 := load_spec ((cat (G' ++ [x])).set k c) (by rw [List.length_set]; omega)
      have hld : Jo.load ((cat (G' ++ [x])).set k c) = (G', (cat G').length) := by
        have e2 : (cat (G' ++ [x])).getD k default = (fr x)[3 + j]'(by omega) := by
          rw [getD_lt hklt]
          simp only [hcat, hk]
          rw [List.getElem_append_right (by omega)]
          congr 1; omega
        have e3 : c ≠ (fr x)[3 + j]'(by omega) := by rw [hc, e2]; exact xor_ne hy0
        rw [hcat, hk]
        exact load_changed hG' hx (by omega) (by omega) e3
      rw [loadR_in (by rw [List.length_set]; omega), hld] at v1
      have v1 : PCall Try.prog 19 [.sl 1 (((cat (G' ++ [x])).set k c).map by8) .no] (.tup [.sl 14 (G'.map encE) .no, .int ((cat G').length : Nat), .int 0]) := v1
      have v2 := sameEv_spec G' ((G' ++ [x]).take ((((G' ++ [x]).length : Nat) : Int) - 1).toNat) (by omega) (by rw [List.length_take]; omega)
      have e4 : (G' ++ [x]).take ((((G' ++ [x]).length : Nat) : Int) - 1).toNat = G' := by
        rw [show ((((G' ++ [x]).length : Nat) : Int) - 1).toNat = G'.length by omega, List.take_left]
      have hE : (endsF 0 (G' ++ [x])).length = G'.length + 1 := by rw [endsF_len, hGn]
      have hEF0 : 0 < G'.length → (endsF 0 (G' ++ [x])).getD (G'.length - 1) default = ((cat G').length : Int) := ends_prev
      generalize endsF 0 (G' ++ [x]) = E at hw hE hEF0
      by_cases h0 : G'.length = 0
      · have hz : (cat G').length = 0 := by rw [List.length_eq_zero_iff.1 h0]; rfl
        obtain ⟨F0, hF0⟩ : ∃ F0 : Int, F0 = 0 := ⟨_, rfl⟩
        have hFF : F0 = ((cat G').length : Nat) := by omega
        have hk0 : (F0 + 3 + (j : Int)).toNat = k := by omega
        subst hF0
        have hxor : bits .xor .u8 (((cat (G' ++ [x])).getD ((0 : Int) + 3 + (j : Int)).toNat default).toNat : Int) (y.toNat : Int) = (c.toNat : Int) := by rw [hk0, xorU8, hc]
        have hm : ((cat (G' ++ [x])).map by8).length = (cat (G' ++ [x])).length := List.length_map ..
        have hrem : at'.tmod (((cat (G' ++ [x])).length : Int) - (0 : Int) - 3) = (j : Int) := by
          obtain ⟨c, rfl⟩ := Int.eq_ofNat_of_zero_le hat.1
          rw [hj, show (((cat (G' ++ [x])).length : Int) - (0 : Int) - 3) = (((fr x).length - 3 : Nat) : Int) by omega]
          simp only [Int.toNat_natCast]; rfl
        refine PCall.body Try.func7 rfl rfl Try.ntmps7 rfl rfl ?_
        repeat' (first
          | refine AOps.q rfl rfl rfl (fun hg => by first | exact PRun.buildSl0 tabOk rfl rfl | exact PRun.remV hrem (by omega) rfl rfl nd rfl nd | exact PRun.convV tabOk hconv rfl rfl nd rfl rfl | exact std0 | exact PRun.callW (hh) rfl rfl nd rfl nds | exact PRun.callW (hw) rfl rfl nd rfl nds | exact PRun.indexA0 (es := (cat (G' ++ [x])).map by8) tabOk rfl rfl nd rfl nd rfl (by decide) rfl ⟨by omega, by omega⟩ | exact PRun.loadEM (xs := cat (G' ++ [x])) (f := by8) tabOk rfl rfl nd rfl (by omega) rfl rfl | exact PRun.bitsV hxor rfl rfl nd rfl nd rfl | exact std1) (by exact rfl) ?_
          | refine AWP.seq ?_
          | refine AWP.regionK (fun K' hK => ?_)
          | (refine AOps.nil (hK _ _ ?_); clear hK K')
          | refine AOps.e (EStep.boxW rfl rfl rfl rfl rfl True.intro rfl rfl ?_)
          | refine AOps.e (EStep.storeW tabOk rfl rfl rfl True.intro rfl rfl True.intro rfl rfl rfl rfl rfl rfl rfl ?_)
          | refine AOps.e (EStep.allocW tabOk rfl rfl rfl rfl rfl rfl ?_)
          | refine AOps.e (EStep.appendArrF tabOk rfl rfl rfl rfl (Rd.w rfl True.intro) (Rd.w rfl True.intro) (.sl rfl (one_by8 _)) (LOk.of (tabOk.get rfl)) (LOk.of (tabOk.get rfl)) rfl rfl (by simp only; omega) (by omega) ?_)
          | (refine AWP.condW rfl True.intro (fun hc => ?_) (fun hc => ?_) <;> (first | (simp only [decide_eq_true_eq] at hc) | (simp only [decide_eq_false_iff_not, Int.not_lt, Int.not_le] at hc) | skip))
          | refine AWP.block ?_
          | refine AWP.exit ?_
          | refine AWP.skip ?_
          | refine AWP.ret ?_
          | refine AWP.drawK2 (by decide +kernel) (by kernel_rfl) (by decide +kernel) rfl (fun K' hK => ?_)
          | refine AWP.drawL2 (by kernel_rfl) (by decide +kernel) rfl (fun K' hK => ?_)
          | (refine AQ.nil (hK _ ?_); clear hK K')
          | refine AQ.nil ?_
          | refine AQ.q rfl rfl (fun hg => by first | exact PRun.buildSl0 tabOk rfl rfl | exact PRun.remV hrem (by omega) rfl rfl nd rfl nd | exact PRun.convV tabOk hconv rfl rfl nd rfl rfl | exact std0 | exact PRun.callW (hh) rfl rfl nd rfl nds | exact PRun.callW (hw) rfl rfl nd rfl nds | exact PRun.indexA0 (es := (cat (G' ++ [x])).map by8) tabOk rfl rfl nd rfl nd rfl (by decide) rfl ⟨by omega, by omega⟩ | exact PRun.loadEM (xs := cat (G' ++ [x])) (f := by8) tabOk rfl rfl nd rfl (by omega) rfl rfl | exact PRun.bitsV hxor rfl rfl nd rfl nd rfl | exact std1) (by exact rfl) ?_)
        any_goals (first | (exfalso; omega) | (exfalso; have h9 := eq_of_beq hc; omega) | (exfalso; simp at hc; done) | (exfalso; simp at hc; omega))
        have hes : ((cat (G' ++ [x])).map by8).set ((0 : Int) + 3 + (j : Int)).toNat [.prim (.int .u8 (c.toNat : Int))] = ((cat (G' ++ [x])).set k c).map by8 := by rw [hk0, List.map_set]
        refine AOps.e (EStep.storeE (es := (cat (G' ++ [x])).map by8) tabOk rfl rfl rfl True.intro rfl (by omega) rfl True.intro rfl rfl rfl rfl rfl rfl ?_)
        refine AOps.nil (hK _ _ ?_)
        clear hK K'
        refine AWP.freezeA (d := 8) (l := 0) (sz := 1) (ver := 0) (es := ((cat (G' ++ [x])).set k c).map by8) ?_ ?_ ?_ ?_
        · show AV.sla 0 1 0 ((cat (G' ++ [x])).map by8).length 0 = AV.sla 0 1 0 (((cat (G' ++ [x])).set k c).map by8).length 0
          rw [List.length_map, List.length_map, List.length_set]
        · show some (AObj.arr 1 0 (((cat (G' ++ [x])).map by8).set ((0 : Int) + 3 + (j : Int)).toNat [.prim (.int .u8 (c.toNat : Int))])) = some (AObj.arr 1 0 (((cat (G' ++ [x])).set k c).map by8))
          rw [hes]
        · intro e he a ha M B z hz
          obtain ⟨c, _, rfl⟩ := List.mem_map.1 he
          rcases List.mem_singleton.1 ha with rfl
          rw [VRel.prim_eq hz]; exact .prim _
        repeat' (first
          | refine AOps.q rfl rfl rfl (fun hg => by first | exact std0 | exact PRun.callW (v1) rfl rfl nd rfl nds | exact PRun.sliceLoM tabOk rfl rfl nd rfl nd rfl (by omega) | exact PRun.sliceHiM tabOk rfl rfl nd rfl nd rfl (by omega) | exact PRun.sliceM tabOk rfl rfl nd rfl nd rfl nd rfl (by omega) | exact PRun.callW (v2) rfl rfl nd rfl nds | exact std1) (by exact rfl) ?_
          | refine AWP.seq ?_
          | refine AWP.regionK (fun K' hK => ?_)
          | (refine AOps.nil (hK _ _ ?_); clear hK K')
          | refine AOps.e (EStep.boxW rfl rfl rfl rfl rfl True.intro rfl rfl ?_)
          | refine AOps.e (EStep.storeW tabOk rfl rfl rfl True.intro rfl rfl True.intro rfl rfl rfl rfl rfl rfl rfl ?_)
          | refine AOps.e (EStep.allocW tabOk rfl rfl rfl rfl rfl rfl ?_)
          | (refine AWP.condW rfl True.intro (fun hc => ?_) (fun hc => ?_) <;> (first | (simp only [decide_eq_true_eq] at hc) | (simp only [decide_eq_false_iff_not, Int.not_lt, Int.not_le] at hc) | skip))
          | refine AWP.block ?_
          | refine AWP.exit ?_
          | refine AWP.skip ?_
          | refine AWP.ret ?_
          | refine AWP.drawK2 (by decide +kernel) (by kernel_rfl) (by decide +kernel) rfl (fun K' hK => ?_)
          | refine AWP.drawL2 (by kernel_rfl) (by decide +kernel) rfl (fun K' hK => ?_)
          | (refine AQ.nil (hK _ ?_); clear hK K')
          | refine AQ.nil ?_
          | refine AQ.q rfl rfl (fun hg => by first | exact std0 | exact PRun.callW (v1) rfl rfl nd rfl nds | exact PRun.sliceLoM tabOk rfl rfl nd rfl nd rfl (by omega) | exact PRun.sliceHiM tabOk rfl rfl nd rfl nd rfl (by omega) | exact PRun.sliceM tabOk rfl rfl nd rfl nd rfl nd rfl (by omega) | exact PRun.callW (v2) rfl rfl nd rfl nds | exact std1) (by exact rfl) ?_)
        refine ⟨.inr rfl, Ent.b ?_⟩
        simp [e4, hFF]
      · obtain ⟨F0, hF0⟩ : ∃ F0 : Int, F0 = ((cat G').length : Nat) := ⟨_, rfl⟩
        have hFF : F0 = ((cat G').length : Nat) := hF0
        have hEF : E.getD (((E.length : Nat) : Int) - 2).toNat default = F0 := by
          rw [show (((E.length : Nat) : Int) - 2).toNat = G'.length - 1 by omega, hEF0 (by omega), hF0]
        clear hEF0
        have hk0 : (F0 + 3 + (j : Int)).toNat = k := by omega
        have hxor : bits .xor .u8 (((cat (G' ++ [x])).getD (F0 + 3 + (j : Int)).toNat default).toNat : Int) (y.toNat : Int) = (c.toNat : Int) := by rw [hk0, xorU8, hc]
        have hm : ((cat (G' ++ [x])).map by8).length = (cat (G' ++ [x])).length := List.length_map ..
        have hrem : at'.tmod (((cat (G' ++ [x])).length : Int) - F0 - 3) = (j : Int) := by
          obtain ⟨c, rfl⟩ := Int.eq_ofNat_of_zero_le hat.1
          rw [hj, show (((cat (G' ++ [x])).length : Int) - F0 - 3) = (((fr x).length - 3 : Nat) : Int) by omega]
          simp only [Int.toNat_natCast]; rfl
        refine PCall.body Try.func7 rfl rfl Try.ntmps7 rfl rfl ?_
        repeat' (first
          | refine AOps.q rfl rfl rfl (fun hg => by first | exact PRun.buildSl0 tabOk rfl rfl | exact PRun.remV hrem (by omega) rfl rfl nd rfl nd | exact PRun.convV tabOk hconv rfl rfl nd rfl rfl | exact PRun.eq (v := .int (E.getD (((E.length : Nat) : Int) - 2).toNat default)) (PRun.step tabOk rfl sd) (congrArg AV.int hEF) | exact std0 | exact PRun.callW (hh) rfl rfl nd rfl nds | exact PRun.callW (hw) rfl rfl nd rfl nds | exact PRun.indexA0 (es := (cat (G' ++ [x])).map by8) tabOk rfl rfl nd rfl nd rfl (by decide) rfl ⟨by omega, by omega⟩ | exact PRun.loadEM (xs := cat (G' ++ [x])) (f := by8) tabOk rfl rfl nd rfl (by omega) rfl rfl | exact PRun.bitsV hxor rfl rfl nd rfl nd rfl | exact std1) (by exact rfl) ?_
          | refine AWP.seq ?_
          | refine AWP.regionK (fun K' hK => ?_)
          | (refine AOps.nil (hK _ _ ?_); clear hK K')
          | refine AOps.e (EStep.boxW rfl rfl rfl rfl rfl True.intro rfl rfl ?_)
          | refine AOps.e (EStep.storeW tabOk rfl rfl rfl True.intro rfl rfl True.intro rfl rfl rfl rfl rfl rfl rfl ?_)
          | refine AOps.e (EStep.allocW tabOk rfl rfl rfl rfl rfl rfl ?_)
          | refine AOps.e (EStep.appendArrF tabOk rfl rfl rfl rfl (Rd.w rfl True.intro) (Rd.w rfl True.intro) (.sl rfl (one_by8 _)) (LOk.of (tabOk.get rfl)) (LOk.of (tabOk.get rfl)) rfl rfl (by simp only; omega) (by omega) ?_)
          | (refine AWP.condW rfl True.intro (fun hc => ?_) (fun hc => ?_) <;> (first | (simp only [decide_eq_true_eq] at hc) | (simp only [decide_eq_false_iff_not, Int.not_lt, Int.not_le] at hc) | skip))
          | refine AWP.block ?_
          | refine AWP.exit ?_
          | refine AWP.skip ?_
          | refine AWP.ret ?_
          | refine AWP.drawK2 (by decide +kernel) (by kernel_rfl) (by decide +kernel) rfl (fun K' hK => ?_)
          | refine AWP.drawL2 (by kernel_rfl) (by decide +kernel) rfl (fun K' hK => ?_)
          | (refine AQ.nil (hK _ ?_); clear hK K')
          | refine AQ.nil ?_
          | refine AQ.q rfl rfl (fun hg => by first | exact PRun.buildSl0 tabOk rfl rfl | exact PRun.remV hrem (by omega) rfl rfl nd rfl nd | exact PRun.convV tabOk hconv rfl rfl nd rfl rfl | exact PRun.eq (v := .int (E.getD (((E.length : Nat) : Int) - 2).toNat default)) (PRun.step tabOk rfl sd) (congrArg AV.int hEF) | exact std0 | exact PRun.callW (hh) rfl rfl nd rfl nds | exact PRun.callW (hw) rfl rfl nd rfl nds | exact PRun.indexA0 (es := (cat (G' ++ [x])).map by8) tabOk rfl rfl nd rfl nd rfl (by decide) rfl ⟨by omega, by omega⟩ | exact PRun.loadEM (xs := cat (G' ++ [x])) (f := by8) tabOk rfl rfl nd rfl (by omega) rfl rfl | exact PRun.bitsV hxor rfl rfl nd rfl nd rfl | exact std1) (by exact rfl) ?_)
        any_goals (first | (exfalso; omega) | (exfalso; have h9 := eq_of_beq hc; omega) | (exfalso; simp at hc; done) | (exfalso; simp at hc; omega))
        have hes : ((cat (G' ++ [x])).map by8).set (F0 + 3 + (j : Int)).toNat [.prim (.int .u8 (c.toNat : Int))] = ((cat (G' ++ [x])).set k c).map by8 := by rw [hk0, List.map_set]
        refine AOps.e (EStep.storeE (es := (cat (G' ++ [x])).map by8) tabOk rfl rfl rfl True.intro rfl (by omega) rfl True.intro rfl rfl rfl rfl rfl rfl ?_)
        refine AOps.nil (hK _ _ ?_)
        clear hK K'
        refine AWP.freezeA (d := 8) (l := 0) (sz := 1) (ver := 0) (es := ((cat (G' ++ [x])).set k c).map by8) ?_ ?_ ?_ ?_
        · show AV.sla 0 1 0 ((cat (G' ++ [x])).map by8).length 0 = AV.sla 0 1 0 (((cat (G' ++ [x])).set k c).map by8).length 0
          rw [List.length_map, List.length_map, List.length_set]
        · show some (AObj.arr 1 0 (((cat (G' ++ [x])).map by8).set (F0 + 3 + (j : Int)).toNat [.prim (.int .u8 (c.toNat : Int))])) = some (AObj.arr 1 0 (((cat (G' ++ [x])).set k c).map by8))
          rw [hes]
        · intro e he a ha M B z hz
          obtain ⟨c, _, rfl⟩ := List.mem_map.1 he
          rcases List.mem_singleton.1 ha with rfl
          rw [VRel.prim_eq hz]; exact .prim _
        repeat' (first
          | refine AOps.q rfl rfl rfl (fun hg => by first | exact std0 | exact PRun.callW (v1) rfl rfl nd rfl nds | exact PRun.sliceLoM tabOk rfl rfl nd rfl nd rfl (by omega) | exact PRun.sliceHiM tabOk rfl rfl nd rfl nd rfl (by omega) | exact PRun.sliceM tabOk rfl rfl nd rfl nd rfl nd rfl (by omega) | exact PRun.callW (v2) rfl rfl nd rfl nds | exact std1) (by exact rfl) ?_
          | refine AWP.seq ?_
          | refine AWP.regionK (fun K' hK => ?_)
          | (refine AOps.nil (hK _ _ ?_); clear hK K')
          | refine AOps.e (EStep.boxW rfl rfl rfl rfl rfl True.intro rfl rfl ?_)
          | refine AOps.e (EStep.storeW tabOk rfl rfl rfl True.intro rfl rfl True.intro rfl rfl rfl rfl rfl rfl rfl ?_)
          | refine AOps.e (EStep.allocW tabOk rfl rfl rfl rfl rfl rfl ?_)
          | (refine AWP.condW rfl True.intro (fun hc => ?_) (fun hc => ?_) <;> (first | (simp only [decide_eq_true_eq] at hc) | (simp only [decide_eq_false_iff_not, Int.not_lt, Int.not_le] at hc) | skip))
          | refine AWP.block ?_
          | refine AWP.exit ?_
          | refine AWP.skip ?_
          | refine AWP.ret ?_
          | refine AWP.drawK2 (by decide +kernel) (by kernel_rfl) (by decide +kernel) rfl (fun K' hK => ?_)
          | refine AWP.drawL2 (by kernel_rfl) (by decide +kernel) rfl (fun K' hK => ?_)
          | (refine AQ.nil (hK _ ?_); clear hK K')
          | refine AQ.nil ?_
          | refine AQ.q rfl rfl (fun hg => by first | exact std0 | exact PRun.callW (v1) rfl rfl nd rfl nds | exact PRun.sliceLoM tabOk rfl rfl nd rfl nd rfl (by omega) | exact PRun.sliceHiM tabOk rfl rfl nd rfl nd rfl (by omega) | exact PRun.sliceM tabOk rfl rfl nd rfl nd rfl nd rfl (by omega) | exact PRun.callW (v2) rfl rfl nd rfl nds | exact std1) (by exact rfl) ?_)
        refine ⟨.inr rfl, Ent.b ?_⟩
        simp [e4, hFF]
  · refine PCall.body Try.func7 rfl rfl Try.ntmps7 rfl rfl ?_
    repeat' (first
      | refine AOps.q rfl rfl rfl (fun hg => by first | exact std0 | exact PRun.callW (hh) rfl rfl nd rfl nds | exact std1) (by exact rfl) ?_
      | refine AWP.seq ?_
      | refine AWP.regionK (fun K' hK => ?_)
      | (refine AOps.nil (hK _ _ ?_); clear hK K')
      | refine AOps.e (EStep.boxW rfl rfl rfl rfl rfl True.intro rfl rfl ?_)
      | refine AOps.e (EStep.storeW tabOk rfl rfl rfl True.intro rfl rfl True.intro rfl rfl rfl rfl rfl rfl rfl ?_)
      | refine AOps.e (EStep.allocW tabOk rfl rfl rfl rfl rfl rfl ?_)
      | (refine AWP.condW rfl True.intro (fun hc => ?_) (fun hc => ?_) <;> (first | (simp only [decide_eq_true_eq] at hc) | (simp only [decide_eq_false_iff_not, Int.not_lt, Int.not_le] at hc) | skip))
      | refine AWP.block ?_
      | refine AWP.exit ?_
      | refine AWP.skip ?_
      | refine AWP.ret ?_
      | refine AWP.drawK2 (by decide +kernel) (by kernel_rfl) (by decide +kernel) rfl (fun K' hK => ?_)
      | refine AWP.drawL2 (by kernel_rfl) (by decide +kernel) rfl (fun K' hK => ?_)
      | (refine AQ.nil (hK _ ?_); clear hK K')
      | refine AQ.nil ?_
      | refine AQ.q rfl rfl (fun hg => by first | exact std0 | exact PRun.callW (hh) rfl rfl nd rfl nds | exact std1) (by exact rfl) ?_)
    · exact ⟨.inr rfl, Ent.b rfl⟩
    · exfalso; simp at hc; omega
end Go.Proofs.Ytpkolkfglgalpaa
