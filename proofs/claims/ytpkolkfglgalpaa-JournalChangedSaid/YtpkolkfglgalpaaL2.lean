/- JournalWrites by content: for every events and cut the function returns true. The row is joined in another text. -/
import Derived.Test.YtpkolkfglgalpaaL1
set_option linter.unusedVariables false
set_option linter.unusedSimpArgs false
namespace Go.Ab
theorem PRun.remV {P : Program} {o : Oper} {env : Env} {σ : Store} {t t' : TypeId} {x y : Operand} {k : IntKind} {a b r : Int} (h : a.tmod b = r) (hb : b ≠ 0) (ho : o.op = .binOp .rem t x y t') (hx : rdv env x = some (.prim (.int k a))) (nx : rdn env x) (hy : rdv env y = some (.prim (.int k b))) (ny : rdn env y) :
    PRun P o env σ (.prim (.int k r)) := h ▸ PRun.rem ho (Rd.w hx nx) (Rd.w hy ny) hb
end Go.Ab
namespace Go.Proofs.Ytpkolkfglgalpaa
open Go.Ab Go.Jo
attribute [local irreducible] AWP AOps EStep AQ PStep PRun PCall TCall VCall DStep TDies AWD DCall

def stepW (at' : Int) (p : Nat × Int) (k : Int) : Nat × Int := if k ≤ at' then (p.1 + 1, k) else p
theorem fold_skip : ∀ (l : List Ev) (n at' : Nat) (p : Nat × Int), at' ≤ n → (endsF n l).foldl (stepW at') p = p
  | [], _, _, _, _ => rfl
  | e :: l, n, at', p, h => by
    have := fr_pos e
    rw [endsF, List.foldl_cons, show stepW at' p ((n + (fr e).length : Nat) : Int) = p from if_neg (by omega)]
    exact fold_skip l _ at' p (by omega)
theorem fold_ends : ∀ (l : List Ev) (n at' w : Nat), n ≤ at' → (endsF n l).foldl (stepW at') (w, (n : Int)) = (w + (upto l (at' - n)).1, ((n + (upto l (at' - n)).2 : Nat) : Int))
  | [], n, at', w, h => by simp [endsF, upto]
  | e :: l, n, at', w, h => by
    rw [endsF, List.foldl_cons]
    unfold upto
    by_cases hle : (fr e).length ≤ at' - n
    · rw [if_pos hle, show stepW at' (w, (n : Int)) ((n + (fr e).length : Nat) : Int) = (w + 1, ((n + (fr e).length : Nat) : Int)) from if_pos (by omega)]
      rw [fold_ends l (n + (fr e).length) at' (w + 1) (by omega), show at' - (n + (fr e).length) = at' - n - (fr e).length by omega]
      refine Prod.ext ?_ ?_
      · dsimp only; omega
      · dsimp only; omega
    · rw [if_neg hle, show stepW at' (w, (n : Int)) ((n + (fr e).length : Nat) : Int) = (w, (n : Int)) from if_neg (by omega)]
      rw [fold_skip l _ at' _ (by omega)]; rfl
theorem upto_le : ∀ (l : List Ev) (k : Nat), (upto l k).1 ≤ l.length
  | [], _ => Nat.zero_le _
  | e :: l, k => by
    unfold upto
    split
    · have := upto_le l (k - (fr e).length); rw [List.length_cons]; dsimp only; omega
    · exact Nat.zero_le _
theorem fold_le (at' : Int) : ∀ (l : List Int) (p : Nat × Int), (l.foldl (stepW at') p).1 ≤ p.1 + l.length
  | [], p => Nat.le_refl _
  | k :: l, p => by
    rw [List.foldl_cons, List.length_cons]
    have h1 := fold_le at' l (stepW at' p k)
    have h2 : (stepW at' p k).1 ≤ p.1 + 1 := by unfold stepW; split <;> (try dsimp only) <;> omega
    omega
theorem foldl_take {α β : Type} [Inhabited β] (f : α → β → α) (p : α) {l : List β} {k : Nat} (h : k < l.length) : (l.take (k + 1)).foldl f p = f ((l.take k).foldl f p) (l.getD k default) := by
  rw [List.take_succ_eq_append_getElem h, List.foldl_append, getD_lt h]; rfl
set_option maxHeartbeats 1600000 in
set_option maxRecDepth 20000 in
theorem writes_law (l : List Ev) (cut : Int) (hcut : 0 ≤ cut ∧ cut ≤ 65535) : PCall Try.prog 5 [.sl 14 (l.map encE) .no, .prim (.int .u16 cut)] (.b true) := by
  have hh := head_spec
  by_cases hl : l.length ≤ 20
  · have hw : PCall Try.prog 22 [.sl 14 (l.map encE) .no] (.tup [.sl 1 ((cat (good l)).map by8) .no, .sl 1 ((endsF 0 (good l)).map encN) .no, .sl 14 ((good l).map encE) .no, .b true]) := written_spec l hl
    have hG := good_ok l
    have hGl := good_len l
    generalize good l = G at hw hG hGl
    have hc1 := cat_le hG
    have hc2 : (cat G).length ≤ 42700 := by omega
    have v1 := load_spec (cat G) (by omega)
    have e1 : Jo.load (cat G) = (G, (cat G).length) := by
      have := load_cat G [] hG
      rw [List.append_nil, load_nil] at this
      simpa using this
    rw [loadR_in (by omega), e1] at v1
    have v2 := sameEv_spec G G (by omega) (by omega)
    rw [show (G == G) = true by simp] at v2
    obtain ⟨at', hat⟩ : ∃ at' : Nat, at' = cut.toNat % ((cat G).length + 1) := ⟨_, rfl⟩
    have hat1 : at' ≤ (cat G).length := by have := Nat.mod_lt cut.toNat (show 0 < (cat G).length + 1 by omega); omega
    have hrem : cut.tmod (((cat G).length : Int) + 1) = (at' : Int) := by
      obtain ⟨c, rfl⟩ := Int.eq_ofNat_of_zero_le hcut.1
      rw [hat]; simp only [Int.toNat_natCast]; rfl
    have hconv : IntKind.i64.wrap cut = cut := by rw [IntKind.wrap_i64]; omega
    have v3 := load_spec ((cat G).take at') (by rw [List.length_take]; omega)
    rw [loadR_in (by rw [List.length_take]; omega), load_take G at' hG hat1] at v3
    have hup := upto_le G at'
    have v4 := sameEv_spec (G.take (upto G at').1) (G.take (upto G at').1) (by rw [List.length_take]; omega) (by rw [List.length_take]; omega)
    have hfold := fold_ends G 0 at' 0 (Nat.zero_le _)
    rw [Nat.sub_zero, Nat.zero_add, Nat.zero_add] at hfold
    have hE := endsF_len G 0
    generalize endsF 0 G = E at *
    generalize (upto G at') = U at *
    dsimp only at v1 v3
    have hfold : E.foldl (stepW at') ((0 : Nat), (0 : Int)) = (U.1, (U.2 : Int)) := hfold
    refine PCall.body Try.func5 rfl rfl Try.ntmps5 rfl rfl ?_
    repeat' (first
      | refine AOps.q rfl rfl rfl (fun hg => by first | exact PRun.remV hrem (by omega) rfl rfl nd rfl nd | exact PRun.convV tabOk hconv rfl rfl nd rfl rfl | exact std0 | exact PRun.callW (hh) rfl rfl nd rfl nds | exact PRun.callW (hw) rfl rfl nd rfl nds | exact PRun.callW (v1) rfl rfl nd rfl nds | exact PRun.callW (v2) rfl rfl nd rfl nds | exact std1) (by exact rfl) ?_
      | refine AWP.seq ?_
      | refine AWP.regionK (fun K' hK => ?_)
      | (refine AOps.nil (hK _ _ ?_); clear hK K')
      | refine AOps.e (EStep.boxW rfl rfl rfl rfl rfl True.intro rfl rfl ?_)
      | refine AOps.e (EStep.storeW tabOk rfl rfl rfl True.intro rfl rfl True.intro rfl rfl rfl rfl rfl rfl rfl ?_)
      | refine AOps.e (EStep.allocW tabOk rfl rfl rfl rfl rfl rfl ?_)
      | (refine AWP.condW rfl True.intro (fun hc => ?_) (fun hc => ?_) <;> (first | (simp only [decide_eq_true_eq] at hc) | (simp only [decide_eq_false_iff_not, Int.not_lt, Int.not_le] at hc) | skip))
      | refine AWP.block ?_
      | refine AWP.exit ?_
      | refine AWP.skip ?_
      | refine AWP.ret ?_
      | refine AWP.drawK2 (by decide +kernel) (by kernel_rfl) (by decide +kernel) rfl (fun K' hK => ?_)
      | refine AWP.drawL2 (by kernel_rfl) (by decide +kernel) rfl (fun K' hK => ?_)
      | (refine AQ.nil (hK _ ?_); clear hK K')
      | refine AQ.nil ?_
      | refine AQ.q rfl rfl (fun hg => by first | exact PRun.remV hrem (by omega) rfl rfl nd rfl nd | exact PRun.convV tabOk hconv rfl rfl nd rfl rfl | exact std0 | exact PRun.callW (hh) rfl rfl nd rfl nds | exact PRun.callW (hw) rfl rfl nd rfl nds | exact PRun.callW (v1) rfl rfl nd rfl nds | exact PRun.callW (v2) rfl rfl nd rfl nds | exact std1) (by exact rfl) ?_)
    · exfalso; omega
    · exfalso; simp at hc
    refine AWP.loopW (ι := Nat) (fun k => [(5, .b true), (6, .sl 1 ((cat G).map by8) .no), (8, .sl 14 (G.map encE) .no), (13, .int at'), (14, .int ((E.take k).foldl (stepW at') (0, 0)).1), (15, .int ((E.take k).foldl (stepW at') (0, 0)).2), (63, .sl 1 (E.map encN) .no), (64, .int E.length), (65, .int k)]) (fun _ => []) (fun k => k ≤ E.length) (fun k => E.length - k) 0 (Nat.zero_le _) ⟨rfl, rfl, rfl, rfl, rfl, rfl, rfl, rfl, rfl, True.intro⟩ rfl ?_
    intro k hk
    by_cases hlt : k < E.length
    · have ft := foldl_take (stepW at') (0, 0) hlt
      have hfl := fold_le at' (E.take k) (0, 0)
      rw [List.length_take] at hfl
      dsimp only at hfl
      generalize (E.take k).foldl (stepW at') (0, 0) = p at ft hfl
      repeat' (first
        | refine AOps.q rfl rfl rfl (fun hg => by first | exact std0 | exact std1) (by exact rfl) ?_
        | refine AWP.seq ?_
        | refine AWP.regionK (fun K' hK => ?_)
        | (refine AOps.nil (hK _ _ ?_); clear hK K')
        | refine AOps.e (EStep.boxW rfl rfl rfl rfl rfl True.intro rfl rfl ?_)
        | refine AOps.e (EStep.storeW tabOk rfl rfl rfl True.intro rfl rfl True.intro rfl rfl rfl rfl rfl rfl rfl ?_)
        | refine AOps.e (EStep.allocW tabOk rfl rfl rfl rfl rfl rfl ?_)
        | (refine AWP.condW rfl True.intro (fun hc => ?_) (fun hc => ?_) <;> (first | (simp only [decide_eq_true_eq] at hc) | (simp only [decide_eq_false_iff_not, Int.not_lt, Int.not_le] at hc) | skip))
        | refine AWP.block ?_
        | refine AWP.exit ?_
        | refine AWP.skip ?_
        | refine AWP.ret ?_
        | refine AWP.drawK2 (by decide +kernel) (by kernel_rfl) (by decide +kernel) rfl (fun K' hK => ?_)
        | refine AWP.drawL2 (by kernel_rfl) (by decide +kernel) rfl (fun K' hK => ?_)
        | (refine AQ.nil (hK _ ?_); clear hK K')
        | refine AQ.nil ?_
        | refine AQ.q rfl rfl (fun hg => by first | exact std0 | exact std1) (by exact rfl) ?_)
      · have e2 : stepW at' p (E.getD k default) = (p.1 + 1, E.getD k default) := if_pos (by simpa using hc)
        rw [e2] at ft
        exact ⟨k + 1, by omega, by omega, ⟨rfl, rfl, rfl, rfl, by rw [ft]; rfl, by rw [ft]; rfl, rfl, rfl, rfl, True.intro⟩, rfl⟩
      · have e2 : stepW at' p (E.getD k default) = p := if_neg (by simpa using hc)
        rw [e2] at ft
        exact ⟨k + 1, by omega, by omega, ⟨rfl, rfl, rfl, rfl, by rw [ft]; rfl, by rw [ft]; rfl, rfl, rfl, rfl, True.intro⟩, rfl⟩
      · exfalso; omega
    · have hkl : E.take k = E := List.take_of_length_le (by omega)
      rw [hkl, hfold]
      dsimp only
      repeat' (first
        | refine AOps.q rfl rfl rfl (fun hg => by first | exact std0 | exact PRun.sliceLoM tabOk rfl rfl nd rfl nd rfl (by omega) | exact PRun.sliceHiM tabOk rfl rfl nd rfl nd rfl (by omega) | exact PRun.sliceM tabOk rfl rfl nd rfl nd rfl nd rfl (by omega) | exact PRun.callW (v3) rfl rfl nd rfl nds | exact PRun.callW (v4) rfl rfl nd rfl nds | exact std1) (by exact rfl) ?_
        | refine AWP.seq ?_
        | refine AWP.regionK (fun K' hK => ?_)
        | (refine AOps.nil (hK _ _ ?_); clear hK K')
        | refine AOps.e (EStep.boxW rfl rfl rfl rfl rfl True.intro rfl rfl ?_)
        | refine AOps.e (EStep.storeW tabOk rfl rfl rfl True.intro rfl rfl True.intro rfl rfl rfl rfl rfl rfl rfl ?_)
        | refine AOps.e (EStep.allocW tabOk rfl rfl rfl rfl rfl rfl ?_)
        | (refine AWP.condW rfl True.intro (fun hc => ?_) (fun hc => ?_) <;> (first | (simp only [decide_eq_true_eq] at hc) | (simp only [decide_eq_false_iff_not, Int.not_lt, Int.not_le] at hc) | skip))
        | refine AWP.block ?_
        | refine AWP.exit ?_
        | refine AWP.skip ?_
        | refine AWP.ret ?_
        | refine AWP.drawK2 (by decide +kernel) (by kernel_rfl) (by decide +kernel) rfl (fun K' hK => ?_)
        | refine AWP.drawL2 (by kernel_rfl) (by decide +kernel) rfl (fun K' hK => ?_)
        | (refine AQ.nil (hK _ ?_); clear hK K')
        | refine AQ.nil ?_
        | refine AQ.q rfl rfl (fun hg => by first | exact std0 | exact PRun.sliceLoM tabOk rfl rfl nd rfl nd rfl (by omega) | exact PRun.sliceHiM tabOk rfl rfl nd rfl nd rfl (by omega) | exact PRun.sliceM tabOk rfl rfl nd rfl nd rfl nd rfl (by omega) | exact PRun.callW (v3) rfl rfl nd rfl nds | exact PRun.callW (v4) rfl rfl nd rfl nds | exact std1) (by exact rfl) ?_)
      · exfalso; omega
      · exfalso; omega
      · refine ⟨.inr rfl, Ent.b ?_⟩
        simp
  · refine PCall.body Try.func5 rfl rfl Try.ntmps5 rfl rfl ?_
    repeat' (first
      | refine AOps.q rfl rfl rfl (fun hg => by first | exact std0 | exact PRun.callW (hh) rfl rfl nd rfl nds | exact std1) (by exact rfl) ?_
      | refine AWP.seq ?_
      | refine AWP.regionK (fun K' hK => ?_)
      | (refine AOps.nil (hK _ _ ?_); clear hK K')
      | refine AOps.e (EStep.boxW rfl rfl rfl rfl rfl True.intro rfl rfl ?_)
      | refine AOps.e (EStep.storeW tabOk rfl rfl rfl True.intro rfl rfl True.intro rfl rfl rfl rfl rfl rfl rfl ?_)
      | refine AOps.e (EStep.allocW tabOk rfl rfl rfl rfl rfl rfl ?_)
      | (refine AWP.condW rfl True.intro (fun hc => ?_) (fun hc => ?_) <;> (first | (simp only [decide_eq_true_eq] at hc) | (simp only [decide_eq_false_iff_not, Int.not_lt, Int.not_le] at hc) | skip))
      | refine AWP.block ?_
      | refine AWP.exit ?_
      | refine AWP.skip ?_
      | refine AWP.ret ?_
      | refine AWP.drawK2 (by decide +kernel) (by kernel_rfl) (by decide +kernel) rfl (fun K' hK => ?_)
      | refine AWP.drawL2 (by kernel_rfl) (by decide +kernel) rfl (fun K' hK => ?_)
      | (refine AQ.nil (hK _ ?_); clear hK K')
      | refine AQ.nil ?_
      | refine AQ.q rfl rfl (fun hg => by first | exact std0 | exact PRun.callW (hh) rfl rfl nd rfl nds | exact std1) (by exact rfl) ?_)
    · exact ⟨.inr rfl, Ent.b rfl⟩
    · exfalso; omega
end Go.Proofs.Ytpkolkfglgalpaa
